/- FyV FyW FyX FyY -/
import Derived.Test.YtlbdklaggalgfaaGreatDoorG19
set_option linter.unusedSimpArgs false
set_option linter.unusedVariables false
set_option maxHeartbeats 4000000
namespace Go.Proofs.YtlbdklaggalgfaaGreatDoor
open Go.RowKit Go.Aq Go.Aq.Fy Go.Maps
theorem iclone_any (w:World) (v:Value) (n:Nat) (ks:List Nat) (hv:Sees w 1 v n (ints ks)) (hn:n≤1000000):
  Calls Tryz.prog 113 #[v] w fun e w'=>∃v',e=.returned v'∧Fresh w w' 3 1 v' n (ints ks):=by
 have hl:ks.length=n:=by have:=hv.len;rw[ints_len] at this;omega
 by_cases h0:n=0
 ·subst h0;have:ks=[]:=List.eq_nil_of_length_eq_zero hl;subst this;obtain⟨ao,cap,rfl,-⟩:=hv.shape;cases ao with
  | none=>
   refine (Tryz.slices_Clone_int_nil 0 cap w).mono fun e w' ⟨h1,h2⟩=>?_
   subst h2;exact⟨_,h1,Fresh.nil _ _ _⟩
  | some a=>
   refine (Tryz.slices_Clone_int_zero a cap w).mono fun e w' ⟨v',h1,h2,h3,h4⟩=>?_
   exact⟨v',h1,Fresh.of_owns h2 h4⟩
 ·obtain⟨g,off,cap,rfl,-,hc⟩:=hv.at1 (by omega);refine (Tryz.slices_Clone_int g off n cap (ks.map fun k:Nat=>(k:Int)) w (by simp;omega) (by omega) (fun j hj=>?_)).mono fun e w' ⟨v',h1,h2,h3,h4⟩=>?_
  ·have hj':j<ks.length:=by simpa using hj
   rw[hc j (by omega)];simp[ints,hj']
  ·refine⟨v',h1,Fresh.of_owns ?_ h4⟩;have:((ks.map fun k:Nat=>(k:Int)).take n).map (Value.int .i64)=ints ks:=by
    rw[List.take_of_length_le (by simp;omega)];simp[ints]
   rw[this] at h2;exact h2
def BytesEnd (w:World) (T:List Nat) (b:Sec) (e:Ending) (w':World):Prop:=
 ∃v,e=.returned (.tuple #[v,.int .i64 0])∧BytesV w' T b v∧Chg [] w w'
set_option maxRecDepth 100000 in
theorem bytes_fresh (w:World) (S:List Nat) (g f bl br:Nat) (F:FsD) (W:WorkD) (h:WorkR w S g f bl br W) (s:Nm) (hs:s.length≤1048576) (b:Sec) (hb:lookK s W.fresh=some b):
  Calls Tryz.prog 164 #[.pointer (some ⟨g,0,none⟩),.string (str s)] w (BytesEnd w (bl::br::S) (bytesW F W s)):=by
 obtain⟨⟨-,-,y2⟩,-⟩:=h.blk.c3b;obtain⟨lr,hM,hT⟩:=h.fresh;have hlk:=(hM.look keyS Tryz.underlying104 (zeroB8 w) s hs).2;obtain⟨y,e2,hy⟩:∃y,lookK s lr=some y∧BytesV w (bl::br::S) b y:=by
  rcases hT.look s with ⟨e1,-⟩ | ⟨b',y,e1,e2,h3⟩
  ·rw[hb] at e1;cases e1
  ·rw[hb] at e1;cases e1;exact⟨y,e2,h3⟩
 rw[e2] at hlk;simp only[Option.getD_some,Option.isSome_some] at hlk;have e1:bytesW F W s=b:=by unfold bytesW;rw[hb]
 rw[e1];have HY:=zH hy;clear h hM hT hb e2 hy e1;go_enter Tryz.func164,Tryz.ntmps164;go_wp2_with fail;go_ret2;exact⟨_,rfl,HY.out,Chg.refl _ _⟩
set_option maxRecDepth 100000 in
theorem bytes_file (w:World) (Sd X S0:List Nat) (g f d l bf bl br:Nat) (F:FsD) (W:WorkD) (h:WorkR w S0 g f bl br W) (hS0:∀k∈S0,k<w.heap.size) (hsub:∀k∈f::l::bf::Sd,k∈S0) (hF:FsR w Sd X f d l bf F) (hd:F.disk.down=false) (s:Nm) (hs:s.length≤1048576) (hb:lookK s W.fresh=none) (x:FileD) (hx:lookK s W.files=some x)
  (hsz:x.size≤256 * x.blocks.length) (hbl:x.blocks.length≤4096) (hks:∀k∈x.blocks,k<allF F) (hsec:∀k,k<F.disk.n→(F.disk.now k).length=256):
  Calls Tryz.prog 164 #[.pointer (some ⟨g,0,none⟩),.string (str s)] w (BytesEnd w (bl::br::S0) (bytesW F W s)):=by
 have HS:=zA hS0 hsub;clear hS0 hsub;obtain⟨⟨y0,y1,y2⟩,-⟩:=h.blk.c3b;obtain⟨⟨c0,c1,c2,c3⟩,-⟩:=Blk.c4b hF.blk;obtain⟨lr,hM,hT⟩:=h.fresh;have hlk:=(hM.look keyS Tryz.underlying104 (zeroB8 w) s hs).2;have e2:lookK s lr=none:=by
  rcases hT.look s with ⟨-,e2⟩ | ⟨b',y,e1,e2,h3⟩
  ·exact e2
  ·rw[hb] at e1;cases e1
 rw[e2] at hlk;simp only[Option.getD_none,Option.isSome_none] at hlk;obtain⟨n,ao,m,cap,⟨l1,-⟩,h1,h2,h3⟩:=h.files.look s hs;rw[hx] at h1 h2 h3;simp only[Option.getD_some] at h1 h2 h3;have e1:bytesW F W s=bytesB F x:=by unfold bytesW;rw[hb,hx]
 rw[e1];have HH:=zH (And.intro h (And.intro hF (And.intro hd (And.intro hsz (And.intro hbl (And.intro hks (And.intro hsec (And.intro h1 (And.intro h2 h3)))))))));clear h hF hM hT hb e2 hx e1 hd hsz hbl hks hsec h1 h2 h3;go_enter Tryz.func164,Tryz.ntmps164;go_upto_region 5 with (fail);obtain⟨w1,hw1⟩:∃w1,w.alloc (Obj.cells #[Value.int IntKind.i64 (n:Int),Value.slice ao m cap] 103)=w1:=⟨_,rfl⟩;obtain⟨K,hK⟩:∃K,w.heap.size=K:=⟨_,rfl⟩;have hbx:Blk w1 K #[.int .i64 n,.slice ao m cap] 103:=by rw[←hw1,←hK];exact Blk.new _ _ _
 have k1:Chg [] w w1:=by rw[←hw1];exact (Chg.refl [] w).alloc _
 rw[hw1,hK];clear hw1;replace y0:=k1.cell_some y0 (by simp);replace c0:=k1.cell_some c0 (by simp);replace c1:=k1.cell_some c1 (by simp);replace c2:=k1.cell_some c2 (by simp);replace c3:=k1.cell_some c3 (by simp);clear y1 y2 hlk l1;go_upto_region 6 with (fail);obtain⟨w2,hw2⟩:∃w2,w1.alloc (Obj.cells #[.pointer (some ⟨d,0,none⟩),.pointer (some ⟨l,0,none⟩),.int .i64 F.mt,.map (some bf)] 95)=w2:=⟨_,rfl⟩;obtain⟨K2,hK2⟩:∃K2,w1.heap.size=K2:=⟨_,rfl⟩;have hb2:Blk w2 K2 #[.pointer (some ⟨d,0,none⟩),.pointer (some ⟨l,0,none⟩),.int .i64 F.mt,.map (some bf)] 95:=by rw[←hw2,←hK2];exact Blk.new _ _ _
 have k2:Chg [] w1 w2:=by rw[←hw2];exact (Chg.refl [] w1).alloc _
 rw[hw2,hK2];clear hw2 y0 c0 c1 c2 c3;obtain⟨w3,hw3⟩:∃w3,w2.alloc (.map #[] 0)=w3:=⟨_,rfl⟩;obtain⟨M,hM⟩:∃M,w2.heap.size=M:=⟨_,rfl⟩;have rm:(Instr.makeMap 93 none).run Tryz.prog w2=.ok (.map (some M)) w3:=by rw[←hw3,←hM];kernel_rfl
 have k3:Chg [] w2 w3:=by rw[←hw3];exact (Chg.refl [] w2).alloc _
 have F3:FilesR w3 (M::K2::l::M::Sd) M []:=⟨[],by rw[←hw3,←hM];exact MapS.made _ _ _,trivial⟩;obtain⟨⟨b0,b1⟩,-⟩:=And.intro (And.intro ((hbx.chg0 (k2.nil k3)).cell 0) ((hbx.chg0 (k2.nil k3)).cell 1)) trivial;have hs1:=k1.size;have hs2:=k2.size;have hlt:=HH.out.2.1.lt;have hV:FileV w3 (M::K2::l::M::Sd) x (.agg #[.int .i64 n,.slice ao m cap]):=by
  have h1:=HH.out.2.2.2.2.2.2.2.2.2;have kk:Chg [] w w3:=(k1.nil k2).nil k3;refine (h1.wide (S':=M::K2::l::M::Sd) fun k hk=>?_).chg kk (by simp);simp only[List.mem_cons] at hk;rcases hk with rfl | rfl | rfl | rfl | hk
  ·right;omega
  ·right;omega
  ·left;exact .tail _ (.tail _ (HS.out.2 _ (by simp)))
  ·right;omega
  ·left;exact .tail _ (.tail _ (HS.out.2 _ (by simp[hk])))
 obtain⟨w4,r4,F4,k4⟩:=F3.put s hs (by simp) (by simp) hV;have hMK:K2∉[M]:=by have:=hb2.lt;simp;omega
 have hb4:=(hb2.chg0 k3).chg k4 hMK;obtain⟨⟨-,-,-,d3⟩,-,-,-,g3⟩:=Blk.c4b hb4;have H4:=zF hb4 F4 ((k1.nil k2).nil k3) k4 hK hK2 hM;have HSZ:=zB hs1 hs2 (show K2<M by have:=hb2.lt;omega);clear hbx k1 k2 k3 F3 hV F4 k4 hb2 hb4 hMK hs1 hs2 hlt;go_wp2_with fail;obtain⟨hb4,F4,kw3,k4,hK,hK2,hM⟩:=H4.out;have hlt:=HH.out.2.1.lt;obtain⟨hs1,hs2,hKMlt⟩:=HSZ.out;have hs3:=kw3.size;have hM3:M<w4.heap.size:=F4.lt;have hK2w:w.heap.size≤K2:=by omega
 have hMw:w.heap.size≤M:=by omega
 have hKM:K2≠M:=by omega
 have cw4:Chg [] w w4:=kw3.trans k4 (fun i hi=>.inr (by simp at hi;omega));obtain⟨w5,hw5⟩:∃w5,w4.setCell ⟨K2,3,none⟩ (.map (some M))=w5:=⟨_,rfl⟩;have hb5:=hb4.set 3 (.map (some M));simp only[List.setIfInBounds_toArray,List.set_cons_zero,List.set_cons_succ] at hb5;have k5:Chg [K2] w4 w5:=by rw[←hw5];exact (Chg.refl _ _).setCell (by simp) _
 rw[hw5] at hb5 ⊢;have cw5:Chg [] w w5:=cw4.trans k5 (fun i hi=>.inr (by simp at hi;omega));have hFs:FsR w5 Sd [] K2 d l M { F with files:=[(s,x)] }:=by
  refine⟨hb5,HH.out.2.1.disk.chg cw5,HH.out.2.1.log.chg cw5 (by simp),?_,⟨?_,hKM,?_,?_,HH.out.2.1.ne.2.2.2.2.1,?_⟩,fun _ h=>absurd h (by simp),HH.out.2.1.small⟩;·exact (F4.chg k5 (fun k hk=>.inl (by simp at hk;simp[hk])) (by simp;exact fun e=>hKM e.symm)).wide (fun k hk=>.inl (by simp at hk ⊢;rcases hk with h | h | h | h <;> simp[h]))
  ·have:=hlt l (by simp);omega
  ·have:=hlt l (by simp);omega
  ·intro hk;have:=hlt K2 (by simp[hk]);omega
  ·intro hk;have:=hlt M (by simp[hk]);omega
 have hrd:=fread_ok w5 Sd [] K2 d l M _ hFs HH.out.2.2.1 s hs x (by simp[lookK]) HH.out.2.2.2.1 HH.out.2.2.2.2.1 HH.out.2.2.2.2.2.1 HH.out.2.2.2.2.2.2.1;have hfin:=fun w6 (c:Chg [] w5 w6)=>cw5.nil c
 have hT:∀k,w5.heap.size≤k→k∉bl::br::S0:=fun k hk hm=>by
  have h1:=HH.out.1.files.lt;have h2:=HH.out.1.fresh.lt;have h3:=cw5.size;rcases List.mem_cons.1 hm with rfl | hm
  ·omega
  ·rcases List.mem_cons.1 hm with rfl | hm
   ·omega
   ·have:=HS.out.1 k hm;omega
 have HF:=zA hfin hT;clear hfin hT hFs hb5 k5 cw5 cw4 hb4 F4 kw3 k4 hK hK2 hM hlt hs3 hM3 hK2w hMw hKM H4 hs1 hs2 hKMlt HSZ;refine hrd.mono ?_;rintro e w6 ⟨v6,rfl,hS6,hN6,hC6⟩;obtain⟨a6,q6,rfl,-⟩:=hS6.shape;have H6:=zB hS6 hN6 hC6;clear hS6 hN6 hC6 hrd;go_wp2_with fail;go_ret2;exact⟨_,rfl,⟨H6.out.1,fun k hk=>HF.out.2 k (H6.out.2.1 k hk)⟩,HF.out.1 _ H6.out.2.2⟩
end Go.Proofs.YtlbdklaggalgfaaGreatDoor
namespace Go.Aq.Fy
def appendW (F:FsD) (W:WorkD) (s:Nm) (b:Sec):WorkD×Nat:=if hasF W.files s then tellW W s (bytesW F W s++b) else (W,6)
end Go.Aq.Fy
namespace Go.Proofs.YtlbdklaggalgfaaGreatDoor
open Go.RowKit Go.Aq Go.Aq.Fy Go.Maps
theorem Bs_app (a b:List UInt8):Bs (a++b)=Bs a++Bs b:=by simp[Bs]
set_option maxRecDepth 100000 in
theorem append_ok (w:World) (S:List Nat) (g f bl br:Nat) (F:FsD) (W:WorkD) (h:WorkR w S g f bl br W) (hin:In w S) (kind:Int) (s t:Nm) (hs:s.length≤1048576) (b:Sec) (v:Value) (hv:Sees w 1 v b.length (Bs b)) (hd:Disj (eyes v) [bl,br]) (hb:b.length≤1000000) (hl:W.files.length≤1000) (hr:W.fresh.length≤1000)
  (hby:hasF W.files s=true→(bytesW F W s).length≤1000000∧∀w',Chg [] w w'→Calls Tryz.prog 164 #[.pointer (some ⟨g,0,none⟩),.string (str s)] w' (BytesEnd w' (bl::br::S) (bytesW F W s))):
  Calls Tryz.prog 106 #[.pointer (some ⟨g,0,none⟩),.agg #[.int .i64 kind,.string (str s),.string (str t),v]] w (TellEnd w S g f bl br (appendW F W s b)):=by
 have hh:=fun w' (c:Chg [] w w')=>has_ok w' S g f bl br W (h.chg0 c) s hs
 obtain⟨ao,cap,rfl,-⟩:=hv.shape;obtain⟨n,hn⟩:∃n,b.length=n:=⟨_,rfl⟩;rw[hn] at hv hd hb ⊢;have HH:=zH (And.intro h (And.intro hl (And.intro hr (And.intro hs (And.intro hin (And.intro hv (And.intro hd (And.intro hb (And.intro hby hn)))))))));clear h hl hr hs hin hv hd hb hby hn;go_enter Tryz.func106,Tryz.ntmps106;go_wp2_with fail;obtain⟨w1,hw1⟩:∃w1,w.alloc (Obj.cells #[.int .i64 kind,.string (str s),.string (str t),.slice ao n cap] 60)=w1:=⟨_,rfl⟩;obtain⟨K,hK⟩:∃K,w.heap.size=K:=⟨_,rfl⟩;have hbx:Blk w1 K #[.int .i64 kind,.string (str s),.string (str t),.slice ao n cap] 60:=by rw[←hw1,←hK];exact Blk.new _ _ _
 have c1:Chg [] w w1:=by rw[←hw1];exact (Chg.refl [] w).alloc _
 rw[hw1,hK];clear hw1;refine (hh w1 c1).mono ?_;rintro e w2 ⟨rfl,c2⟩;have H2:=zB hK (hbx.chg0 c2) (c1.nil c2);clear hbx c1 c2 hK hh;obtain⟨⟨-,b1,-,b3⟩,-⟩:=Blk.c4b H2.out.2.1;cases hq:hasF W.files s with
 | false=>
  have HQ:=zH hq;clear hq;go_wp2_with fail;go_ret;unfold TellEnd;have e1:appendW F W s b=(W,6):=by unfold appendW;rw[HQ.out];rfl
  rw[e1];exact⟨rfl,HH.out.1.chg0 H2.out.2.2,H2.out.2.2.mono (by simp)⟩
 | true=>
  obtain⟨hbl,hby⟩:=HH.out.2.2.2.2.2.2.2.2.1 hq;have hby2:=hby w2 H2.out.2.2;have e1:appendW F W s b=tellW W s (bytesW F W s++b):=by unfold appendW;rw[hq];rfl
  generalize bytesW F W s=B at *;have E1:=zH e1;obtain⟨m,hm⟩:∃m,B.length=m:=⟨_,rfl⟩;rw[hm] at hbl;have HB:=zA hm hbl;clear hq hby hbl hm e1;go_wp2_with fail;refine hby2.mono ?_;rintro e w3 ⟨vb,rfl,hV,c3⟩;rw[BytesV,HB.out.1] at hV;obtain⟨hVs,hVd⟩:=hV;obtain⟨ab,cb,rfl,-⟩:=hVs.shape;have H3:=zD H2.out.1 (H2.out.2.1.chg0 c3) (H2.out.2.2.nil c3) hVs hVd;clear H2 b1 b3 hby2 hVs hVd c3;obtain⟨⟨-,b1,-,b3⟩,-⟩:=Blk.c4b H3.out.2.1;go_upto_region 6 with (fail);refine wp_region_U [bl,br] (fun _=>false) (by kernel_rfl) ?_;have q0:Chg [] w3 w3.drew:=(Chg.refl _ _).drew;obtain⟨W0,hW0⟩:∃W0,w3.drew=W0:=⟨_,rfl⟩;rw[hW0] at q0 ⊢;clear hW0;have C0:Chg [bl,br] W0 W0:=Chg.refl _ _;have hKb:K∉[bl,br]:=by have h1:=HH.out.1.files.lt;have h2:=H3.out.1;have h3:=HH.out.1.fresh.lt;simp;omega
  have b1':=q0.cell_some b1 (by simp);have b3':=q0.cell_some b3 (by simp);clear b1 b3;refine tU 0 (.pointer (some ⟨g,0,none⟩)) C0 (fun w4 c4=>?_) ?_;·go_simp
  refine yG ?_;refine tU 1 (.pointer (some ⟨K,1,none⟩)) C0 (fun w4 c4=>?_) ?_;·go_simp
  refine yG ?_;refine tU 2 (.string (str s)) C0 (fun w4 c4=>?_) ?_
  ·have z:=c4.cell_some b1' hKb;go_simp
  refine yG ?_;refine tU 3 (.slice ab m cb) C0 (fun w4 c4=>?_) ?_;·go_simp
  refine yG ?_;refine tU 5 (.pointer (some ⟨K,3,none⟩)) C0 (fun w4 c4=>?_) ?_;·go_simp
  refine yG ?_;refine tU 6 (.slice ao n cap) C0 (fun w4 c4=>?_) ?_
  ·have z:=c4.cell_some b3' hKb;go_simp
  refine yG ?_;have hVs:Sees W0 1 (.slice ab m cb) m (Bs B):=H3.out.2.2.2.1.chg0 q0;have hmb:=HB.out.2;refine oU 4 ?_;go_simp;refine (bclone_any W0 _ m B hVs (by omega)).mono ?_;rintro e w5 ⟨v5,rfl,hF5⟩;refine⟨hF5.chg.toS,?_⟩;refine yG ?_;have hvs:Sees w5 1 (.slice ao n cap) n (Bs b):=HH.out.2.2.2.2.2.1.chg0 ((H3.out.2.2.1.nil q0).nil hF5.chg);have hnb:=HH.out.2.2.2.2.2.2.2.1;refine oU 7 ?_;refine wp_app _ _ 38 rfl sl_u8y hF5.own rfl hvs rfl (Bs_one _) (by omega) (by omega) ?_;intro v6 w6 ho6 hc6 hn6;have hF6:=hF5.app ho6 hc6 hn6;clear ho6 hc6 hn6;refine⟨hF6.chg.toS,?_⟩;refine yG ?_;rw[←Bs_app] at hF6;have cw:Chg [] w w6:=(H3.out.2.2.1.nil q0).nil hF6.chg;have hlB:(B++b).length=m+n:=by rw[List.length_append,HB.out.1,HH.out.2.2.2.2.2.2.2.2.2]
  have hS6:Sees w6 1 v6 (B++b).length (Bs (B++b)):=by rw[hlB];exact hF6.own.sees
  have hD6:Disj (eyes v6) [bl,br]:=fun j hj hj'=>by
   have h1:=hF6.new j (eyes_own _ j hj);have h2:=(H3.out.2.2.1.nil q0).size;have h3:=HH.out.1.files.lt;have h4:=HH.out.1.fresh.lt;simp only[List.mem_cons,List.not_mem_nil,or_false] at hj';rcases hj' with rfl | rfl <;> omega
  have ht:=tell_ok w6 S g f bl br W (HH.out.1.chg0 cw) (fun k hk=>by have h1:=HH.out.2.2.2.2.1 k hk;have h2:=cw.size;omega) s HH.out.2.2.2.1 (B++b) v6 hS6 hD6 (by rw[hlB];omega) HH.out.2.1 HH.out.2.2.1;obtain⟨a6,q6,rfl,-⟩:=hF6.shape;have CW:=zH cw;have CF:=zH hF6.chg;clear hF6 hS6 hD6 cw hvs hF5 hlB hVs;refine oU 8 ?_;go_simp;refine ht.mono ?_;rintro e w7 ⟨rfl,hR7,hC7⟩;have C7:Chg [bl,br] W0 w7:=CF.out.toS.tr hC7;refine⟨C7,?_⟩;refine yG ?_;have H7:=zA hR7 hC7;clear hR7 hC7 ht;refine tU 9 (.int .i64 ((tellW W s (B++b)).2:Nat)) C7 (fun w4 c4=>?_) ?_;·go_simp
  refine yG ?_;refine wpAnyU_done (by kernel_rfl) ?_ _;clear C7;clear C0 q0 hKb b1' b3' hmb hnb;go_wp2_with fail;go_ret;unfold TellEnd;rw[E1.out];exact⟨rfl,H7.out.1,(CW.out.mono (by simp)).tr H7.out.2⟩
set_option maxRecDepth 100000 in
theorem one_ok (w:World) (S:List Nat) (g f bl br:Nat) (F:FsD) (W:WorkD) (h:WorkR w S g f bl br W) (hin:In w S) (c:ChangeD) (hs:c.name.length≤1048576) (ht:c.tonm.length≤1048576) (v:Value) (hv:Sees w 1 v c.data.length (Bs c.data)) (hd:Disj (eyes v) [bl,br]) (hb:c.data.length≤1000000) (hl:W.files.length≤1000) (hr:W.fresh.length≤1000)
  (hby:hasF W.files c.name=true→(bytesW F W c.name).length≤1000000∧∀w',Chg [] w w'→Calls Tryz.prog 164 #[.pointer (some ⟨g,0,none⟩),.string (str c.name)] w' (BytesEnd w' (bl::br::S) (bytesW F W c.name))):
  Calls Tryz.prog 44 #[.pointer (some ⟨g,0,none⟩),.agg #[.int .i64 c.kind,.string (str c.name),.string (str c.tonm),v]] w (TellEnd w S g f bl br (oneW F W c)):=by
 obtain⟨kind,s,t,b⟩:=c;simp only at hs ht hv hd hb hby ⊢;have hn1:=fun w'=>name_ok w' s (by omega)
 have hn2:=fun w'=>name_ok w' t (by omega)
 have hhas:=fun w' (c:Chg [] w w')=>has_ok w' S g f bl br W (h.chg0 c) s hs
 obtain⟨ao,cap,rfl,-⟩:=hv.shape;obtain⟨n,hn⟩:∃n,b.length=n:=⟨_,rfl⟩;have htell:=fun w' (c:Chg [] w w')=>tell_ok w' S g f bl br W (h.chg0 c) (fun k hk=>by have h1:=hin k hk;have h2:=c.size;omega) s hs b _ (hv.chg0 c) hd (by omega) hl hr
 have happ:=fun w' (c:Chg [] w w')=>append_ok w' S g f bl br F W (h.chg0 c) (fun k hk=>by have h1:=hin k hk;have h2:=c.size;omega) kind s t hs b _ (hv.chg0 c) hd hb hl hr (fun q=>⟨(hby q).1,fun w'' c'=>(hby q).2 w'' (c.nil c')⟩)
 have hren:=fun w' (c:Chg [] w w')=>rename_ok w' S g f bl br W (h.chg0 c) (fun k hk=>by have h1:=hin k hk;have h2:=c.size;omega) kind s t hs ht (.slice ao b.length cap) rfl hl hr
 have hgone:=fun w' (c:Chg [] w w')=>gone_ok w' S g f bl br W (h.chg0 c) s hs
 rw[hn] at htell happ hren ⊢;have e0:oneW F W ⟨kind,s,t,b⟩=if nameOk s=false∨(kind=4∧nameOk t=false) then (W,16)
  else if kind=2∨(kind=1∧hasF W.files s=false) then tellW W s b
  else if kind=1 then (W,7)
  else if kind=3 then appendW F W s b
  else if kind=4 then renameW W s t
  else if kind≠5 then (W,1)
  else if hasF W.files s then (goneW W s,0) else (W,6):=rfl
 obtain⟨R,hR⟩:∃R,oneW F W ⟨kind,s,t,b⟩=R:=⟨_,rfl⟩;rw[hR] at e0 ⊢;obtain⟨q1,hq1⟩:∃q,nameOk s=q:=⟨_,rfl⟩;obtain⟨q2,hq2⟩:∃q,nameOk t=q:=⟨_,rfl⟩;obtain⟨q3,hq3⟩:∃q,hasF W.files s=q:=⟨_,rfl⟩;rw[hq1] at hn1 e0;rw[hq2] at hn2 e0;rw[hq3] at hhas e0;have E0:=zA e0 h;clear e0 h hin hv hd hb hby hn hq1 hq2 hq3 hR hs ht hl hr;go_enter Tryz.func44,Tryz.ntmps44;go_upto_region 1 with (fail);obtain⟨w1,hw1⟩:∃w1,w.alloc (Obj.cells #[.int .i64 kind,.string (str s),.string (str t),.slice ao n cap] 60)=w1:=⟨_,rfl⟩;obtain⟨K,hK⟩:∃K,w.heap.size=K:=⟨_,rfl⟩;have hbx:Blk w1 K #[.int .i64 kind,.string (str s),.string (str t),.slice ao n cap] 60:=by rw[←hw1,←hK];exact Blk.new _ _ _
 have c1:Chg [] w w1:=by rw[←hw1];exact (Chg.refl [] w).alloc _
 rw[hw1,hK];clear hw1;obtain⟨⟨b0,b1,b2,b3⟩,-⟩:=Blk.c4b hbx;cases q1 with
 | false=>
  go_wp2_with (go_at_call 103;refine (hn1 w1).mono ?_;rintro e w2 ⟨rfl,c2⟩;replace b0:=c2.cell_some b0 (by simp);replace b1:=c2.cell_some b1 (by simp);replace b2:=c2.cell_some b2 (by simp);replace b3:=c2.cell_some b3 (by simp));go_ret;unfold TellEnd;have e1:R=(W,16):=by rw[E0.out.1];simp
  rw[e1];exact⟨rfl,E0.out.2.chg0 (c1.nil c2),(c1.nil c2).mono (by simp)⟩
 | true=>
  by_cases k4:kind=4
  ·subst k4;cases q2 with
   | false=>
    go_wp2_with (first | (go_at_call 103;refine (hn2 w2).mono ?_;rintro e w3 ⟨rfl,c3⟩;replace b0:=c3.cell_some b0 (by simp);replace b1:=c3.cell_some b1 (by simp);replace b2:=c3.cell_some b2 (by simp);replace b3:=c3.cell_some b3 (by simp)) | (go_at_call 103;refine (hn1 w1).mono ?_;rintro e w2 ⟨rfl,c2⟩;replace b0:=c2.cell_some b0 (by simp);replace b1:=c2.cell_some b1 (by simp);replace b2:=c2.cell_some b2 (by simp);replace b3:=c2.cell_some b3 (by simp)));go_ret;unfold TellEnd;have e1:R=(W,16):=by rw[E0.out.1];simp
    rw[e1];exact⟨rfl,E0.out.2.chg0 ((c1.nil c2).nil c3),((c1.nil c2).nil c3).mono (by simp)⟩
   | true=>
    go_wp2_with (first | (go_at_call 107;refine (hren w3 ((c1.nil c2).nil c3)).mono ?_;rintro e w4 ⟨rfl,hR,hC⟩) | (go_at_call 103;refine (hn2 w2).mono ?_;rintro e w3 ⟨rfl,c3⟩;replace b0:=c3.cell_some b0 (by simp);replace b1:=c3.cell_some b1 (by simp);replace b2:=c3.cell_some b2 (by simp);replace b3:=c3.cell_some b3 (by simp)) | (go_at_call 103;refine (hn1 w1).mono ?_;rintro e w2 ⟨rfl,c2⟩;replace b0:=c2.cell_some b0 (by simp);replace b1:=c2.cell_some b1 (by simp);replace b2:=c2.cell_some b2 (by simp);replace b3:=c2.cell_some b3 (by simp)));go_ret;unfold TellEnd;have e1:R=renameW W s t:=by rw[E0.out.1];simp
    rw[e1];exact⟨rfl,hR,((c1.nil c2).nil c3).toS.tr hC⟩
  ·have t4:(kind==4)=false:=by simp;exact k4
   have K4:=zH k4;clear k4;by_cases k2:kind=2
   ·subst k2;clear t4;go_wp2_with (first | (go_at_call 105;refine (htell w2 (c1.nil c2)).mono ?_;rintro e w4 ⟨rfl,hR,hC⟩) | (go_at_call 103;refine (hn1 w1).mono ?_;rintro e w2 ⟨rfl,c2⟩;replace b0:=c2.cell_some b0 (by simp);replace b1:=c2.cell_some b1 (by simp);replace b2:=c2.cell_some b2 (by simp);replace b3:=c2.cell_some b3 (by simp)));go_ret;unfold TellEnd;have e1:R=tellW W s b:=by rw[E0.out.1];simp
    rw[e1];exact⟨rfl,hR,(c1.nil c2).toS.tr hC⟩
   ·by_cases k1:kind=1
    ·subst k1;clear t4 k2;cases q3 with
     | false=>
      go_wp2_with (first | (go_at_call 105;refine (htell w3 ((c1.nil c2).nil c3)).mono ?_;rintro e w4 ⟨rfl,hR,hC⟩) | (go_at_call 104;refine (hhas w2 (c1.nil c2)).mono ?_;rintro e w3 ⟨rfl,c3⟩;replace b0:=c3.cell_some b0 (by simp);replace b1:=c3.cell_some b1 (by simp);replace b2:=c3.cell_some b2 (by simp);replace b3:=c3.cell_some b3 (by simp)) | (go_at_call 103;refine (hn1 w1).mono ?_;rintro e w2 ⟨rfl,c2⟩;replace b0:=c2.cell_some b0 (by simp);replace b1:=c2.cell_some b1 (by simp);replace b2:=c2.cell_some b2 (by simp);replace b3:=c2.cell_some b3 (by simp)));go_ret;unfold TellEnd;have e1:R=tellW W s b:=by rw[E0.out.1];simp
      rw[e1];exact⟨rfl,hR,((c1.nil c2).nil c3).toS.tr hC⟩
     | true=>
      go_wp2_with (first | (go_at_call 104;refine (hhas w2 (c1.nil c2)).mono ?_;rintro e w3 ⟨rfl,c3⟩;replace b0:=c3.cell_some b0 (by simp);replace b1:=c3.cell_some b1 (by simp);replace b2:=c3.cell_some b2 (by simp);replace b3:=c3.cell_some b3 (by simp)) | (go_at_call 103;refine (hn1 w1).mono ?_;rintro e w2 ⟨rfl,c2⟩;replace b0:=c2.cell_some b0 (by simp);replace b1:=c2.cell_some b1 (by simp);replace b2:=c2.cell_some b2 (by simp);replace b3:=c2.cell_some b3 (by simp)));go_ret;unfold TellEnd;have e1:R=(W,7):=by rw[E0.out.1];simp
      rw[e1];exact⟨rfl,E0.out.2.chg0 ((c1.nil c2).nil c3),((c1.nil c2).nil c3).mono (by simp)⟩
    ·by_cases k3:kind=3
     ·subst k3;clear t4 k2 k1;go_wp2_with (first | (go_at_call 106;refine (happ w2 (c1.nil c2)).mono ?_;rintro e w4 ⟨rfl,hR,hC⟩) | (go_at_call 103;refine (hn1 w1).mono ?_;rintro e w2 ⟨rfl,c2⟩;replace b0:=c2.cell_some b0 (by simp);replace b1:=c2.cell_some b1 (by simp);replace b2:=c2.cell_some b2 (by simp);replace b3:=c2.cell_some b3 (by simp)));go_ret;unfold TellEnd;have e1:R=appendW F W s b:=by rw[E0.out.1];simp
      rw[e1];exact⟨rfl,hR,(c1.nil c2).toS.tr hC⟩
     ·by_cases k5:kind=5
      ·subst k5;clear t4 k2 k1 k3;cases q3 with
       | false=>
        go_wp2_with (first | (go_at_call 104;refine (hhas w2 (c1.nil c2)).mono ?_;rintro e w3 ⟨rfl,c3⟩;replace b0:=c3.cell_some b0 (by simp);replace b1:=c3.cell_some b1 (by simp);replace b2:=c3.cell_some b2 (by simp);replace b3:=c3.cell_some b3 (by simp)) | (go_at_call 103;refine (hn1 w1).mono ?_;rintro e w2 ⟨rfl,c2⟩;replace b0:=c2.cell_some b0 (by simp);replace b1:=c2.cell_some b1 (by simp);replace b2:=c2.cell_some b2 (by simp);replace b3:=c2.cell_some b3 (by simp)));go_ret;unfold TellEnd;have e1:R=(W,6):=by rw[E0.out.1];simp
        rw[e1];exact⟨rfl,E0.out.2.chg0 ((c1.nil c2).nil c3),((c1.nil c2).nil c3).mono (by simp)⟩
       | true=>
        go_wp2_with (first | (go_at_call 108;refine (hgone w3 ((c1.nil c2).nil c3)).mono ?_;rintro e w4 ⟨rfl,hR,hC⟩) | (go_at_call 104;refine (hhas w2 (c1.nil c2)).mono ?_;rintro e w3 ⟨rfl,c3⟩;replace b0:=c3.cell_some b0 (by simp);replace b1:=c3.cell_some b1 (by simp);replace b2:=c3.cell_some b2 (by simp);replace b3:=c3.cell_some b3 (by simp)) | (go_at_call 103;refine (hn1 w1).mono ?_;rintro e w2 ⟨rfl,c2⟩;replace b0:=c2.cell_some b0 (by simp);replace b1:=c2.cell_some b1 (by simp);replace b2:=c2.cell_some b2 (by simp);replace b3:=c2.cell_some b3 (by simp)));go_ret;unfold TellEnd;have e1:R=(goneW W s,0):=by rw[E0.out.1];simp
        rw[e1];exact⟨rfl,hR,((c1.nil c2).nil c3).toS.tr hC⟩
      ·have t2:(kind==2)=false:=by simp;exact k2
       have t1:(kind==1)=false:=by simp;exact k1
       have t3:(kind==3)=false:=by simp;exact k3
       have t5:(kind != 5)=true:=by simp;exact k5
       have KK:=zC k2 k1 k3 k5;clear k2 k1 k3 k5;go_wp2_with (go_at_call 103;refine (hn1 w1).mono ?_;rintro e w2 ⟨rfl,c2⟩;replace b0:=c2.cell_some b0 (by simp);replace b1:=c2.cell_some b1 (by simp);replace b2:=c2.cell_some b2 (by simp);replace b3:=c2.cell_some b3 (by simp));go_ret;unfold TellEnd;have e1:R=(W,1):=by rw[E0.out.1];simp[K4.out,KK.out]
       rw[e1];exact⟨rfl,E0.out.2.chg0 (c1.nil c2),(c1.nil c2).mono (by simp)⟩
end Go.Proofs.YtlbdklaggalgfaaGreatDoor
