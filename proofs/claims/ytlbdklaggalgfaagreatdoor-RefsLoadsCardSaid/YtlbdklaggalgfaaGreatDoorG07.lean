/- FyB FyC -/
import Derived.Test.YtlbdklaggalgfaaGreatDoorG06
import Derived.StillTailTactics
set_option linter.unusedSimpArgs false
set_option linter.unusedVariables false
set_option maxHeartbeats 4000000
namespace Go.Aq.Fy
open Go.Aq Go.RowKit Go.Maps
theorem PendR.cells {w:World} {S:List Nat} {l:Puts} {xs:List Value} {v:Value} {m:Nat} (h:PendR w S l xs) (hs:Sees w 2 v m xs) (hm:l.length=m) {i:Nat} (hi:i<l.length):
  ∃g off cap ao c,v=.slice (some ⟨g,off,none⟩) m cap∧m≤cap∧w.cell? ⟨g,off+i * 2,none⟩=some (.int .i64 (l[i]'hi).1)∧w.cell? ⟨g,off+i * 2+1,none⟩=some (.slice ao 256 c)∧SecV w S (.slice ao 256 c) (l[i]'hi).2:=by
 subst hm;obtain⟨g,off,cap,rfl,hc,_,hcell⟩:=hs.cells (by omega);obtain⟨h1,u,h2,h3⟩:=h.get i hi;obtain⟨ao,c,rfl,_⟩:=h3.sees.shape;refine⟨g,off,cap,ao,c,rfl,hc,?_,?_,h3⟩;·rw[hcell (i * 2) (by omega),show i * 2=2 * i by omega,h1]
 ·rw[show off+i * 2+1=off+(2 * i+1) by omega,hcell (2 * i+1) (by omega),h2]
theorem setAll_snoc (f:Nat→Sec) (l:Puts) (p:Nat×Sec):setAll f (l++[p])=setS (setAll f l) p.1 p.2:=by simp[setAll]
theorem setAll_take (f:Nat→Sec) (l:Puts) {i:Nat} (hi:i<l.length):setAll f (l.take (i+1))=setS (setAll f (l.take i)) (l[i]'hi).1 (l[i]'hi).2:=by
 rw[List.take_succ_eq_append_getElem hi,setAll_snoc]
theorem crashS_snoc (m:Sec) (p:Nat×Sec):∀(l:Puts) (k:Nat) (f:Nat→Sec),crashS m k f (l++[p])=if bitL m (k+l.length) then setS (crashS m k f l) p.1 p.2 else crashS m k f l
 | [],k,f=>by obtain⟨a,b⟩:=p;simp only[List.nil_append,crashS,List.length_nil,Nat.add_zero]
 | (a,b)::l,k,f=>by
  simp only[List.cons_append,crashS,List.length_cons];rw[crashS_snoc m p l,show k+1+l.length=k+(l.length+1) by omega]
theorem crashS_take (m:Sec) (f:Nat→Sec) (l:Puts) {i:Nat} (hi:i<l.length):crashS m 0 f (l.take (i+1))=if bitL m i then setS (crashS m 0 f (l.take i)) (l[i]'hi).1 (l[i]'hi).2 else crashS m 0 f (l.take i):=by
 rw[List.take_succ_eq_append_getElem hi,crashS_snoc,List.length_take,Nat.min_eq_left (by omega),Nat.zero_add]
end Go.Aq.Fy
namespace Go.Aq
open Go.RowKit Go.Maps
theorem wpList_putF {P:Program} {W:World} {ops:Array Oper} {rest:List Oper} {o:Oper} {a:Act} {Q:Exit→Act→World→Prop} (hg:o.guard=none) (m x v:Operand) (t:TypeId) (hop:o.op=Op.mapUpdate t m x v)
  {k e:TypeId} (KK:Keyed P k) (ht:P.underlying t=some (.map k e)) {b:Nat} {f:Value→Option Value} (h:MapF P k W b f) (hm:a.eval m=.map (some b)) {key val:Value} (hkey:GoodKey P k key) (hx:a.eval x=key) (hv:a.eval v=val)
  (hK:∀w',MapF P k w' b (updF f key val)→Chg [b] W w'→wpList P ops Q rest (a.put o.dst undef) w'):wpList P ops Q (o::rest) a W:=by
 refine wpList_plain hg fun _ hK'=>?_
 obtain⟨w',hrun,r1,r2⟩:=h.put (v:=val) KK ht hkey;unfold Oper.wp;simp[execOp,hop,hm,hx,hv,hrun,Result.andThen];exact hK' _ _ (hK w' r1 r2)
end Go.Aq
namespace Go.Proofs.YtlbdklaggalgfaaGreatDoor
open Go.RowKit Go.Aq Go.Aq.Fy Go.Maps
set_option maxRecDepth 100000 in
theorem flush_ok (w:World) (S:List Nat) (p:Nat) (D:DiskD) (h:DiskR w S p D) (hd:D.down=false) (hp:D.pend.length≤1000000):
  Calls Tryz.prog 35 #[.pointer (some ⟨p,0,none⟩)] w fun e w'=>e=.returned (.int .i64 0)∧∃S',DiskR w' S' p (flushD D).1∧Upd S S' w w':=by
 have hfl:(flushD D).1={ D with dur:=setAll D.dur D.pend,pend:=[] }:=by unfold flushD;rw[hd];rfl
 rw[hfl];clear hfl;obtain⟨bn,bd,fn,fd,pv,xs,mv,h,rfl⟩:=h;obtain⟨⟨c0,c1,c2,c3,c4,c5,c6,c7⟩,-⟩:=h.blk.c8;rw[hd] at c7;obtain⟨m,hm⟩:∃m,D.pend.length=m:=⟨_,rfl⟩;have hown:=h.own;rw[hm] at hown hp;have hsees:=hown.sees;have HO:=zH hown;obtain⟨S,hS⟩:∃S,p::bn::bd::pv.ownBlock.toList=S:=⟨_,rfl⟩;obtain⟨ao,cap,hpv,-⟩:=hown.sees.shape;have hnp:p≠bd:=fun e=>h.dur.blk h.blk e.symm
 have hnb:bd∉pv.ownBlock.toList:=h.dur.own hown;rw[hS];have H:=zH h;have HS:=zH hS;have HP:=zH hm;have hpos:0<m→∃g off,ao=some ⟨g,off,none⟩∧g∈pv.ownBlock.toList:=fun h0=>by
  rcases hown.shape with ⟨e,e0,_⟩ | ⟨g,cap',e,_,_,_⟩
  ·omega
  ·rw[hpv] at e;injection e with e1 _ _;exact⟨g,0,e1,by rw[hpv,e1];simp[Value.ownBlock]⟩
 rw[hpv] at c3 hsees;have HPV:=zH hpv;have HPO:=zH hpos;have HSE:=zH hsees;have HB:=zH hp;clear h hm hS hown hd hp hpv hpos hsees;go_enter Tryz.func35,Tryz.ntmps35;go_wp2_with fail;go_loopg [14] m (fun k (v14:Value) wr=>∃(i:Nat) (fd':Value→Option Value),v14=.int .i64 (i:Int)∧i≤m∧k=m - i∧Chg [bd] w wr∧MapF Tryz.prog 3 wr bd fd'∧SecsF wr S fd' (setAll D.dur (D.pend.take i)));case atStart=>exact⟨0,fd,rfl,by omega,by omega,Chg.refl _ _,H.out.dur,by rw[←HS.out];exact H.out.durS⟩
 case round=>
  obtain⟨i,fd',rfl,hi,hk1,hc,hM,hF⟩:=hrel;by_cases him:i<m
  ·have t1:decide ((i:Int)<(m:Int))=true:=decide_eq_true (by omega);have him':i<D.pend.length:=by rw[HP.out];exact him
   have hu:Upd S S w wr:=⟨hc.mono fun k hk=>.inl (by rw[List.mem_singleton.1 hk,←HS.out];simp),fun _ h=>.inl h⟩;have hpd:PendR wr S D.pend xs:=by have:=H.out.pend;rw[HS.out] at this;exact this.upd hu
   have hsw:Sees wr 2 (.slice ao m cap) m xs:=HSE.out.chg hc (fun k hk=>by
    have:=eyes_own _ k hk;rw[←HPV.out] at this;simp only[List.mem_singleton];rintro rfl;exact hnb this)
   obtain⟨g',off',cap',a5,q5,e1,hmc,x0,x1,hsv⟩:=hpd.cells hsw HP.out him';injection e1 with e1 _ e2;subst e1 e2;have y2:wr.cell? ⟨p,2,none⟩=some (.map (some bd)):=hc.cell_some c2 (by simpa using hnp);have hplc:(D.pend[i]).1≤1000000000000:=by have:=H.out.plc _ (List.getElem_mem him');have:=H.out.least;omega
   have hput:=setAll_take D.dur D.pend him';generalize D.pend[i]=pt at *;obtain⟨pk,pb⟩:=pt;simp only at x0 hsv hplc hput;have HQ:=zD hk1 hput hsv hF hplc;have hbx:Blk (wr.alloc (.cells #[.int .i64 pk,.slice a5 256 q5] 169)) wr.heap.size #[.int .i64 pk,.slice a5 256 q5] 169:=Blk.new _ _ _;have hca:Chg [] wr (wr.alloc (.cells #[.int .i64 pk,.slice a5 256 q5] 169)):=(Chg.refl [] wr).alloc _;have hMa:=hM.chg hca (by simp);obtain⟨⟨z0,z1⟩,-⟩:=hbx.c2;clear hput hsv hF hk1 hpd hsw hu hplc hi hmc hbx him';go_upto_region 6 with (fail);have y2a:=hca.cell_some y2 (by simp);generalize wr.alloc (.cells #[.int .i64 pk,.slice a5 256 q5] 169)=w1 at *;generalize wr.heap.size=K at *;clear x0 x1 y2 hM;refine wp_region_still_tail 8 (by kernel_rfl) (by kernel_rfl) ?_;simp only[List.take_succ_cons,List.take_zero,List.drop_succ_cons,List.drop_zero];(repeat still_step);refine wpStill_nil ?_;change wpList _ _ _ _ _ w1.drew;refine wpList_putF rfl _ _ _ 77 rfl lawI Tryz.underlying77 (W:=w1.drew) (b:=bd) (f:=fd') hMa rfl (goodI pk HQ.out.2.2.2.2) rfl rfl ?_;intro w2 hM2 hc2;have hcc:Chg [bd] wr w2:=(hca.drew.toS).tr hc2;clear z0 z1 y2a hMa hc2 hca;go_wp2_with fail;go_roundg (gk - 1);case measure=>have:=HQ.out.1;omega
   case rel=>
    have hi1:i+1≤m:=him;have hSF:SecsF w2 S (updF fd' (.int .i64 pk) (.slice a5 256 q5)) (setAll D.dur (D.pend.take (i+1))):=by
     have hu:Upd S S wr w2:=⟨hcc.mono fun k hk=>.inl (by rw[List.mem_singleton.1 hk,←HS.out];simp),fun _ h=>.inl h⟩;rw[HQ.out.2.1];exact (HQ.out.2.2.2.1.upd hu).put pk (HQ.out.2.2.1.upd hu)
    have hwr:wrap64 ((i:Int)+1)=(i:Int)+1:=by have:=HB.out;unfold wrap64;omega
    refine⟨i+1,_,by rw[hwr];rfl,hi1,by have:=HQ.out.1;omega,hc.tr hcc,hM2,hSF⟩
  ·have t1:decide ((i:Int)<(m:Int))=false:=decide_eq_false (by omega);have e:i=m:=by omega
   subst e;have y3:wr.cell? ⟨p,3,none⟩=some (.slice ao i cap):=hc.cell_some c3 (by simpa using hnp);have hb:Blk wr p _ _:=H.out.blk.chg hc (by simpa using hnp);obtain⟨-,f0,f1,f2,f3,f4,f5,f6,f7⟩:=hb.c8;have HH:=zC hb hF hc hM;clear hb hF hM hc f0 f1 f2 f4 f5 f6 f7;go_wp2_with fail;go_ret;obtain⟨hb,hF,hc,hM⟩:=HH.out;have h:=H.out;have hpS:p∈S:=by rw[←HS.out];simp
   have hc2:Chg S w (wr.setCell ⟨p,3,none⟩ (.slice none 0 0)):=(hc.mono fun k hk=>.inl (by rw[List.mem_singleton.1 hk,←HS.out];simp)).setCell (.inl hpS) _;have hc3:Chg [p] wr (wr.setCell ⟨p,3,none⟩ (.slice none 0 0)):=(Chg.refl _ _).setCell (by simp) _;have hn1:bn≠p:=h.now.blk h.blk;have hu1:Upd S [p,bn,bd] wr (wr.setCell ⟨p,3,none⟩ (.slice none 0 0)):=⟨hc3.mono (fun k hk=>.inl (by rw[List.mem_singleton.1 hk];exact hpS)),fun k hk=>.inl (by rw[←HS.out];simp at hk ⊢;rcases hk with h | h | h <;> simp[h])⟩;have hu:Upd S [p,bn,bd] w (wr.setCell ⟨p,3,none⟩ (.slice none 0 0)):=⟨hc2,fun k hk=>.inl (by rw[←HS.out];simp at hk ⊢;rcases hk with h | h | h <;> simp[h])⟩;refine⟨rfl,[p,bn,bd],⟨bn,bd,fn,fd',.slice none 0 0,[],mv,?_,rfl⟩,hu⟩;have hS:=HS.out;have e0:p::bn::bd::(Value.slice none 0 0).ownBlock.toList=[p,bn,bd]:=rfl;have hb3:=hb.set 3 (.slice none 0 0);rw[List.setIfInBounds_toArray] at hb3;have hns:=h.nowS;rw[hS] at hns;refine⟨hb3,?_,hM.chg hc3 (by simpa using fun e=>hnp e.symm),h.ne,?_,?_,Own.nil _ _ _,.nil,?_,h.least,by simp,h.room,fun _=>rfl⟩;·exact (h.now.chg hc (by simpa using h.ne)).chg hc3 (by simpa using hn1)
   ·rw[e0];exact hns.upd hu
   ·rw[e0];have:D.pend.take i=D.pend:=List.take_of_length_le (by rw[HP.out];exact Nat.le_refl _);rw[this] at hF;exact hF.upd hu1
   ·rw[e0];have hm2:=h.mask;rw[hS] at hm2;exact⟨hm2.1.chg hc2 hm2.2,fun k hk hk'=>hm2.2 k hk (by rw[←hS];simp at hk' ⊢;rcases hk' with h | h | h <;> simp[h])⟩
set_option maxRecDepth 100000 in
theorem bit_any (w:World) (mv:Value) (n:Nat) (ms:Sec) (hm:Sees w 1 mv n (Bs ms)) (i:Nat) (hi:i≤1000000):
  Calls Tryz.prog 150 #[mv,.int .i64 i] w fun e w'=>e=.returned (.bool (bitL ms i))∧w'=w:=by
 have hl:ms.length=n:=by have:=hm.len;rw[Bs_length] at this;omega
 have d8:(i:Int).tdiv 8=((i / 8:Nat):Int):=by
  rw[Int.tdiv_eq_ediv_of_nonneg (by omega)];omega
 have m8:(i:Int).tmod 8=((i % 8:Nat):Int):=by
  rw[Int.tmod_eq_emod_of_nonneg (by omega)];omega
 have d8':(i:Int) / 8=((i / 8:Nat):Int):=by omega
 have m8':(i:Int) % 8=((i % 8:Nat):Int):=by omega
 have hwq:wrap64 ((i / 8:Nat):Int)=((i / 8:Nat):Int):=by unfold wrap64;omega
 by_cases h:i / 8<n
 ·obtain⟨g,off,cap,rfl,hc,hcell⟩:=hm.at1 (by omega);have x0:=hcell (i / 8) h;rw[Bs_get ms (i / 8) (by omega)] at x0;have hb:bitL ms i=(ms[i / 8]'(by omega)).toNat.testBit (i % 8):=by unfold bitL;simp[List.getD_eq_getElem?_getD,show i / 8<ms.length by omega]
  rw[hb];have t1:decide (((i / 8:Nat):Int)<(n:Int))=true:=decide_eq_true (by omega);have hq:i % 8<8:=Nat.mod_lt _ (by decide);have hx:(ms[i / 8]'(by omega)).toNat<256:=UInt8.toNat_lt _;obtain⟨x,ex⟩:∃x,(ms[i / 8]'(by omega)).toNat=x:=⟨_,rfl⟩;rw[ex] at hx x0 ⊢;clear ex hb;generalize i / 8=q at *;generalize hr:i % 8=r at *;clear hcell hm hl hi hc hr;go_enter Tryz.func150,Tryz.ntmps150;go_wp2_with fail;go_ret;refine⟨ret_bool ?_,rfl⟩;have hxr:x / 2^r<256:=Nat.lt_of_le_of_lt (Nat.div_le_self _ _) hx;have e:((x:Int) / 2^r)=((x / 2^r:Nat):Int):=by simp
  rw[e,u8and1N _ hxr,Nat.testBit_eq_decide_div_mod_eq];rcases Nat.mod_two_eq_zero_or_one (x / 2^r) with h0 | h0 <;> simp[h0]
 ·have hb:bitL ms i=false:=by unfold bitL;rw[List.getD_eq_getElem?_getD,List.getElem?_eq_none (by omega)];simp
  rw[hb];obtain⟨ao,cap,rfl,-⟩:=hm.shape;have t1:decide (((i / 8:Nat):Int)<(n:Int))=false:=decide_eq_false (by omega);generalize i / 8=q at *;clear hb hm hi hl;go_enter Tryz.func150,Tryz.ntmps150;go_wp2_with fail;go_ret;exact⟨rfl,rfl⟩
theorem MapF.copy {w:World} {P:Program} {k:TypeId} {b:Nat} {f:Value→Option Value} {es:Array MapEntry} {clock:Nat} (h:MapF P k w b f) (hb:w.heap[b]?=some (.map es clock)):MapF P k (w.alloc (.map es clock)) w.heap.size f:=by
 obtain⟨es',c',h1,h2,h3,h4⟩:=h;rw[hb] at h1;simp only[Option.some.injEq,Obj.map.injEq] at h1;obtain⟨rfl,rfl⟩:=h1;exact⟨_,_,heap_alloc_new w _,h2,h3,h4⟩
theorem mclone_any (w:World) (b:Nat) (f:Value→Option Value) (h:MapF Tryz.prog 3 w b f):
  Calls Tryz.prog 151 #[.map (some b)] w fun e w'=>e=.returned (.map (some w.heap.size))∧MapF Tryz.prog 3 w' w.heap.size f∧Chg [] w w'∧w.heap.size<w'.heap.size:=by
 have h0:=h;obtain⟨es,clock,hb,-⟩:=h0;refine (AnyW.maps_Clone Tryz.mc151 b es clock w hb).mono fun e w' ⟨h1,h2⟩=>?_
 subst h2;exact⟨h1,MapF.copy h hb,(Chg.refl [] w).alloc _,by simp⟩
set_option maxRecDepth 100000 in
theorem crash_up (w:World) (S:List Nat) (p:Nat) (D:DiskD) (h:DiskR w S p D) (hd:D.down=false) (hp:D.pend.length≤1000000) (vm:Value) (nm:Nat) (ms:Sec) (hms:Sees w 1 vm nm (Bs ms)) (hmo:Disj (eyes vm) S):
  Calls Tryz.prog 94 #[.pointer (some ⟨p,0,none⟩),vm] w fun e w'=>e=.returned (.tuple #[])∧∃S',DiskR w' S' p (crashD D ms)∧Upd S S' w w':=by
 have hfl:crashD D ms={ D with now:=crashS ms 0 D.dur D.pend,dur:=crashS ms 0 D.dur D.pend,pend:=[],down:=true }:=by unfold crashD;rw[hd];rfl
 rw[hfl];clear hfl;obtain⟨bn,bd,fn,fd,pv,xs,mv,h,rfl⟩:=h;obtain⟨⟨c0,c1,c2,c3,c4,c5,c6,c7⟩,-⟩:=h.blk.c8;rw[hd] at c7;obtain⟨m,hm⟩:∃m,D.pend.length=m:=⟨_,rfl⟩;have hown:=h.own;rw[hm] at hown hp;have hsees:=hown.sees;have HO:=zH hown;have hbdS:bd∈p::bn::bd::pv.ownBlock.toList:=by simp
 have hmbd:Disj (eyes vm) [bd]:=fun k hk hk'=>hmo k hk (by rw[List.mem_singleton.1 hk'];exact hbdS)
 obtain⟨S,hS⟩:∃S,p::bn::bd::pv.ownBlock.toList=S:=⟨_,rfl⟩;obtain⟨ao,cap,hpv,-⟩:=hown.sees.shape;have hnp:p≠bd:=fun e=>h.dur.blk h.blk e.symm
 have hnb:bd∉pv.ownBlock.toList:=h.dur.own hown;rw[hS];have H:=zH h;have HS:=zH hS;have HP:=zH hm;rw[hpv] at c3 hsees;have HPV:=zH hpv;have HSE:=zH hsees;have HB:=zH hp;have HMS:=zA hms hmbd;obtain⟨ma,mc,rfl,-⟩:=hms.shape;clear h hm hS hown hd hp hpv hsees hms hmbd hmo;go_enter Tryz.func94,Tryz.ntmps94;go_wp2_with fail;go_loopg [15] m (fun k (v15:Value) wr=>∃(i:Nat) (fd':Value→Option Value),v15=.int .i64 (i:Int)∧i≤m∧k=m - i∧Chg [bd] w wr∧MapF Tryz.prog 3 wr bd fd'∧SecsF wr S fd' (crashS ms 0 D.dur (D.pend.take i)));case atStart=>exact⟨0,fd,rfl,by omega,by omega,Chg.refl _ _,H.out.dur,by rw[←HS.out];exact H.out.durS⟩
 case round=>
  obtain⟨i,fd',rfl,hi,hk1,hc,hM,hF⟩:=hrel;by_cases him:i<m
  ·have t1:decide ((i:Int)<(m:Int))=true:=decide_eq_true (by omega);have him':i<D.pend.length:=by rw[HP.out];exact him
   have hu:Upd S S w wr:=⟨hc.mono fun k hk=>.inl (by rw[List.mem_singleton.1 hk,←HS.out];simp),fun _ h=>.inl h⟩;have hpd:PendR wr S D.pend xs:=by have:=H.out.pend;rw[HS.out] at this;exact this.upd hu
   have hsw:Sees wr 2 (.slice ao m cap) m xs:=HSE.out.chg hc (fun k hk=>by
    have:=eyes_own _ k hk;rw[←HPV.out] at this;simp only[List.mem_singleton];rintro rfl;exact hnb this)
   obtain⟨g',off',cap',a5,q5,e1,hmc,x0,x1,hsv⟩:=hpd.cells hsw HP.out him';injection e1 with e1 _ e2;subst e1 e2;have y2:wr.cell? ⟨p,2,none⟩=some (.map (some bd)):=hc.cell_some c2 (by simpa using hnp);have hplc:(D.pend[i]).1≤1000000000000:=by have:=H.out.plc _ (List.getElem_mem him');have:=H.out.least;omega
   have hput:=crashS_take ms D.dur D.pend him';generalize D.pend[i]=pt at *;obtain⟨pk,pb⟩:=pt;simp only at x0 hsv hplc hput;have hbx:Blk (wr.alloc (.cells #[.int .i64 pk,.slice a5 256 q5] 169)) wr.heap.size #[.int .i64 pk,.slice a5 256 q5] 169:=Blk.new _ _ _;have hca:Chg [] wr (wr.alloc (.cells #[.int .i64 pk,.slice a5 256 q5] 169)):=(Chg.refl [] wr).alloc _;have hbit:=bit_any (wr.alloc (.cells #[.int .i64 pk,.slice a5 256 q5] 169)) (.slice ma nm mc) nm ms ((HMS.out.1.chg hc HMS.out.2).chg0 hca) i (by have:=HB.out;omega);have hMa:=hM.chg hca (by simp);obtain⟨⟨z0,z1⟩,-⟩:=hbx.c2;have hwr:Hid (wrap64 ((i:Int)+1)=(i:Int)+1):=by have:=HB.out;show _=_;unfold wrap64;omega
   cases hbi:bitL ms i with
   | false=>
    rw[hbi] at hput hbit;have HQ:=zD hk1 hput hsv hF hplc;clear hput hsv hF hk1 hpd hsw hu hplc hi hmc hbx him' hbi;go_wp2_with fail;refine hbit.mono ?_;rintro e w1 ⟨rfl,rfl⟩;clear hbit z0 z1 x0 x1 y2;go_wp2_with fail;go_roundg (gk - 1);case measure=>have:=HQ.out.1;omega
    case rel=>
     have hi1:i+1≤m:=him;refine⟨i+1,fd',by rw[hwr.out];rfl,hi1,by have:=HQ.out.1;omega,hc.nil hca,hMa,?_⟩;have hu:Upd S S wr _:=⟨hca.toS,fun _ h=>.inl h⟩;rw[HQ.out.2.1];exact HQ.out.2.2.2.1.upd hu
   | true=>
    rw[hbi] at hput hbit;have HQ:=zD hk1 hput hsv hF hplc;clear hput hsv hF hk1 hpd hsw hu hplc hi hmc hbx him' hbi;go_upto_region 4 with (fail);have y2a:=hca.cell_some y2 (by simp);generalize wr.alloc (.cells #[.int .i64 pk,.slice a5 256 q5] 169)=w1 at *;generalize wr.heap.size=K at *;clear x0 x1 y2 hM;go_upto_region 5 with (refine hbit.mono ?_;rintro e w1 ⟨rfl,rfl⟩);clear hbit;refine wp_region_still_tail 8 (by kernel_rfl) (by kernel_rfl) ?_;simp only[List.take_succ_cons,List.take_zero,List.drop_succ_cons,List.drop_zero];(repeat still_step);refine wpStill_nil ?_;change wpList _ _ _ _ _ (World.drew _);refine wpList_putF rfl _ _ _ 77 rfl lawI Tryz.underlying77 (W:=World.drew _) (b:=bd) (f:=fd') hMa rfl (goodI pk HQ.out.2.2.2.2) rfl rfl ?_;intro w2 hM2 hc2;have hcc:Chg [bd] wr w2:=(hca.drew.toS).tr hc2;clear z0 z1 y2a hMa hc2 hca;go_wp2_with fail;go_roundg (gk - 1);case measure=>have:=HQ.out.1;omega
    case rel=>
     have hi1:i+1≤m:=him;have hSF:SecsF w2 S (updF fd' (.int .i64 pk) (.slice a5 256 q5)) (crashS ms 0 D.dur (D.pend.take (i+1))):=by
      have hu:Upd S S wr w2:=⟨hcc.mono fun k hk=>.inl (by rw[List.mem_singleton.1 hk,←HS.out];simp),fun _ h=>.inl h⟩;rw[HQ.out.2.1];exact (HQ.out.2.2.2.1.upd hu).put pk (HQ.out.2.2.1.upd hu)
     exact⟨i+1,_,by rw[hwr.out];rfl,hi1,by have:=HQ.out.1;omega,hc.tr hcc,hM2,hSF⟩
  ·have t1:decide ((i:Int)<(m:Int))=false:=decide_eq_false (by omega);have e:i=m:=by omega
   subst e;have y2:wr.cell? ⟨p,2,none⟩=some (.map (some bd)):=hc.cell_some c2 (by simpa using hnp);have hb:Blk wr p _ _:=H.out.blk.chg hc (by simpa using hnp);have hcl:=mclone_any wr bd fd' hM;have HH:=zC hb hF hc hM;clear hb hF hM hc;go_wp2_with fail;refine hcl.mono ?_;rintro e w1 ⟨rfl,hM1,c1,hlt⟩;clear hcl y2;have hb1:=HH.out.1.chg0 c1;obtain⟨⟨z0,z1,z2,z3,z4,z5,z6,z7⟩,f0,f1,f2,f3,f4,f5,f6,f7⟩:=hb1.c8;have HH1:=zC hb1 hM1 c1 hlt;clear hb1 hM1 c1 hlt z0 z2 z4 z5 z6 f0 f2 f4 f5 f6;obtain⟨N,hN⟩:∃N,wr.heap.size=N:=⟨_,rfl⟩;rw[hN] at HH1;rw[hN];go_wp2_with fail
   go_end0
   obtain⟨hb,hF,hc,hM⟩:=HH.out;obtain⟨hb1,hM1,c1,hlt⟩:=HH1.out;have h:=H.out;have hS:=HS.out;have hpS:p∈S:=by rw[←hS];simp
   obtain⟨w2,hw2⟩:∃w2,((w1.setCell ⟨p,1,none⟩ (.map (some N))).setCell ⟨p,3,none⟩ (.slice none 0 0)).setCell ⟨p,7,none⟩ (.bool true)=w2:=⟨_,rfl⟩;have c3:Chg [p] w1 w2:=by rw[←hw2];exact (((Chg.refl _ w1).setCell (by simp) _).setCell (by simp) _).setCell (by simp) _
   have hb3:=((hb1.set 1 (.map (some N))).set 3 (.slice none 0 0)).set 7 (.bool true);simp only[List.setIfInBounds_toArray,List.set_cons_zero,List.set_cons_succ] at hb3;rw[hw2] at hb3 ⊢;have hNw:w.heap.size≤N:=by rw[←hN];exact hc.size
   have hnew:∀k∈[p,N,bd],k∈S∨w.heap.size≤k:=fun k hk=>by
    simp only[List.mem_cons,List.not_mem_nil,or_false] at hk;rcases hk with rfl | rfl | rfl
    ·exact .inl hpS
    ·exact .inr hNw
    ·exact .inl (by rw[←hS];simp)
   have hcr:Chg S wr w2:=c1.toS.tr (c3.mono (fun k hk=>.inl (by rw[List.mem_singleton.1 hk];exact hpS)));have hcw:Chg S w w2:=(hc.mono fun k hk=>.inl (by rw[List.mem_singleton.1 hk,←hS];simp)).tr hcr;have hu1:Upd S [p,N,bd] wr w2:=⟨hcr,fun k hk=>by
    simp only[List.mem_cons,List.not_mem_nil,or_false] at hk;rcases hk with rfl | rfl | rfl
    ·exact .inl hpS
    ·exact .inr (by rw[hN];exact Nat.le_refl _)
    ·exact .inl (by rw[←hS];simp)⟩
   have hu:Upd S [p,N,bd] w w2:=⟨hcw,hnew⟩;have e0:p::N::bd::(Value.slice none 0 0).ownBlock.toList=[p,N,bd]:=rfl;have htk:D.pend.take i=D.pend:=List.take_of_length_le (by rw[HP.out];exact Nat.le_refl _);rw[htk] at hF;have hbdlt:=hM.lt;refine⟨rfl,[p,N,bd],⟨N,bd,fd',fd',.slice none 0 0,[],mv,?_,rfl⟩,hu⟩;refine⟨hb3,hM1.chg c3 (by simpa using hM1.blk hb1),(hM.chg c1 (by simp)).chg c3 (by simpa using fun e=>hnp e.symm),by omega,?_,?_,Own.nil _ _ _,.nil,?_,h.least,by simp,h.room,fun _=>rfl⟩;·rw[e0];exact hF.upd hu1
   ·rw[e0];exact hF.upd hu1
   ·rw[e0];have hm2:=h.mask;rw[hS] at hm2;refine⟨hm2.1.chg hcw hm2.2,fun k hk hk'=>?_⟩;rcases hnew k hk' with h1 | h1
    ·exact hm2.2 k hk h1
    ·have:=hm2.1.lt (by decide) k hk;omega
end Go.Proofs.YtlbdklaggalgfaaGreatDoor
namespace Go.Aq
open Go.RowKit Go.Maps
theorem wp_putF {P:Program} {w:World} {o:Oper} {a:Act} {K:Act→World→Prop} {Q:Exit→Act→World→Prop} (m x v:Operand) (t:TypeId) (hop:o.op=Op.mapUpdate t m x v)
  {k e:TypeId} (KK:Keyed P k) (ht:P.underlying t=some (.map k e)) {b:Nat} {f:Value→Option Value} (h:MapF P k w b f) (hm:a.eval m=.map (some b)) {key val:Value} (hkey:GoodKey P k key) (hx:a.eval x=key) (hv:a.eval v=val)
  (hK:∀w',MapF P k w' b (updF f key val)→Chg [b] w w'→K (a.put o.dst undef) w'):o.wp P a w K Q:=by
 obtain⟨w',hrun,r1,r2⟩:=h.put (v:=val) KK ht hkey;unfold Oper.wp;simp[execOp,hop,hm,hx,hv,hrun,Result.andThen];exact hK w' r1 r2
end Go.Aq
namespace Go.Proofs.YtlbdklaggalgfaaGreatDoor
open Go.RowKit Go.Aq Go.Aq.Fy Go.Maps
theorem sl_chg:SliceTy Tryz.prog 78 169 (.agg #[.int .i64 0,.slice none 0 0]) 2 32:=⟨Tryz.underlying78,by kernel_rfl,rfl,by decide⟩
section
variable {w:World} {p bn bd:Nat} {fn fd:Value→Option Value} {pv:Value} {xs:List Value} {mv:Value} {D:DiskD} (h:DiskB w p bn bd fn fd pv xs mv D)
include h
theorem DiskB.r:DiskR w (p::bn::bd::pv.ownBlock.toList) p D:=⟨bn,bd,fn,fd,pv,xs,mv,h,rfl⟩
theorem DiskB.np:p≠bn∧p≠bd∧p∉pv.ownBlock.toList∧bn∉pv.ownBlock.toList∧bd∉pv.ownBlock.toList:=
 ⟨fun e=>h.now.blk h.blk e.symm,fun e=>h.dur.blk h.blk e.symm,h.own.ne h.blk (by decide),h.now.own h.own,h.dur.own h.own⟩
theorem DiskB.reblk {w':World} {x:Int} {y:Nat} {z:Bool} (hb:Blk w' p #[.int .i64 D.n,.map (some bn),.map (some bd),pv,.int .i64 x,.int .i64 y,mv,.bool z] 80) (c:Chg [p] w w') (hy:y≤9223372036854775807):
  DiskB w' p bn bd fn fd pv xs mv { D with writes:=x,falls:=y,down:=z }∧Upd (p::bn::bd::pv.ownBlock.toList) (p::bn::bd::pv.ownBlock.toList) w w':=by
 obtain⟨n1,n2,n3,-,-⟩:=h.np;have cS:Chg (p::bn::bd::pv.ownBlock.toList) w w':=c.mono (fun k hk=>.inl (by rw[List.mem_singleton.1 hk];simp));have u:Upd (p::bn::bd::pv.ownBlock.toList) (p::bn::bd::pv.ownBlock.toList) w w':=⟨cS,fun _ h=>.inl h⟩;exact⟨⟨hb,h.now.chg c (by simpa using fun e=>n1 e.symm),h.dur.chg c (by simpa using fun e=>n2 e.symm),h.ne,h.nowS.upd u,h.durS.upd u,h.own.chg c (fun k hk=>by simp;rintro rfl;exact n3 hk),h.pend.upd u,⟨h.mask.1.chg cS h.mask.2,h.mask.2⟩,h.least,h.plc,hy,h.nil0⟩,u⟩
theorem DiskB.pended {w':World} {pv' v:Value} {k:Nat} {b:Sec} (hb:Blk w' p #[.int .i64 D.n,.map (some bn),.map (some bd),pv',.int .i64 D.writes,.int .i64 D.falls,mv,.bool D.down] 80) (c:Chg (p::pv.ownBlock.toList) w w')
  (ho:Own w' 169 2 pv' (D.pend.length+1) (xs++[.int .i64 k,v])) (hn:∀j∈pv'.ownBlock.toList,j∈pv.ownBlock.toList∨w.heap.size≤j) (hv:SecV w' (p::bn::bd::pv'.ownBlock.toList) v b) (hk:k<D.n):
  DiskB w' p bn bd fn fd pv' (xs++[.int .i64 k,v]) mv { D with pend:=D.pend++[(k,b)] }∧Upd (p::bn::bd::pv.ownBlock.toList) (p::bn::bd::pv'.ownBlock.toList) w w':=by
 obtain⟨n1,n2,n3,n4,n5⟩:=h.np;have cS:Chg (p::bn::bd::pv.ownBlock.toList) w w':=c.mono (fun k hk=>.inl (by simp at hk ⊢;rcases hk with h | h <;> simp[h]));have u:Upd (p::bn::bd::pv.ownBlock.toList) (p::bn::bd::pv'.ownBlock.toList) w w':=⟨cS,fun j hj=>by
  simp only[List.mem_cons] at hj ⊢;rcases hj with rfl | rfl | rfl | hj
  ·simp
  ·simp
  ·simp
  ·rcases hn j hj with h1 | h1
   ·exact .inl (.inr (.inr (.inr h1)))
   ·exact .inr h1⟩
 have hm:=h.mask;refine⟨⟨hb,h.now.chg c (by simp only[List.mem_cons,not_or];exact⟨fun e=>n1 e.symm,n4⟩),h.dur.chg c (by simp only[List.mem_cons,not_or];exact⟨fun e=>n2 e.symm,n5⟩),h.ne,h.nowS.upd u,h.durS.upd u,by simpa using ho,(h.pend.upd u).snoc hv,⟨hm.1.chg cS hm.2,fun j hj hj'=>?_⟩,h.least,fun q hq=>?_,h.room,fun e=>absurd e (by simp)⟩,u⟩
 ·rcases u.new j hj' with h1 | h1
  ·exact hm.2 j hj h1
  ·have:=hm.1.lt (by decide) j hj;omega
 ·simp only[List.mem_append,List.mem_singleton] at hq;rcases hq with hq | rfl
  ·exact h.plc q hq
  ·exact hk
theorem DiskB.nowed {w':World} {fn':Value→Option Value} {g:Nat→Sec} (c:Chg [bn] w w') (hM:MapF Tryz.prog 3 w' bn fn') (hS:SecsF w' (p::bn::bd::pv.ownBlock.toList) fn' g):
  DiskB w' p bn bd fn' fd pv xs mv { D with now:=g }∧Upd (p::bn::bd::pv.ownBlock.toList) (p::bn::bd::pv.ownBlock.toList) w w':=by
 obtain⟨n1,n2,n3,n4,n5⟩:=h.np;have cS:Chg (p::bn::bd::pv.ownBlock.toList) w w':=c.mono (fun k hk=>.inl (by rw[List.mem_singleton.1 hk];simp));have u:Upd (p::bn::bd::pv.ownBlock.toList) (p::bn::bd::pv.ownBlock.toList) w w':=⟨cS,fun _ h=>.inl h⟩;exact⟨⟨h.blk.chg c (by simpa using n1),hM,h.dur.chg c (by simpa using fun e=>h.ne e.symm),h.ne,hS,h.durS.upd u,h.own.chg c (fun k hk=>by simp;rintro rfl;exact n4 hk),h.pend.upd u,⟨h.mask.1.chg cS h.mask.2,h.mask.2⟩,h.least,h.plc,h.room,h.nil0⟩,u⟩
end
set_option maxRecDepth 100000 in
theorem write_ok (w:World) (S:List Nat) (p:Nat) (D:DiskD) (k:Nat) (b:Sec) (vb:Value) (h:DiskR w S p D) (hd:D.down=false) (hk:k<D.n) (hp:D.pend.length≤999999) (hv:SecV w S vb b):
  Calls Tryz.prog 33 #[.pointer (some ⟨p,0,none⟩),.int .i64 k,vb] w fun e w'=>e=.returned (.int .i64 (putD D k b).2)∧∃S',DiskR w' S' p (putD D k b).1∧Upd S S' w w':=by
 have hw:=wrong_ok w S p D k h hd hk;obtain⟨bn,bd,fn,fd,pv,xs,mv,h,rfl⟩:=h;obtain⟨⟨c0,c1,c2,c3,c4,c5,c6,c7⟩,f0,f1,f2,f3,f4,f5,f6,f7⟩:=h.blk.c8;obtain⟨n1,n2,n3,n4,n5⟩:=h.np;obtain⟨ba,bc,rfl,-⟩:=hv.sees.shape;have hk12:Hid (k≤1000000000000):=by have:=h.least;show k≤_;omega
 have HV:=zH hv;have H:=zH h;have HD:=zB hd hk hp;clear h hv hd hk hp c0 c1 c2 c3 c5 c6 c7 f0 f1 f2 f3 f5 f6 f7;go_enter Tryz.func33,Tryz.ntmps33;go_wp2_with fail;refine hw.mono ?_;rintro e w' ⟨rfl,rfl⟩;clear hw;go_upto_region 7 with (fail);have hb1:=H.out.blk.set 4 (.int .i64 (wrap64 (D.writes+1)));simp only[List.setIfInBounds_toArray,List.set_cons_zero,List.set_cons_succ] at hb1;have hc1:Chg [p] w' (w'.setCell ⟨p,4,none⟩ (.int .i64 (wrap64 (D.writes+1)))):=(Chg.refl _ _).setCell (by simp) _;generalize w'.setCell ⟨p,4,none⟩ (.int .i64 (wrap64 (D.writes+1)))=w1 at *;have h1:=H.out.reblk hb1 hc1 H.out.room;have HV1:=zH (HV.out.upd h1.2);have H1:=zH h1;clear h1 hb1 hc1 c4 f4 HV;obtain⟨⟨y0,y1,y2,y3,y4,y5,y6,y7⟩,-⟩:=H1.out.1.blk.c8;clear y0 y1 y2 y4 y5 y6 y7;obtain⟨W0,hW0⟩:∃W0,w1.drew=W0:=⟨_,rfl⟩;have c0:Chg [] w1 W0:=by rw[←hW0];exact (Chg.refl _ _).drew
 refine wp_region_U pv.ownBlock.toList (fun i=>decide (11≤i)) (by kernel_rfl) ?_;rw[hW0];clear hW0;have y3':=c0.cell_some y3 (by simp);clear y3;have C0:Chg pv.ownBlock.toList W0 W0:=Chg.refl _ _;refine tU 0 (.pointer (some ⟨p,0,none⟩)) C0 (fun w4 c4=>?_) ?_;·go_simp
 refine yG ?_;refine tU 1 (.pointer (some ⟨p,0,none⟩)) C0 (fun w4 c4=>?_) ?_;·go_simp
 refine yG ?_;refine tU 2 (.pointer (some ⟨p,0,none⟩)) C0 (fun w4 c4=>?_) ?_;·go_simp
 refine yG ?_;refine tU 3 (.pointer (some ⟨p,3,none⟩)) C0 (fun w4 c4=>?_) ?_;·go_simp
 refine yG ?_;refine tU 4 (pv) C0 (fun w4 c4=>?_) ?_
 ·have z:=c4.cell_some y3' n3;go_simp
 refine yG ?_;refine tU 5 (.int .i64 k) C0 (fun w4 c4=>?_) ?_;·go_simp
 refine yG ?_;refine tU 6 (.slice ba 256 bc) C0 (fun w4 c4=>?_) ?_;·go_simp
 refine yG ?_;refine oU 7 ?_;go_simp;refine (bclone_any W0 _ 256 b (HV1.out.sees.chg0 c0) (by decide)).mono ?_;rintro e w2 ⟨v1,rfl,hF1⟩;refine⟨hF1.chg.toS,?_⟩;refine yG ?_;obtain⟨a1,q1,rfl,-⟩:=hF1.shape;refine tU 8 (.agg #[.int .i64 k,.slice a1 256 q1]) hF1.chg.toS (fun w4 c4=>?_) ?_;·go_simp
 refine yG ?_;refine oU 9 ?_;go_simp;have hcA:Chg [] w2 (w2.alloc (.cells #[.int .i64 k,.slice a1 256 q1] 169)):=(Chg.refl [] _).alloc _;refine⟨(hF1.chg.nil hcA).toS,?_⟩;refine yG ?_;have hsrc:Sees (w2.alloc (.cells #[.int .i64 k,.slice a1 256 q1] 169)) 2 (.slice (some ⟨w2.heap.size,0,none⟩) 1 1) 1 [.int .i64 k,.slice a1 256 q1]:=Sees.blk (Blk.new _ _ _);have c02:=c0.nil (hF1.chg.nil hcA);have hown:=H1.out.1.own.chg c02 (fun _ _=>by simp);have hln:=HD.out.2.2;refine oU 10 ?_;refine wp_app _ _ 78 rfl sl_chg hown rfl hsrc rfl (by intro u hu;simp at hu;rcases hu with rfl | rfl <;> rfl) (by show (D.pend.length+1) * 32≤_;omega) (by show D.pend.length+1≤_;omega) ?_;intro pv' w3 ho3 hc3 hn3;obtain⟨ao3,cap3,rfl,-⟩:=ho3.sees.shape;refine⟨(hF1.chg.nil hcA).toS.tr hc3,?_⟩;refine yG ?_;have c13:Chg pv.ownBlock.toList w1 w3:=c02.toS.tr hc3;have hb3:=H1.out.1.blk.chg c13 n3;obtain⟨-,-,-,-,g3,-,-,-,-⟩:=hb3.c8;obtain⟨⟨-,-,-,u3,-,-,-,-⟩,-⟩:=hb3.c8;have hv3:SecV w3 (p::bn::bd::(Value.slice ao3 (D.pend.length+1) cap3).ownBlock.toList) (.slice a1 256 q1) b:=by
  have hlt:=hF1.own.lt;have hdis:Disj (eyes (.slice a1 256 q1)) pv.ownBlock.toList:=fun j hj hj'=>by
   have h1:=hF1.new j (eyes_own _ j hj);have h2:=H1.out.1.own.lt j hj';have h3:=c0.size;omega
  refine⟨((hF1.own.sees.chg0 hcA).chg hc3 hdis),fun j hj hj'=>?_⟩;have h1:=hF1.new j (eyes_own _ j hj);have h2:=hlt j (eyes_own _ j hj);have h3:=c0.size;simp only[List.mem_cons] at hj';rcases hj' with rfl | rfl | rfl | hj'
  ·have:=H1.out.1.blk.lt;omega
  ·have:=H1.out.1.now.lt;omega
  ·have:=H1.out.1.dur.lt;omega
  ·rcases hn3 j hj' with h4 | h4
   ·exact hdis j hj h4
   ·simp at h4;omega
 have HX:=zE hb3 ho3 hc3 hn3 hv3 c13;have hszA:w1.heap.size≤(w2.alloc (.cells #[.int .i64 k,.slice a1 256 q1] 169)).heap.size:=c02.size;clear hb3 ho3 hc3 hv3 hsrc hown hln hcA hn3;refine wpAnyU_last 11 rfl (by kernel_rfl) (by rfl) (by rfl) ?_;go_simp;refine yG ?_;refine wpAny_only 12 rfl (by kernel_rfl) (by rfl) ?_;go_simp;refine yG ?_;refine wpAny_only 13 rfl (by kernel_rfl) (by rfl) ?_;go_simp;refine yG ?_;refine wpAny_fin (by kernel_rfl) ?_ _;obtain⟨hb3,ho3,hc3,hn3,hv3,c13⟩:=HX.out;have hb4:=hb3.set 3 (Value.slice ao3 (D.pend.length+1) cap3);simp only[List.setIfInBounds_toArray,List.set_cons_zero,List.set_cons_succ] at hb4;obtain⟨w5,hw5⟩:∃w5,w3.setCell ⟨p,3,none⟩ (Value.slice ao3 (D.pend.length+1) cap3)=w5:=⟨_,rfl⟩;have c35:Chg [p] w3 w5:=by rw[←hw5];exact (Chg.refl _ _).setCell (by simp) _
 rw[hw5] at hb4 ⊢;have hpo:=ho3.ne hb3 (by decide);have ho5:=ho3.chg c35 (fun j hj=>by simp;rintro rfl;exact hpo hj);have h5:=H1.out.1.pended (k:=k) (b:=b) (v:=.slice a1 256 q1) hb4 ((c13.mono (fun j hj=>.inl (by simp[hj]))).tr (c35.mono (fun j hj=>.inl (by rw[List.mem_singleton.1 hj];simp)))) ho5 (fun j hj=>by
  rcases hn3 j hj with h1 | h1
  ·exact .inl h1
  ·exact .inr (Nat.le_trans hszA h1)) ⟨hv3.sees.chg c35 (fun j hj=>by simp;rintro rfl;exact hv3.off _ hj (by simp)),hv3.off⟩ HD.out.2.1
 have HV2:=zH (HV1.out.upd h5.2);have H2:=zH h5;clear hb3 ho3 hc3 hn3 hv3 c13 hb4 c35 hw5 hpo ho5 h5 HX hszA y3' hF1 c02 HV1 c0;generalize (Value.slice ao3 (D.pend.length+1) cap3)=pv2 at *;obtain⟨⟨z0,z1,z2,z3,z4,z5,z6,z7⟩,-,-,-,-,-,g5,-,-⟩:=H2.out.1.blk.c8;simp only at z5 z6;clear z0 z1 z2 z3 z4 z7;have HU:=zH (H1.out.2.trans H2.out.2);obtain⟨fl,hfl⟩:∃fl,D.falls=fl:=⟨_,rfl⟩;rw[hfl] at z5;have HFL:=zH hfl;clear hfl;have HPE:=zH HD.out.2.2;by_cases hf0:fl=0
 ·have t1:decide ((0:Int)<(fl:Int))=false:=decide_eq_false (by omega);have t1':decide (0<fl)=false:=decide_eq_false (by omega);have HF0:=zH hf0;clear hf0 g5 z6;go_upto_region 13 with (fail);obtain⟨⟨y0,y1,y2,y3,y4,y5,y6,y7⟩,-⟩:=(H2.out.1).blk.c8;clear y0 y2 y3 y4 y5 y6 y7;refine wp_region_U [] (fun i=>decide (7≤i)) (by kernel_rfl) ?_;have c0:Chg [] w5 w5.drew:=(Chg.refl _ _).drew;obtain⟨W0,hW0⟩:∃W0,w5.drew=W0:=⟨_,rfl⟩;rw[hW0] at c0 ⊢;clear hW0;have C0:Chg [] W0 W0:=Chg.refl _ _;have y1':=c0.cell_some y1 (by simp);clear y1;refine tU 0 (.pointer (some ⟨p,0,none⟩)) C0 (fun w4 c4=>?_) ?_;·go_simp
  refine yG ?_;refine tU 1 (.pointer (some ⟨p,0,none⟩)) C0 (fun w4 c4=>?_) ?_;·go_simp
  refine yG ?_;refine tU 2 (.pointer (some ⟨p,1,none⟩)) C0 (fun w4 c4=>?_) ?_;·go_simp
  refine yG ?_;refine tU 3 (.map (some bn)) C0 (fun w4 c4=>?_) ?_
  ·have z:=c4.cell_some y1' (by simp);go_simp
  refine yG ?_;refine tU 4 (.int .i64 k) C0 (fun w4 c4=>?_) ?_;·go_simp
  refine yG ?_;refine tU 5 (.slice ba 256 bc) C0 (fun w4 c4=>?_) ?_;·go_simp
  refine yG ?_;refine oU 6 ?_;go_simp;refine (bclone_any W0 _ 256 b (HV2.out.sees.chg0 c0) (by decide)).mono ?_;rintro e w7 ⟨v2,rfl,hF2⟩;refine⟨hF2.chg,?_⟩;refine yG ?_;obtain⟨a2,q2,rfl,-⟩:=hF2.shape;have c7:=c0.nil hF2.chg;refine wpAnyU_last 7 rfl (by kernel_rfl) (by rfl) (by rfl) ?_;refine wp_putF _ _ _ 77 rfl lawI Tryz.underlying77 ((H2.out.1).now.chg c7 (by simp)) rfl (goodI k hk12.out) rfl rfl ?_;intro w8 hM8 hc8;refine yG ?_;refine wpAny_fin (by kernel_rfl) ?_ _;go_wp2_with fail;go_ret;have c8:Chg [bn] w5 w8:=c7.toS.tr hc8;have hS8:=H2.out.1.nowS;have hu8:Upd (p::bn::bd::pv2.ownBlock.toList) (p::bn::bd::pv2.ownBlock.toList) w5 w8:=⟨c8.mono (fun j hj=>.inl (by rw[List.mem_singleton.1 hj];simp)),fun _ h=>.inl h⟩;have hv8:SecV w8 (p::bn::bd::pv2.ownBlock.toList) (.slice a2 256 q2) b:=by
   have hlt:=hF2.own.lt;have hin:=H2.out.1.r.lt;have hoff:Disj (eyes (.slice a2 256 q2)) (p::bn::bd::pv2.ownBlock.toList):=fun j hj hj'=>by
    have h1:=hF2.new j (eyes_own _ j hj);have h2:=hin j hj';have h3:=c0.size;omega
   exact⟨hF2.own.sees.chg hc8 (fun j hj hj'=>hoff j hj (by rw[List.mem_singleton.1 hj'];simp)),hoff⟩
  have h8:=H2.out.1.nowed c8 hM8 ((hS8.upd hu8).put k hv8);have hput:putD D k b=({ D with writes:=wrap64 (D.writes+1),pend:=D.pend++[(k,b)],now:=setS D.now k b },0):=by unfold putD;rw[if_pos (HFL.out.trans HF0.out)]
  rw[hput];exact⟨rfl,_,h8.1.r,HU.out.trans h8.2⟩
 ·have t1:decide ((0:Int)<(fl:Int))=true:=decide_eq_true (by omega);have t1':decide (0<fl)=true:=decide_eq_true (by omega);obtain⟨f2,hf2⟩:∃f2,Hid (fl=f2+1):=⟨fl - 1,by show _=_;omega⟩;clear hf0;have hbig:fl≤9223372036854775807:=by rw[←HFL.out];exact H.out.room
  have hwr:wrap64 ((fl:Int) - 1)=(f2:Int):=by have:=hf2.out;unfold wrap64;omega
  have HFB:Hid (f2≤9223372036854775807):=by have:=hf2.out;show f2≤_;omega
  clear hbig;go_upto_region 10 with (fail);have hb6:=H2.out.1.blk.set 5 (.int .i64 f2);simp only[List.setIfInBounds_toArray,List.set_cons_zero,List.set_cons_succ] at hb6;have c56:Chg [p] w5 (w5.setCell ⟨p,5,none⟩ (.int .i64 f2)):=(Chg.refl _ _).setCell (by simp) _;generalize w5.setCell ⟨p,5,none⟩ (.int .i64 f2)=w6 at *;have h6:=H2.out.1.reblk hb6 c56 HFB.out;have HV3:=zH (HV2.out.upd h6.2);have H3:=zH h6;have HU3:=zH (HU.out.trans h6.2);clear h6 hb6 c56 z5 t1 t1' hwr g5 HU HV2;obtain⟨⟨z0,z1,z2,z3,z4,z5,z7,z8⟩,-⟩:=H3.out.1.blk.c8;simp only at z5 z7;clear z0 z1 z2 z3 z4 z8 z6;by_cases h0:f2=0
  ·subst h0;have HC:=zH H3.out.1.mask;obtain⟨ma,mq,hmv,-⟩:=HC.out.1.shape;simp only at hmv;subst hmv;have hcr:=crash_up w6 _ p _ H3.out.1.r (by exact HD.out.1) (by simp;have:=HPE.out;omega) _ _ D.mask HC.out.1 HC.out.2;go_wp2_with fail;refine hcr.mono ?_;rintro e w9 ⟨rfl,S9,hR9,hU9⟩;go_wp2_with fail;go_ret;have hput:putD D k b=(crashD { D with writes:=wrap64 (D.writes+1),pend:=D.pend++[(k,b)],falls:=0 } D.mask,12):=by
    unfold putD;rw[if_neg (by have:=HFL.out;have:=hf2.out;omega),if_pos (by have:=HFL.out;have:=hf2.out;omega)]
   rw[hput];exact⟨rfl,S9,hR9,HU3.out.trans hU9⟩
  ·have t2:((f2:Int)==0)=false:=by simp;omega
   have t2':(f2==0)=false:=by simp;omega
   have HF0:=zH h0;clear h0 z7;have HV2:=HV3;clear HV3;go_upto_region 13 with (fail);obtain⟨⟨y0,y1,y2,y3,y4,y5,y6,y7⟩,-⟩:=(H3.out.1).blk.c8;clear y0 y2 y3 y4 y5 y6 y7;refine wp_region_U [] (fun i=>decide (7≤i)) (by kernel_rfl) ?_;have c0:Chg [] w6 w6.drew:=(Chg.refl _ _).drew;obtain⟨W0,hW0⟩:∃W0,w6.drew=W0:=⟨_,rfl⟩;rw[hW0] at c0 ⊢;clear hW0;have C0:Chg [] W0 W0:=Chg.refl _ _;have y1':=c0.cell_some y1 (by simp);clear y1;refine tU 0 (.pointer (some ⟨p,0,none⟩)) C0 (fun w4 c4=>?_) ?_;·go_simp
   refine yG ?_;refine tU 1 (.pointer (some ⟨p,0,none⟩)) C0 (fun w4 c4=>?_) ?_;·go_simp
   refine yG ?_;refine tU 2 (.pointer (some ⟨p,1,none⟩)) C0 (fun w4 c4=>?_) ?_;·go_simp
   refine yG ?_;refine tU 3 (.map (some bn)) C0 (fun w4 c4=>?_) ?_
   ·have z:=c4.cell_some y1' (by simp);go_simp
   refine yG ?_;refine tU 4 (.int .i64 k) C0 (fun w4 c4=>?_) ?_;·go_simp
   refine yG ?_;refine tU 5 (.slice ba 256 bc) C0 (fun w4 c4=>?_) ?_;·go_simp
   refine yG ?_;refine oU 6 ?_;go_simp;refine (bclone_any W0 _ 256 b (HV2.out.sees.chg0 c0) (by decide)).mono ?_;rintro e w7 ⟨v2,rfl,hF2⟩;refine⟨hF2.chg,?_⟩;refine yG ?_;obtain⟨a2,q2,rfl,-⟩:=hF2.shape;have c7:=c0.nil hF2.chg;refine wpAnyU_last 7 rfl (by kernel_rfl) (by rfl) (by rfl) ?_;refine wp_putF _ _ _ 77 rfl lawI Tryz.underlying77 ((H3.out.1).now.chg c7 (by simp)) rfl (goodI k hk12.out) rfl rfl ?_;intro w8 hM8 hc8;refine yG ?_;refine wpAny_fin (by kernel_rfl) ?_ _;go_wp2_with fail;go_ret;have c8:Chg [bn] w6 w8:=c7.toS.tr hc8;have hS8:=H3.out.1.nowS;have hu8:Upd (p::bn::bd::pv2.ownBlock.toList) (p::bn::bd::pv2.ownBlock.toList) w6 w8:=⟨c8.mono (fun j hj=>.inl (by rw[List.mem_singleton.1 hj];simp)),fun _ h=>.inl h⟩;have hv8:SecV w8 (p::bn::bd::pv2.ownBlock.toList) (.slice a2 256 q2) b:=by
    have hlt:=hF2.own.lt;have hin:=H3.out.1.r.lt;have hoff:Disj (eyes (.slice a2 256 q2)) (p::bn::bd::pv2.ownBlock.toList):=fun j hj hj'=>by
     have h1:=hF2.new j (eyes_own _ j hj);have h2:=hin j hj';have h3:=c0.size;omega
    exact⟨hF2.own.sees.chg hc8 (fun j hj hj'=>hoff j hj (by rw[List.mem_singleton.1 hj'];simp)),hoff⟩
   have h8:=H3.out.1.nowed c8 hM8 ((hS8.upd hu8).put k hv8);have hput:putD D k b=({ D with writes:=wrap64 (D.writes+1),pend:=D.pend++[(k,b)],falls:=f2,now:=setS D.now k b },0):=by
    have e1:=HFL.out;have e2:=hf2.out;have e3:=HF0.out;unfold putD;rw[if_neg (by omega),if_neg (by omega),show D.falls - 1=f2 by omega]
   rw[hput];exact⟨rfl,_,h8.1.r,HU3.out.trans h8.2⟩
end Go.Proofs.YtlbdklaggalgfaaGreatDoor
