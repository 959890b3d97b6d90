/- DkS DkT Quiet DkU EkA -/
import Derived.Test.YtlbdklaggalgfaaGreatDoorG23
import Derived.Test.YtlbdklaggalgfaaGreatDoorG26
set_option linter.unusedSimpArgs false
set_option linter.unusedVariables false
set_option maxHeartbeats 16000000
namespace Go.Aq
open Go.RowKit
end Go.Aq
namespace Go.Aq.Fy
def ptc (P:List (Nat×Value)):List Value:=P.flatMap fun x=>[.int .i64 x.1,x.2]
theorem ptc_at:∀(P:List (Nat×Value)) (j:Nat) (h:j<P.length),(ptc P)[j * 2]?=some (.int .i64 (P[j]'h).1)∧(ptc P)[j * 2+1]?=some (P[j]'h).2
 | [],j,h=>by simp at h
 | a::t,0,h=>by simp[ptc]
 | a::t,j+1,h=>by
  have ih:=ptc_at t j (by simpa using h);have key:∀k,(ptc (a::t))[(j+1) * 2+k]?=(ptc t)[j * 2+k]?:=fun k=>by
   show ([Value.int .i64 (a.1:Int),a.2]++ptc t)[(j+1) * 2+k]?=_;rw[List.getElem?_append_right (by simp;omega)];congr 1;simp;omega
  have k0:=key 0;have k1:=key 1;rw[Nat.add_zero,Nat.add_zero] at k0;rw[k0,k1];exact ih
theorem ptc_cells {w:World} {g off n:Nat} {P:List (Nat×Value)} (hc:∀j,j<n * 2→w.cell? ⟨g,off+j,none⟩=(ptc P)[j]?) (j:Nat) (h:j<P.length) (hn:P.length=n):
  w.cell? ⟨g,off+j * 2,none⟩=some (.int .i64 (P[j]'h).1)∧w.cell? ⟨g,off+j * 2+1,none⟩=some (P[j]'h).2:=by
 obtain⟨h0,h1⟩:=ptc_at P j h;exact⟨(hc (j * 2) (by omega)).trans h0,(hc (j * 2+1) (by omega)).trans h1⟩
structure PutsR (w:World) (S:List Nat) (v:Value) (P:List (Nat×Value)):Prop where
 row:Sees w 2 v P.length (ptc P)
 few:P.length≤4
 key:∀x∈P,23≤x.1∧x.1<27
 dis:(P.map (·.1)).Nodup
 dat:∀x∈P,∃a c b,x.2=.slice a 256 c∧Sees w 1 (.slice a 256 c) 256 (Bs b)∧Disj (eyes (.slice a 256 c)) S
 off:Disj (eyes v) S
theorem PutsR.upd {w w':World} {S S':List Nat} {v:Value} {P:List (Nat×Value)} (h:PutsR w S v P) (u:Upd S S' w w'):PutsR w' S' v P:=
 ⟨h.row.chg u.chg h.off,h.few,h.key,h.dis,fun x hx=>by
  obtain⟨a,c,b,h1,h2,h3⟩:=h.dat x hx;exact⟨a,c,b,h1,h2.chg u.chg h3,h3.upd u (h2.lt (by decide))⟩,h.off.upd u (h.row.lt (by decide))⟩
theorem PutsR.get {w:World} {S:List Nat} {v:Value} {P:List (Nat×Value)} (h:PutsR w S v P) {i:Nat} (hi:i<P.length):
  ∃g off cap k a c b,v=.slice (some ⟨g,off,none⟩) P.length cap∧P[i]?=some (k,.slice a 256 c)∧23≤k∧k<27∧w.cell? ⟨g,off+i * 2,none⟩=some (.int .i64 (k:Nat))∧w.cell? ⟨g,off+i * 2+1,none⟩=some (.slice a 256 c)∧
   Sees w 1 (.slice a 256 c) 256 (Bs b)∧Disj (eyes (.slice a 256 c)) S:=by
 obtain⟨g,off,cap,hv,-,-,hcell⟩:=h.row.cells (by omega);obtain⟨y0,y1⟩:=ptc_cells hcell i hi rfl;have hm:=List.getElem_mem hi;obtain⟨a,c,b,h1,h2,h3⟩:=h.dat _ hm;obtain⟨k1,k2⟩:=h.key _ hm;rw[h1] at y1;exact⟨g,off,cap,_,a,c,b,hv,by rw[List.getElem?_eq_getElem hi,←h1],k1,k2,y0,y1,h2,h3⟩
def High (f g:Nat→Sec):Prop:=∀k,27≤k→f k=g k
theorem High.set {f g:Nat→Sec} (h:High f g) {k:Nat} (hk:k<27) (b:Sec):High (setS f k b) g:=fun j hj=>by
 unfold setS;rw[if_neg (by omega)];exact h j hj
end Go.Aq.Fy
namespace Go.Proofs.YtlbdklaggalgfaaGreatDoor
open Go.RowKit Go.Aq Go.Aq.Fy Go.Maps
def LogE (w:World) (S:List Nat) (l p:Nat) (now:Nat→Sec) (q:Nat) (e:Ending) (w':World):Prop:=
 e=.returned (.int .i64 0)∧∃S' sq ps now',LgD w' l p sq ps∧DkR w' S' p 200 now' q∧Upd (l::S) (l::S') w w'∧l∉S'∧High now' now
theorem nou {a:Addr} {x y z:Int}:∀(i:Nat) (u:Int),(#[Value.pointer (some a),.int .i64 x,.int .i64 y,.int .i64 z]:Array Value)[i]?≠some (.int .u8 u)
 | 0,_=>by simp
 | 1,_=>by simp
 | 2,_=>by simp
 | 3,_=>by simp
 | n+4,_=>by simp
set_option maxRecDepth 100000 in
theorem dadv_ok (w:World) (S:List Nat) (l p:Nat) (now:Nat→Sec) (q n:Nat) (hl:LgD w l p 1 0) (hd:DkR w S p 200 now q) (hS:l∉S) (hq:q≤1000) (hn:n≤4):
  Calls Tryz.prog 175 #[.pointer (some ⟨l,0,none⟩),.int .i64 n] w (LogE w S l p now (q+1)):=by
 have H:=zD hl hd hS hq hn;have hne:=fun W=>needD W n (by omega)
 have hnn:need n<20:=by unfold need;split <;> omega
 generalize need n=m at *;have e1:wrap64 (m:Int)=(m:Int):=by unfold wrap64;omega
 have e2:(m:Int).tmod 20=(m:Int):=by rw[Int.tmod_eq_emod_of_nonneg (by omega)];omega
 have e2':(m:Int) % 20=(m:Int):=by omega
 have e3:IntKind.i64.wrap (m:Int)=(m:Int):=wIqD e1;have e4:IntKind.i64.wrap 2=2:=by decide
 have hhd:=fun W=>headD W 20 2 m (by decide) (by decide) (by omega)
 have HL0:Hid (∀w4,Chg S w.drew w4→LgD w4 l p 1 0):=fun w4 c=>Blk.chg (hl.chg0 ((Chg.refl [] w).drew)) c hS
 clear hl hd hS hq hn hnn;go_enter Tryz.func175,Tryz.ntmps175;go_wp2_with fail;refine wp_region_E S (by kernel_rfl) ?_;have C0:Chg S w.drew w.drew:=Chg.refl _ _;have D0:Chg [] w w.drew:=(Chg.refl [] w).drew;generalize w.drew=W0 at *;refine tE 0 (.pointer (some ⟨l,0,none⟩)) C0 (fun w4 c4=>?_) ?_;·go_simp
 refine yG ?_;refine tE 1 (.pointer (some ⟨l,0,none⟩)) C0 (fun w4 c4=>?_) ?_;·go_simp
 refine yG ?_;refine tE 2 (.pointer (some ⟨l,0,none⟩)) C0 (fun w4 c4=>?_) ?_;·go_simp
 refine yG ?_;refine tE 3 (.pointer (some ⟨p,0,none⟩)) C0 (fun w4 c4=>?_) ?_
 ·have z:=(lg4 (HL0.out w4 c4)).1;go_simp
 refine yG ?_;refine tE 4 (.pointer (some ⟨l,0,none⟩)) C0 (fun w4 c4=>?_) ?_;·go_simp
 refine yG ?_;refine tE 5 (.pointer (some ⟨l,0,none⟩)) C0 (fun w4 c4=>?_) ?_;·go_simp
 refine yG ?_;refine tE 6 (.pointer (some ⟨l,1,none⟩)) C0 (fun w4 c4=>?_) ?_;·go_simp
 refine yG ?_;refine tE 7 (.int .i64 20) C0 (fun w4 c4=>?_) ?_
 ·have z:=(lg4 (HL0.out w4 c4)).2.1;go_simp
 refine yG ?_;refine tE 8 (.pointer (some ⟨l,0,none⟩)) C0 (fun w4 c4=>?_) ?_;·go_simp
 refine yG ?_;refine tE 9 (.pointer (some ⟨l,0,none⟩)) C0 (fun w4 c4=>?_) ?_;·go_simp
 refine yG ?_;refine tE 10 (.pointer (some ⟨l,2,none⟩)) C0 (fun w4 c4=>?_) ?_;·go_simp
 refine yG ?_;refine tE 11 (.int .i64 1) C0 (fun w4 c4=>?_) ?_
 ·have z:=(lg4 (HL0.out w4 c4)).2.2.1;go_simp
 refine yG ?_;refine tE 12 (.int .i64 2) C0 (fun w4 c4=>?_) ?_;·go_simp
 refine yG ?_;refine tE 13 (.pointer (some ⟨l,0,none⟩)) C0 (fun w4 c4=>?_) ?_;·go_simp
 refine yG ?_;refine tE 14 (.pointer (some ⟨l,0,none⟩)) C0 (fun w4 c4=>?_) ?_;·go_simp
 refine yG ?_;refine tE 15 (.pointer (some ⟨l,3,none⟩)) C0 (fun w4 c4=>?_) ?_;·go_simp
 refine yG ?_;refine tE 16 (.int .i64 0) C0 (fun w4 c4=>?_) ?_
 ·have z:=(lg4 (HL0.out w4 c4)).2.2.2;go_simp
 refine yG ?_;refine tE 17 (.int .i64 n) C0 (fun w4 c4=>?_) ?_;·go_simp
 refine yG ?_;refine wpAnyE_call 18 (v:=(.int .i64 m)) C0 rfl (by kernel_rfl) (by kernel_rfl) (by kernel_rfl) (fun _ _ _ h=>h) (by rfl) (fun w4 c4=>?_) (fun w4 c4=>hne w4) ?_;·go_simp
 refine yG ?_;refine tE 19 (.int .i64 m) C0 (fun w4 c4=>?_) ?_;·go_simp
 refine yG ?_;refine tE 20 (.pointer (some ⟨l,0,none⟩)) C0 (fun w4 c4=>?_) ?_;·go_simp
 refine yG ?_;refine tE 21 (.pointer (some ⟨l,0,none⟩)) C0 (fun w4 c4=>?_) ?_;·go_simp
 refine yG ?_;refine tE 22 (.pointer (some ⟨l,1,none⟩)) C0 (fun w4 c4=>?_) ?_;·go_simp
 refine yG ?_;refine tE 23 (.int .i64 20) C0 (fun w4 c4=>?_) ?_
 ·have z:=(lg4 (HL0.out w4 c4)).2.1;go_simp
 refine yG ?_;refine tE 24 (.int .i64 m) C0 (fun w4 c4=>?_) ?_;·go_simp
 refine yG ?_;refine oE 25 ?_;go_simp;refine (hhd _).mono ?_;rintro e W2 ⟨a2,c2,rfl,hF⟩;refine⟨hF.chg.toS,?_⟩;refine yG ?_;have hw:=dwrM W0 W2 S p now q (H.out.2.1.chg0 (D0.nil hF.chg)) (by have:=H.out.2.2.2.1;omega) 0 (by decide) _ _ hF (fun k hk=>by have:=H.out.2.1.lt k hk;have:=D0.size;omega);have HF:=zH hF.chg;clear hF hhd;refine oE 26 ?_;go_simp;refine hw.mono ?_;rintro e W3 ⟨rfl,S3,h3,u3⟩;have H3:=zA h3 u3;clear h3 u3 hw;have C3:Chg S W0 W3:=HF.out.toS.tr H3.out.2.chg;refine⟨C3,?_⟩;refine yG ?_;refine tE 27 (.int .i64 0) C3 (fun w4 c4=>?_) ?_;·go_simp
 refine yG ?_;refine wpAnyE_done (by kernel_rfl) ?_ _;clear C3;have U3:Hid (Upd S S3 w W3):=⟨(D0.nil HF.out).toS.tr H3.out.2.chg,fun k hk=>by rcases H3.out.2.new k hk with h | h;exact .inl h;have:=(D0.nil HF.out).size;exact .inr (by omega)⟩;have N3:Hid (l∉S3):=fun hk=>by
  rcases U3.out.new l hk with h | h
  ·exact H.out.2.2.1 h
  ·have:l<w.heap.size:=Blk.lt H.out.1;omega
 have L3:LgD W3 l p 1 0:=Blk.chg H.out.1 U3.out.chg H.out.2.2.1;have z3:=(lg4 L3).1;have hfl:=dfl W3 S3 p _ _ H3.out.1 (by have:=H.out.2.2.2.1;omega);have HL3:=zH L3;clear L3;go_wp2_with fail;refine hfl.mono ?_;rintro e W4 ⟨rfl,S4,h4,u4⟩;have N4:Hid (l∉S4):=fun hk=>by
  rcases u4.new l hk with h | h
  ·exact N3.out h
  ·have:l<W3.heap.size:=Blk.lt HL3.out;omega
 have HL4:Hid (LgD W4 l p 1 0):=Blk.chg HL3.out u4.chg N3.out;have H4:=zA h4 (U3.out.trans u4);clear h4 u4 hfl z3;go_upto_region 5 with (fail);have D4:Chg [] W4 W4:=Chg.refl _ _;have H7:Hid (LgD ((W4.setCell ⟨l,2,none⟩ (.int .i64 2)).setCell ⟨l,3,none⟩ (.int .i64 m)).drew l p 2 m∧Chg [l] W4 ((W4.setCell ⟨l,2,none⟩ (.int .i64 2)).setCell ⟨l,3,none⟩ (.int .i64 m)).drew):=
  ⟨(((show Blk W4 l _ _ from HL4.out).set 2 (.int .i64 2)).set 3 (.int .i64 m)).drew,((((Chg.refl [l] W4).setCell (p:=⟨l,2,none⟩) (.inl (by simp)) _).setCell (p:=⟨l,3,none⟩) (.inl (by simp)) _)).drew⟩
 clear D4;obtain⟨x0,x1,x2,x3⟩:=lg4 HL4.out;have y2:=HL4.out.frozen 2;have y3:=HL4.out.frozen 3;go_region_law (first | (go_simp;go_at_call 69;refine (hne _).mono ?_;rintro e w4 ⟨rfl,rfl⟩));all_goals
  generalize ((W4.setCell ⟨l,2,none⟩ (.int .i64 2)).setCell ⟨l,3,none⟩ (.int .i64 m)).drew=W7 at *;clear x0 x1 x2 x3 y2 y3;go_wp2_with fail;go_ret;exact⟨rfl,S4,2,m,_,H7.out.1,H4.out.1.off1 HL4.out nou H7.out.2 N4.out,⟨(H4.out.2.chg.mono (fun k hk=>.inl (.tail _ hk))).tr (H7.out.2.mono (fun k hk=>.inl (by rw[List.mem_singleton.1 hk];simp))),fun k hk=>by
   rcases List.mem_cons.1 hk with rfl | hk
   ·exact .inl (.head _)
   ·rcases H4.out.2.new k hk with h | h
    ·exact .inl (.tail _ h)
    ·exact .inr h⟩,N4.out,High.set (fun _ _=>rfl) (by decide) _⟩
end Go.Proofs.YtlbdklaggalgfaaGreatDoor
namespace Go.Aq
section
open Go.RowKit
section
variable {P:Program} {ops:Array Oper} {C:World→Prop} {Q:Act→Prop} {a:Act} {o:Oper} {rest:List Oper}
theorem wp_fam {X:Type} (F:X→World) {id:Nat} {Q:Exit→Act→World→Prop} {w:World} {l:List Oper} (hm:P.follows .mixedOrders=true) (hB:Region.lexB .any l.toArray=true) (x0:X) (h0:w.drew=F x0)
  (h:wpQuiet P l.toArray (fun w'=>∃x,w'=F x) (fun a'=>∀w',(∃x,w'=F x)→Q .normal a' w') l a):(Code.region id l.toArray true).wp P Q a w:=
 wp_region_quiet (C:=fun w'=>∃x,w'=F x) hm hB ⟨x0,h0⟩ (by simpa using h)
theorem fam (C:World→Prop) (w:World) (h:C w):∃(X:Type) (_:Nonempty X) (F:X→World) (x0:X),w=F x0∧(∀x,C (F x))∧∀w',C w'→∃x,w'=F x:=
 ⟨{w // C w},⟨⟨w,h⟩⟩,Subtype.val,⟨w,h⟩,rfl,fun x=>x.2,fun w' h=>⟨⟨w',h⟩,rfl⟩⟩
theorem fam0 (w:World):∃(X:Type) (_:Nonempty X) (F:X→World) (x0:X),w.drew=F x0∧(∀x,Chg [] w (F x))∧∀w',Chg [] w w'→∃x,w'=F x:=
 fam (fun w'=>Chg [] w w') w.drew (Chg.refl [] w).drew
theorem fam_call {X:Type} {F:X→World} {w:World} (hF:∀x,Chg [] w (F x)) (hX:∀w',Chg [] w w'→∃x,w'=F x) {f:FuncId} {args:Array Value} {x:X} {v:Value}
  (h:Calls P f args (F x) fun e w'=>e=.returned v∧Chg [] (F x) w'):Calls P f args (F x) fun e w'=>e=.returned v∧∃y,w'=F y:=
 h.mono fun _ _ ⟨a,b⟩=>⟨a,hX _ ((hF x).nil b)⟩
end
end
section
theorem Upd.cons {S S':List Nat} {w w':World} (u:Upd S S' w w') (l:Nat):Upd (l::S) (l::S') w w':=⟨u.chg.mono fun k hk=>.inl (.tail _ hk),fun k hk=>by
 rcases List.mem_cons.1 hk with rfl | hk
 ·exact .inl (.head _)
 ·rcases u.new k hk with h | h
  ·exact .inl (.tail _ h)
  ·exact .inr h⟩
theorem Upd.notin {S S':List Nat} {w w':World} (u:Upd S S' w w') {l:Nat} (h:l∉S) (hl:l<w.heap.size):l∉S':=fun hk=>by
 rcases u.new l hk with h1 | h1
 ·exact h h1
 ·omega
end
end Go.Aq
namespace Go.Proofs.YtlbdklaggalgfaaGreatDoor
open Go.RowKit Go.Aq Go.Aq.Fy Go.Maps
set_option maxRecDepth 100000 in
theorem dhomes_ok (w:World) (S:List Nat) (l p:Nat) (now:Nat→Sec) (q:Nat) (v:Value) (P:List (Nat×Value)) (hl:LgD w l p 1 0) (hd:DkR w S p 200 now q) (hS:l∉S) (hP:PutsR w S v P) (hq:q≤900):
  Calls Tryz.prog 123 #[.pointer (some ⟨l,0,none⟩),v] w (LogE w S l p now (q+5)):=by
 obtain⟨ao,cap,rfl,-⟩:=hP.row.shape;have hn4:=hP.few;have H:=zD hl hd hS hP hq;clear hl hd hS hP hq;go_enter Tryz.func123,Tryz.ntmps123;go_wp2_with fail;go_loopg [5] P.length (fun gk (v5:Value) wr=>∃i:Nat,v5=.int .i64 (i:Int)∧i+gk=P.length∧Hid (∃S' now',DkR wr S' p 200 now' (q+i)∧Upd S S' w wr∧High now' now));case atStart=>exact⟨0,rfl,by omega,S,now,H.out.2.1,Upd.refl _ _,fun _ _=>rfl⟩
 case round=>
  obtain⟨i,rfl,hik,HI⟩:=hrel;obtain⟨S1,now1,h1,u1,g1⟩:=HI.out;by_cases hi:i<P.length
  ·have t1:decide ((i:Int)<(P.length:Int))=true:=decide_eq_true (by omega);have t1':decide (i<P.length)=true:=decide_eq_true hi;have i2:(i:Int)<(P.length:Int):=by omega
   have hp1:=H.out.2.2.2.1.upd u1;obtain⟨g,off,cap',k,a,c,b,hv,hPi,k1,k2,y0,y1,hs,hds⟩:=hp1.get hi;simp only[Value.slice.injEq,true_and] at hv;obtain⟨hv1,hv2⟩:=hv;subst hv1;have hg1:g∉S1:=hp1.off g (by show g∈(if P.length=0 then [] else [g]);rw[if_neg (by omega)];simp);have hl1:LgD wr l p 1 0:=Blk.chg H.out.1 u1.chg H.out.2.2.1;have hlS:=u1.notin H.out.2.2.1 (Blk.lt H.out.1);have hw3:=zH (show wrap64 ((i:Int)+1)=((i+1:Nat):Int) from by unfold wrap64;omega);have HC:Hid (∀w4,Chg S1 wr.drew w4→w4.cell? ⟨l,0,none⟩=some (.pointer (some ⟨p,0,none⟩))∧w4.cell? ⟨g,off+i * 2,none⟩=some (.int .i64 (k:Nat))∧w4.cell? ⟨g,off+i * 2+1,none⟩=some (.slice a 256 c)):=fun w4 c4=>by
    have cc:Chg S1 wr w4:=((Chg.refl _ wr).drew).tr c4;exact⟨(lg4 (Blk.chg hl1 cc hlS)).1,cc.cell_some y0 hg1,cc.cell_some y1 hg1⟩
   have hwr:=dwrite_ok wr.drew S1 p 200 now1 (q+i) (h1.chg0 ((Chg.refl [] wr).drew)) (by have:=H.out.2.2.2.2;omega) k (by omega) (by decide) (.slice a 256 c) b (hs.chg0 ((Chg.refl [] wr).drew)) hds;have HG:=zD g1 u1 hik hi k2;clear y0 y1 hs hds hg1 hl1 hlS hp1 hv2 hPi k1 k2 h1 u1 g1 hik hi HI;go_upto_region 4 with (fail);refine wp_region_E S1 (by kernel_rfl) ?_;have C0:Chg S1 wr.drew wr.drew:=Chg.refl _ _;have D0:=zH (show Chg [] wr wr.drew from (Chg.refl [] wr).drew);generalize wr.drew=W0 at *;refine tE 0 (.pointer (some ⟨l,0,none⟩)) C0 (fun w4 c4=>?_) ?_;·go_simp
   refine yG ?_;refine tE 1 (.pointer (some ⟨l,0,none⟩)) C0 (fun w4 c4=>?_) ?_;·go_simp
   refine yG ?_;refine tE 2 (.pointer (some ⟨l,0,none⟩)) C0 (fun w4 c4=>?_) ?_;·go_simp
   refine yG ?_;refine tE 3 (.pointer (some ⟨p,0,none⟩)) C0 (fun w4 c4=>?_) ?_
   ·obtain⟨z0,z1,z2⟩:=HC.out w4 c4;go_simp
   refine yG ?_;refine tE 4 (.slice (some ⟨g,off,none⟩) P.length cap) C0 (fun w4 c4=>?_) ?_;·go_simp
   refine yG ?_;refine tE 5 (.int .i64 (i:Int)) C0 (fun w4 c4=>?_) ?_;·go_simp
   refine yG ?_;refine tE 6 (.pointer (some ⟨g,off+i * 2,none⟩)) C0 (fun w4 c4=>?_) ?_;·go_simp
   refine yG ?_;refine tE 7 (.pointer (some ⟨g,off+i * 2,none⟩)) C0 (fun w4 c4=>?_) ?_;·go_simp
   refine yG ?_;refine tE 8 (.int .i64 (k:Nat)) C0 (fun w4 c4=>?_) ?_
   ·obtain⟨z0,z1,z2⟩:=HC.out w4 c4;go_simp
   refine yG ?_;refine tE 9 (.slice (some ⟨g,off,none⟩) P.length cap) C0 (fun w4 c4=>?_) ?_;·go_simp
   refine yG ?_;refine tE 10 (.int .i64 (i:Int)) C0 (fun w4 c4=>?_) ?_;·go_simp
   refine yG ?_;refine tE 11 (.pointer (some ⟨g,off+i * 2,none⟩)) C0 (fun w4 c4=>?_) ?_;·go_simp
   refine yG ?_;refine tE 12 (.pointer (some ⟨g,off+i * 2+1,none⟩)) C0 (fun w4 c4=>?_) ?_;·go_simp
   refine yG ?_;refine tE 13 (.slice a 256 c) C0 (fun w4 c4=>?_) ?_
   ·obtain⟨z0,z1,z2⟩:=HC.out w4 c4;go_simp
   refine yG ?_;refine oE 14 ?_;go_simp;refine hwr.mono ?_;rintro e W1 ⟨rfl,S2,h2,u2⟩;refine⟨u2.chg,?_⟩;refine yG ?_;refine tE 15 (.int .i64 0) u2.chg (fun w4 c4=>?_) ?_;·go_simp
   refine yG ?_;refine wpAnyE_done (by kernel_rfl) ?_ _;have HN:Hid (∃S' now',DkR W1 S' p 200 now' (q+(i+1))∧Upd S S' w W1∧High now' now):=⟨S2,_,h2,(HG.out.2.1.nil D0.out).trans u2,HG.out.1.set HG.out.2.2.2.2 _⟩;clear hwr h2 u2 HC C0;go_wp2_with fail;go_roundg (gk - 1);case measure=>have:=HG.out.2.2;omega
   case rel=>exact⟨i+1,by first | rfl | rw[hw3.out],by have:=HG.out.2.2;omega,HN.out⟩
  ·have t1:decide ((i:Int)<(P.length:Int))=false:=decide_eq_false (by omega);have t1':decide (i<P.length)=false:=decide_eq_false hi;have hl1:LgD wr l p 1 0:=Blk.chg H.out.1 u1.chg H.out.2.2.1;have z0:=(lg4 hl1).1;have hfl:=dfl wr S1 p now1 (q+i) h1 (by have:=H.out.2.2.2.2;omega);have HG:=zC g1 u1 hl1 (show i≤4 by omega);clear h1 u1 g1 hik hi HI hl1;go_wp2_with fail;refine hfl.mono ?_;rintro e W1 ⟨rfl,S2,h2,u2⟩;have U2:=HG.out.2.1.trans u2;have N2:=U2.notin H.out.2.2.1 (Blk.lt H.out.1);have ha:=dadv_ok W1 S2 l p now1 (q+i) P.length (Blk.chg H.out.1 U2.chg H.out.2.2.1) h2 N2 (by have:=H.out.2.2.2.2;have:=HG.out.2.2.2;omega) hn4;have HU:=zH U2;clear h2 u2 U2 N2 hfl z0;go_wp2_with fail;refine ha.mono ?_;rintro e W2 ⟨rfl,S3,sq,ps,now3,a1,a2,a3,a4,a5⟩;have HE:Hid (LogE w S l p now (q+5) (.returned (.int .i64 0)) W2):=⟨rfl,S3,sq,ps,now3,a1,a2.more (by have:=HG.out.2.2.2;omega),(HU.out.cons l).trans a3,a4,fun k hk=>(a5 k hk).trans (HG.out.1 k hk)⟩;clear a1 a2 a3 a4 a5 ha;go_wp2_with fail;go_ret;exact HE.out
end Go.Proofs.YtlbdklaggalgfaaGreatDoor
namespace Go.Aq
open Go.RowKit
theorem MapF.lenF {P:Program} {t k e:TypeId} {w:World} {b:Nat} {f:Value→Option Value} (h:MapF P k w b f) (ht:P.underlying t=some (.map k e)) (ty:TypeId):
  ∃m:Nat,(Builtin.len_ #[t] ty #[.map (some b)]).run P w=.ok (.int .i64 m) w∧(m=0→∀key v,f key≠some v):=by
 obtain⟨es,clock,h1,hnd,h2,h3⟩:=h;refine⟨es.size,by simp[Builtin.len_,run_underlying ht,run_obj h1];rfl,fun h0 key v hf=>?_⟩;obtain⟨e,he,-⟩:=h3 key v hf;have:es.toList=[]:=List.eq_nil_of_length_eq_zero (by simpa using h0);rw[this] at he;cases he
end Go.Aq
namespace Go.Proofs.YtlbdklaggalgfaaGreatDoor
open Go.RowKit Go.Aq.Fy Go.Maps
open Go.Aq hiding Own
set_option maxRecDepth 100000 in
theorem dfill_ok (w:World) (S:List Nat) (f p l:Nat) (v:Value) (now:Nat→Sec) (q b:Nat) (F:Value→Option Value) (T:Nat) (PC:Nat→Sec) (h:DsR w S f p l 1 0 v now q) (hm:MapF Tryz.prog 3 w b F) (hb:b∉S) (hlS:l∉S) (hfS:f∉S) (hq:q≤500) (hT:T≤173)
  (hin:∀k:Nat,k<T→∃a c,F (.int .i64 (k:Int))=some (.slice a 256 c)∧Sees w 1 (.slice a 256 c) 256 (Bs (PC k))∧Disj (eyes (.slice a 256 c)) S) (hout:∀k:Nat,T≤k→F (.int .i64 (k:Int))=none):
  Calls Tryz.prog 71 #[.pointer (some ⟨f,0,none⟩),.map (some b)] w fun e w'=>e=.returned (.int .i64 0)∧∃S' now',DkR w' S' p 200 now' (q+173)∧Upd S S' w w'∧∀k,k<T→now' (27+k)=PC k:=by
 obtain⟨m,hlen,hm0⟩:=hm.lenF Tryz.underlying76 3;have H:=zH (And.intro h (And.intro hm (And.intro hb (And.intro hlS (And.intro hfS (And.intro hq (And.intro hT (And.intro hin (And.intro hout hm0)))))))));clear h hm hb hlS hfS hq hT hin hout hm0;by_cases hmz:m=0
 ·have b0:((m:Int)==0)=true:=by simp[hmz]
  have HT0:Hid (T=0):=by
   show T=0;rcases Nat.eq_zero_or_pos T with h | h
   ·exact h
   ·obtain⟨a,c,h1,-⟩:=H.out.2.2.2.2.2.2.2.1 0 h;exact absurd h1 (H.out.2.2.2.2.2.2.2.2.2 hmz _ _)
  clear hmz;go_enter Tryz.func71,Tryz.ntmps71;go_wp2_with fail;go_ret;exact⟨rfl,S,now,H.out.1.dk.more (by omega),Upd.refl _ _,fun k hk=>by rw[HT0.out] at hk;omega⟩
 ·have b0:((m:Int)==0)=false:=by simpa using hmz
  clear hmz;go_enter Tryz.func71,Tryz.ntmps71;go_wp2_with fail;clear hlen;go_loopg [5] 173 (fun gk (v5:Value) wr=>∃i:Nat,v5=.int .i64 (i:Int)∧i+gk=173∧Hid (∃S' now',DkR wr S' p 200 now' (q+i)∧Upd S S' w wr∧∀k,k<T→k<i→now' (27+k)=PC k));case atStart=>exact⟨0,rfl,rfl,S,now,H.out.1.dk,Upd.refl _ _,fun k _ hk=>absurd hk (Nat.not_lt_zero _)⟩
  case round=>
   obtain⟨i,rfl,hik,HI⟩:=hrel;obtain⟨S1,now1,h1,u1,g1⟩:=HI.out;have hl1:LgD wr l p 1 0:=Blk.chg H.out.1.lg u1.chg H.out.2.2.2.1;have hf1:FdB wr f p l v:=Blk.chg H.out.1.fs u1.chg H.out.2.2.2.2.1;have hal:=dall_ok wr S1 f p l 1 0 v now1 (q+i) ⟨hf1,hl1,h1⟩;have HG:=zD h1 u1 g1 hl1 hf1;clear h1 u1 g1 hl1 hf1 HI;by_cases hi:i<173
   ·have t1:decide ((i:Int)<173)=true:=decide_eq_true (by omega);have hw3:=zH (show wrap64 ((i:Int)+1)=((i+1:Nat):Int) from by unfold wrap64;omega);have HK:=zA hik hi;clear hik hi;go_wp2_with fail;refine hal.mono ?_;rintro e w2 ⟨rfl,c2⟩;have hmp:=(H.out.2.1.chg HG.out.2.1.chg H.out.2.2.1).chg c2 (by simp);have LL:=(hmp.look lawI Tryz.underlying76 (zeroB8 w2) (goodI i (by have:=HK.out.2;omega))).2;have HC2:=zH c2;clear hal c2 hmp;by_cases hiT:i<T
    ·obtain⟨a,c,k1,k2,k3⟩:=H.out.2.2.2.2.2.2.2.1 i hiT;rw[k1] at LL;simp only[Option.getD_some,Option.isSome_some] at LL;have e1:wrap64 (27+(i:Int))=((27+i:Nat):Int):=by unfold wrap64;have:=HK.out.2;omega
     have e2:IntKind.i64.wrap (27+(i:Int))=((27+i:Nat):Int):=wIqD e1;have e3:IntKind.i64.wrap 23=23:=by decide
     have e4:IntKind.i64.wrap 27=27:=by decide
     have lS:=HG.out.2.1.notin H.out.2.2.2.1 (Blk.lt H.out.1.lg);have fS:=HG.out.2.1.notin H.out.2.2.2.2.1 (Blk.lt H.out.1.fs);have cc0:Chg [] wr w2.drew:=HC2.out.nil ((Chg.refl [] w2).drew);have HCF:Hid (∀w4,Chg S1 w2.drew w4→FdB w4 f p l v∧LgD w4 l p 1 0):=fun w4 c4=>⟨Blk.chg (HG.out.2.2.2.2.chg0 cc0) c4 fS,Blk.chg (HG.out.2.2.2.1.chg0 cc0) c4 lS⟩
     have hds:Disj (eyes (.slice a 256 c)) S1:=k3.upd HG.out.2.1 (k2.lt (by decide));have hwr:=dwrite_ok w2.drew S1 p 200 now1 (q+i) (HG.out.1.chg0 cc0) (by have:=H.out.2.2.2.2.2.1;have:=HK.out.2;omega) (27+i) (by have:=HK.out.2;omega) (by decide) (.slice a 256 c) (PC i) ((k2.chg HG.out.2.1.chg k3).chg0 cc0) hds;have HCC:=zH cc0;clear k1 k2 k3 lS fS cc0 hds e1;go_upto_region 8 with (fail);refine wp_region_E S1 (by kernel_rfl) ?_;have C0:Chg S1 w2.drew w2.drew:=Chg.refl _ _;generalize w2.drew=W0 at *;refine tE 0 (.pointer (some ⟨f,0,none⟩)) C0 (fun w4 c4=>?_) ?_;·go_simp
     refine yG ?_;refine tE 1 (.pointer (some ⟨f,0,none⟩)) C0 (fun w4 c4=>?_) ?_;·go_simp
     refine yG ?_;refine tE 2 (.pointer (some ⟨f,0,none⟩)) C0 (fun w4 c4=>?_) ?_;·go_simp
     refine yG ?_;refine tE 3 (.pointer (some ⟨p,0,none⟩)) C0 (fun w4 c4=>?_) ?_
     ·obtain⟨z0,z1,z2,-⟩:=fd4 (HCF.out w4 c4).1;go_simp
     refine yG ?_;refine tE 4 (.pointer (some ⟨f,0,none⟩)) C0 (fun w4 c4=>?_) ?_;·go_simp
     refine yG ?_;refine tE 5 (.pointer (some ⟨f,0,none⟩)) C0 (fun w4 c4=>?_) ?_;·go_simp
     refine yG ?_;refine tE 6 (.pointer (some ⟨f,1,none⟩)) C0 (fun w4 c4=>?_) ?_;·go_simp
     refine yG ?_;refine tE 7 (.pointer (some ⟨l,0,none⟩)) C0 (fun w4 c4=>?_) ?_
     ·obtain⟨z0,z1,z2,-⟩:=fd4 (HCF.out w4 c4).1;go_simp
     refine yG ?_;refine wpAnyE_call 8 (v:=(.int .i64 22)) C0 rfl (by kernel_rfl) (by kernel_rfl) (by kernel_rfl) (fun _ _ _ h=>h) (by rfl) (fun w4 c4=>?_) (fun w4 c4=>dhome w4 l p 1 0 (HCF.out w4 c4).2) ?_;·go_simp
     refine yG ?_;refine tE 9 (.int .i64 23) C0 (fun w4 c4=>?_) ?_;·go_simp
     refine yG ?_;refine tE 10 (.pointer (some ⟨f,0,none⟩)) C0 (fun w4 c4=>?_) ?_;·go_simp
     refine yG ?_;refine tE 11 (.pointer (some ⟨f,0,none⟩)) C0 (fun w4 c4=>?_) ?_;·go_simp
     refine yG ?_;refine tE 12 (.pointer (some ⟨f,2,none⟩)) C0 (fun w4 c4=>?_) ?_;·go_simp
     refine yG ?_;refine tE 13 (.int .i64 4) C0 (fun w4 c4=>?_) ?_
     ·obtain⟨z0,z1,z2,-⟩:=fd4 (HCF.out w4 c4).1;go_simp
     refine yG ?_;refine tE 14 (.int .i64 27) C0 (fun w4 c4=>?_) ?_;·go_simp
     refine yG ?_;refine tE 15 (.int .i64 (i:Int)) C0 (fun w4 c4=>?_) ?_;·go_simp
     refine yG ?_;refine tE 16 (.int .i64 ((27+i:Nat):Int)) C0 (fun w4 c4=>?_) ?_;·go_simp
     refine yG ?_;refine tE 17 (.slice a 256 c) C0 (fun w4 c4=>?_) ?_;·go_simp
     refine yG ?_;refine oE 18 ?_;go_simp;refine hwr.mono ?_;rintro e W1 ⟨rfl,S2,h2,u2⟩;refine⟨u2.chg,?_⟩;refine yG ?_;refine tE 19 (.int .i64 0) u2.chg (fun w4 c4=>?_) ?_;·go_simp
     refine yG ?_;refine wpAnyE_done (by kernel_rfl) ?_ _;have HN:Hid (∃S' now',DkR W1 S' p 200 now' (q+(i+1))∧Upd S S' w W1∧∀k,k<T→k<i+1→now' (27+k)=PC k):=⟨S2,_,h2,(HG.out.2.1.nil HCC.out).trans u2,fun k hk hki=>by
      unfold setS;by_cases e:k=i;·rw[if_pos (by omega),e]
      ·rw[if_neg (by omega)];exact HG.out.2.2.1 k hk (by omega)⟩
     clear hwr h2 u2 HCF C0 e2 e3 e4 LL;go_wp2_with fail;go_roundg (gk - 1);case measure=>have:=HK.out;omega
     case rel=>exact⟨i+1,by first | rfl | rw[hw3.out],by have:=HK.out;omega,HN.out⟩
    ·have k1:=H.out.2.2.2.2.2.2.2.2.1 i (by omega);rw[k1] at LL;simp only[Option.getD_none,Option.isSome_none] at LL;have HN:Hid (∃S' now',DkR w2 S' p 200 now' (q+(i+1))∧Upd S S' w w2∧∀k,k<T→k<i+1→now' (27+k)=PC k):=⟨S1,now1,(HG.out.1.chg0 HC2.out).more (by omega),HG.out.2.1.nil HC2.out,fun k hk hki=>HG.out.2.2.1 k hk (by omega)⟩;clear k1 hiT;go_wp2_with fail;go_roundg (gk - 1);case measure=>have:=HK.out;omega
     case rel=>exact⟨i+1,by first | rfl | rw[hw3.out],by have:=HK.out;omega,HN.out⟩
   ·have t1:decide ((i:Int)<173)=false:=decide_eq_false (by omega);obtain rfl:i=173:=by omega
    clear hik hi;go_wp2_with fail;refine hal.mono ?_;rintro e w2 ⟨rfl,c2⟩;have z0:=(fd4 (HG.out.2.2.2.2.chg0 c2)).1;have hfl:=dfl w2 S1 p now1 (q+173) (HG.out.1.chg0 c2) (by have:=H.out.2.2.2.2.2.1;omega);have HC2:=zH c2;clear hal c2;go_wp2_with fail;refine hfl.mono ?_;rintro e w3 ⟨rfl,S3,h3,u3⟩;have H3:=zA h3 ((HG.out.2.1.nil HC2.out).trans u3);clear h3 u3 hfl z0;go_wp2_with fail;go_ret;exact⟨rfl,S3,now1,H3.out.1,H3.out.2,fun k hk=>HG.out.2.2.1 k hk (by have:=H.out.2.2.2.2.2.2.1;omega)⟩
end Go.Proofs.YtlbdklaggalgfaaGreatDoor
