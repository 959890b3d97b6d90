/- FyL FyN FyO -/
import Derived.Test.YtlbdklaggalgfaaGreatDoorG12
set_option linter.unusedSimpArgs false
set_option linter.unusedVariables false
set_option maxHeartbeats 4000000
namespace Go.Aq.Fy
open Go.Aq Go.RowKit
theorem eachD_ok:∀(l:Puts) (D:DiskD),D.down=false→(eachD D l).2=0→(eachD D l).1.down=false∧(eachD D l).1.n=D.n
 | [],D,hd,_=>⟨hd,rfl⟩
 | (k,b)::l,D,hd,h=>by
  unfold eachD at h ⊢;split
  ·rename_i h0;rw[if_pos h0] at h;have hw:(writeD D k b).1.down=false∧(writeD D k b).1.n=D.n:=by
    unfold writeD at h0 ⊢;rw[hd] at h0 ⊢;simp only[Bool.false_eq_true,if_false] at h0 ⊢;split at h0;·cases h0
    ·rename_i h1;rw[if_neg h1];split at h0;·cases h0
     ·rename_i h2;rw[if_neg h2];rcases putD_code D k b with ⟨_,h3⟩ | h3
      ·exact⟨by rw[h3];exact hd,putD_n _ _ _⟩
      ·rw[h3] at h0;cases h0
   have ih:=eachD_ok l (writeD D k b).1 hw.1 h;exact⟨ih.1,ih.2.trans hw.2⟩
  ·rename_i h0;rw[if_neg h0] at h;exact absurd h h0
theorem writesD_ok {D:DiskD} {l:Puts} (hd:D.down=false) (h:(writesD D l).2=0):(writesD D l).1.down=false∧(writesD D l).1.n=D.n∧(writesD D l).1.pend=[]:=by
 unfold writesD at h ⊢;split
 ·rename_i h0;have h1:=eachD_ok l D hd h0;unfold flushD;rw[if_neg (by rw[h1.1];decide)];exact⟨h1.1,h1.2,rfl⟩
 ·rename_i h0;rw[if_neg h0] at h;exact absurd h h0
theorem runP_one (D:DiskD) (s:Puts):runP D [s]=writesD D s:=by
 unfold runP;split;·rename_i h;exact Prod.ext rfl h.symm
 ·rfl
theorem runP_cons (D:DiskD) (s:Puts) (l:List Puts):runP D (s::l)=if (writesD D s).2=0 then runP (writesD D s).1 l else writesD D s:=rfl
end Go.Aq.Fy
namespace Go.Proofs.YtlbdklaggalgfaaGreatDoor
open Go.RowKit Go.Aq Go.Aq.Fy Go.Maps
def RedoEnd (w:World) (S:List Nat) (l p:Nat) (R:DiskD×Nat) (L':LogD) (e:Ending) (w':World):Prop:=
 ∃d:Bool,e=.returned (.tuple #[.bool d,.int .i64 R.2])∧∃S',DiskR w' S' p R.1∧LogR w' l p L'∧l∉S'∧Upd (l::S) (l::S') w w'
set_option maxRecDepth 100000 in
theorem redo_ok (w:World) (S:List Nat) (l p:Nat) (D:DiskD) (L:LogD) (hD:DiskR w S p D) (hL:LogR w l p L) (hl:l∉S) (hd:D.down=false) (hp:D.pend.length≤700000) (h0:0<L.ring) (hr:L.ring+4≤D.n) (hpos:L.pos<65536) (hq:L.seq<281474976710655)
  (hs:∀k,k<D.n→(D.now k).length=256) (hh:∀i,i<markedN D L→atHome D L (readAt D L i)=true):
  Calls Tryz.prog 96 #[.pointer (some ⟨l,0,none⟩)] w (RedoEnd w S l p (runP D (redoP D L)) (afterL (runP D (redoP D L)).2 L (if markedN D L=0 then L else nextL L (markedN D L)))):=by
 have hle:D.n≤4096:=by obtain⟨_,_,_,_,_,_,_,hb,_⟩:=hD;exact hb.least.2
 have hn4:4≤D.n:=by obtain⟨_,_,_,_,_,_,_,hb,_⟩:=hD;exact hb.least.1
 have hmk:=marked_ok w S l p D L hD hL hd (by omega) hpos (by omega) (hs 1 (by omega));have hmn:markedN D L≤10000:=by
  unfold markedN;simp only;split
  ·rename_i h;have h2:=h.2;unfold need at h2;split at h2 <;> omega
  ·omega
 by_cases hm0:markedN D L=0
 ·have hR:redoP D L=[]:=by unfold redoP;simp[hm0]
  rw[hR];have hrun:runP D []=(D,0):=rfl;rw[hrun];rw[hm0] at hmk ⊢;have HH:=zB hD hL hl;clear hD hL hl hd hp h0 hr hpos hq hs hh hle hn4 hmn hm0 hR hrun;go_enter Tryz.func96,Tryz.ntmps96;go_wp2_with fail;refine hmk.mono ?_;rintro e w1 ⟨rfl,c1⟩;clear hmk;go_wp2_with fail;go_ret2;exact⟨false,rfl,S,HH.out.1.chg c1,HH.out.2.1.chg c1 (by simp),HH.out.2.2,⟨c1.toS,fun _ h=>.inl h⟩⟩
 ·have hall:(readL D L (markedN D L)).all (fun q=>atHome D L q.1)=true:=by
   rw[List.all_eq_true];intro q hq;simp only[readL,List.mem_map,List.mem_range] at hq;obtain⟨i,hi,rfl⟩:=hq;exact hh i hi
  have hR:redoP D L=[readL D L (markedN D L),headL (nextL L (markedN D L))]:=by unfold redoP;simp only[if_neg hm0,hall,if_true]
  rw[hR,runP_cons,runP_one];rw[if_neg hm0];obtain⟨RR,hRR⟩:∃RR,(if (writesD D (readL D L (markedN D L))).2=0 then writesD (writesD D (readL D L (markedN D L))).1 (headL (nextL L (markedN D L))) else writesD D (readL D L (markedN D L)))=RR:=⟨_,rfl⟩;rw[hRR];have HRR:=zH hRR;clear hRR;have hrd:=fun w' (c:Chg [] w w')=>readL_ok w' S l p D L (markedN D L) (hD.chg c) (hL.chg c (by simp)) hd h0 hr hpos hmn hs hh
  have hPk:∀q∈readL D L (markedN D L),q.1<D.n:=fun q hq=>by
   simp only[readL,List.mem_map,List.mem_range] at hq;obtain⟨i,hi,rfl⟩:=hq;have:=hh i hi;simp only[atHome,Bool.and_eq_true,decide_eq_true_eq] at this;exact this.2
  have hPl:=readL_length D L (markedN D L);clear hR hall hh hs;generalize readL D L (markedN D L)=P at *;generalize markedN D L=n at *;have t0:((n:Int)==0)=false:=by simp;omega
  have t0':(n==0)=false:=by simp;omega
  obtain⟨⟨c0,c1,c2,c3⟩,-⟩:=Blk.c4b hL;have HH:=zH (And.intro hD (And.intro hL (And.intro hl (And.intro hd (And.intro hp (And.intro h0 (And.intro hr (And.intro hpos (And.intro hq (And.intro hPk (And.intro hPl (And.intro hmn (And.intro hle hm0)))))))))))));clear hD hL hl hd hp h0 hr hpos hq hPk hPl hmn hle hm0 hn4 c1 c2 c3;go_enter Tryz.func96,Tryz.ntmps96;go_wp2_with fail;refine hmk.mono ?_;rintro e w1 ⟨rfl,cw1⟩;clear hmk;go_wp2_with fail;refine (hrd w1 cw1).mono ?_;rintro e w2 ⟨v2,xs,rfl,hF2,hP2⟩;obtain⟨a2,k2,rfl,-⟩:=hF2.shape;have cw2:=cw1.nil hF2.chg;have hin:=HH.out.1.lt;have hwr:=writes_ok w2 S p D (HH.out.1.chg cw2) HH.out.2.2.2.1 P (by have h1:=HH.out.2.2.2.2.1;have h2:=HH.out.2.2.2.2.2.2.2.2.2.2.1;have h3:=HH.out.2.2.2.2.2.2.2.2.2.2.2.1;omega) HH.out.2.2.2.2.2.2.2.2.2.1 (.slice a2 n k2) xs (by rw[HH.out.2.2.2.2.2.2.2.2.2.2.1];exact hF2.own.sees) hP2 (fun j hj hj'=>by
   have h1:=hF2.new j (eyes_own _ j hj);have h2:=hin j hj';have h3:=cw1.size;omega)
  have y0:=cw2.cell_some c0 (by simp);have HC:=zH cw2;clear hrd hF2 hP2 cw1 cw2 hin c0;go_wp2_with fail;refine hwr.mono ?_;rintro e w3 ⟨rfl,S3,hR3,hU3⟩;clear hwr y0;have hok:=writesD_ok (l:=P) HH.out.2.2.2.1;generalize hres:writesD D P=R at *;obtain⟨D3,c⟩:=R;simp only at hR3 hok;have hl3:l∉S3:=fun hh=>by
   rcases hU3.new l hh with h1 | h1
   ·exact HH.out.2.2.1 h1
   ·have:=Blk.lt HH.out.2.1;have:=HC.out.size;omega
  have hLR3:LogR w3 l p L:=(HH.out.2.1.chg HC.out (by simp)).chg hU3.chg HH.out.2.2.1;have hu3:Upd (l::S) (l::S3) w w3:=by
   refine⟨HC.out.toS.tr (hU3.chg.mono (fun k hk=>.inl (by simp[hk]))),fun k hk=>?_⟩;rcases List.mem_cons.1 hk with rfl | hk
   ·simp
   ·rcases hU3.new k hk with h1 | h1
    ·simp[h1]
    ·exact .inr (Nat.le_trans HC.out.size h1)
  have HR:=zD hR3 hLR3 hl3 hu3 hres;clear hR3 hLR3 hl3 hu3 hres hU3;by_cases hc0:c=0
  ·subst hc0;obtain⟨hd3,hn3,hp3⟩:=hok rfl;have hdn:=done_ok w3 S3 l p D3 L n HR.out.1 HR.out.2.1 HR.out.2.2.1 hd3 (by rw[hp3];simp) (by have:=HH.out.2.2.2.2.2.2.2.2.2.2.2.1;omega) HH.out.2.2.2.2.2.1 (by have h1:=HH.out.2.2.2.2.2.2.1;have h2:=HH.out.2.2.2.2.2.2.2.2.2.2.2.2.1;omega) HH.out.2.2.2.2.2.2.2.1 HH.out.2.2.2.2.2.2.2.2.1;clear hd3 hn3 hp3 hok;go_wp2_with fail;refine hdn.mono ?_;rintro e w4 ⟨rfl,S4,hR4,hLR4,hl4,hU4⟩;clear hdn;go_wp2_with fail;go_ret2;have e0:=HRR.out;simp only[if_true] at e0;rw[←e0];exact⟨true,rfl,S4,hR4,hLR4,hl4,HR.out.2.2.2.1.trans hU4⟩
  ·have t1:((c:Int)==0)=false:=by simp;omega
   have t1':(c==0)=false:=by simp;omega
   have HC0:=zH hc0;clear hok hc0;go_wp2_with fail;go_ret2;have e0:=HRR.out;rw[if_neg HC0.out] at e0;rw[←e0];have e2:afterL c L (nextL L n)=L:=if_neg HC0.out;show RedoEnd _ _ _ _ (D3,c) (afterL c L (nextL L n)) _ _;rw[e2];exact⟨false,rfl,S3,HR.out.1,HR.out.2.1,HR.out.2.2.1,HR.out.2.2.2.1⟩
def OpenEnd (w:World) (S:List Nat) (p:Nat) (R:DiskD×Nat) (L':LogD) (e:Ending) (w':World):Prop:=
 (R.2=0∧∃l d S',e=.returned (.tuple #[.pointer (some ⟨l,0,none⟩),.bool d,.int .i64 0])∧DiskR w' S' p R.1∧LogR w' l p L'∧l∉S'∧Upd S (l::S') w w')∨
 (R.2≠0∧e=.returned (.tuple #[.pointer none,.bool false,.int .i64 R.2])∧∃S',DiskR w' S' p R.1∧Upd S S' w w')
set_option maxRecDepth 100000 in
theorem openL_ok (w:World) (S:List Nat) (p:Nat) (D:DiskD) (L:LogD) (hD:DiskR w S p D) (hd:D.down=false) (hp:D.pend.length≤700000) (hL:headOf (D.now 0)=L) (hb:D.now 0=headB L.ring L.seq L.pos) (h0:1≤L.ring) (hr:L.ring+4≤D.n) (hpos:L.pos<L.ring) (hq:L.seq<281474976710655)
  (hs:∀k,k<D.n→(D.now k).length=256) (hh:∀i,i<markedN D L→atHome D L (readAt D L i)=true):
  Calls Tryz.prog 36 #[.pointer (some ⟨p,0,none⟩)] w (OpenEnd w S p (runP D (redoP D L)) (if markedN D L=0 then L else nextL L (markedN D L))):=by
 have hle:D.n≤4096:=by obtain⟨_,_,_,_,_,_,_,hb,_⟩:=hD;exact hb.least.2
 have hrd:=read_ok w S p D 0 hD hd (by omega);have hwn:=fun w' (c:Chg [] w w')=>wrong_no w' S p D (hD.chg c) L.ring h0 hr
 have hre:=fun w' l (hDw:DiskR w' S p D) (hLw:LogR w' l p L) (hl:l∉S)=>redo_ok w' S l p D L hDw hLw hl hd hp h0 hr (by omega) hq hs hh
 have hb0:=hs 0 (by omega);obtain⟨RR,hRR⟩:∃RR,runP D (redoP D L)=RR:=⟨_,rfl⟩;obtain⟨LN,hLN⟩:∃LN,(if markedN D L=0 then L else nextL L (markedN D L))=LN:=⟨_,rfl⟩;rw[hRR,hLN] at hre;rw[hRR,hLN];have e1:beVal (((D.now 0).drop 2).take 2)=L.ring:=by rw[←hL];rfl
 have e2:beVal (((D.now 0).drop 4).take 6)=L.seq:=by rw[←hL];rfl
 have e3:beVal (((D.now 0).drop 10).take 2)=L.pos:=by rw[←hL];rfl
 have t1:decide ((L.ring:Int)≤(L.pos:Int))=false:=decide_eq_false (by omega);have t1':decide (L.ring≤L.pos)=false:=decide_eq_false (by omega);have HH:=zD hD hb (show L.ring<65536 by omega) (show L.pos<65536 by omega) (show L.seq<281474976710656 by omega);generalize D.now 0=b at *;obtain⟨ring,seq,pos⟩:=L;simp only at e1 e2 e3 t1 t1' hwn;clear hD hd hp hL hb h0 hr hpos hq hs hh hle hRR hLN;go_enter Tryz.func36,Tryz.ntmps36;go_wp2_with fail;refine hrd.mono ?_;rintro e w1 ⟨v1,rfl,hF1⟩;obtain⟨a1,k1,rfl,-⟩:=hF1.shape;have r1:=readBig_ok w1 (.slice a1 256 k1) 256 2 2 b hF1.own.sees (by decide) (by decide) (by decide) (by decide);have r2:=readBig_ok w1 (.slice a1 256 k1) 256 4 6 b hF1.own.sees (by decide) (by decide) (by decide) (by decide);have r3:=readBig_ok w1 (.slice a1 256 k1) 256 10 2 b hF1.own.sees (by decide) (by decide) (by decide) (by decide);rw[e1] at r1;rw[e2] at r2;rw[e3] at r3;have HF:=zH hF1;clear hrd hF1 e1 e2 e3 hb0;go_wp2_with fail;refine r1.mono ?_;rintro e w2 ⟨rfl,rfl⟩;go_wp2_with fail;refine r2.mono ?_;rintro e w2 ⟨rfl,rfl⟩;go_wp2_with fail;refine r3.mono ?_;rintro e w2 ⟨rfl,rfl⟩;clear r1 r2 r3;go_wp2_with fail;refine (head_any w1 ring seq pos _ _ _ rfl rfl rfl HH.out.2.2.1 HH.out.2.2.2.2 HH.out.2.2.2.1).mono ?_;rintro e w2 ⟨v2,rfl,hF2⟩;obtain⟨a2,k2,rfl,-⟩:=hF2.shape;have heq:=equal_any w2 (.slice a1 256 k1) (.slice a2 256 k2) 256 256 b (headB ring seq pos) (HF.out.own.sees.chg0 hF2.chg) hF2.sees;rw[decide_eq_true HH.out.2.1] at heq;have cw2:=HF.out.chg.nil hF2.chg;have hw2:=hwn w2 cw2;clear hF2 hwn;go_wp2_with fail;refine heq.mono ?_;rintro e w3 ⟨rfl,hw3⟩;rw[hw3];clear hw3 w3 heq;go_wp2_with fail;refine hw2.mono ?_;rintro e w3 ⟨rfl,hw3⟩;rw[hw3];clear hw3 w3 hw2;have hlb:LogR (w2.alloc (.cells #[.pointer (some ⟨p,0,none⟩),.int .i64 ring,.int .i64 seq,.int .i64 pos] 173)) w2.heap.size p ⟨ring,seq,pos⟩:=Blk.new _ _ _;have ca:Chg [] w2 (w2.alloc (.cells #[.pointer (some ⟨p,0,none⟩),.int .i64 ring,.int .i64 seq,.int .i64 pos] 173)):=(Chg.refl [] _).alloc _;have hre2:=hre _ _ (HH.out.1.chg (cw2.nil ca)) hlb (fun hh=>by have h1:=HH.out.1.lt _ hh;have h2:=cw2.size;omega);have HC:=zA cw2 ca;clear hlb ca cw2 hre;go_wp2_with fail;refine hre2.mono ?_;rintro e w5 ⟨d,rfl,S5,hR5,hL5,hl5,hU5⟩;clear hre2;have hu:Upd S (w2.heap.size::S5) w w5:=by
  have h1:Chg S w w5:=(HC.out.1.nil HC.out.2).toS.trans hU5.chg (fun i hi=>by
   rcases List.mem_cons.1 hi with rfl | hi
   ·exact .inr HC.out.1.size
   ·exact .inl hi)
  refine⟨h1,fun k hk=>?_⟩;rcases hU5.new k hk with h2 | h2
  ·rcases List.mem_cons.1 h2 with rfl | h2
   ·exact .inr HC.out.1.size
   ·exact .inl h2
  ·exact .inr (Nat.le_trans (HC.out.1.nil HC.out.2).size h2)
 obtain⟨D5,c⟩:=RR;simp only at hR5 hL5;have HR:=zC hR5 hL5 hl5 hu;clear hR5 hL5 hl5 hu hU5;by_cases hc0:c=0
 ·subst hc0;go_wp2_with fail;refine bodyPost_ret (results_tmp3 rfl _ _ _) rfl ?_;exact .inl ⟨rfl,_,d,S5,rfl,HR.out.1,HR.out.2.1,HR.out.2.2.1,HR.out.2.2.2⟩
 ·have t2:((c:Int)==0)=false:=by simp;omega
  have t2':(c==0)=false:=by simp;omega
  have HC0:=zH hc0;clear hc0;go_wp2_with fail;refine bodyPost_ret (results_tmp3 rfl _ _ _) rfl ?_;exact .inr ⟨HC0.out,rfl,S5,HR.out.1,⟨HR.out.2.2.2.chg,fun k hk=>HR.out.2.2.2.new k (by simp[hk])⟩⟩
theorem pend_take {w:World} {S:List Nat}:∀{l:Puts} {xs:List Value},PendR w S l xs→∀i,PendR w S (l.take i) (xs.take (2 * i))
 | _,_,.nil,i=>by simp;exact .nil
 | _,_,.cons h1 h2,0=>.nil
 | _,_,.cons h1 h2,i+1=>by
  rw[show 2 * (i+1)=2 * i+1+1 by omega];simp only[List.take_succ_cons];exact .cons h1 (pend_take h2 i)
theorem puts_take {w:World} {ao:Option Addr} {m cap i:Nat} {xs:List Value} (h:Sees w 2 (.slice ao m cap) m xs) (hi:i≤m) (hx:xs.length=2 * m) (hm:0<m):Sees w 2 (.slice ao i cap) i (xs.take (2 * i)):=by
 obtain⟨h1,ao',cap',he,h2,h3,h4⟩:=h;cases he;refine⟨by simp;omega,ao,cap,rfl,by omega,fun e=>by have:=(h3 e).1;omega,fun ad had j u hu=>?_⟩;refine h4 ad had j u ?_;have hj:j<(xs.take (2 * i)).length:=(List.getElem?_eq_some_iff.1 hu).1;rw[List.getElem?_take_of_lt (by simp at hj;omega)] at hu;exact hu
theorem clo_ne (w:World) (q a:Nat) (s:Value) (K:Nat) (ao:Option Addr) (n c:Nat) (hs:s=.slice ao n c) (hK:w.cell? ⟨K,0,none⟩=some (.int .i64 a)) (hne:q≠a):
  Calls Tryz.prog 205 #[.agg #[.int .i64 q,s],.pointer (some ⟨K,0,none⟩)] w fun e w'=>e=.returned (.bool false)∧Chg [] w w':=by
 subst hs;have hb:Blk (w.alloc (.cells #[.int .i64 q,.slice ao n c] 166)) w.heap.size #[.int .i64 q,.slice ao n c] 166:=Blk.new _ _ _;have hc:Chg [] w (w.alloc (.cells #[.int .i64 q,.slice ao n c] 166)):=(Chg.refl [] w).alloc _;have x0:=hc.cell_some hK (by simp);obtain⟨⟨z0,z1⟩,-⟩:=hb.c2;have t:((q:Int)==(a:Int))=false:=by simp;omega
 have t':(q==a)=false:=by simp;omega
 have HC:=zH hc;clear hb hK hne hc;go_enter Tryz.func205,Tryz.ntmps205;go_wp2_with fail;go_ret;exact⟨rfl,HC.out⟩
set_option maxRecDepth 100000 in
theorem index_no (w:World) (S:List Nat) (l:Puts) (v:Value) (xs:List Value) (n:Nat) (hn:l.length=n) (hv:Sees w 2 v n xs) (hx:PendR w S l xs) (hb:n≤1000000) (a K:Nat) (hK:w.cell? ⟨K,0,none⟩=some (.int .i64 a)) (hne:∀q∈l,q.1≠a):
  Calls Tryz.prog 236 #[v,.func (.func 205) #[] #[.pointer (some ⟨K,0,none⟩)]] w fun e w'=>e=.returned (.int .i64 (-1))∧Chg [] w w':=by
 obtain⟨ao,cap,rfl,-⟩:=hv.shape;have HV:=zE hv hx hn hb hK hne;clear hv hx hn hb hK hne;go_enter Tryz.func236,Tryz.ntmps236;go_wp2_with fail;go_loopg [8] n (fun k vi wr=>∃(i:Nat),vi=.int .i64 i∧k=n - i∧i≤n∧Chg [] w wr);case atStart=>exact⟨0,rfl,by omega,by omega,Chg.refl _ _⟩
 case round=>
  obtain⟨i,rfl,hk,hi,hc⟩:=hrel;by_cases him:i<n
  ·have t1:decide ((i:Int)<(n:Int))=true:=decide_eq_true (by omega);have him':i<l.length:=by rw[HV.out.2.2.1];exact him
   obtain⟨g',off',cap',a5,q5,e1,hmc,x0,x1,hsv⟩:=HV.out.2.1.cells HV.out.1 HV.out.2.2.1 him';injection e1 with e1 _ e2;subst e1 e2;have y0:=hc.cell_some x0 (by simp);have y1:=hc.cell_some x1 (by simp);have hcl:=clo_ne wr (l[i]).1 a (.slice a5 256 q5) K a5 256 q5 rfl (hc.cell_some HV.out.2.2.2.2.1 (by simp)) (HV.out.2.2.2.2.2 _ (List.getElem_mem him'));have hwi:Hid (wrap64 ((i:Int)+1)=(i:Int)+1):=by have:=HV.out.2.2.2.1;show _=_;unfold wrap64;omega
   generalize (l[i]).1=qk at *;have HC:=zA hc hk;clear x0 x1 hsv hmc him' hc hk hi;go_wp2_with fail;refine hcl.mono ?_;rintro e w3 ⟨rfl,c3⟩;clear hcl y0 y1;go_wp2_with fail;go_roundg (gk - 1);case measure=>have:=HC.out.2;omega
   case rel=>
    have hi1:i+1≤n:=him;exact⟨i+1,by rw[hwi.out];rfl,by have:=HC.out.2;omega,hi1,HC.out.1.nil c3⟩
  ·have t1:decide ((i:Int)<(n:Int))=false:=decide_eq_false (by omega);go_wp2_with fail;go_ret;exact⟨rfl,hc⟩
theorem contains_no (w:World) (S:List Nat) (l:Puts) (v:Value) (xs:List Value) (n:Nat) (hn:l.length=n) (hv:Sees w 2 v n xs) (hx:PendR w S l xs) (hb:n≤1000000) (a K:Nat) (hK:w.cell? ⟨K,0,none⟩=some (.int .i64 a)) (hne:∀q∈l,q.1≠a):
  Calls Tryz.prog 204 #[v,.func (.func 205) #[] #[.pointer (some ⟨K,0,none⟩)]] w fun e w'=>e=.returned (.bool false)∧Chg [] w w':=by
 have hi:=index_no w S l v xs n hn hv hx hb a K hK hne;obtain⟨ao,cap,rfl,-⟩:=hv.shape;clear hn hv hx hb hK hne;go_enter Tryz.func204,Tryz.ntmps204;go_wp2_with fail;refine hi.mono ?_;rintro e w1 ⟨rfl,c1⟩;go_wp2_with fail;go_ret;exact⟨rfl,c1⟩
set_option maxRecDepth 100000 in
theorem may_ok (w:World) (S:List Nat) (l p:Nat) (D:DiskD) (L:LogD) (hD:DiskR w S p D) (hL:LogR w l p L) (hr:L.ring<65536) (P:Puts) (n:Nat) (hn:P.length=n) (v:Value) (xs:List Value) (hv:Sees w 2 v n xs) (hx:PendR w S P xs)
  (hb:n≤1000000) (hh:∀q∈P,atHome D L q.1=true) (hnd:(P.map (·.1)).Nodup) (hneed:need n≤L.ring):
  Calls Tryz.prog 171 #[.pointer (some ⟨l,0,none⟩),v] w fun e w'=>e=.returned (.int .i64 0)∧Chg [] w w':=by
 obtain⟨ao,cap,rfl,hcap,-⟩:=hv.shape;obtain⟨⟨c0,c1,c2,c3⟩,-⟩:=Blk.c4b hL;have hxl:=hx.length;have HH:=zH (And.intro hD (And.intro hL (And.intro hr (And.intro hn (And.intro hv (And.intro hx (And.intro hb (And.intro hh (And.intro hnd (And.intro hneed (And.intro hxl hcap)))))))))));clear hD hL hr hn hv hx hb hh hnd hneed hxl c0 c2 c3 hcap;go_enter Tryz.func171,Tryz.ntmps171;go_wp2_with fail;go_loopg [11] n (fun k vi wr=>∃(i:Nat),vi=.int .i64 i∧k=n - i∧i≤n∧Chg [] w wr);case atStart=>exact⟨0,rfl,by omega,by omega,Chg.refl _ _⟩
 case round=>
  obtain⟨i,rfl,hk,hi,hc⟩:=hrel;by_cases him:i<n
  ·have t1:decide ((i:Int)<(n:Int))=true:=decide_eq_true (by omega);have him':i<P.length:=by rw[HH.out.2.2.2.1];exact him
   obtain⟨g',off',cap',a5,q5,e1,hmc,x0,x1,hsv⟩:=HH.out.2.2.2.2.2.1.cells HH.out.2.2.2.2.1 HH.out.2.2.2.1 him';injection e1 with e1 _ e2;subst e1 e2;have y0:=hc.cell_some x0 (by simp);have y1:=hc.cell_some x1 (by simp);have hca:Chg [] wr (wr.alloc (.cells #[.int .i64 (P[i]).1,.slice a5 256 q5] 166)):=(Chg.refl [] wr).alloc _;have hbx:Blk (wr.alloc (.cells #[.int .i64 (P[i]).1,.slice a5 256 q5] 166)) wr.heap.size #[.int .i64 (P[i]).1,.slice a5 256 q5] 166:=Blk.new _ _ _;obtain⟨⟨z0,z1⟩,-⟩:=hbx.c2;have cwa:=hc.nil hca;have hhm:=home_yes _ S l p D L (P[i]).1 (HH.out.1.chg cwa) (HH.out.2.1.chg cwa (by simp)) HH.out.2.2.1 (HH.out.2.2.2.2.2.2.2.1 _ (List.getElem_mem him'));have hct:=contains_no _ S (P.take i) (.slice (some ⟨g',off',none⟩) i cap) (xs.take (2 * i)) i (by simp;omega) ((puts_take HH.out.2.2.2.2.1 hi (by have:=HH.out.2.2.2.2.2.2.2.2.2.2.1;have:=HH.out.2.2.2.1;omega) (by omega)).chg0 cwa) ((pend_take HH.out.2.2.2.2.2.1 i).upd ⟨cwa.toS,fun _ h=>.inl h⟩) (by have:=HH.out.2.2.2.2.2.2.1;omega) (P[i]).1 wr.heap.size z0 (fun q hq e=>by
    obtain⟨j,hj,rfl⟩:=List.mem_iff_getElem.1 hq;have hj':j<i:=by simp at hj;omega
    have hnd:=HH.out.2.2.2.2.2.2.2.2.1;rw[List.getElem_take] at e;have:=(List.getElem_inj (h₀:=by simp;omega) (h₁:=by simp;omega) hnd).1 (show (P.map (·.1))[j]'(by simp;omega)=(P.map (·.1))[i]'(by simp;omega) by simp[e]);omega)
   have hwi:Hid (wrap64 ((i:Int)+1)=(i:Int)+1):=by have:=HH.out.2.2.2.2.2.2.1;show _=_;unfold wrap64;omega
   have t2:Hid (i≤cap):=by have:=HH.out.2.2.2.2.2.2.2.2.2.2.2;show i≤cap;omega
   have t3:decide ((i:Int)≤(cap:Int))=true:=decide_eq_true (by have:=t2.out;omega);have t3':decide (i≤cap)=true:=decide_eq_true t2.out;generalize (P[i]).1=qk at *;have HC:=zB cwa hk hi;clear x0 x1 hsv hmc him' hc hk hi hca hbx cwa z0 z1;go_wp2_with fail;refine hhm.mono ?_;rintro e w3 ⟨rfl,hw3⟩;rw[hw3];clear hw3 w3 hhm;go_wp2_with fail;refine hct.mono ?_;rintro e w3 ⟨rfl,c3⟩;clear hct y0 y1;go_wp2_with fail;go_roundg (gk - 1);case measure=>have:=HC.out.2.1;omega
   case rel=>
    have hi1:i+1≤n:=him;exact⟨i+1,by rw[hwi.out];rfl,by have:=HC.out.2.1;omega,hi1,HC.out.1.nil c3⟩
  ·have t1:decide ((i:Int)<(n:Int))=false:=decide_eq_false (by omega);have t1':decide (i<n)=false:=decide_eq_false him;have HC:=zH hc;clear hc hk him hi;obtain⟨G,rfl⟩:∃G,G=gk:=⟨_,rfl⟩;obtain⟨wq,rfl⟩:∃wq,wq=wr:=⟨_,rfl⟩;go_wp2_with fail;go_loopg [31] n (fun k vi wr=>∃(j:Nat),vi=.int .i64 j∧k=n - j∧j≤n∧Chg [] w wr);case atStart=>exact⟨0,rfl,by omega,by omega,HC.out⟩
   case round=>
    obtain⟨j,rfl,hk,hi,hc⟩:=hrel;by_cases hjm:j<n
    ·have t2:decide ((j:Int)<(n:Int))=true:=decide_eq_true (by omega);have t2':decide (j<n)=true:=decide_eq_true hjm;have him':j<P.length:=by rw[HH.out.2.2.2.1];exact hjm
     obtain⟨g',off',cap',a5,q5,e1,hmc,x0,x1,hsv⟩:=HH.out.2.2.2.2.2.1.cells HH.out.2.2.2.2.1 HH.out.2.2.2.1 him';injection e1 with e1 _ e2;subst e1 e2;have y0:=hc.cell_some x0 (by simp);have y1:=hc.cell_some x1 (by simp);have hca:Chg [] wr (wr.alloc (.cells #[.int .i64 (P[j]).1,.slice a5 256 q5] 166)):=(Chg.refl [] wr).alloc _;have hbx:Blk (wr.alloc (.cells #[.int .i64 (P[j]).1,.slice a5 256 q5] 166)) wr.heap.size #[.int .i64 (P[j]).1,.slice a5 256 q5] 166:=Blk.new _ _ _;obtain⟨⟨z0,z1⟩,-⟩:=hbx.c2;have cwa:=hc.nil hca;have hwi:Hid (wrap64 ((j:Int)+1)=(j:Int)+1):=by have:=HH.out.2.2.2.2.2.2.1;show _=_;unfold wrap64;omega
     generalize (P[j]).1=qk at *;have HD:=zA cwa hk;clear x0 x1 hsv hmc him' hc hk hi hca hbx cwa;go_wp2_with fail;go_roundg (gk - 1);case measure=>have:=HD.out.2;omega
     case rel=>
      have hi1:j+1≤n:=hjm;exact⟨j+1,by rw[hwi.out];rfl,by have:=HD.out.2;omega,hi1,HD.out.1⟩
    ·have t2:decide ((j:Int)<(n:Int))=false:=decide_eq_false (by omega);have t2':decide (j<n)=false:=decide_eq_false hjm;have y1:=hc.cell_some c1 (by simp);have hndw:=fun w=>need_ok w (.pointer (some ⟨l,0,none⟩)) n HH.out.2.2.2.2.2.2.1
     have t3:decide ((L.ring:Int)<(need n:Int))=false:=decide_eq_false (by have:=HH.out.2.2.2.2.2.2.2.2.2.1;omega);have t3':decide (L.ring<need n)=false:=decide_eq_false (by have:=HH.out.2.2.2.2.2.2.2.2.2.1;omega);have HD:=zH hc;clear hc hk hjm hi;go_wp2_with fail;go_quiet ((exact Calls.quiet_of_same (hndw _)));go_wp2_with fail;go_ret;exact⟨rfl,HD.out.drewN nq⟩
end Go.Proofs.YtlbdklaggalgfaaGreatDoor
namespace Go.Aq.Fy
open Go.Aq Go.RowKit
theorem descs_length (l:Puts) (d:Nat):(descs l d).length=d:=by simp[descs]
theorem change_lo (L:LogD) (l:Puts) (i:Nat) (h:i<(l.length+63) / 64):(changeL L l)[i]?=some (inL L i,fill (((l.drop (64 * i)).take 64).flatMap fun p=>beB p.1 2)):=by
 unfold changeL;rw[List.getElem?_mapIdx,List.getElem?_append_left (by rw[descs_length];exact h)];simp[descs,h]
theorem change_hi (L:LogD) (l:Puts) (i:Nat) (k:Nat) (b:Sec) (h:l[i]?=some (k,b)):(changeL L l)[(l.length+63) / 64+i]?=some (inL L ((l.length+63) / 64+i),b):=by
 unfold changeL;rw[List.getElem?_mapIdx,List.getElem?_append_right (by rw[descs_length];omega),descs_length,Nat.add_sub_cancel_left];simp[h]
theorem change_length (L:LogD) (l:Puts):(changeL L l).length=(l.length+63) / 64+l.length:=by simp[changeL,descs_length]
theorem beBs_length (l:Puts):(l.flatMap fun p=>beB p.1 2).length=l.length * 2:=by
 induction l with
 | nil=>rfl
 | cons p l ih=>rw[List.flatMap_cons,List.length_append,ih,beB_length,List.length_cons];omega
end Go.Aq.Fy
namespace Go.Proofs.YtlbdklaggalgfaaGreatDoor
open Go.RowKit Go.Aq Go.Aq.Fy Go.Maps
theorem pend_drop {w:World} {S:List Nat}:∀{l:Puts} {xs:List Value},PendR w S l xs→∀i,PendR w S (l.drop i) (xs.drop (2 * i))
 | _,_,.nil,i=>by simp;exact .nil
 | _,_,.cons h1 h2,0=>.cons h1 h2
 | _,_,.cons h1 h2,i+1=>by
  rw[show 2 * (i+1)=2 * i+1+1 by omega];simp only[List.drop_succ_cons];exact pend_drop h2 i
theorem puts_part {w:World} {g off n cap q m:Nat} {xs:List Value} (h:Sees w 2 (.slice (some ⟨g,off,none⟩) n cap) n xs) (hm:q+m≤n):Sees w 2 (.slice (some ⟨g,off+q * 2,none⟩) m (cap - q)) m ((xs.drop (2 * q)).take (2 * m)):=by
 obtain⟨h1,ao',cap',he,h2,h3,h4⟩:=h;cases he;refine⟨by simp;omega,_,_,rfl,by omega,by simp,fun ad had j u hu=>?_⟩;cases had;have hj:j<((xs.drop (2 * q)).take (2 * m)).length:=(List.getElem?_eq_some_iff.1 hu).1;rw[List.getElem?_take_of_lt (by simp at hj;omega),List.getElem?_drop] at hu;have:=h4 _ rfl (2 * q+j) u hu;rw[Addr.add_lit] at this ⊢;rw[show off+q * 2+j=off+(2 * q+j) by omega];exact this
set_option maxRecDepth 100000 in
theorem change_ok (w:World) (S:List Nat) (l p:Nat) (L:LogD) (hL:LogR w l p L) (h0:0<L.ring) (hr:L.ring<65536) (hpos:L.pos<65536) (P:Puts) (n:Nat) (hn:P.length=n) (v:Value) (xs:List Value) (hv:Sees w 2 v n xs) (hx:PendR w S P xs)
  (hb:n≤10000) (hk:∀q∈P,q.1<65536) (hS:In w S):
  Calls Tryz.prog 172 #[.pointer (some ⟨l,0,none⟩),v] w fun e w'=>∃v' ys,e=.returned v'∧Fresh w w' 166 2 v' (changeL L P).length ys∧PendR w' S (changeL L P) ys:=by
 obtain⟨ao,cap,rfl,hcap,-⟩:=hv.shape;have hQl:=change_length L P;have hQlo:=change_lo L P;have hQhi:=change_hi L P;rw[hn] at hQl hQlo hQhi;obtain⟨d,hd⟩:∃d,(n+63) / 64=d:=⟨_,rfl⟩;rw[hd] at hQl hQlo hQhi;rw[hQl];have HQ:=zB hQl hQlo hQhi;generalize changeL L P=Q at *;have HH:=zH (And.intro hL (And.intro h0 (And.intro hr (And.intro hpos (And.intro hn (And.intro hv (And.intro hx (And.intro hb (And.intro hk (And.intro hS (And.intro hcap (And.intro hd hx.length))))))))))));clear hL h0 hr hpos hn hv hx hb hk hS hcap hQl hQlo hQhi hd;go_enter Tryz.func172,Tryz.ntmps172;go_wp2_with fail;go_loopg [5,6] d (fun k (v5 v6:Value) wr=>∃(j q:Nat) (ys:List Value),v6=.int .i64 (q:Int)∧Hid (q=64 * j∧j≤d∧k=d - j)∧Fresh w wr 166 2 v5 j ys∧PendR wr (v5.ownBlock.toList++S) (Q.take j) ys);case atStart=>exact⟨0,0,[],rfl,⟨rfl,by omega,by omega⟩,Fresh.nil _ _ _,.nil⟩
 case round=>
  obtain⟨j,q,ys,rfl,hJ,hF,hP⟩:=hrel;by_cases hqn:q<n
  ·have t1:decide ((q:Int)<(n:Int))=true:=decide_eq_true (by omega);have t1':decide (q<n)=true:=decide_eq_true hqn;obtain⟨v5a,v5c,rfl,-⟩:=hF.shape;obtain⟨m,hm⟩:∃m,m=min 64 (n - q):=⟨_,rfl⟩;have hn4:=HH.out.2.2.2.2.2.2.2.1;have hcp:=HH.out.2.2.2.2.2.2.2.2.2.2.1;have e1:wrap64 ((q:Int)+64)=((q+64:Nat):Int):=by unfold wrap64;omega
   have e2:min ((q+64:Nat):Int) (n:Int)=((q+m:Nat):Int):=by omega
   have t3:decide ((q+m:Nat)≤cap)=true:=decide_eq_true (by omega);have t3':decide (((q+m:Nat):Int)≤(cap:Int))=true:=decide_eq_true (by omega);have t4:decide (q≤q+m)=true:=decide_eq_true (by omega);have t4':decide ((q:Int)≤((q+m:Nat):Int))=true:=decide_eq_true (by omega);have hpos:0<m:=by omega
   obtain⟨g,off,cap',hs,-,-,-⟩:=HH.out.2.2.2.2.2.1.cells (by omega);injection hs with hs1 _ hs2;subst hs1 hs2;have hsub:q+m - q=m:=by omega
   have hcq:¬(cap=q):=by omega
   have p1:q≤q+m:=by omega
   have p2:q+m≤cap:=by omega
   have p1':(q:Int)≤((q+m:Nat):Int):=by omega
   have p2':((q+m:Nat):Int)≤(cap:Int):=by omega
   have HM:=zD hm hn4 hcp hpos hqn;generalize hqm:q+m=qm at *;have HQM:=zH hqm;generalize hq64:q+64=q6 at *;clear hm hn4 hcp hpos hqm hq64;obtain⟨C,hC⟩:∃C,(P.drop q).take 64=C:=⟨_,rfl⟩;have hCl:C.length=m:=by rw[←hC];simp;have h1:=HM.out.1;have h2:=HH.out.2.2.2.2.1;omega
   have hCx:PendR w S C ((xs.drop (2 * q)).take (2 * 64)):=by rw[←hC];exact pend_take (pend_drop HH.out.2.2.2.2.2.2.1 q) 64
   have hxe:(xs.drop (2 * q)).take (2 * m)=(xs.drop (2 * q)).take (2 * 64):=by
    have h1:=HM.out.1;have h2:=HH.out.2.2.2.2.2.2.2.2.2.2.2.2;have h3:=HH.out.2.2.2.2.1;by_cases h:n - q≤64;·rw[List.take_of_length_le (by simp;omega),List.take_of_length_le (by simp;omega)]
    ·rw[show m=64 by omega]
   have hCs:Sees w 2 (.slice (some ⟨g,off+q * 2,none⟩) m (cap - q)) m ((xs.drop (2 * q)).take (2 * 64)):=by
    rw[←hxe];exact puts_part HH.out.2.2.2.2.2.1 (by have h1:=HM.out.1;have h2:=HM.out.2.2.2.2;omega)
   have hCk:∀t∈C,t.1<65536:=fun t ht=>HH.out.2.2.2.2.2.2.2.2.1 t (by rw[←hC] at ht;exact List.mem_of_mem_drop (List.mem_of_mem_take ht))
   have HC:=zD hCl hCx hCs hCk hC;have HO:=zA hF hP;clear hC hCl hCx hxe hCs hCk hF hP;go_wp2_with fail;clear e1 e2 t3 t3' t4 t4' hsub hcq p1 p2 p1' p2';obtain⟨G,rfl⟩:∃G,G=gk:=⟨_,rfl⟩;obtain⟨wq,rfl⟩:∃wq,wq=wr:=⟨_,rfl⟩;go_loopg [7,27] m (fun k (v7 v27:Value) wi=>∃(i:Nat),v27=.int .i64 (i:Int)∧i≤m∧k=m - i∧Fresh wq wi 5 1 v7 (i * 2) (Bs ((C.take i).flatMap fun p=>beB p.1 2)));case atStart=>exact⟨0,rfl,by omega,by omega,Fresh.nil _ _ _⟩
   case round=>
    obtain⟨i,rfl,hi,hk1,hB⟩:=hrel;by_cases him:i<m
    ·have t3:decide ((i:Int)<(m:Int))=true:=decide_eq_true (by omega);have t3':decide (i<m)=true:=decide_eq_true him;have him':i<C.length:=by rw[HC.out.1];exact him
     obtain⟨v7a,v7c,rfl,-⟩:=hB.shape;obtain⟨g',off',cap',a5,q5,e1,hmc,x0,x1,hsv⟩:=HC.out.2.1.cells HC.out.2.2.1 HC.out.1 him';injection e1 with e1 _ e2;injection e1 with e1;injection e1 with e1 e1' _;subst e1;have cwi:Chg [] w wr:=HO.out.1.chg.nil hB.chg;have y0:=cwi.cell_some x0 (by simp);have y1:=cwi.cell_some x1 (by simp);rw[←e1'] at y0 y1;have hkk:=HC.out.2.2.2.1 _ (List.getElem_mem him');have hst:C.take (i+1)=C.take i++[C[i]]:=List.take_succ_eq_append_getElem him';generalize C[i]=pt at *;obtain⟨pk,pb⟩:=pt;simp only at y0 hkk;have hca:Chg [] wr (wr.alloc (.cells #[.int .i64 pk,.slice a5 256 q5] 166)):=(Chg.refl [] wr).alloc _;have hbx:Blk (wr.alloc (.cells #[.int .i64 pk,.slice a5 256 q5] 166)) wr.heap.size #[.int .i64 pk,.slice a5 256 q5] 166:=Blk.new _ _ _;obtain⟨⟨z0,z1⟩,-⟩:=hbx.c2;have hbg:=bigW (wr.alloc (.cells #[.int .i64 pk,.slice a5 256 q5] 166)) pk 2 pk rfl (by decide) (by decide) (bes_lt pk 2 65536 hkk (by decide));have hBa:=hB.to hca;have hwi:Hid (wrap64 ((i:Int)+1)=(i:Int)+1):=by have h1:=HM.out.1;show _=_;unfold wrap64;omega
     have him64:i≤64:=by have h1:=HM.out.1;omega
     have HT:=zB hk1 hst him64;clear x0 x1 hsv hmc him' hk1 hi hca hbx cwi hst hkk e1' e2 hB him64;go_wp2_with fail;refine hbg.mono ?_;rintro e w3 ⟨g3,rfl,f3⟩;have hB3:=hBa.to f3.chg;clear hbg hBa y0 y1 z0 z1;go_wp2_with (at_builtin;refine wpList_appF (w0:=wq) rfl _ _ 38 rfl sl_u8y hB3 rfl f3.own.sees rfl (Bs_one _) (by have:=HT.out.2.2;omega) (by have:=HT.out.2.2;omega) ?_;intro v9 w9 hF9 c9);go_roundg (gk - 1);case measure=>have:=HT.out.1;omega
     case rel=>
      have hi1:i+1≤m:=him;refine⟨i+1,by rw[hwi.out];rfl,hi1,by have:=HT.out.1;omega,?_⟩;rw[HT.out.2.1,List.flatMap_append,Bs_append,show (i+1) * 2=i * 2+2 by omega];simpa using hF9
    ·have t3:decide ((i:Int)<(m:Int))=false:=decide_eq_false (by omega);have t3':decide (i<m)=false:=decide_eq_false him;have e:i=m:=by omega
     subst e;obtain⟨v7a,v7c,hv7,-⟩:=hB.shape;obtain⟨g7,c7,rfl,-,-,-⟩:=hB.own.pos (by have:=HM.out.2.2.2.1;omega);clear hv7;have hCi:C.take i=C:=List.take_of_length_le (by rw[HC.out.1];exact Nat.le_refl _);rw[hCi] at hB;have hbl:(C.flatMap fun p=>beB p.1 2).length=i * 2:=by rw[beBs_length,HC.out.1]
     have hfl:Q[j]?=some (inL L j,fill ([]++C.flatMap fun p=>beB p.1 2)):=by
      have h1:=HQ.out.2.1 j (by have h2:=hJ.out.1;have h3:=HM.out.2.2.2.2;have h4:=HH.out.2.2.2.2.2.2.2.2.2.2.2.1;omega);rw[←hJ.out.1,HC.out.2.2.2.2] at h1;exact h1
     have cwr:Chg [] w wr:=HO.out.1.chg.nil hB.chg;have hij:j≤10000:=by have h1:=hJ.out.1;have h2:=HM.out.2.2.2.2;have h3:=HM.out.2.1;omega
     have hi64:0<i∧i≤64:=by have h1:=HM.out.1;have h2:=HM.out.2.2.2.1;omega
     have hin1:=in_ok wr l p L (HH.out.1.chg cwr (by simp)) j (by omega) HH.out.2.2.1 HH.out.2.2.2.1 HH.out.2.1;have HB:=zE hB hbl hfl cwr hij hi64;clear hB hbl hfl cwr hij hi64 hCi him hk1 hi;go_wp2_with fail;refine hin1.mono ?_;rintro e w3 ⟨rfl,q3,hq3⟩;have c3:Chg [] wr w3:=by rw[hq3];exact (Chg.refl _ _).drewN q3
     clear hq3 hin1;generalize inL L j=s1 at *;obtain⟨bb,hbb⟩:∃bb,(C.flatMap fun p=>beB p.1 2)=bb:=⟨_,rfl⟩;rw[hbb] at HB;have hbx:Blk (w3.alloc (.cells #[.slice (some ⟨g7,0,none⟩) (i * 2) c7] 38)) w3.heap.size #[.slice (some ⟨g7,0,none⟩) (i * 2) c7] 38:=Blk.new _ _ _;have hca:Chg [] w3 (w3.alloc (.cells #[.slice (some ⟨g7,0,none⟩) (i * 2) c7] 38)):=(Chg.refl [] _).alloc _;have hsec:=sector_by (w3.alloc (.cells #[.slice (some ⟨g7,0,none⟩) (i * 2) c7] 38)) [] w3.heap.size 0 1 1 bb (by have h1:=HB.out.2.1;have h2:=HB.out.2.2.2.2.2.2;simp;omega) (fun w' c=>by
      have hsb:=((HB.out.1.own.sees.chg0 c3).chg0 hca).chg0 c;have h:=Tryz.bytes_Join_one w3.heap.size 0 1 ⟨g7,0,none⟩ c7 bb (.slice none 0 0) w' (by have:=(hbx.chg0 c).cell 0;rw[HB.out.2.1];exact this) (fun t x hx=>by
       obtain⟨_,ao,cc,he,_,_,hcc⟩:=hsb;cases he;obtain⟨ht,rfl⟩:=List.getElem?_eq_some_iff.1 hx;exact hcc _ rfl t _ (Bs_get bb t ht)) (by have h1:=HB.out.2.1;have h2:=HB.out.2.2.2.2.2.1;omega) (by have h1:=HB.out.2.1;have h2:=HB.out.2.2.2.2.2.2;omega)
      exact h)
     have HS:=zH (c3.nil hca);clear hbx c3 hca hbb;go_wp2_with fail;refine hsec.mono ?_;rintro e w4 ⟨v4,rfl,hF4⟩;obtain⟨a4,k4,rfl,-⟩:=hF4.shape;clear hsec;have c4:Chg [] wr w4:=HS.out.nil hF4.chg;have hca:Chg [] w4 (w4.alloc (.cells #[.int .i64 s1,.slice a4 256 k4] 166)):=(Chg.refl [] _).alloc _;have hbx:Blk (w4.alloc (.cells #[.int .i64 s1,.slice a4 256 k4] 166)) w4.heap.size #[.int .i64 s1,.slice a4 256 k4] 166:=Blk.new _ _ _;have hsrc:Sees (w4.alloc (.cells #[.int .i64 s1,.slice a4 256 k4] 166)) 2 (.slice (some ⟨w4.heap.size,0,none⟩) 1 1) 1 [.int .i64 s1,.slice a4 256 k4]:=Sees.blk hbx;have hone:∀u∈[Value.int .i64 s1,.slice a4 256 k4],u.oneCell'=true:=by intro u hu;simp at hu;rcases hu with rfl | rfl <;> rfl
     have hFa:=HO.out.1.to ((HB.out.1.chg.nil c4).nil hca);have hj4:=HB.out.2.2.2.2.1;have HF4:=zB hF4 c4 hca;clear hF4 c4 hbx hca;go_wp2_with (at_builtin;refine wpList_app rfl _ _ 108 rfl sl_put hFa.own rfl hsrc rfl hone (by omega) (by omega) ?_;intro v8 w8 ho8 c8 hn8);have hF8:=hFa.app ho8 c8 hn8;go_roundg (G - 1);case measure=>
      have h1:=hJ.out;have h3:=HM.out.2.2.2.2;have h4:=HH.out.2.2.2.2.2.2.2.2.2.2.2.1;omega
     case rel=>
      have h1:=hJ.out;have h3:=HM.out.2.2.2.2;have h4:=HH.out.2.2.2.2.2.2.2.2.2.2.2.1;have hqw:wrap64 ((q:Int)+64)=((q+64:Nat):Int):=by have h5:=HM.out.2.1;unfold wrap64;omega
      have cwq:Chg [] wq w4:=HB.out.1.chg.nil HF4.out.2.1;have hw4:=cwq.size;have hwa:=HF4.out.2.2.size;have h6:=HO.out.1.own.lt;have hS:=HH.out.2.2.2.2.2.2.2.2.2.1;have hcw:=HO.out.1.chg.size;have hF4:=HF4.out.1;have hlt4:=hF4.own.lt;have hsz3:=HS.out.size;have hszr:=HB.out.1.chg.size;have c48:Chg (Value.slice v5a j v5c).ownBlock.toList w4 w8:=HF4.out.2.2.toS.tr c8;have hu:Upd ((Value.slice v5a j v5c).ownBlock.toList++S) (v8.ownBlock.toList++S) wq w8:=⟨(cwq.toS.tr c48).mono (fun k hk=>.inl (by simp[hk])),fun k hk=>by
       rcases List.mem_append.1 hk with hk | hk
       ·rcases hn8 k hk with h1 | h1
        ·exact .inl (by simp[h1])
        ·exact .inr (by omega)
       ·exact .inl (by simp[hk])⟩
      have hnew4:=hF4.new;have hsv:SecV w8 (v8.ownBlock.toList++S) (.slice a4 256 k4) (fill ([]++bb)):=by
       have hoff:Disj (eyes (.slice a4 256 k4)) (Value.slice v5a j v5c).ownBlock.toList:=fun t ht ht'=>by
        have h1:=hnew4 t (eyes_own _ t ht);have h2:=h6 t ht';omega
       refine⟨(hF4.sees.chg0 HF4.out.2.2).chg c8 hoff,fun t ht ht'=>?_⟩;have h1:=hnew4 t (eyes_own _ t ht);have h3:=hlt4 t (eyes_own _ t ht);rcases List.mem_append.1 ht' with ht' | ht'
       ·rcases hn8 t ht' with h2 | h2
        ·exact hoff t ht h2
        ·simp at h2;omega
       ·have h2:=hS t ht';omega
      have hst:Q.take (j+1)=Q.take j++[(s1,fill ([]++bb))]:=by rw[List.take_add_one,HB.out.2.2.1];rfl
      refine⟨j+1,q+64,ys++[.int .i64 s1,.slice a4 256 k4],by first | rfl | (rw[hqw];rfl) | (rw[hqw]),⟨by omega,by omega,by omega⟩,hF8,?_⟩;rw[hst];exact PendR.snoc hsv (HO.out.2.upd hu)
  ·have t1:decide ((q:Int)<(n:Int))=false:=decide_eq_false (by omega);have t1':decide (q<n)=false:=decide_eq_false hqn;have hjd:j=d:=by
    have h1:=hJ.out;have h2:=HH.out.2.2.2.2.2.2.2.2.2.2.2.1;omega
   subst hjd;have HO:=zA hF hP;obtain⟨v5a,v5c,rfl,-⟩:=hF.shape;clear hF hP;obtain⟨G,rfl⟩:∃G,G=gk:=⟨_,rfl⟩;obtain⟨wq,rfl⟩:∃wq,wq=wr:=⟨_,rfl⟩;go_wp2_with fail;go_loopg [5,50] n (fun k (v5 v50:Value) wr=>∃(i:Nat) (ys:List Value),v50=.int .i64 (i:Int)∧i≤n∧k=n - i∧Fresh w wr 166 2 v5 (j+i) ys∧PendR wr (v5.ownBlock.toList++S) (Q.take (j+i)) ys);case atStart=>exact⟨0,ys,rfl,by omega,by omega,HO.out.1,HO.out.2⟩
   case round=>
    obtain⟨i,zs,rfl,hi,hk1,hF,hP⟩:=hrel;by_cases him:i<n
    ·have t2:decide ((i:Int)<(n:Int))=true:=decide_eq_true (by omega);have t2':decide (i<n)=true:=decide_eq_true him;have him':i<P.length:=by rw[HH.out.2.2.2.2.1];exact him
     obtain⟨v6a,v6c,rfl,-⟩:=hF.shape;obtain⟨g',off',cap',a5,q5,e1,hmc,x0,x1,hsv⟩:=HH.out.2.2.2.2.2.2.1.cells HH.out.2.2.2.2.2.1 HH.out.2.2.2.2.1 him';injection e1 with e1 _ e2;subst e1 e2;have y0:=hF.chg.cell_some x0 (by simp);have y1:=hF.chg.cell_some x1 (by simp);have hfl:Q[j+i]?=some (inL L (j+i),(P[i]).2):=by
      have h1:=HQ.out.2.2 i (P[i]).1 (P[i]).2 (by rw[List.getElem?_eq_getElem him']);exact h1
     generalize P[i]=pt at *;obtain⟨pk,pb⟩:=pt;simp only at y0 hsv hfl;have hji:j+i≤20200:=by have h1:=hJ.out.1;have h2:=HH.out.2.2.2.2.2.2.2.2.2.2.2.1;have h3:=HH.out.2.2.2.2.2.2.2.1;omega
     have hca:Chg [] wr (wr.alloc (.cells #[.int .i64 pk,.slice a5 256 q5] 166)):=(Chg.refl [] wr).alloc _;have hbx:Blk (wr.alloc (.cells #[.int .i64 pk,.slice a5 256 q5] 166)) wr.heap.size #[.int .i64 pk,.slice a5 256 q5] 166:=Blk.new _ _ _;have hwi:Hid (wrap64 ((i:Int)+1)=(i:Int)+1):=by have h1:=HH.out.2.2.2.2.2.2.2.1;show _=_;unfold wrap64;omega
     have HT:=zF hk1 hfl hji hsv hF hP hca;clear x0 x1 hmc him' hk1 hi hfl hji hsv hF hP;go_upto_region 15 with (fail);have z1:=hbx.cell 1;clear y0 y1 hbx hca;obtain⟨K,hK⟩:∃K,wr.heap.size=K:=⟨_,rfl⟩;rw[hK] at z1 ⊢;obtain⟨wA,hwA⟩:∃wA,wr.alloc (.cells #[.int .i64 pk,.slice a5 256 q5] 166)=wA:=⟨_,rfl⟩;rw[hwA] at z1 HT ⊢;have hFA:=HT.out.2.2.2.2.1.to HT.out.2.2.2.2.2.2;have hKv:K∉(Value.slice v6a (j+i) v6c).ownBlock.toList:=fun hh=>by have:=HT.out.2.2.2.2.1.own.lt K hh;omega
     have hin1:=fun w' (c:Chg [] w w')=>in_ok w' l p L (HH.out.1.chg c (by simp)) (j+i) (by have:=HT.out.2.2.1;omega) HH.out.2.2.1 HH.out.2.2.2.1 HH.out.2.1
     generalize inL L (j+i)=s1 at *;obtain⟨W0,hW0⟩:∃W0,wA.drew=W0:=⟨_,rfl⟩;have cd:Chg [] wA W0:=by rw[←hW0];exact (Chg.refl _ _).drew
     refine wp_region_U (Value.slice v6a (j+i) v6c).ownBlock.toList (fun _=>false) (by kernel_rfl) ?_;rw[hW0];clear hW0;have C0:Chg (Value.slice v6a (j+i) v6c).ownBlock.toList W0 W0:=Chg.refl _ _;have z1':=cd.cell_some z1 (by simp);refine tU 0 (.slice v6a (j+i) v6c) C0 (fun w4 c4=>?_) ?_;·go_simp
     refine yG ?_;refine tU 1 (.pointer (some ⟨l,0,none⟩)) C0 (fun w4 c4=>?_) ?_;·go_simp
     refine yG ?_;refine tU 2 (.slice v6a (j+i) v6c) C0 (fun w4 c4=>?_) ?_;·go_simp
     refine yG ?_;refine tU 3 (.int .i64 (j+i:Nat)) C0 (fun w4 c4=>?_) ?_;·go_simp
     refine yG ?_;refine tU 5 (.pointer (some ⟨K,1,none⟩)) C0 (fun w4 c4=>?_) ?_;·go_simp
     refine yG ?_;refine tU 6 (.slice a5 256 q5) C0 (fun w4 c4=>?_) ?_
     ·have z:=c4.cell_some z1' hKv;go_simp
     refine yG ?_;refine oU 4 ?_;go_simp;refine (hin1 W0 (hFA.chg.nil cd)).mono ?_;rintro e w1 ⟨rfl,q1,hq1⟩;have c1:Chg [] W0 w1:=by rw[hq1];exact (Chg.refl _ _).drewN q1
     clear hq1 hin1;refine⟨c1.toS,?_⟩;refine yG ?_;refine tU 7 (.agg #[.int .i64 s1,.slice a5 256 q5]) c1.toS (fun w4 c4=>?_) ?_;·go_simp
     refine yG ?_;refine oU 8 ?_;go_simp;have hca:Chg [] w1 (w1.alloc (.cells #[.int .i64 s1,.slice a5 256 q5] 166)):=(Chg.refl [] _).alloc _;have hbx:Blk (w1.alloc (.cells #[.int .i64 s1,.slice a5 256 q5] 166)) w1.heap.size #[.int .i64 s1,.slice a5 256 q5] 166:=Blk.new _ _ _;have hsrc:Sees (w1.alloc (.cells #[.int .i64 s1,.slice a5 256 q5] 166)) 2 (.slice (some ⟨w1.heap.size,0,none⟩) 1 1) 1 [.int .i64 s1,.slice a5 256 q5]:=Sees.blk hbx;refine⟨(c1.nil hca).toS,?_⟩;refine yG ?_;have cA:Chg [] wA (w1.alloc (.cells #[.int .i64 s1,.slice a5 256 q5] 166)):=(cd.nil c1).nil hca;have hFa:=hFA.to cA;have hji:=HT.out.2.2.1;refine oU 9 ?_;refine wp_app _ _ 108 rfl sl_put hFa.own rfl hsrc rfl (by intro u hu;simp at hu;rcases hu with rfl | rfl <;> rfl) (by omega) (by omega) ?_;intro v8 w8 ho8 c8 hn8;have hF8:=hFa.app ho8 c8 hn8;have cW8:=(c1.nil hca).toS.tr c8;refine⟨cW8,?_⟩;refine yG ?_;refine tU 10 (v8) cW8 (fun w4 c4=>?_) ?_;·go_simp
     refine yG ?_;refine wpAnyU_done (by kernel_rfl) ?_ _;have cwr:Chg [] wr (w1.alloc (.cells #[.int .i64 s1,.slice a5 256 q5] 166)):=HT.out.2.2.2.2.2.2.nil cA;have HZ:=zC hF8 cwr c8 hn8;clear hF8 cwr c8 hn8 ho8 cW8 hFa hji cA hsrc hbx hca c1 z1 z1' C0 cd hFA hKv;go_wp2_with fail;go_roundg (gk - 1);case measure=>have:=HT.out.1;omega
     case rel=>
      have hi1:i+1≤n:=him;have hk1:=HT.out.1;have hszw:=HZ.out.2.1.size;have hS:=HH.out.2.2.2.2.2.2.2.2.2.1;have hcw:=HT.out.2.2.2.2.1.chg.size;have hu:Upd ((Value.slice v6a (j+i) v6c).ownBlock.toList++S) (v8.ownBlock.toList++S) wr w8:=⟨(HZ.out.2.1.toS.tr HZ.out.2.2.1).mono (fun k hk=>.inl (by simp[hk])),fun k hk=>by
       rcases List.mem_append.1 hk with hk | hk
       ·rcases HZ.out.2.2.2 k hk with h1 | h1
        ·exact .inl (by simp[h1])
        ·exact .inr (by omega)
       ·exact .inl (by simp[hk])⟩
      have hlt5:=HT.out.2.2.2.1.sees.lt (by decide);have hnew6:=HT.out.2.2.2.2.1.new;have hsv:SecV w8 (v8.ownBlock.toList++S) (.slice a5 256 q5) pb:=by
       have hoff:Disj (eyes (.slice a5 256 q5)) (Value.slice v6a (j+i) v6c).ownBlock.toList:=fun t ht ht'=>by
        have h1:=hlt5 t ht;have h2:=hnew6 t ht';omega
       refine⟨(((HT.out.2.2.2.1.sees.chg0 HT.out.2.2.2.2.1.chg).chg0 HZ.out.2.1).chg HZ.out.2.2.1 hoff),fun t ht ht'=>?_⟩;rcases List.mem_append.1 ht' with ht' | ht'
       ·rcases HZ.out.2.2.2 t ht' with h2 | h2
        ·exact hoff t ht h2
        ·have h1:=hlt5 t ht;omega
       ·exact HT.out.2.2.2.1.off t ht ht'
      have hst:Q.take (j+(i+1))=Q.take (j+i)++[(s1,pb)]:=by rw[←Nat.add_assoc,List.take_add_one,HT.out.2.1];rfl
      refine⟨i+1,zs++[.int .i64 s1,.slice a5 256 q5],by first | rfl | (rw[hwi.out];rfl),hi1,by omega,HZ.out.1,?_⟩;rw[hst];exact PendR.snoc hsv (HT.out.2.2.2.2.2.1.upd hu)
    ·have t2:decide ((i:Int)<(n:Int))=false:=decide_eq_false (by omega);have t2':decide (i<n)=false:=decide_eq_false him;have e:i=n:=by omega
     subst e;obtain⟨v6a,v6c,rfl,-⟩:=hF.shape;have htk:Q.take (j+i)=Q:=List.take_of_length_le (by rw[HQ.out.1];exact Nat.le_refl _);rw[htk] at hP;have HE:=zA hF hP;clear hF hP htk;go_wp2_with fail;go_ret;exact⟨_,zs,rfl,HE.out.1,HE.out.2.upd ⟨Chg.refl _ _,fun k hk=>.inl (by simp[hk])⟩⟩
end Go.Proofs.YtlbdklaggalgfaaGreatDoor
