/- FyP FyQ -/
import Derived.Test.YtlbdklaggalgfaaGreatDoorG13
set_option linter.unusedSimpArgs false
set_option linter.unusedVariables false
set_option maxHeartbeats 4000000
namespace Go.Proofs.YtlbdklaggalgfaaGreatDoor
open Go.RowKit Go.Aq Go.Aq.Fy Go.Maps
def CommitEnd (w:World) (S:List Nat) (l p:Nat) (R:DiskD×Nat) (L L':LogD) (e:Ending) (w':World):Prop:=
 e=.returned (.int .i64 R.2)∧∃S',DiskR w' S' p R.1∧LogR w' l p (afterL R.2 L L')∧l∉S'∧Upd (l::S) (l::S') w w'
structure OnWay (w0:World) (S0:List Nat) (l p:Nat) (L:LogD) (v:Value) (n:Nat) (xs:List Value) (P:Puts) (w:World) (S:List Nat) (D:DiskD):Prop where
 disk:DiskR w S p D
 log:LogR w l p L
 off:l∉S
 upd:Upd (l::S0) (l::S) w0 w
 sees:Sees w 2 v n xs
 pend:PendR w S P xs
 apart:Disj (eyes v) S
theorem OnWay.chg {w0 w w':World} {S0 S:List Nat} {l p:Nat} {L:LogD} {v:Value} {n:Nat} {xs:List Value} {P:Puts} {D:DiskD} (h:OnWay w0 S0 l p L v n xs P w S D) (c:Chg [] w w'):OnWay w0 S0 l p L v n xs P w' S D:=
 ⟨h.disk.chg c,h.log.chg c (by simp),h.off,h.upd.nil c,h.sees.chg0 c,h.pend.upd ⟨c.toS,fun _ h=>.inl h⟩,h.apart⟩
theorem OnWay.step {w0 w w':World} {S0 S S':List Nat} {l p:Nat} {L:LogD} {v:Value} {n:Nat} {xs:List Value} {P:Puts} {D D':DiskD} (h:OnWay w0 S0 l p L v n xs P w S D) (hR:DiskR w' S' p D') (hU:Upd S S' w w'):OnWay w0 S0 l p L v n xs P w' S' D':=by
 have hl:l∉S':=fun hh=>by
  rcases hU.new l hh with h1 | h1
  ·exact h.off h1
  ·have:=Blk.lt h.log;omega
 refine⟨hR,h.log.chg hU.chg h.off,hl,?_,h.sees.chg hU.chg h.apart,h.pend.upd hU,h.apart.upd hU (h.sees.lt (by decide))⟩;exact h.upd.trans ⟨hU.chg.mono (fun k hk=>.inl (by simp[hk])),fun k hk=>by
  rcases List.mem_cons.1 hk with rfl | hk
  ·simp
  ·rcases hU.new k hk with h1 | h1
   ·simp[h1]
   ·exact .inr h1⟩
theorem change_at {L:LogD} {P:Puts} {D:DiskD} (h0:0<L.ring) (hr:L.ring+4≤D.n):∀q∈changeL L P,q.1<D.n:=by
 intro q hq;unfold changeL at hq;obtain⟨i,hi,rfl⟩:=List.mem_mapIdx.1 hq;have:=inL_lt L i h0;simp only;omega
set_option maxRecDepth 100000 in
theorem commit_ok (w:World) (S:List Nat) (l p:Nat) (D:DiskD) (L:LogD) (hD:DiskR w S p D) (hL:LogR w l p L) (hl:l∉S) (hd:D.down=false) (hp:D.pend.length≤600000) (h0:0<L.ring) (hr:L.ring+4≤D.n) (hpos:L.pos<65536) (hq:L.seq<281474976710655)
  (P:Puts) (n:Nat) (hn:P.length=n) (v:Value) (xs:List Value) (hv:Sees w 2 v n xs) (hx:PendR w S P xs) (ho:Disj (eyes v) S)
  (hb:n≤10000) (hh:∀q∈P,atHome D L q.1=true) (hnd:(P.map (·.1)).Nodup) (hneed:need n≤L.ring):
  Calls Tryz.prog 117 #[.pointer (some ⟨l,0,none⟩),v] w (CommitEnd w S l p (runP D (commitP L P)) L (if P=[] then L else nextL L n)):=by
 have hle:D.n≤4096:=by obtain⟨_,_,_,_,_,_,_,hb,_⟩:=hD;exact hb.least.2
 have hmay:=may_ok w S l p D L hD hL (by omega) P n hn v xs hv hx (by omega) hh hnd hneed;have hPk:∀q∈P,q.1<D.n:=fun q hq=>by
  have:=hh q hq;simp only[atHome,Bool.and_eq_true,decide_eq_true_eq] at this;exact this.2
 obtain⟨ao,cap,rfl,-⟩:=hv.shape;have W:=zH (show OnWay w S l p L (.slice ao n cap) n xs P w S D from ⟨hD,hL,hl,Upd.refl _ _,hv,hx,ho⟩);by_cases hn0:n=0
 ·have hP:P=[]:=List.eq_nil_of_length_eq_zero (by omega);subst hP;have hrun:runP D (commitP L [])=(D,0):=rfl;rw[hrun,if_pos rfl];subst hn0;clear hD hL hl hd hp h0 hr hpos hq hn hv hx ho hb hh hnd hneed hle hPk hrun;go_enter Tryz.func117,Tryz.ntmps117;go_wp2_with fail;refine hmay.mono ?_;rintro e w1 ⟨rfl,c1⟩;clear hmay;go_wp2_with fail;go_ret;have W1:=W.out.chg c1;exact⟨rfl,S,W1.disk,W1.log,W1.off,W1.upd⟩
 ·have hP:P≠[]:=fun e=>by subst e;exact hn0 hn.symm
  have hcp:commitP L P=[changeL L P,[(1,markB L.seq L.pos n)],P,headL (nextL L n)]:=by unfold commitP;rw[if_neg hP,hn]
  rw[hcp,if_neg hP];obtain⟨RR,hRR⟩:∃RR,runP D [changeL L P,[(1,markB L.seq L.pos n)],P,headL (nextL L n)]=RR:=⟨_,rfl⟩;rw[hRR];rw[runP_cons] at hRR;have HRR:=zH hRR;have hcl:=change_length L P;rw[hn] at hcl;have hdl:(n+63) / 64≤n+63:=Nat.div_le_self _ _;have t0:((n:Int)==0)=false:=by simp;omega
  have t0':(n==0)=false:=by simp;omega
  have HH:=zH (And.intro hd (And.intro hp (And.intro h0 (And.intro hr (And.intro hpos (And.intro hq (And.intro hn (And.intro hb (And.intro hPk (And.intro hle (And.intro (show (changeL L P).length≤30000 by omega) (change_at (P:=P) h0 hr))))))))))));clear hD hL hl hd hp h0 hr hpos hq hn hv hx ho hb hh hnd hneed hle hPk hcp hRR hcl hdl hn0;go_enter Tryz.func117,Tryz.ntmps117;go_wp2_with fail;refine hmay.mono ?_;rintro e w1 ⟨rfl,c1⟩;clear hmay;have W1:=zH (W.out.chg c1);clear W c1;go_upto_region 4 with (fail);obtain⟨⟨y0,-,-,-⟩,-⟩:=Blk.c4b W1.out.log;obtain⟨W0,hW0⟩:∃W0,w1.drew=W0:=⟨_,rfl⟩;have cd:Chg [] w1 W0:=by rw[←hW0];exact (Chg.refl _ _).drew
  refine wp_region_U S (fun _=>false) (by kernel_rfl) ?_;rw[hW0];clear hW0;have C0:Chg S W0 W0:=Chg.refl _ _;have y0':=cd.cell_some y0 (by simp);have WW:=W1.out.chg cd;refine tU 0 (.pointer (some ⟨l,0,none⟩)) C0 (fun w4 c4=>?_) ?_;·go_simp
  refine yG ?_;refine tU 1 (.pointer (some ⟨l,0,none⟩)) C0 (fun w4 c4=>?_) ?_;·go_simp
  refine yG ?_;refine tU 2 (.pointer (some ⟨l,0,none⟩)) C0 (fun w4 c4=>?_) ?_;·go_simp
  refine yG ?_;refine tU 3 (.pointer (some ⟨p,0,none⟩)) C0 (fun w4 c4=>?_) ?_
  ·have z:=c4.cell_some y0' WW.off;go_simp
  refine yG ?_;refine tU 4 (.pointer (some ⟨l,0,none⟩)) C0 (fun w4 c4=>?_) ?_;·go_simp
  refine yG ?_;refine tU 5 (.slice ao n cap) C0 (fun w4 c4=>?_) ?_;·go_simp
  refine yG ?_;refine oU 6 ?_;go_simp;refine (change_ok W0 S l p L WW.log HH.out.2.2.1 (by have h1:=HH.out.2.2.2.1;have h2:=HH.out.2.2.2.2.2.2.2.2.2.1;omega) HH.out.2.2.2.2.1 P n HH.out.2.2.2.2.2.2.1 _ xs WW.sees WW.pend HH.out.2.2.2.2.2.2.2.1 (fun t ht=>by have h1:=HH.out.2.2.2.2.2.2.2.2.1 t ht;have h2:=HH.out.2.2.2.2.2.2.2.2.2.1;omega) WW.disk.lt).mono ?_;rintro e w2 ⟨v2,ys,rfl,hF2,hP2⟩;obtain⟨a2,k2,rfl,-⟩:=hF2.shape;refine⟨hF2.chg.toS,?_⟩;refine yG ?_;have WX:=WW.chg hF2.chg;have hwr:=writes_ok w2 S p D WX.disk HH.out.1 (changeL L P) (by have h1:=HH.out.2.1;have h2:=HH.out.2.2.2.2.2.2.2.2.2.2.1;omega) HH.out.2.2.2.2.2.2.2.2.2.2.2 (.slice a2 (changeL L P).length k2) ys hF2.own.sees hP2 (fun j hj hj'=>by
   have h1:=hF2.new j (eyes_own _ j hj);have h2:=WW.disk.lt j hj';omega)
  refine oU 7 ?_;go_simp;refine hwr.mono ?_;rintro e w3 ⟨rfl,S3,hR3,hU3⟩;have c3:Chg S W0 w3:=hF2.chg.toS.tr hU3.chg;refine⟨c3,?_⟩;refine yG ?_;refine tU 8 (.int .i64 (writesD D (changeL L P)).2) c3 (fun w4 c4=>?_) ?_;·go_simp
  refine yG ?_;refine wpAnyU_done (by kernel_rfl) ?_ _;have W3:=zH (WX.step hR3 hU3);clear hR3 hU3 c3 hwr WX hF2 hP2 WW y0' C0 cd W1 y0;have hok:=writesD_ok (l:=changeL L P) HH.out.1;generalize hres:writesD D (changeL L P)=R at *;obtain⟨D3,c3⟩:=R;simp only at W3 hok;by_cases hc3:c3=0
  ·subst hc3;obtain⟨hd3,hn3,hp3⟩:=hok rfl;have H3:=zB hd3 hn3 hp3;clear hok hd3 hn3 hp3 hres;go_upto_region 7 with (fail);obtain⟨⟨y0,y1,y2,y3⟩,-⟩:=Blk.c4b W3.out.log;obtain⟨W0,hW0⟩:∃W0,w3.drew=W0:=⟨_,rfl⟩;have cd:Chg [] w3 W0:=by rw[←hW0];exact (Chg.refl _ _).drew
   refine wp_region_U S3 (fun _=>false) (by kernel_rfl) ?_;rw[hW0];clear hW0;have C0:Chg S3 W0 W0:=Chg.refl _ _;have z0:=cd.cell_some y0 (by simp);have z2:=cd.cell_some y2 (by simp);have z3:=cd.cell_some y3 (by simp);have WW:=W3.out.chg cd;refine tU 0 (.pointer (some ⟨l,0,none⟩)) C0 (fun w4 c4=>?_) ?_;·go_simp
   refine yG ?_;refine tU 1 (.pointer (some ⟨l,0,none⟩)) C0 (fun w4 c4=>?_) ?_;·go_simp
   refine yG ?_;refine tU 2 (.pointer (some ⟨l,0,none⟩)) C0 (fun w4 c4=>?_) ?_;·go_simp
   refine yG ?_;refine tU 3 (.pointer (some ⟨p,0,none⟩)) C0 (fun w4 c4=>?_) ?_
   ·have z:=c4.cell_some z0 WW.off;go_simp
   refine yG ?_;refine tU 4 (.pointer (some ⟨l,0,none⟩)) C0 (fun w4 c4=>?_) ?_;·go_simp
   refine yG ?_;refine tU 5 (.pointer (some ⟨l,0,none⟩)) C0 (fun w4 c4=>?_) ?_;·go_simp
   refine yG ?_;refine tU 6 (.pointer (some ⟨l,2,none⟩)) C0 (fun w4 c4=>?_) ?_;·go_simp
   refine yG ?_;refine tU 7 (.int .i64 L.seq) C0 (fun w4 c4=>?_) ?_
   ·have z:=c4.cell_some z2 WW.off;go_simp
   refine yG ?_;refine tU 8 (.pointer (some ⟨l,0,none⟩)) C0 (fun w4 c4=>?_) ?_;·go_simp
   refine yG ?_;refine tU 9 (.pointer (some ⟨l,0,none⟩)) C0 (fun w4 c4=>?_) ?_;·go_simp
   refine yG ?_;refine tU 10 (.pointer (some ⟨l,3,none⟩)) C0 (fun w4 c4=>?_) ?_;·go_simp
   refine yG ?_;refine tU 11 (.int .i64 L.pos) C0 (fun w4 c4=>?_) ?_
   ·have z:=c4.cell_some z3 WW.off;go_simp
   refine yG ?_;refine tU 12 (.slice ao n cap) C0 (fun w4 c4=>?_) ?_;·go_simp
   refine yG ?_;refine tU 13 (.int .i64 n) C0 (fun w4 c4=>?_) ?_;·go_simp
   refine yG ?_;refine oU 14 ?_;go_simp;refine (mark_any W0 L.seq L.pos n _ _ _ rfl rfl rfl (by have:=HH.out.2.2.2.2.2.1;omega) HH.out.2.2.2.2.1 (by have:=HH.out.2.2.2.2.2.2.2.1;omega)).mono ?_;rintro e w4 ⟨v4,rfl,hF4⟩;obtain⟨a4,k4,rfl,-⟩:=hF4.shape;refine⟨hF4.chg.toS,?_⟩;refine yG ?_;refine tU 15 (.agg #[.int .i64 1,.slice a4 256 k4]) hF4.chg.toS (fun w4 c4=>?_) ?_;·go_simp
   refine yG ?_;refine oU 16 ?_;go_simp;have hca:Chg [] w4 (w4.alloc (.cells #[.int .i64 1,.slice a4 256 k4] 166)):=(Chg.refl [] _).alloc _;have hbx:Blk (w4.alloc (.cells #[.int .i64 1,.slice a4 256 k4] 166)) w4.heap.size #[.int .i64 1,.slice a4 256 k4] 166:=Blk.new _ _ _;refine⟨(hF4.chg.nil hca).toS,?_⟩;refine yG ?_;have WX:=WW.chg (hF4.chg.nil hca);have hin:=WW.disk.lt;have hsz4:=hF4.chg.size;have hwr:=writes_ok _ S3 p D3 WX.disk H3.out.1 [(1,markB L.seq L.pos n)] (by rw[H3.out.2.2];simp) (by intro t ht;simp at ht;subst ht;have h1:=H3.out.2.1;have h2:=HH.out.2.2.2.1;simp only;omega) (.slice (some ⟨w4.heap.size,0,none⟩) 1 1) [.int .i64 1,.slice a4 256 k4] (Sees.blk hbx) (.cons ⟨hF4.sees.chg0 hca,fun j hj hj'=>by have h1:=hF4.new j (eyes_own _ j hj);have h2:=hin j hj';omega⟩ .nil) (fun j hj hj'=>by simp[eyes] at hj;subst hj;have h2:=hin _ hj';omega);refine oU 17 ?_;go_simp;refine hwr.mono ?_;rintro e w5 ⟨rfl,S5,hR5,hU5⟩;have c5:Chg S3 W0 w5:=(hF4.chg.nil hca).toS.tr hU5.chg;refine⟨c5,?_⟩;refine yG ?_;refine tU 18 (.int .i64 (writesD D3 [(1,markB L.seq L.pos n)]).2) c5 (fun w4 c4=>?_) ?_;·go_simp
   refine yG ?_;refine wpAnyU_done (by kernel_rfl) ?_ _;have W5:=zH (WX.step hR5 hU5);clear hR5 hU5 c5 hwr WX hF4 hbx hca WW z0 z2 z3 C0 cd W3 y0 y1 y2 y3 hin hsz4;have hrr:=HRR.out;simp only[if_true] at hrr;rw[runP_cons] at hrr;clear HRR;have HRR:=zH hrr;clear hrr;have hok:=writesD_ok (l:=[(1,markB L.seq L.pos n)]) H3.out.1;generalize hres:writesD D3 [(1,markB L.seq L.pos n)]=R at *;obtain⟨D5,c5⟩:=R;simp only at W5 hok;by_cases hc5:c5=0
   ·subst hc5;obtain⟨hd5,hn5,hp5⟩:=hok rfl;have H5:=zB hd5 (hn5.trans H3.out.2.1) hp5;clear hok hd5 hn5 hp5 hres H3;obtain⟨⟨y0,-,-,-⟩,-⟩:=Blk.c4b W5.out.log;have hwr:=writes_ok w5 S5 p D5 W5.out.disk H5.out.1 P (by rw[H5.out.2.2];have h1:=HH.out.2.2.2.2.2.2.1;have h2:=HH.out.2.2.2.2.2.2.2.1;simp;omega) (fun t ht=>by rw[H5.out.2.1];exact HH.out.2.2.2.2.2.2.2.2.1 t ht) (.slice ao n cap) xs (by rw[HH.out.2.2.2.2.2.2.1];exact W5.out.sees) W5.out.pend W5.out.apart;go_wp2_with fail;refine hwr.mono ?_;rintro e w6 ⟨rfl,S6,hR6,hU6⟩;have W6:=zH (W5.out.step hR6 hU6);clear hR6 hU6 hwr W5 y0;have hrr:=HRR.out;simp only[if_true] at hrr;rw[runP_cons,runP_one] at hrr;clear HRR;have HRR:=zH hrr;clear hrr;have hok:=writesD_ok (l:=P) H5.out.1;generalize hres:writesD D5 P=R at *;obtain⟨D6,c6⟩:=R;simp only at W6 hok;by_cases hc6:c6=0
    ·subst hc6;obtain⟨hd6,hn6,hp6⟩:=hok rfl;clear hok hres;have hdn:=done_ok w6 S6 l p D6 L n W6.out.disk W6.out.log W6.out.off hd6 (by rw[hp6];simp) (by have:=HH.out.2.2.2.2.2.2.2.1;omega) HH.out.2.2.1 (by have h1:=HH.out.2.2.2.1;have h2:=HH.out.2.2.2.2.2.2.2.2.2.1;omega) HH.out.2.2.2.2.1 HH.out.2.2.2.2.2.1;clear hd6 hn6 hp6;go_wp2_with fail;refine hdn.mono ?_;rintro e w7 ⟨rfl,S7,hR7,hL7,hl7,hU7⟩;clear hdn;go_wp2_with fail;go_ret;have e0:=HRR.out;simp only[if_true] at e0;rw[←e0];exact⟨rfl,S7,hR7,hL7,hl7,W6.out.upd.trans hU7⟩
    ·have t1:((c6:Int)==0)=false:=by simp;omega
     have t1':(c6==0)=false:=by simp;omega
     have HC0:=zH hc6;clear hc6 hok hres;go_wp2_with fail;go_ret;have e0:=HRR.out;rw[if_neg HC0.out] at e0;rw[←e0];have e2:afterL c6 L (nextL L n)=L:=if_neg HC0.out;show CommitEnd _ _ _ _ (D6,c6) L (nextL L n) _ _;unfold CommitEnd;simp only[e2];exact⟨rfl,_,W6.out.disk,W6.out.log,W6.out.off,W6.out.upd⟩
   ·have t1:((c5:Int)==0)=false:=by simp;omega
    have t1':(c5==0)=false:=by simp;omega
    have HC0:=zH hc5;clear hc5 hok hres;go_wp2_with fail;go_ret;have e0:=HRR.out;rw[if_neg HC0.out] at e0;rw[←e0];have e2:afterL c5 L (nextL L n)=L:=if_neg HC0.out;show CommitEnd _ _ _ _ (D5,c5) L (nextL L n) _ _;unfold CommitEnd;simp only[e2];exact⟨rfl,_,W5.out.disk,W5.out.log,W5.out.off,W5.out.upd⟩
  ·have t1:((c3:Int)==0)=false:=by simp;omega
   have t1':(c3==0)=false:=by simp;omega
   have HC0:=zH hc3;clear hc3 hok hres;go_wp2_with fail;go_ret;have e0:=HRR.out;rw[if_neg HC0.out] at e0;rw[←e0];have e2:afterL c3 L (nextL L n)=L:=if_neg HC0.out;show CommitEnd _ _ _ _ (D3,c3) L (nextL L n) _ _;unfold CommitEnd;simp only[e2];exact⟨rfl,_,W3.out.disk,W3.out.log,W3.out.off,W3.out.upd⟩
end Go.Proofs.YtlbdklaggalgfaaGreatDoor
namespace Go.Aq
theorem Blk.c3b {w:World} {p:Nat} {a b c:Value} {t:TypeId} (h:Blk w p #[a,b,c] t):
  (w.cell? ⟨p,0,none⟩=some a∧w.cell? ⟨p,1,none⟩=some b∧w.cell? ⟨p,2,none⟩=some c)∧w.frozen? ⟨p,0,none⟩=false∧w.frozen? ⟨p,1,none⟩=false∧w.frozen? ⟨p,2,none⟩=false:=
 ⟨⟨h.cell 0,h.cell 1,h.cell 2⟩,h.frozen 0,h.frozen 1,h.frozen 2⟩
theorem wp_upd {P:Program} {w w':World} {o:Oper} {a:Act} {K:Act→World→Prop} {Q:Exit→Act→World→Prop} (m x v:Operand) (t:TypeId) (hop:o.op=Op.mapUpdate t m x v) {mv xv vv:Value}
  (hm:a.eval m=mv) (hx:a.eval x=xv) (hv:a.eval v=vv) (hr:(Instr.mapUpdate t mv xv vv).run P w=.ok () w') (hK:K (a.put o.dst undef) w'):o.wp P a w K Q:=by
 unfold Oper.wp;simp[execOp,hop,hm,hx,hv,hr,Result.andThen];exact hK
end Go.Aq
namespace Go.Proofs.YtlbdklaggalgfaaGreatDoor
open Go.RowKit Go.Aq Go.Aq.Fy Go.Maps
theorem keyS:(Tryz.prog).underlying 9=some .string:=Tryz.underlying9
def ints (l:List Nat):List Value:=l.map fun k:Nat=>Value.int .i64 (k:Int)
theorem ints_len (l:List Nat):(ints l).length=l.length:=by simp[ints]
def FileV (w:World) (S:List Nat) (x:FileD) (y:Value):Prop:=∃v,y=.agg #[.int .i64 x.size,v]∧Sees w 1 v x.blocks.length (ints x.blocks)∧Disj (eyes v) S
def BytesV (w:World) (S:List Nat) (b:Sec) (v:Value):Prop:=Sees w 1 v b.length (Bs b)∧Disj (eyes v) S
theorem FileV.chg {w w':World} {S T:List Nat} {x:FileD} {y:Value} (h:FileV w S x y) (c:Chg T w w') (hT:∀k∈T,k∈S∨w.heap.size≤k):FileV w' S x y:=by
 obtain⟨v,rfl,h1,h2⟩:=h;exact⟨v,rfl,h1.chg c fun k hk hk'=>by
  rcases hT k hk' with h3 | h3
  ·exact h2 k hk h3
  ·have:=h1.lt (by decide) k hk;omega,h2⟩
theorem BytesV.chg {w w':World} {S T:List Nat} {b:Sec} {v:Value} (h:BytesV w S b v) (c:Chg T w w') (hT:∀k∈T,k∈S∨w.heap.size≤k):BytesV w' S b v:=
 ⟨h.1.chg c fun k hk hk'=>by
  rcases hT k hk' with h3 | h3
  ·exact h.2 k hk h3
  ·have:=h.1.lt (by decide) k hk;omega,h.2⟩
theorem FileV.wide {w:World} {S S':List Nat} {x:FileD} {y:Value} (h:FileV w S x y) (hs:∀k∈S',k∈S∨w.heap.size≤k):FileV w S' x y:=by
 obtain⟨v,rfl,h1,h2⟩:=h;exact⟨v,rfl,h1,fun k hk hk'=>by
  rcases hs k hk' with h3 | h3
  ·exact h2 k hk h3
  ·have:=h1.lt (by decide) k hk;omega⟩
theorem BytesV.wide {w:World} {S S':List Nat} {b:Sec} {v:Value} (h:BytesV w S b v) (hs:∀k∈S',k∈S∨w.heap.size≤k):BytesV w S' b v:=
 ⟨h.1,fun k hk hk'=>by
  rcases hs k hk' with h3 | h3
  ·exact h.2 k hk h3
  ·have:=h.1.lt (by decide) k hk;omega⟩
def FilesR (w:World) (S:List Nat) (b:Nat) (L:Files):Prop:=∃l,MapS Tryz.prog 9 w b l∧Two (fun _=>FileV w S) L l
def FreshR (w:World) (S:List Nat) (b:Nat) (L:List (Nm×Sec)):Prop:=∃l,MapS Tryz.prog 9 w b l∧Two (fun _=>BytesV w S) L l
section
variable {w w':World} {S T:List Nat} {b:Nat}
theorem FilesR.chg {L:Files} (h:FilesR w S b L) (c:Chg T w w') (hT:∀k∈T,k∈S∨w.heap.size≤k) (hb:b∉T):FilesR w' S b L:=by
 obtain⟨l,h1,h2⟩:=h;exact⟨l,h1.chg c hb,h2.imp fun _ _ _ h=>h.chg c hT⟩
theorem FreshR.chg {L:List (Nm×Sec)} (h:FreshR w S b L) (c:Chg T w w') (hT:∀k∈T,k∈S∨w.heap.size≤k) (hb:b∉T):FreshR w' S b L:=by
 obtain⟨l,h1,h2⟩:=h;exact⟨l,h1.chg c hb,h2.imp fun _ _ _ h=>h.chg c hT⟩
theorem FilesR.chg0 {L:Files} (h:FilesR w S b L) (c:Chg [] w w'):FilesR w' S b L:=h.chg c (by simp) (by simp)
theorem FreshR.chg0 {L:List (Nm×Sec)} (h:FreshR w S b L) (c:Chg [] w w'):FreshR w' S b L:=h.chg c (by simp) (by simp)
theorem FilesR.wide {L:Files} (h:FilesR w S b L) (hs:∀k∈T,k∈S∨w.heap.size≤k):FilesR w T b L:=by
 obtain⟨l,h1,h2⟩:=h;exact⟨l,h1,h2.imp fun _ _ _ h=>h.wide hs⟩
theorem FreshR.wide {L:List (Nm×Sec)} (h:FreshR w S b L) (hs:∀k∈T,k∈S∨w.heap.size≤k):FreshR w T b L:=by
 obtain⟨l,h1,h2⟩:=h;exact⟨l,h1,h2.imp fun _ _ _ h=>h.wide hs⟩
theorem FilesR.lt {L:Files} (h:FilesR w S b L):b<w.heap.size:=by obtain⟨l,h1,-⟩:=h;exact h1.lt
theorem FreshR.lt {L:List (Nm×Sec)} (h:FreshR w S b L):b<w.heap.size:=by obtain⟨l,h1,-⟩:=h;exact h1.lt
theorem FilesR.asc {L:Files} (h:FilesR w S b L):(L.map (·.1)).Pairwise (·<·):=by
 obtain⟨l,h1,h2⟩:=h;rw[h2.keys];exact List.pairwise_map.2 h1.asc
theorem FilesR.asc' {L:Files} (h:FilesR w S b L):Asc L:=List.pairwise_map.1 h.asc
end
structure WorkR (w:World) (S:List Nat) (g f bl br:Nat) (W:WorkD):Prop where
 blk:Blk w g #[.pointer (some ⟨f,0,none⟩),.map (some bl),.map (some br)] 106
 files:FilesR w (bl::br::S) bl W.files
 fresh:FreshR w (bl::br::S) br W.fresh
 ne:bl≠br
 offg:g∉bl::br::S
 offl:bl∉S
 offr:br∉S
section
variable {w w':World} {S T:List Nat} {g f bl br:Nat} {W:WorkD}
theorem WorkR.chg (h:WorkR w S g f bl br W) (c:Chg T w w') (hT:∀k∈T,k∈S∨w.heap.size≤k):WorkR w' S g f bl br W:=by
 have hT':∀k∈T,k∈bl::br::S∨w.heap.size≤k:=fun k hk=>(hT k hk).imp (fun h=>by simp[h]) id
 refine⟨h.blk.chg c fun hg=>?_,h.files.chg c hT' fun hg=>?_,h.fresh.chg c hT' fun hg=>?_,h.ne,h.offg,h.offl,h.offr⟩
 ·rcases hT _ hg with h1 | h1
  ·exact h.offg (by simp[h1])
  ·have:=h.blk.lt;omega
 ·rcases hT _ hg with h1 | h1
  ·exact h.offl h1
  ·have:=h.files.lt;omega
 ·rcases hT _ hg with h1 | h1
  ·exact h.offr h1
  ·have:=h.fresh.lt;omega
theorem WorkR.chg0 (h:WorkR w S g f bl br W) (c:Chg [] w w'):WorkR w' S g f bl br W:=h.chg c (by simp)
theorem WorkR.putL (h:WorkR w S g f bl br W) (c:Chg [bl] w w') {L:Files} (hL:FilesR w' (bl::br::S) bl L):WorkR w' S g f bl br { W with files:=L }:=by
 refine⟨h.blk.chg c fun hg=>?_,hL,h.fresh.chg c (fun k hk=>.inl (by simp at hk;simp[hk])) fun hg=>?_,h.ne,h.offg,h.offl,h.offr⟩;·exact h.offg (by simp at hg;simp[hg])
 ·simp at hg;exact h.ne hg.symm
theorem WorkR.putR (h:WorkR w S g f bl br W) (c:Chg [br] w w') {L:List (Nm×Sec)} (hL:FreshR w' (bl::br::S) br L):WorkR w' S g f bl br { W with fresh:=L }:=by
 refine⟨h.blk.chg c fun hg=>?_,h.files.chg c (fun k hk=>.inl (by simp at hk;simp[hk])) fun hg=>?_,hL,h.ne,h.offg,h.offl,h.offr⟩;·exact h.offg (by simp at hg;simp[hg])
 ·simp at hg;exact h.ne hg
end
theorem zeroFile (w:World):(zeroValue 103).run Tryz.prog w=.ok (.agg #[.int .i64 0,.slice none 0 0]) w:=by kernel_rfl
set_option maxRecDepth 100000 in
theorem has_ok (w:World) (S:List Nat) (g f bl br:Nat) (W:WorkD) (h:WorkR w S g f bl br W) (s:Nm) (hs:s.length≤1048576):
  Calls Tryz.prog 104 #[.pointer (some ⟨g,0,none⟩),.string (str s)] w fun e w'=>e=.returned (.bool (hasF W.files s))∧Chg [] w w':=by
 obtain⟨⟨-,y1,-⟩,-⟩:=h.blk.c3b;obtain⟨l,hM,h2⟩:=h.files;obtain⟨-,l2⟩:=hM.look keyS Tryz.underlying93 (zeroFile w) s hs;have e:(lookK s l).isSome=hasF W.files s:=by
  unfold hasF;rcases h2.look s with ⟨e1,e2⟩ | ⟨x,y,e1,e2,-⟩ <;> simp[e1,e2]
 have sh:∃(n:Nat) (ao:Option Addr) (m cap:Nat),(lookK s l).getD (.agg #[.int .i64 0,.slice none 0 0])=.agg #[.int .i64 n,.slice ao m cap]:=by
  rcases h2.look s with ⟨e1,e2⟩ | ⟨x,y,e1,e2,v,rfl,hv,-⟩
  ·rw[e2];exact⟨0,none,0,0,rfl⟩
  ·obtain⟨ao,cap,rfl,-⟩:=hv.shape;rw[e2];exact⟨_,_,_,_,rfl⟩
 obtain⟨n,ao,m,cap,sh⟩:=sh;rw[e,sh] at l2;clear h hM h2 e sh;go_enter Tryz.func104,Tryz.ntmps104;go_wp2_with fail;go_ret;exact⟨rfl,(Chg.refl _ _).alloc _⟩
theorem FilesR.drop {w:World} {S:List Nat} {b:Nat} {L:Files} (h:FilesR w S b L) (s:Nm) (hs:s.length≤1048576) (hb:b∈S) (ty:TypeId):
  ∃w',(Builtin.delete_ #[93,9] ty #[.map (some b),.string (str s)]).run Tryz.prog w=.ok (.tuple #[]) w'∧FilesR w' S b (delK s L)∧Chg [b] w w':=by
 obtain⟨l,h1,h2⟩:=h;obtain⟨w',r,m,c⟩:=h1.drop keyS Tryz.underlying93 s hs ty;exact⟨w',r,⟨_,m,(h2.del s).imp fun _ _ _ h=>h.chg c (fun k hk=>.inl (by rw[List.mem_singleton.1 hk];exact hb))⟩,c⟩
theorem FreshR.drop {w:World} {S:List Nat} {b:Nat} {L:List (Nm×Sec)} (h:FreshR w S b L) (s:Nm) (hs:s.length≤1048576) (hb:b∈S) (ty:TypeId):
  ∃w',(Builtin.delete_ #[104,9] ty #[.map (some b),.string (str s)]).run Tryz.prog w=.ok (.tuple #[]) w'∧FreshR w' S b (delK s L)∧Chg [b] w w':=by
 obtain⟨l,h1,h2⟩:=h;obtain⟨w',r,m,c⟩:=h1.drop keyS Tryz.underlying104 s hs ty;exact⟨w',r,⟨_,m,(h2.del s).imp fun _ _ _ h=>h.chg c (fun k hk=>.inl (by rw[List.mem_singleton.1 hk];exact hb))⟩,c⟩
theorem FilesR.put {w:World} {S:List Nat} {b:Nat} {L:Files} (h:FilesR w S b L) (s:Nm) (hs:s.length≤1048576) (hb:b∈S) (hn:L.length≤1000000) {x:FileD} {y:Value} (hv:FileV w S x y):
  ∃w',(Instr.mapUpdate 93 (.map (some b)) (.string (str s)) y).run Tryz.prog w=.ok () w'∧FilesR w' S b (insK s x L)∧Chg [b] w w':=by
 obtain⟨l,h1,h2⟩:=h;obtain⟨w',r,m,c⟩:=h1.put keyS Tryz.underlying93 (by rw[←h2.len];exact hn) s hs y;exact⟨w',r,⟨_,m,(Two.ins hv h2).imp fun _ _ _ h=>h.chg c (fun k hk=>.inl (by rw[List.mem_singleton.1 hk];exact hb))⟩,c⟩
theorem FreshR.put {w:World} {S:List Nat} {b:Nat} {L:List (Nm×Sec)} (h:FreshR w S b L) (s:Nm) (hs:s.length≤1048576) (hb:b∈S) (hn:L.length≤1000000) {x:Sec} {y:Value} (hv:BytesV w S x y):
  ∃w',(Instr.mapUpdate 104 (.map (some b)) (.string (str s)) y).run Tryz.prog w=.ok () w'∧FreshR w' S b (insK s x L)∧Chg [b] w w':=by
 obtain⟨l,h1,h2⟩:=h;obtain⟨w',r,m,c⟩:=h1.put keyS Tryz.underlying104 (by rw[←h2.len];exact hn) s hs y;exact⟨w',r,⟨_,m,(Two.ins hv h2).imp fun _ _ _ h=>h.chg c (fun k hk=>.inl (by rw[List.mem_singleton.1 hk];exact hb))⟩,c⟩
theorem FilesR.len {w:World} {S:List Nat} {b:Nat} {L:Files} (h:FilesR w S b L) (ty:TypeId):(Builtin.len_ #[93] ty #[.map (some b)]).run Tryz.prog w=.ok (.int .i64 L.length) w:=by
 obtain⟨l,h1,h2⟩:=h;rw[h2.len];exact h1.len Tryz.underlying93 ty
set_option maxRecDepth 100000 in
theorem gone_ok (w:World) (S:List Nat) (g f bl br:Nat) (W:WorkD) (h:WorkR w S g f bl br W) (s:Nm) (hs:s.length≤1048576):
  Calls Tryz.prog 108 #[.pointer (some ⟨g,0,none⟩),.string (str s)] w fun e w'=>e=.returned (.tuple #[])∧WorkR w' S g f bl br (goneW W s)∧Chg [bl,br] w w':=by
 obtain⟨⟨-,y1,-⟩,-⟩:=h.blk.c3b;obtain⟨w1,r1,m1,c1⟩:=h.files.drop s hs (by simp) 0;have h1:=h.putL c1 m1;obtain⟨⟨-,-,y2⟩,-⟩:=h1.blk.c3b;obtain⟨w2,r2,m2,c2⟩:=h1.fresh.drop s hs (by simp) 0;have h2:=h1.putR c2 m2;have HH:=zA h2 (show Chg [bl,br] w w2 from (c1.mono (fun k hk=>.inl (by simp at hk;simp[hk]))).tr (c2.mono (fun k hk=>.inl (by simp at hk;simp[hk]))));clear h h1 h2 m1 m2 c1 c2;go_enter Tryz.func108,Tryz.ntmps108;go_wp2_with fail
 go_end0
 exact⟨rfl,HH.out⟩
def TellEnd (w:World) (S:List Nat) (g f bl br:Nat) (R:WorkD×Nat) (e:Ending) (w':World):Prop:=
 e=.returned (.int .i64 R.2)∧WorkR w' S g f bl br R.1∧Chg [bl,br] w w'
set_option maxRecDepth 100000 in
theorem tell_ok (w:World) (S:List Nat) (g f bl br:Nat) (W:WorkD) (h:WorkR w S g f bl br W) (hin:In w S) (s:Nm) (hs:s.length≤1048576) (b:Sec) (v:Value) (hv:Sees w 1 v b.length (Bs b)) (hd:Disj (eyes v) [bl,br]) (hb:b.length≤100000000) (hl:W.files.length≤1000) (hr:W.fresh.length≤1000):
  Calls Tryz.prog 105 #[.pointer (some ⟨g,0,none⟩),.string (str s),v] w (TellEnd w S g f bl br (tellW W s b)):=by
 have hh:=has_ok w S g f bl br W h s hs;obtain⟨ao,cap,rfl,-⟩:=hv.shape;obtain⟨n,hn⟩:∃n,b.length=n:=⟨_,rfl⟩;obtain⟨m,hm⟩:∃m,W.files.length=m:=⟨_,rfl⟩;obtain⟨q,hq⟩:∃q,hasF W.files s=q:=⟨_,rfl⟩;have HN:=zB hn hm hq;have HV:=zB hv hd hin;have HL:=zA hl hr;have HR:=zH h;rw[hn] at hb;rw[hn];rw[hq] at hh;rw[hm] at hl;clear h hv hd hn hm hq hr hin;go_enter Tryz.func105,Tryz.ntmps105;by_cases hbig:65535<n
 ·have HB:=zH hbig;have t1:decide ((65535:Int)<(n:Int))=true:=by simp;omega
  clear hbig hh;go_wp2_with fail;go_ret;unfold TellEnd;rw[show tellW W s b=(W,10) from if_pos (.inl (by rw[HN.out.1];exact HB.out))];exact⟨rfl,HR.out,Chg.refl _ _⟩
 ·have HB:=zH hbig;have t1:decide ((65535:Int)<(n:Int))=false:=by simp;omega
  clear hbig;go_wp2_with fail;refine hh.mono ?_;rintro e w1 ⟨rfl,c1⟩;have R1:=zH (HR.out.chg0 c1);obtain⟨⟨-,y1,-⟩,-⟩:=R1.out.blk.c3b;have ll:=R1.out.files.len 3;rw[HN.out.2.1] at ll;clear hh;by_cases hfull:q=false∧400≤m
  ·have HF:=zH hfull;obtain⟨rfl,hfull⟩:=hfull;have t2:decide ((400:Int)≤(m:Int))=true:=by simp;omega
   clear hfull;go_wp2_with fail;go_ret;unfold TellEnd;rw[show tellW W s b=(W,10) from if_pos (.inr (by rw[HN.out.2.1,HN.out.2.2];exact⟨rfl,HF.out.2⟩))];exact⟨rfl,R1.out,c1.mono (by simp)⟩
  ·have e1:tellW W s b=(⟨insK s ⟨b.length,[]⟩ W.files,insK s b W.fresh⟩,0):=if_neg (by rw[HN.out.1,HN.out.2.1,HN.out.2.2];exact fun h=>h.elim HB.out hfull);have E1:=zH e1;obtain⟨w2,r2,m2,k2⟩:=R1.out.files.put s hs (by simp) (by have:=HL.out.1;omega) (show FileV w1 (bl::br::S) ⟨n,[]⟩ (.agg #[.int .i64 n,.slice none 0 0]) from ⟨_,rfl,Sees.nil _ _,by simp[eyes,Disj]⟩);have R2:=zH (R1.out.putL k2 m2);have K2:=zB c1 (show Chg [bl] w1 w2 from k2) (HV.out.1.chg0 c1);clear m2 k2 c1 e1;have hq2:(q=true)∨(q=false∧m<400):=by cases q <;> simp_all
   clear hfull;have fin:∀{a:Act} {Q:Exit→Act→World→Prop},True:=fun {_ _}=>trivial
   clear fin;have hx:(!q&&decide ((400:Int)≤(m:Int)))=false:=by rcases hq2 with rfl | ⟨rfl,h⟩ <;> simp;omega
   rcases hq2 with rfl | ⟨rfl,hm4⟩
   ·clear hx ll;go_upto_region 4 with (fail);obtain⟨⟨-,-,y2⟩,-⟩:=R2.out.blk.c3b;refine wp_region_U [] (fun i=>decide (7≤i)) (by kernel_rfl) ?_;have c0:Chg [] w2 w2.drew:=(Chg.refl _ _).drew;obtain⟨W0,hW0⟩:∃W0,w2.drew=W0:=⟨_,rfl⟩;rw[hW0] at c0 ⊢;clear hW0;have C0:Chg [] W0 W0:=Chg.refl _ _;have y2':=c0.cell_some y2 (by simp);clear y2;refine tU 0 (.pointer (some ⟨g,0,none⟩)) C0 (fun w4 c4=>?_) ?_;·go_simp
    refine yG ?_;refine tU 1 (.pointer (some ⟨g,0,none⟩)) C0 (fun w4 c4=>?_) ?_;·go_simp
    refine yG ?_;refine tU 2 (.pointer (some ⟨g,2,none⟩)) C0 (fun w4 c4=>?_) ?_;·go_simp
    refine yG ?_;refine tU 3 (.map (some br)) C0 (fun w4 c4=>?_) ?_
    ·have z:=c4.cell_some y2' (by simp);go_simp
    refine yG ?_;refine tU 4 (.string (str s)) C0 (fun w4 c4=>?_) ?_;·go_simp
    refine yG ?_;refine tU 5 (.slice ao n cap) C0 (fun w4 c4=>?_) ?_;·go_simp
    refine yG ?_;have hsz1:=K2.out.1.size;have hsz2:=K2.out.2.1.size;have hv0:Sees W0 1 (.slice ao n cap) n (Bs b):=by
     have h1:=K2.out.2.2;rw[HN.out.1] at h1;refine (h1.chg K2.out.2.1 fun k hk hk'=>?_).chg0 c0;have h2:=HV.out.2.1;rw[HN.out.1] at h2;exact h2 k hk (by simp at hk';simp[hk'])
    refine oU 6 ?_;go_simp;refine (bclone_any W0 _ n b hv0 (by omega)).mono ?_;rintro e w5 ⟨v5,rfl,hF5⟩;refine⟨hF5.chg,?_⟩;refine yG ?_;have c5:=c0.nil hF5.chg;have R5:=R2.out.chg0 c5;have hb5:BytesV w5 (bl::br::S) b v5:=⟨by rw[HN.out.1];exact hF5.own.sees,fun j hj hj'=>by
     have h1:=hF5.new j (eyes_own _ j hj);have h2:=c0.size;have h3:=R2.out.files.lt;have h4:=R2.out.fresh.lt;simp only[List.mem_cons] at hj';rcases hj' with rfl | rfl | hj'
     ·omega
     ·omega
     ·have:=HV.out.2.2 j hj';omega⟩
    obtain⟨w6,r6,m6,k6⟩:=R5.fresh.put s hs (by simp) (by have:=HL.out.2;show W.fresh.length≤_;omega) hb5;have R6:=R5.putR k6 m6;obtain⟨a5,q5,rfl,-⟩:=hF5.shape;refine wpAnyU_last 7 rfl (by kernel_rfl) (by rfl) (by rfl) ?_;refine wp_upd _ _ _ 104 rfl rfl rfl rfl r6 ?_;refine yG ?_;refine wpAny_fin (by kernel_rfl) ?_ _;have hc:Chg [bl,br] w w6:=by
     refine (K2.out.1.toS.tr ?_).tr (k6.mono (fun k hk=>.inl (by simp at hk;simp[hk])));exact ((K2.out.2.1.nil c5).mono (fun k hk=>.inl (by simp at hk;simp[hk])))
    clear K2 R5 m6 k6 r6 hF5 hb5 hv0 c0 C0 c5 y2' R2 hsz1 hsz2 r2 R1 y1;go_wp2_with fail;go_ret;unfold TellEnd;rw[E1.out,HN.out.1];exact⟨rfl,R6,hc⟩
   ·have t2:decide ((400:Int)≤(m:Int))=false:=by simp;omega
    clear hx hm4;go_upto_region 4 with (fail);obtain⟨⟨-,-,y2⟩,-⟩:=R2.out.blk.c3b;refine wp_region_U [] (fun i=>decide (7≤i)) (by kernel_rfl) ?_;have c0:Chg [] w2 w2.drew:=(Chg.refl _ _).drew;obtain⟨W0,hW0⟩:∃W0,w2.drew=W0:=⟨_,rfl⟩;rw[hW0] at c0 ⊢;clear hW0;have C0:Chg [] W0 W0:=Chg.refl _ _;have y2':=c0.cell_some y2 (by simp);clear y2;refine tU 0 (.pointer (some ⟨g,0,none⟩)) C0 (fun w4 c4=>?_) ?_;·go_simp
    refine yG ?_;refine tU 1 (.pointer (some ⟨g,0,none⟩)) C0 (fun w4 c4=>?_) ?_;·go_simp
    refine yG ?_;refine tU 2 (.pointer (some ⟨g,2,none⟩)) C0 (fun w4 c4=>?_) ?_;·go_simp
    refine yG ?_;refine tU 3 (.map (some br)) C0 (fun w4 c4=>?_) ?_
    ·have z:=c4.cell_some y2' (by simp);go_simp
    refine yG ?_;refine tU 4 (.string (str s)) C0 (fun w4 c4=>?_) ?_;·go_simp
    refine yG ?_;refine tU 5 (.slice ao n cap) C0 (fun w4 c4=>?_) ?_;·go_simp
    refine yG ?_;have hsz1:=K2.out.1.size;have hsz2:=K2.out.2.1.size;have hv0:Sees W0 1 (.slice ao n cap) n (Bs b):=by
     have h1:=K2.out.2.2;rw[HN.out.1] at h1;refine (h1.chg K2.out.2.1 fun k hk hk'=>?_).chg0 c0;have h2:=HV.out.2.1;rw[HN.out.1] at h2;exact h2 k hk (by simp at hk';simp[hk'])
    refine oU 6 ?_;go_simp;refine (bclone_any W0 _ n b hv0 (by omega)).mono ?_;rintro e w5 ⟨v5,rfl,hF5⟩;refine⟨hF5.chg,?_⟩;refine yG ?_;have c5:=c0.nil hF5.chg;have R5:=R2.out.chg0 c5;have hb5:BytesV w5 (bl::br::S) b v5:=⟨by rw[HN.out.1];exact hF5.own.sees,fun j hj hj'=>by
     have h1:=hF5.new j (eyes_own _ j hj);have h2:=c0.size;have h3:=R2.out.files.lt;have h4:=R2.out.fresh.lt;simp only[List.mem_cons] at hj';rcases hj' with rfl | rfl | hj'
     ·omega
     ·omega
     ·have:=HV.out.2.2 j hj';omega⟩
    obtain⟨w6,r6,m6,k6⟩:=R5.fresh.put s hs (by simp) (by have:=HL.out.2;show W.fresh.length≤_;omega) hb5;have R6:=R5.putR k6 m6;obtain⟨a5,q5,rfl,-⟩:=hF5.shape;refine wpAnyU_last 7 rfl (by kernel_rfl) (by rfl) (by rfl) ?_;refine wp_upd _ _ _ 104 rfl rfl rfl rfl r6 ?_;refine yG ?_;refine wpAny_fin (by kernel_rfl) ?_ _;have hc:Chg [bl,br] w w6:=by
     refine (K2.out.1.toS.tr ?_).tr (k6.mono (fun k hk=>.inl (by simp at hk;simp[hk])));exact ((K2.out.2.1.nil c5).mono (fun k hk=>.inl (by simp at hk;simp[hk])))
    clear K2 R5 m6 k6 r6 hF5 hb5 hv0 c0 C0 c5 y2' R2 hsz1 hsz2 r2 R1 y1;go_wp2_with fail;go_ret;unfold TellEnd;rw[E1.out,HN.out.1];exact⟨rfl,R6,hc⟩
end Go.Proofs.YtlbdklaggalgfaaGreatDoor
