/- FyI DkD -/
import Derived.Test.YtlbdklaggalgfaaGreatDoorG09
set_option linter.unusedSimpArgs false
set_option linter.unusedVariables false
set_option maxHeartbeats 4000000
namespace Go.Aq
open Go.RowKit
theorem Sees.rowsY {W:World} {k:Nat} {cs:Array Value} {e:TypeId} {m s:Nat} (h:Blk W k cs e) (hm:cs.size=m * s):Sees W s (.slice (some ⟨k,0,none⟩) m m) m cs.toList:=by
 refine⟨by simpa using hm,_,_,rfl,Nat.le_refl _,by simp,fun ad had j u hu=>?_⟩;cases had;rw[Addr.add_lit,Nat.zero_add,h.cell];simpa using hu
theorem wp_mkU {P:Program} {w:World} {o:Oper} {a:Act} {K:Act→World→Prop} {Q:Exit→Act→World→Prop} (l c:Operand) (t:TypeId) (hop:o.op=Op.makeSlice t l c)
  {e:TypeId} {z:Value} {bytes:Nat} (ht:SliceTy P t e z 1 bytes) (hz:z.cells=#[z]) (kl kc:IntKind) (n:Nat) {L C:Int} (hl:a.eval l=.int kl L) (hc:a.eval c=.int kc C) (hL:L=(n:Int)) (hC:C=(n:Int))
  (hb:bytes * n≤281474976710656) (h63:n≤9223372036854775807)
  (h:∀w',Fresh w w' e 1 (.slice (some ⟨w.heap.size,0,none⟩) n n) n (List.replicate n z)→K (a.put o.dst (.slice (some ⟨w.heap.size,0,none⟩) n n)) w'):o.wp P a w K Q:=by
 obtain⟨ht1,ht2,ht3,ht4⟩:=ht;obtain⟨i,hi,hz0,hz1,rfl⟩:=info_parts ht2;obtain⟨w',hrun,r1,r2⟩:=run_make_full (P:=P) w 0 t e i z 1 ht1 hi hz0 hz1 kl kc n hb (by simpa[maxLen] using h63) (Nat.zero_le _);subst hL hC;unfold Oper.wp;simp[execOp,hop,hl,hc,hrun,Result.andThen];rw[hz,Nat.mul_one,toList_madeCells_one] at r1;exact h w' ⟨r1,Chg.of_grown r2,by simp[Value.ownBlock]⟩
end Go.Aq
namespace Go.Proofs.YtlbdklaggalgfaaGreatDoor
section
open Go.RowKit Go.Aq Go.Aq.Fy Go.Maps
theorem equal_any (w:World) (v v':Value) (n n':Nat) (a b:List UInt8) (h1:Sees w 1 v n (Bs a)) (h2:Sees w 1 v' n' (Bs b)):
  Calls Tryz.prog 40 #[v,v'] w fun e w'=>e=.returned (.bool (decide (a=b)))∧w'=w:=by
 have h:=Tryz.bytes_Equal_strs v v' (str a) (str b) w (run_str8 h1) (run_str8 h2);rw[str_eq] at h;exact h
set_option maxRecDepth 100000 in
theorem formatL_ok (w:World) (S:List Nat) (p:Nat) (D:DiskD) (r:Nat) (hD:DiskR w S p D) (hd:D.down=false) (hp:D.pend.length≤800000) (h1:1≤r) (h2:r+4≤D.n) (h3:r<65536):
  Calls Tryz.prog 32 #[.pointer (some ⟨p,0,none⟩),.int .i64 r] w fun e w'=>e=.returned (.int .i64 (writesD D [(0,headB r 1 0),(1,zsec)]).2)∧∃S',DiskR w' S' p (writesD D [(0,headB r 1 0),(1,zsec)]).1∧Upd S S' w w':=by
 have hwn:=wrong_no w S p D hD r h1 h2;have HH:=zD hD hd hp h3 (show 1<D.n by omega);clear hD hd hp h1 h2 h3;go_enter Tryz.func32,Tryz.ntmps32;go_wp2_with fail;refine hwn.mono ?_;rintro e w' ⟨rfl,rfl⟩;clear hwn;go_upto_region 3 with (fail);obtain⟨W0,hW0⟩:∃W0,w'.drew=W0:=⟨_,rfl⟩;have cd:Chg [] w' W0:=by rw[←hW0];exact (Chg.refl _ _).drew
 refine wp_region_U S (fun _=>false) (by kernel_rfl) ?_;rw[hW0];clear hW0;have C0:Chg S W0 W0:=Chg.refl _ _;refine tU 0 (.pointer (some ⟨p,0,none⟩)) C0 (fun w4 c4=>?_) ?_;·go_simp
 refine yG ?_;refine tU 1 (.int .i64 r) C0 (fun w4 c4=>?_) ?_;·go_simp
 refine yG ?_;refine wpAnyU_two 2 4 rfl rfl (by kernel_rfl) (by rfl) (by rfl) (by rfl) (by rfl) ?_ ?_
 ·go_simp;refine (head_any W0 r 1 0 _ _ _ rfl rfl rfl HH.out.2.2.2.1 (by decide) (by decide)).mono ?_;rintro e w2 ⟨v2,rfl,hF2⟩;refine⟨hF2.chg.toS,?_⟩;refine yG ?_;obtain⟨a2,k2,rfl,-⟩:=hF2.shape;refine tU 3 (.agg #[.int .i64 0,.slice a2 256 k2]) hF2.chg.toS (fun w4 c4=>?_) ?_;·go_simp
  refine yG ?_;refine oU 4 ?_;refine wp_mkU _ _ 38 rfl sl_u8y rfl .i64 .i64 256 rfl rfl rfl rfl (by decide) (by decide) ?_;intro w3 hF3;rw[rep_nul] at hF3;obtain⟨z,hz⟩:∃z,w2.heap.size=z:=⟨_,rfl⟩;rw[hz] at hF3 ⊢;have cA:Chg [] W0 w3:=hF2.chg.nil hF3.chg;refine⟨cA.toS,?_⟩;refine yG ?_;refine tU 5 (.agg #[.int .i64 1,.slice (some ⟨z,0,none⟩) 256 256]) cA.toS (fun w4 c4=>?_) ?_;·go_simp
  refine yG ?_;have hnew2:=hF2.new;have hnew3:∀k∈(Value.slice (some ⟨z,0,none⟩) 256 256).ownBlock.toList,W0.heap.size≤k:=fun k hk=>Nat.le_trans hF2.chg.size (hF3.new k hk)
  refine oU 6 ?_;go_simp;have hcA:Chg [] w3 (w3.alloc (.cells #[.int .i64 0,.slice a2 256 k2,.int .i64 1,.slice (some ⟨z,0,none⟩) 256 256] 166)):=(Chg.refl [] _).alloc _;refine⟨(cA.nil hcA).toS,?_⟩;refine yG ?_;have hbx:Blk (w3.alloc (.cells #[.int .i64 0,.slice a2 256 k2,.int .i64 1,.slice (some ⟨z,0,none⟩) 256 256] 166)) w3.heap.size #[.int .i64 0,.slice a2 256 k2,.int .i64 1,.slice (some ⟨z,0,none⟩) 256 256] 166:=Blk.new _ _ _;have c03:Chg [] w' (w3.alloc (.cells #[.int .i64 0,.slice a2 256 k2,.int .i64 1,.slice (some ⟨z,0,none⟩) 256 256] 166)):=(cd.nil cA).nil hcA;have hR3:=HH.out.1.chg c03;have hin:=HH.out.1.lt;have hsz:=cd.size;have hsz3:=cA.size;have hwr:=writes_ok _ S p D hR3 HH.out.2.1 [(0,headB r 1 0),(1,zsec)] (by have:=HH.out.2.2.1;simp;omega) (by intro q hq;simp at hq;have:=HH.out.2.2.2.2;rcases hq with rfl | rfl <;> simp <;> omega) (.slice (some ⟨w3.heap.size,0,none⟩) 2 2) [.int .i64 0,.slice a2 256 k2,.int .i64 1,.slice (some ⟨z,0,none⟩) 256 256]
   (Sees.rowsY hbx rfl)
   (.cons ⟨(hF2.sees.chg0 hF3.chg).chg0 hcA,fun j hj hj'=>by have h1:=hnew2 j (eyes_own _ j hj);have h2:=hin j hj';omega⟩ (.cons ⟨hF3.own.sees.chg0 hcA,fun j hj hj'=>by have h1:=hnew3 j (eyes_own _ j hj);have h2:=hin j hj';omega⟩ .nil)) (fun j hj hj'=>by simp[eyes] at hj;subst hj;have h2:=hin _ hj';omega)
  refine oU 7 ?_;go_simp;refine hwr.mono ?_;rintro e w4 ⟨rfl,S4,hR4,hU4⟩;have c4':Chg S W0 w4:=(cA.nil hcA).toS.tr hU4.chg;refine⟨c4',?_⟩;refine yG ?_;refine tU 8 (.int .i64 (writesD D [(0,headB r 1 0),(1,zsec)]).2) c4' (fun w4 c4=>?_) ?_;·go_simp
  refine yG ?_;refine wpAnyU_done (by kernel_rfl) ?_ _;go_wp2_with fail;go_ret;exact⟨rfl,S4,hR4,⟨c03.toS.tr hU4.chg,fun k hk=>by
   rcases hU4.new k hk with h1 | h1
   ·exact .inl h1
   ·exact .inr (Nat.le_trans c03.size h1)⟩⟩
 ·refine wp_mkU _ _ 38 rfl sl_u8y rfl .i64 .i64 256 rfl rfl rfl rfl (by decide) (by decide) ?_;intro w2 hF3;rw[rep_nul] at hF3;obtain⟨z,hz⟩:∃z,W0.heap.size=z:=⟨_,rfl⟩;rw[hz] at hF3 ⊢;refine⟨hF3.chg.toS,?_⟩;refine yG ?_;refine tU 5 (.agg #[.int .i64 1,.slice (some ⟨z,0,none⟩) 256 256]) hF3.chg.toS (fun w4 c4=>?_) ?_;·go_simp
  refine yG ?_;refine oU 2 ?_;go_simp;refine (head_any w2 r 1 0 _ _ _ rfl rfl rfl HH.out.2.2.2.1 (by decide) (by decide)).mono ?_;rintro e w3 ⟨v2,rfl,hF2⟩;have cA:Chg [] W0 w3:=hF3.chg.nil hF2.chg;refine⟨cA.toS,?_⟩;refine yG ?_;obtain⟨a2,k2,rfl,-⟩:=hF2.shape;refine tU 3 (.agg #[.int .i64 0,.slice a2 256 k2]) cA.toS (fun w4 c4=>?_) ?_;·go_simp
  refine yG ?_;have hnew3:=hF3.new;have hnew2:∀k∈(Value.slice a2 256 k2).ownBlock.toList,W0.heap.size≤k:=fun k hk=>Nat.le_trans hF3.chg.size (hF2.new k hk)
  refine oU 6 ?_;go_simp;have hcA:Chg [] w3 (w3.alloc (.cells #[.int .i64 0,.slice a2 256 k2,.int .i64 1,.slice (some ⟨z,0,none⟩) 256 256] 166)):=(Chg.refl [] _).alloc _;refine⟨(cA.nil hcA).toS,?_⟩;refine yG ?_;have hbx:Blk (w3.alloc (.cells #[.int .i64 0,.slice a2 256 k2,.int .i64 1,.slice (some ⟨z,0,none⟩) 256 256] 166)) w3.heap.size #[.int .i64 0,.slice a2 256 k2,.int .i64 1,.slice (some ⟨z,0,none⟩) 256 256] 166:=Blk.new _ _ _;have c03:Chg [] w' (w3.alloc (.cells #[.int .i64 0,.slice a2 256 k2,.int .i64 1,.slice (some ⟨z,0,none⟩) 256 256] 166)):=(cd.nil cA).nil hcA;have hR3:=HH.out.1.chg c03;have hin:=HH.out.1.lt;have hsz:=cd.size;have hsz3:=cA.size;have hwr:=writes_ok _ S p D hR3 HH.out.2.1 [(0,headB r 1 0),(1,zsec)] (by have:=HH.out.2.2.1;simp;omega) (by intro q hq;simp at hq;have:=HH.out.2.2.2.2;rcases hq with rfl | rfl <;> simp <;> omega) (.slice (some ⟨w3.heap.size,0,none⟩) 2 2) [.int .i64 0,.slice a2 256 k2,.int .i64 1,.slice (some ⟨z,0,none⟩) 256 256]
   (Sees.rowsY hbx rfl)
   (.cons ⟨hF2.sees.chg0 hcA,fun j hj hj'=>by have h1:=hnew2 j (eyes_own _ j hj);have h2:=hin j hj';omega⟩ (.cons ⟨(hF3.own.sees.chg0 hF2.chg).chg0 hcA,fun j hj hj'=>by have h1:=hnew3 j (eyes_own _ j hj);have h2:=hin j hj';omega⟩ .nil)) (fun j hj hj'=>by simp[eyes] at hj;subst hj;have h2:=hin _ hj';omega)
  refine oU 7 ?_;go_simp;refine hwr.mono ?_;rintro e w4 ⟨rfl,S4,hR4,hU4⟩;have c4':Chg S W0 w4:=(cA.nil hcA).toS.tr hU4.chg;refine⟨c4',?_⟩;refine yG ?_;refine tU 8 (.int .i64 (writesD D [(0,headB r 1 0),(1,zsec)]).2) c4' (fun w4 c4=>?_) ?_;·go_simp
  refine yG ?_;refine wpAnyU_done (by kernel_rfl) ?_ _;go_wp2_with fail;go_ret;exact⟨rfl,S4,hR4,⟨c03.toS.tr hU4.chg,fun k hk=>by
   rcases hU4.new k hk with h1 | h1
   ·exact .inl h1
   ·exact .inr (Nat.le_trans c03.size h1)⟩⟩
set_option maxRecDepth 100000 in
theorem marked_ok (w:World) (S:List Nat) (l p:Nat) (D:DiskD) (L:LogD) (hD:DiskR w S p D) (hL:LogR w l p L) (hd:D.down=false) (hr:L.ring<65536) (hpos:L.pos<65536) (hq:L.seq<281474976710656) (hs:(D.now 1).length=256):
  Calls Tryz.prog 153 #[.pointer (some ⟨l,0,none⟩)] w fun e w'=>e=.returned (.tuple #[.int .i64 (markedN D L),.int .i64 0])∧Chg [] w w':=by
 have hrd:=read_ok w S p D 1 hD hd (by obtain⟨_,_,_,_,_,_,_,hb,_⟩:=hD;have:=hb.least.1;omega);obtain⟨⟨c0,c1,c2,c3⟩,-⟩:=Blk.c4b hL;have hM:markedN D L=if D.now 1=markB L.seq L.pos (beVal (((D.now 1).drop 10).take 2))∧need (beVal (((D.now 1).drop 10).take 2))≤L.ring then beVal (((D.now 1).drop 10).take 2) else 0:=rfl
 obtain⟨res,hres⟩:∃r,markedN D L=r:=⟨_,rfl⟩;rw[hres] at hM ⊢;clear hres hD hL hd;generalize D.now 1=b at *;have hn:beVal ((b.drop 10).take 2)<65536:=by
  have h1:=beVal_lt ((b.drop 10).take 2);have h2:((b.drop 10).take 2).length=2:=by simp;omega
  rw[h2] at h1;exact h1
 obtain⟨n,hnn⟩:∃n,beVal ((b.drop 10).take 2)=n:=⟨_,rfl⟩;rw[hnn] at hn hM;have HRES:=zH hM;clear hM;have HB:=zE hnn hn hr hpos hq hs;clear hnn hn hr hpos hq hs;go_enter Tryz.func153,Tryz.ntmps153;go_wp2_with fail;refine hrd.mono ?_;rintro e w1 ⟨v1,rfl,hF1⟩;obtain⟨a1,k1,rfl,-⟩:=hF1.shape;have hrb:=readBig_ok w1 (.slice a1 256 k1) 256 10 2 b hF1.own.sees (by decide) (by decide) (by decide) (by decide);rw[HB.out.1] at hrb;have HF:=zH hF1;clear hrd hF1;go_wp2_with fail;refine hrb.mono ?_;rintro e w2 ⟨rfl,rfl⟩;clear hrb;go_upto_region 6 with (fail);have hnd:=fun w=>need_ok w (.pointer (some ⟨l,0,none⟩)) n (by have:=HB.out.2.1;omega)
 obtain⟨W0,hW0⟩:∃W0,w1.drew=W0:=⟨_,rfl⟩;have cd:Chg [] w1 W0:=by rw[←hW0];exact (Chg.refl _ _).drew
 refine wp_region_U [] (fun _=>false) (by kernel_rfl) ?_;rw[hW0];clear hW0;have C0:Chg [] W0 W0:=Chg.refl _ _;have cw:=HF.out.chg.nil cd;have y1:=cw.cell_some c1 (by simp);have y2:=cw.cell_some c2 (by simp);have y3:=cw.cell_some c3 (by simp);clear c0 c1 c2 c3;refine tU 0 (.slice a1 256 k1) C0 (fun w4 c4=>?_) ?_;·go_simp
 refine yG ?_;refine tU 1 (.pointer (some ⟨l,0,none⟩)) C0 (fun w4 c4=>?_) ?_;·go_simp
 refine yG ?_;refine tU 2 (.pointer (some ⟨l,0,none⟩)) C0 (fun w4 c4=>?_) ?_;·go_simp
 refine yG ?_;refine tU 3 (.pointer (some ⟨l,2,none⟩)) C0 (fun w4 c4=>?_) ?_;·go_simp
 refine yG ?_;refine tU 4 (.int .i64 L.seq) C0 (fun w4 c4=>?_) ?_
 ·have z:=c4.cell_some y2 (by simp);go_simp
 refine yG ?_;refine tU 5 (.pointer (some ⟨l,0,none⟩)) C0 (fun w4 c4=>?_) ?_;·go_simp
 refine yG ?_;refine tU 6 (.pointer (some ⟨l,0,none⟩)) C0 (fun w4 c4=>?_) ?_;·go_simp
 refine yG ?_;refine tU 7 (.pointer (some ⟨l,3,none⟩)) C0 (fun w4 c4=>?_) ?_;·go_simp
 refine yG ?_;refine tU 8 (.int .i64 L.pos) C0 (fun w4 c4=>?_) ?_
 ·have z:=c4.cell_some y3 (by simp);go_simp
 refine yG ?_;refine tU 9 (.int .i64 n) C0 (fun w4 c4=>?_) ?_;·go_simp
 refine yG ?_;refine oU 10 ?_;go_simp;refine (mark_any W0 L.seq L.pos n _ _ _ rfl rfl rfl HB.out.2.2.2.2.1 HB.out.2.2.2.1 HB.out.2.1).mono ?_;rintro e w2 ⟨v2,rfl,hF2⟩;refine⟨hF2.chg,?_⟩;refine yG ?_;obtain⟨a2,k2,rfl,-⟩:=hF2.shape;have heq:=fun w' (c:Chg [] w2 w')=>equal_any w' (.slice a1 256 k1) (.slice a2 256 k2) 256 256 b (markB L.seq L.pos n) (HF.out.own.sees.chg0 ((cd.nil hF2.chg).nil c)) (hF2.sees.chg0 c)
 have c02:=hF2.chg;have cw2:=cw.nil c02;have HQ:=zH cw2;clear cw2;by_cases hb:b=markB L.seq L.pos n
 ·rw[decide_eq_true hb] at heq;refine oU 11 ?_;go_simp;refine (heq _ (Chg.refl [] _)).mono ?_;rintro e w3 ⟨rfl,rfl⟩;refine⟨c02,?_⟩;refine yG ?_;have HBB:=zH hb;clear heq hb;refine tU 12 (.bool false) c02 (fun w4 c4=>?_) ?_;·go_simp
  refine yG ?_;refine tU 13 (.bool false) c02 (fun w4 c4=>?_) ?_;·go_simp
  refine yG ?_;refine tU 14 (.pointer (some ⟨l,0,none⟩)) c02 (fun w4 c4=>?_) ?_;·go_simp
  refine yG ?_;refine tU 15 (.int .i64 n) c02 (fun w4 c4=>?_) ?_;·go_simp
  refine yG ?_;refine tU 17 (.pointer (some ⟨l,0,none⟩)) c02 (fun w4 c4=>?_) ?_;·go_simp
  refine yG ?_;refine tU 18 (.pointer (some ⟨l,0,none⟩)) c02 (fun w4 c4=>?_) ?_;·go_simp
  refine yG ?_;refine tU 19 (.pointer (some ⟨l,1,none⟩)) c02 (fun w4 c4=>?_) ?_;·go_simp
  refine yG ?_;refine tU 20 (.int .i64 L.ring) c02 (fun w4 c4=>?_) ?_
  ·have z:=c4.cell_some y1 (by simp);go_simp
  refine yG ?_;refine oU 16 ?_;go_simp;refine (hnd _).mono ?_;rintro e w4 ⟨rfl,rfl⟩;refine⟨c02,?_⟩;refine yG ?_;by_cases hnr:need n≤L.ring
  ·have t:decide ((L.ring:Int)<(need n:Int))=false:=decide_eq_false (by omega);have HN:=zH hnr;clear hnr;refine tU 21 (.bool false) c02 (fun w4 c4=>?_) ?_;·go_simp;exact HN.out
   refine yG ?_;refine tU 22 (.bool false) c02 (fun w4 c4=>?_) ?_;·go_simp
   refine yG ?_;refine wpAnyU_done (by kernel_rfl) ?_ _;go_wp2_with fail;go_ret2;have e:=HRES.out;rw[if_pos ⟨HBB.out,HN.out⟩] at e;subst e;exact⟨rfl,HQ.out⟩
  ·have t:decide ((L.ring:Int)<(need n:Int))=true:=decide_eq_true (by omega);have HN:=zH hnr;clear hnr;refine tU 21 (.bool true) c02 (fun w4 c4=>?_) ?_;·go_simp;have:=HN.out;omega
   refine yG ?_;refine tU 22 (.bool true) c02 (fun w4 c4=>?_) ?_;·go_simp
   refine yG ?_;refine wpAnyU_done (by kernel_rfl) ?_ _;go_wp2_with fail;go_ret2;have e:=HRES.out;rw[if_neg (fun h=>HN.out h.2)] at e;subst e;exact⟨rfl,HQ.out⟩
 ·rw[decide_eq_false hb] at heq;refine oU 11 ?_;go_simp;refine (heq _ (Chg.refl [] _)).mono ?_;rintro e w3 ⟨rfl,rfl⟩;refine⟨c02,?_⟩;refine yG ?_;have HBB:=zH hb;clear heq hb;refine tU 12 (.bool true) c02 (fun w4 c4=>?_) ?_;·go_simp
  refine yG ?_;refine tU 13 (.bool true) c02 (fun w4 c4=>?_) ?_;·go_simp
  refine yG ?_;refine wpAnyU_skip 14 c02 rfl (by kernel_rfl) (by kernel_rfl) (by kernel_rfl) (by kernel_rfl) (fun _ _ _ h=>h) (by rfl) ?_;refine yG ?_;refine wpAnyU_skip 15 c02 rfl (by kernel_rfl) (by kernel_rfl) (by kernel_rfl) (by kernel_rfl) (fun _ _ _ h=>h) (by rfl) ?_;refine yG ?_;refine wpAnyU_skip 16 c02 rfl (by kernel_rfl) (by kernel_rfl) (by kernel_rfl) (by kernel_rfl) (fun _ _ _ h=>h) (by rfl) ?_;refine yG ?_;refine wpAnyU_skip 17 c02 rfl (by kernel_rfl) (by kernel_rfl) (by kernel_rfl) (by kernel_rfl) (fun _ _ _ h=>h) (by rfl) ?_;refine yG ?_;refine wpAnyU_skip 18 c02 rfl (by kernel_rfl) (by kernel_rfl) (by kernel_rfl) (by kernel_rfl) (fun _ _ _ h=>h) (by rfl) ?_;refine yG ?_;refine wpAnyU_skip 19 c02 rfl (by kernel_rfl) (by kernel_rfl) (by kernel_rfl) (by kernel_rfl) (fun _ _ _ h=>h) (by rfl) ?_;refine yG ?_;refine wpAnyU_skip 20 c02 rfl (by kernel_rfl) (by kernel_rfl) (by kernel_rfl) (by kernel_rfl) (fun _ _ _ h=>h) (by rfl) ?_;refine yG ?_;refine wpAnyU_skip 21 c02 rfl (by kernel_rfl) (by kernel_rfl) (by kernel_rfl) (by kernel_rfl) (fun _ _ _ h=>h) (by rfl) ?_;refine yG ?_;refine tU 22 (.bool true) c02 (fun w4 c4=>?_) ?_;·go_simp
  refine yG ?_;refine wpAnyU_done (by kernel_rfl) ?_ _;go_wp2_with fail;go_ret2;have e:=HRES.out;rw[if_neg (fun h=>HBB.out h.1)] at e;subst e;exact⟨rfl,HQ.out⟩
end
section
open Go.RowKit Go.Aq Go.Aq.Fy
theorem sl_sure:SliceTy Tryz.prog 111 38 (.slice none 0 0) 1 24:=⟨Tryz.underlying111,by kernel_rfl,rfl,by decide⟩
theorem DkB.zero {w w':World} {p i:Nat} {vs vs':Value} {ys:List Value} {a:Option Addr} {c:Nat} (h:DkB w p i 0 (fun _=>zsec) (fun _=>zsec) [] 0 vs (.slice none 0 0) ys [])
  (hb:Blk w' p #[vs',.slice none 0 0,.int .i64 0,.int .i64 0,.slice none 0 0,.bool false] 118) (k:Chg (p::vs.ownBlock.toList) w w') (ho:Aq.Own w' 38 1 vs' (i+1) (ys++[.slice a 256 c]))
  (hn:∀j∈vs'.ownBlock.toList,j∈vs.ownBlock.toList∨w.heap.size≤j) (hv:SecV w' (p::vs'.ownBlock.toList) (.slice a 256 c) zsec):
  DkB w' p (i+1) 0 (fun _=>zsec) (fun _=>zsec) [] 0 vs' (.slice none 0 0) (ys++[.slice a 256 c]) []:=by
 have hpl:=h.blk.lt;have hyl:ys.length=i:=by have:=h.os.len;omega
 have e0:(Value.slice none 0 0).ownBlock.toList=[]:=rfl;refine⟨hb,ho,Aq.Own.nil _ _ _,⟨fun hp=>?_,by simp[Value.ownBlock],fun j _ hj=>by simp[Value.ownBlock] at hj⟩,fun j hj=>?_,.nil,fun _ _=>rfl,by simp,⟨Nat.le_refl _,Nat.le_refl _⟩⟩
 ·rcases hn p hp with h1 | h1
  ·exact h.ne.1 h1
  ·omega
 ·rw[e0,List.append_nil];by_cases e:j<i
  ·obtain⟨y,h1,h2⟩:=h.rows j e;rw[e0,List.append_nil] at h2;refine⟨y,by rw[List.getElem?_append_left (by omega)];exact h1,h2.upd ⟨k,fun x hx=>?_⟩⟩;simp only[List.mem_cons] at hx ⊢;rcases hx with h3 | h3
   ·exact .inl (.inl h3)
   ·exact (hn x h3).imp .inr id
  ·have:j=ys.length:=by omega
   subst this;exact⟨.slice a 256 c,by simp,hv⟩
set_option maxRecDepth 100000 in
theorem dnew_ok (w:World) (n:Nat) (h4:4≤n) (h5:n≤4096):
  Calls Tryz.prog 17 #[.int .i64 n] w fun e w'=>∃p S,e=.returned (.tuple #[.pointer (some ⟨p,0,none⟩),.int .i64 0])∧DkR w' S p n (fun _=>zsec) 0∧Chg [] w w'∧∀k∈S,w.heap.size≤k:=by
 have t1:decide ((n:Int)<4)=false:=decide_eq_false (by omega);have t2:decide (4096<(n:Int))=false:=decide_eq_false (by omega);have t1':decide (n<4)=false:=decide_eq_false (by omega);have t2':decide (4096<n)=false:=decide_eq_false (by omega);have hz:∀w,(zeroValue 118).run Tryz.prog w=.ok (.agg #[.slice none 0 0,.slice none 0 0,.int .i64 0,.int .i64 0,.slice none 0 0,.bool false]) w:=fun w=>by kernel_rfl
 have HN:=zA h4 h5;obtain⟨p,hp⟩:∃p,w.heap.size=p:=⟨_,rfl⟩;have c1:Chg [] w (w.alloc (.cells #[.slice none 0 0,.slice none 0 0,.int .i64 0,.int .i64 0,.slice none 0 0,.bool false] 118)):=(Chg.refl _ _).alloc _;have hb:Blk (w.alloc (.cells #[.slice none 0 0,.slice none 0 0,.int .i64 0,.int .i64 0,.slice none 0 0,.bool false] 118)) p #[.slice none 0 0,.slice none 0 0,.int .i64 0,.int .i64 0,.slice none 0 0,.bool false] 118:=Blk.new_at w _ _ hp;have hD:DkB (w.alloc (.cells #[.slice none 0 0,.slice none 0 0,.int .i64 0,.int .i64 0,.slice none 0 0,.bool false] 118)) p 0 0 (fun _=>zsec) (fun _=>zsec) [] 0 (.slice none 0 0) (.slice none 0 0) [] []:=
  ⟨hb,Aq.Own.nil _ _ _,Aq.Own.nil _ _ _,⟨by simp[Value.ownBlock],by simp[Value.ownBlock],fun j hj=>by simp[Value.ownBlock] at hj⟩,fun k hk=>by omega,.nil,fun k hk=>by omega,by simp,⟨Nat.le_refl _,Nat.le_refl _⟩⟩
 have H0:=zB c1 hD hp;clear h4 h5 c1 hb hD;go_enter Tryz.func17,Tryz.ntmps17;go_wp2_with fail;go_loopg [5] n (fun gk (v5:Value) wr=>∃(i:Nat) (a:Option Addr) (c:Nat) (ys:List Value),v5=.int .i64 i∧Hid (i+gk=n∧DkB wr p i 0 (fun _=>zsec) (fun _=>zsec) [] 0 (.slice a i c) (.slice none 0 0) ys []∧Chg [] w wr∧∀k∈(Value.slice a i c).ownBlock.toList,w.heap.size≤k));case atStart=>exact⟨0,none,0,[],rfl,Nat.zero_add _,H0.out.2.1,H0.out.1,by simp[Value.ownBlock]⟩
 case round=>
  obtain⟨i,ao,cao,ys,rfl,HJ⟩:=hrel;obtain⟨⟨y0,-⟩,-⟩:=HJ.out.2.1.blk.c6;by_cases hi:i<n
  ·have t3:decide ((i:Int)<(n:Int))=true:=by simp;omega
   have t3':decide (i<n)=true:=by simp;omega
   have e3:wrap64 ((i:Int)+1)=(i:Int)+1:=by have:=HN.out.2;unfold wrap64;omega
   have e3w:=wIqD e3;have HI:=zH hi;clear hi;go_upto_region 7 with (fail);obtain⟨SV,hSV⟩:∃SV,(Value.slice ao i cao).ownBlock.toList=SV:=⟨_,rfl⟩;have HSV:=zH hSV;have n3:p∉SV:=by rw[←hSV];exact HJ.out.2.1.ne.1
   refine wp_region_U SV (fun i=>decide (8≤i)) (by kernel_rfl) ?_;have c0:Chg [] wr wr.drew:=(Chg.refl _ _).drew;have hE:=HJ.out.2.1.upd c0;have y0':=c0.cell_some y0 (by simp);have HC:=zH (HJ.out.2.2.1.nil c0);clear y0 hSV c0;generalize wr.drew=W0 at *;have C0:Chg SV W0 W0:=Chg.refl _ _;have HE:=zH hE;clear hE;refine tU 0 (.pointer (some ⟨p,0,none⟩)) C0 (fun w4 c4=>?_) ?_;·go_simp
   refine yG ?_;refine tU 1 (.pointer (some ⟨p,0,none⟩)) C0 (fun w4 c4=>?_) ?_;·go_simp
   refine yG ?_;refine tU 2 (.pointer (some ⟨p,0,none⟩)) C0 (fun w4 c4=>?_) ?_;·go_simp
   refine yG ?_;refine tU 3 (.pointer (some ⟨p,0,none⟩)) C0 (fun w4 c4=>?_) ?_;·go_simp
   refine yG ?_;refine tU 4 (.slice ao i cao) C0 (fun w4 c4=>?_) ?_
   ·have z:=c4.cell_some y0' n3;go_simp
   refine yG ?_;refine oU 5 ?_;refine wp_mkU _ _ 38 rfl sl_u8D rfl .i64 .i64 256 rfl rfl rfl rfl (by decide) (by decide) ?_;intro w1 hF1;have ho1:=hF1.own;have k1:=hF1.chg;have hs1:W0.heap.size<w1.heap.size:=ho1.lt _ (by simp[Value.ownBlock]);clear hF1;refine⟨k1.toS,?_⟩;refine yG ?_;obtain⟨B1,hB1⟩:∃B1,W0.heap.size=B1:=⟨_,rfl⟩;rw[hB1] at ho1 hs1;(try rw[hB1]);refine oU 6 ?_;go_simp;have hcA:Chg [] w1 (w1.alloc (.cells #[.slice (some ⟨B1,0,none⟩) 256 256] 38)):=(Chg.refl [] _).alloc _;have hsrc:Sees (w1.alloc (.cells #[.slice (some ⟨B1,0,none⟩) 256 256] 38)) 1 (.slice (some ⟨w1.heap.size,0,none⟩) 1 1) 1 [.slice (some ⟨B1,0,none⟩) 256 256]:=Sees.row (Blk.new w1 #[.slice (some ⟨B1,0,none⟩) 256 256] 38) (m:=1) rfl;have c02:=k1.nil hcA;refine⟨c02.toS,?_⟩;refine yG ?_;have hown:=HE.out.os.chg c02 (fun _ _=>by simp);refine oU 7 ?_;refine wp_app _ _ 111 rfl sl_sure hown rfl hsrc rfl (by intro u hu;simp at hu;rw[hu];rfl) (by have:=HN.out.2;have:=HI.out;omega) (by have:=HN.out.2;have:=HI.out;omega) ?_;intro pv w3 ho3 hc3 hn3;rw[HSV.out] at hc3 hn3;obtain⟨ao3,cap3,rfl,-⟩:=ho3.sees.shape;have c03:Chg SV W0 w3:=c02.toS.tr hc3;refine⟨c03,?_⟩;refine yG ?_;have hb3:=HE.out.blk.chg c03 n3;obtain⟨⟨u3,-⟩,g3,-⟩:=hb3.c6;have hlt1:=ho1.lt B1 (by simp[Value.ownBlock]);have hdB:B1∉SV:=fun h=>by rw[←HSV.out] at h;have:=HE.out.os.lt B1 h;omega
   have hoB:∀j∈(Value.slice ao3 (i+1) cap3).ownBlock.toList,j∈SV∨W0.heap.size<j:=fun j hj=>(hn3 j hj).imp id fun h=>by have:=hcA.size;omega
   have hv3:Sees w3 1 (.slice (some ⟨B1,0,none⟩) 256 256) 256 (Bs zsec):=by
    have e:(List.replicate 256 (Value.int .u8 0))=Bs zsec:=rfl;rw[e] at ho1;exact (ho1.sees.chg0 hcA).chg hc3 (fun j hj hj'=>by simp[eyes] at hj;subst hj;exact hdB hj')
   have HX:=zF hb3 ho3 c03 hoB hv3 hdB hB1;clear hb3 ho3 hc3 hn3 hv3 hsrc hown hcA ho1 hs1 hB1 hlt1 hdB hoB k1 c02;refine wpAnyU_last 8 rfl (by kernel_rfl) (by rfl) (by rfl) ?_;go_simp;refine yG ?_;refine wpAny_only 9 rfl (by kernel_rfl) (by rfl) ?_;go_simp;refine yG ?_;refine wpAny_only 10 rfl (by kernel_rfl) (by rfl) ?_;go_simp;refine yG ?_;refine wpAny_fin (by kernel_rfl) ?_ _;obtain⟨hb3,ho3,-,hoB,hv3,hdB,hB1⟩:=HX.out;have hb4:=hb3.set 0 (Value.slice ao3 (i+1) cap3);simp only[List.setIfInBounds_toArray,List.set_cons_zero,List.set_cons_succ] at hb4;obtain⟨w5,hw5⟩:∃w5,w3.setCell ⟨p,0,none⟩ (Value.slice ao3 (i+1) cap3)=w5:=⟨_,rfl⟩;have c35:Chg [p] w3 w5:=by rw[←hw5];exact (Chg.refl _ _).setCell (by simp) _
   rw[hw5] at hb4 ⊢;have hpo:=ho3.ne hb3 (by decide);have hp1:=HE.out.blk.lt;have c05:Chg (p::SV) W0 w5:=(c03.mono (fun j hj=>.inl (by simp[hj]))).tr (c35.mono (fun j hj=>.inl (by rw[List.mem_singleton.1 hj];simp)));have h5:=HE.out.zero hb4 (by rw[HSV.out];exact c05) (ho3.chg c35 (fun j hj hj'=>hpo (by rw[List.mem_singleton.1 hj'] at hj;exact hj))) (fun j hj=>by rw[HSV.out];exact (hoB j hj).imp id Nat.le_of_lt)
    ⟨hv3.chg c35 (fun j hj hj'=>by simp[eyes] at hj;rw[List.mem_singleton.1 hj'] at hj;omega),fun j hj hj'=>by
     simp[eyes] at hj;subst hj;rcases List.mem_cons.1 hj' with h1 | h1
     ·omega
     ·rcases hoB _ h1 with h2 | h2
      ·exact hdB h2
      ·omega⟩
   have HR:=zH (And.intro h5 (And.intro (HC.out.trans c05 (fun j hj=>by
    rcases List.mem_cons.1 hj with rfl | h1
    ·right;have:=H0.out.2.2;omega
    ·right;exact HJ.out.2.2.2 j (by rw[HSV.out];exact h1))) (fun j (hj:j∈(Value.slice ao3 (i+1) cap3).ownBlock.toList)=>(show w.heap.size≤j from by
    rcases hoB j hj with h1 | h1
    ·exact HJ.out.2.2.2 j (by rw[HSV.out];exact h1)
    ·have:=HC.out.size;omega))))
   clear hb3 ho3 hoB hv3 hdB hB1 hb4 c35 hw5 hpo hp1 c05 h5 HX y0' c03 C0 g3 u3;go_wp2_with fail;go_roundg (gk - 1);case measure=>have:=HJ.out.1;have:=HI.out;omega
   case rel=>exact⟨i+1,ao3,cap3,_,by first | rfl | (rw[e3];rfl),by have:=HJ.out.1;have:=HI.out;omega,HR.out.1,HR.out.2.1,HR.out.2.2⟩
  ·have t3:decide ((i:Int)<(n:Int))=false:=by simp;omega
   have t3':decide (i<n)=false:=by simp;omega
   obtain rfl:i=n:=by have:=HJ.out.1;omega
   go_wp2_with fail;go_ret2;refine⟨p,rfl,p::((Value.slice ao i cao).ownBlock.toList++[]),⟨fun _=>zsec,[],0,.slice ao i cao,.slice none 0 0,ys,[],HJ.out.2.1,rfl⟩,HJ.out.2.2.1,fun k hk=>?_⟩;simp only[Value.ownBlock,Option.toList,List.append_nil,List.mem_cons] at hk;rcases hk with rfl | hk
   ·exact Nat.le_refl _
   ·have h9:=HJ.out.2.2.2 k hk;rw[H0.out.2.2] at h9;exact h9
end
end Go.Proofs.YtlbdklaggalgfaaGreatDoor
