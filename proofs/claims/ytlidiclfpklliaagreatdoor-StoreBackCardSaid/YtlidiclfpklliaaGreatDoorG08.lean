/- FyI FyJ -/
import Derived.Test.YtlidiclfpklliaaGreatDoorG07
set_option linter.unusedSimpArgs false
set_option linter.unusedVariables false
set_option maxHeartbeats 4000000
namespace Go.Aq
open Go.RowKit
theorem Sees.rowsY {W:World} {k:Nat} {cs:Array Value} {e:TypeId} {m s:Nat} (h:Blk W k cs e) (hm:cs.size=m * s):Sees W s (.slice (some ⟨k,0,none⟩) m m) m cs.toList:=by
 refine⟨by simpa using hm,_,_,rfl,Nat.le_refl _,by simp,fun ad had j u hu=>?_⟩
 cases had
 rw[Addr.add_lit,Nat.zero_add,h.cell]
 simpa using hu
theorem wp_mkU {P:Program} {w:World} {o:Oper} {a:Act} {K:Act→World→Prop} {Q:Exit→Act→World→Prop} (l c:Operand) (t:TypeId) (hop:o.op=Op.makeSlice t l c)
  {e:TypeId} {z:Value} {bytes:Nat} (ht:SliceTy P t e z 1 bytes) (hz:z.cells=#[z]) (kl kc:IntKind) (n:Nat) {L C:Int} (hl:a.eval l=.int kl L) (hc:a.eval c=.int kc C) (hL:L=(n:Int)) (hC:C=(n:Int))
  (hb:bytes * n≤281474976710656) (h63:n≤9223372036854775807)
  (h:∀w',Fresh w w' e 1 (.slice (some ⟨w.heap.size,0,none⟩) n n) n (List.replicate n z)→K (a.put o.dst (.slice (some ⟨w.heap.size,0,none⟩) n n)) w'):o.wp P a w K Q:=by
 obtain⟨ht1,ht2,ht3,ht4⟩:=ht
 obtain⟨i,hi,hz0,hz1,rfl⟩:=info_parts ht2
 obtain⟨w',hrun,r1,r2⟩:=run_make_full (P:=P) w 0 t e i z 1 ht1 hi hz0 hz1 kl kc n hb (by simpa[maxLen] using h63) (Nat.zero_le _)
 subst hL hC
 unfold Oper.wp
 simp[execOp,hop,hl,hc,hrun,Result.andThen]
 rw[hz,Nat.mul_one,toList_madeCells_one] at r1
 exact h w' ⟨r1,Chg.of_grown r2,by simp[Value.ownBlock]⟩
end Go.Aq
namespace Go.Proofs.YtlidiclfpklliaaGreatDoor
open Go.RowKit Go.Aq Go.Aq.Fy Go.Maps
theorem equal_any (w:World) (v v':Value) (n n':Nat) (a b:List UInt8) (h1:Sees w 1 v n (Bs a)) (h2:Sees w 1 v' n' (Bs b)):
  Calls Tryz.prog 51 #[v,v'] w fun e w'=>e=.returned (.bool (decide (a=b)))∧w'=w:=by
 have h:=Tryz.bytes_Equal_strs v v' (str a) (str b) w (run_str8 h1) (run_str8 h2)
 rw[str_eq] at h
 exact h
set_option maxRecDepth 100000 in
theorem formatL_ok (w:World) (S:List Nat) (p:Nat) (D:DiskD) (r:Nat) (hD:DiskR w S p D) (hd:D.down=false) (hp:D.pend.length≤800000) (h1:1≤r) (h2:r+4≤D.n) (h3:r<65536):
  Calls Tryz.prog 92 #[.pointer (some ⟨p,0,none⟩),.int .i64 r] w fun e w'=>e=.returned (.int .i64 (writesD D [(0,headB r 1 0),(1,zsec)]).2)∧∃S',DiskR w' S' p (writesD D [(0,headB r 1 0),(1,zsec)]).1∧Upd S S' w w':=by
 have hwn:=wrong_no w S p D hD r h1 h2
 have HH:=zD hD hd hp h3 (show 1<D.n by omega)
 clear hD hd hp h1 h2 h3
 go_enter Tryz.func92,Tryz.ntmps92
 go_wp2_with fail
 refine hwn.mono ?_
 rintro e w' ⟨rfl,rfl⟩
 clear hwn
 go_upto_region 3 with (fail)
 obtain⟨W0,hW0⟩:∃W0,w'.drew=W0:=⟨_,rfl⟩
 have cd:Chg [] w' W0:=by rw[←hW0];exact (Chg.refl _ _).drew
 refine wp_region_U S (fun _=>false) (by kernel_rfl) ?_
 rw[hW0]
 clear hW0
 have C0:Chg S W0 W0:=Chg.refl _ _
 refine tU 0 (.pointer (some ⟨p,0,none⟩)) C0 (fun w4 c4=>?_) ?_
 ·go_simp
 try simp only[Act.put,yA,yB,yC,yD,yE,yF]
 refine tU 1 (.int .i64 r) C0 (fun w4 c4=>?_) ?_
 ·go_simp
 try simp only[Act.put,yA,yB,yC,yD,yE,yF]
 refine wpAnyU_two 2 4 rfl rfl (by kernel_rfl) (by rfl) (by rfl) (by rfl) (by rfl) ?_ ?_
 ·go_simp
  refine (head_any W0 r 1 0 _ _ _ rfl rfl rfl HH.out.2.2.2.1 (by decide) (by decide)).mono ?_
  rintro e w2 ⟨v2,rfl,hF2⟩
  refine⟨hF2.chg.toS,?_⟩
  try simp only[Act.put,yA,yB,yC,yD,yE,yF]
  obtain⟨a2,k2,rfl,-⟩:=hF2.shape
  refine tU 3 (.agg #[.int .i64 0,.slice a2 256 k2]) hF2.chg.toS (fun w4 c4=>?_) ?_
  ·go_simp
  try simp only[Act.put,yA,yB,yC,yD,yE,yF]
  refine oU 4 ?_
  refine wp_mkU _ _ 36 rfl sl_u8y rfl .i64 .i64 256 rfl rfl rfl rfl (by decide) (by decide) ?_
  intro w3 hF3
  rw[rep_nul] at hF3
  obtain⟨z,hz⟩:∃z,w2.heap.size=z:=⟨_,rfl⟩
  rw[hz] at hF3 ⊢
  have cA:Chg [] W0 w3:=hF2.chg.nil hF3.chg
  refine⟨cA.toS,?_⟩
  try simp only[Act.put,yA,yB,yC,yD,yE,yF]
  refine tU 5 (.agg #[.int .i64 1,.slice (some ⟨z,0,none⟩) 256 256]) cA.toS (fun w4 c4=>?_) ?_
  ·go_simp
  try simp only[Act.put,yA,yB,yC,yD,yE,yF]
  have hnew2:=hF2.new
  have hnew3:∀k∈(Value.slice (some ⟨z,0,none⟩) 256 256).ownBlock.toList,W0.heap.size≤k:=fun k hk=>Nat.le_trans hF2.chg.size (hF3.new k hk)
  refine oU 6 ?_
  go_simp
  have hcA:Chg [] w3 (w3.alloc (.cells #[.int .i64 0,.slice a2 256 k2,.int .i64 1,.slice (some ⟨z,0,none⟩) 256 256] 199)):=(Chg.refl [] _).alloc _
  refine⟨(cA.nil hcA).toS,?_⟩
  try simp only[Act.put,yA,yB,yC,yD,yE,yF]
  have hbx:Blk (w3.alloc (.cells #[.int .i64 0,.slice a2 256 k2,.int .i64 1,.slice (some ⟨z,0,none⟩) 256 256] 199)) w3.heap.size #[.int .i64 0,.slice a2 256 k2,.int .i64 1,.slice (some ⟨z,0,none⟩) 256 256] 199:=Blk.new _ _ _
  have c03:Chg [] w' (w3.alloc (.cells #[.int .i64 0,.slice a2 256 k2,.int .i64 1,.slice (some ⟨z,0,none⟩) 256 256] 199)):=(cd.nil cA).nil hcA
  have hR3:=HH.out.1.chg c03
  have hin:=HH.out.1.lt
  have hsz:=cd.size
  have hsz3:=cA.size
  have hwr:=writes_ok _ S p D hR3 HH.out.2.1 [(0,headB r 1 0),(1,zsec)] (by have:=HH.out.2.2.1;simp;omega) (by intro q hq;simp at hq;have:=HH.out.2.2.2.2;rcases hq with rfl | rfl <;> simp <;> omega) (.slice (some ⟨w3.heap.size,0,none⟩) 2 2) [.int .i64 0,.slice a2 256 k2,.int .i64 1,.slice (some ⟨z,0,none⟩) 256 256]
   (Sees.rowsY hbx rfl)
   (.cons ⟨(hF2.sees.chg0 hF3.chg).chg0 hcA,fun j hj hj'=>by have h1:=hnew2 j (eyes_own _ j hj);have h2:=hin j hj';omega⟩ (.cons ⟨hF3.own.sees.chg0 hcA,fun j hj hj'=>by have h1:=hnew3 j (eyes_own _ j hj);have h2:=hin j hj';omega⟩ .nil)) (fun j hj hj'=>by simp[eyes] at hj;subst hj;have h2:=hin _ hj';omega)
  refine oU 7 ?_
  go_simp
  refine hwr.mono ?_
  rintro e w4 ⟨rfl,S4,hR4,hU4⟩
  have c4':Chg S W0 w4:=(cA.nil hcA).toS.tr hU4.chg
  refine⟨c4',?_⟩
  try simp only[Act.put,yA,yB,yC,yD,yE,yF]
  refine tU 8 (.int .i64 (writesD D [(0,headB r 1 0),(1,zsec)]).2) c4' (fun w4 c4=>?_) ?_
  ·go_simp
  try simp only[Act.put,yA,yB,yC,yD,yE,yF]
  refine wpAnyU_done (by kernel_rfl) ?_ _
  go_wp2_with fail
  go_ret
  exact⟨rfl,S4,hR4,⟨c03.toS.tr hU4.chg,fun k hk=>by
   rcases hU4.new k hk with h1 | h1
   ·exact .inl h1
   ·exact .inr (Nat.le_trans c03.size h1)⟩⟩
 ·refine wp_mkU _ _ 36 rfl sl_u8y rfl .i64 .i64 256 rfl rfl rfl rfl (by decide) (by decide) ?_
  intro w2 hF3
  rw[rep_nul] at hF3
  obtain⟨z,hz⟩:∃z,W0.heap.size=z:=⟨_,rfl⟩
  rw[hz] at hF3 ⊢
  refine⟨hF3.chg.toS,?_⟩
  try simp only[Act.put,yA,yB,yC,yD,yE,yF]
  refine tU 5 (.agg #[.int .i64 1,.slice (some ⟨z,0,none⟩) 256 256]) hF3.chg.toS (fun w4 c4=>?_) ?_
  ·go_simp
  try simp only[Act.put,yA,yB,yC,yD,yE,yF]
  refine oU 2 ?_
  go_simp
  refine (head_any w2 r 1 0 _ _ _ rfl rfl rfl HH.out.2.2.2.1 (by decide) (by decide)).mono ?_
  rintro e w3 ⟨v2,rfl,hF2⟩
  have cA:Chg [] W0 w3:=hF3.chg.nil hF2.chg
  refine⟨cA.toS,?_⟩
  try simp only[Act.put,yA,yB,yC,yD,yE,yF]
  obtain⟨a2,k2,rfl,-⟩:=hF2.shape
  refine tU 3 (.agg #[.int .i64 0,.slice a2 256 k2]) cA.toS (fun w4 c4=>?_) ?_
  ·go_simp
  try simp only[Act.put,yA,yB,yC,yD,yE,yF]
  have hnew3:=hF3.new
  have hnew2:∀k∈(Value.slice a2 256 k2).ownBlock.toList,W0.heap.size≤k:=fun k hk=>Nat.le_trans hF3.chg.size (hF2.new k hk)
  refine oU 6 ?_
  go_simp
  have hcA:Chg [] w3 (w3.alloc (.cells #[.int .i64 0,.slice a2 256 k2,.int .i64 1,.slice (some ⟨z,0,none⟩) 256 256] 199)):=(Chg.refl [] _).alloc _
  refine⟨(cA.nil hcA).toS,?_⟩
  try simp only[Act.put,yA,yB,yC,yD,yE,yF]
  have hbx:Blk (w3.alloc (.cells #[.int .i64 0,.slice a2 256 k2,.int .i64 1,.slice (some ⟨z,0,none⟩) 256 256] 199)) w3.heap.size #[.int .i64 0,.slice a2 256 k2,.int .i64 1,.slice (some ⟨z,0,none⟩) 256 256] 199:=Blk.new _ _ _
  have c03:Chg [] w' (w3.alloc (.cells #[.int .i64 0,.slice a2 256 k2,.int .i64 1,.slice (some ⟨z,0,none⟩) 256 256] 199)):=(cd.nil cA).nil hcA
  have hR3:=HH.out.1.chg c03
  have hin:=HH.out.1.lt
  have hsz:=cd.size
  have hsz3:=cA.size
  have hwr:=writes_ok _ S p D hR3 HH.out.2.1 [(0,headB r 1 0),(1,zsec)] (by have:=HH.out.2.2.1;simp;omega) (by intro q hq;simp at hq;have:=HH.out.2.2.2.2;rcases hq with rfl | rfl <;> simp <;> omega) (.slice (some ⟨w3.heap.size,0,none⟩) 2 2) [.int .i64 0,.slice a2 256 k2,.int .i64 1,.slice (some ⟨z,0,none⟩) 256 256]
   (Sees.rowsY hbx rfl)
   (.cons ⟨hF2.sees.chg0 hcA,fun j hj hj'=>by have h1:=hnew2 j (eyes_own _ j hj);have h2:=hin j hj';omega⟩ (.cons ⟨(hF3.own.sees.chg0 hF2.chg).chg0 hcA,fun j hj hj'=>by have h1:=hnew3 j (eyes_own _ j hj);have h2:=hin j hj';omega⟩ .nil)) (fun j hj hj'=>by simp[eyes] at hj;subst hj;have h2:=hin _ hj';omega)
  refine oU 7 ?_
  go_simp
  refine hwr.mono ?_
  rintro e w4 ⟨rfl,S4,hR4,hU4⟩
  have c4':Chg S W0 w4:=(cA.nil hcA).toS.tr hU4.chg
  refine⟨c4',?_⟩
  try simp only[Act.put,yA,yB,yC,yD,yE,yF]
  refine tU 8 (.int .i64 (writesD D [(0,headB r 1 0),(1,zsec)]).2) c4' (fun w4 c4=>?_) ?_
  ·go_simp
  try simp only[Act.put,yA,yB,yC,yD,yE,yF]
  refine wpAnyU_done (by kernel_rfl) ?_ _
  go_wp2_with fail
  go_ret
  exact⟨rfl,S4,hR4,⟨c03.toS.tr hU4.chg,fun k hk=>by
   rcases hU4.new k hk with h1 | h1
   ·exact .inl h1
   ·exact .inr (Nat.le_trans c03.size h1)⟩⟩
set_option maxRecDepth 100000 in
theorem marked_ok (w:World) (S:List Nat) (l p:Nat) (D:DiskD) (L:LogD) (hD:DiskR w S p D) (hL:LogR w l p L) (hd:D.down=false) (hr:L.ring<65536) (hpos:L.pos<65536) (hq:L.seq<281474976710656) (hs:(D.now 1).length=256):
  Calls Tryz.prog 232 #[.pointer (some ⟨l,0,none⟩)] w fun e w'=>e=.returned (.tuple #[.int .i64 (markedN D L),.int .i64 0])∧Chg [] w w':=by
 have hrd:=read_ok w S p D 1 hD hd (by obtain⟨_,_,_,_,_,_,_,hb,_⟩:=hD;have:=hb.least.1;omega)
 obtain⟨⟨c0,c1,c2,c3⟩,-⟩:=Blk.c4b hL
 have hM:markedN D L=if D.now 1=markB L.seq L.pos (beVal (((D.now 1).drop 10).take 2))∧need (beVal (((D.now 1).drop 10).take 2))≤L.ring then beVal (((D.now 1).drop 10).take 2) else 0:=rfl
 obtain⟨res,hres⟩:∃r,markedN D L=r:=⟨_,rfl⟩
 rw[hres] at hM ⊢
 clear hres hD hL hd
 generalize D.now 1=b at *
 have hn:beVal ((b.drop 10).take 2)<65536:=by
  have h1:=beVal_lt ((b.drop 10).take 2)
  have h2:((b.drop 10).take 2).length=2:=by simp;omega
  rw[h2] at h1
  exact h1
 obtain⟨n,hnn⟩:∃n,beVal ((b.drop 10).take 2)=n:=⟨_,rfl⟩
 rw[hnn] at hn hM
 have HRES:=zH hM
 clear hM
 have HB:=zE hnn hn hr hpos hq hs
 clear hnn hn hr hpos hq hs
 go_enter Tryz.func232,Tryz.ntmps232
 go_wp2_with fail
 refine hrd.mono ?_
 rintro e w1 ⟨v1,rfl,hF1⟩
 obtain⟨a1,k1,rfl,-⟩:=hF1.shape
 have hrb:=readBig_ok w1 (.slice a1 256 k1) 256 10 2 b hF1.own.sees (by decide) (by decide) (by decide) (by decide)
 rw[HB.out.1] at hrb
 have HF:=zH hF1
 clear hrd hF1
 go_wp2_with fail
 refine hrb.mono ?_
 rintro e w2 ⟨rfl,rfl⟩
 clear hrb
 go_upto_region 6 with (fail)
 have hnd:=fun w=>need_ok w (.pointer (some ⟨l,0,none⟩)) n (by have:=HB.out.2.1;omega)
 obtain⟨W0,hW0⟩:∃W0,w1.drew=W0:=⟨_,rfl⟩
 have cd:Chg [] w1 W0:=by rw[←hW0];exact (Chg.refl _ _).drew
 refine wp_region_U [] (fun _=>false) (by kernel_rfl) ?_
 rw[hW0]
 clear hW0
 have C0:Chg [] W0 W0:=Chg.refl _ _
 have cw:=HF.out.chg.nil cd
 have y1:=cw.cell_some c1 (by simp)
 have y2:=cw.cell_some c2 (by simp)
 have y3:=cw.cell_some c3 (by simp)
 clear c0 c1 c2 c3
 refine tU 0 (.slice a1 256 k1) C0 (fun w4 c4=>?_) ?_
 ·go_simp
 try simp only[Act.put,yA,yB,yC,yD,yE,yF]
 refine tU 1 (.pointer (some ⟨l,0,none⟩)) C0 (fun w4 c4=>?_) ?_
 ·go_simp
 try simp only[Act.put,yA,yB,yC,yD,yE,yF]
 refine tU 2 (.pointer (some ⟨l,0,none⟩)) C0 (fun w4 c4=>?_) ?_
 ·go_simp
 try simp only[Act.put,yA,yB,yC,yD,yE,yF]
 refine tU 3 (.pointer (some ⟨l,2,none⟩)) C0 (fun w4 c4=>?_) ?_
 ·go_simp
 try simp only[Act.put,yA,yB,yC,yD,yE,yF]
 refine tU 4 (.int .i64 L.seq) C0 (fun w4 c4=>?_) ?_
 ·have z:=c4.cell_some y2 (by simp)
  go_simp
 try simp only[Act.put,yA,yB,yC,yD,yE,yF]
 refine tU 5 (.pointer (some ⟨l,0,none⟩)) C0 (fun w4 c4=>?_) ?_
 ·go_simp
 try simp only[Act.put,yA,yB,yC,yD,yE,yF]
 refine tU 6 (.pointer (some ⟨l,0,none⟩)) C0 (fun w4 c4=>?_) ?_
 ·go_simp
 try simp only[Act.put,yA,yB,yC,yD,yE,yF]
 refine tU 7 (.pointer (some ⟨l,3,none⟩)) C0 (fun w4 c4=>?_) ?_
 ·go_simp
 try simp only[Act.put,yA,yB,yC,yD,yE,yF]
 refine tU 8 (.int .i64 L.pos) C0 (fun w4 c4=>?_) ?_
 ·have z:=c4.cell_some y3 (by simp)
  go_simp
 try simp only[Act.put,yA,yB,yC,yD,yE,yF]
 refine tU 9 (.int .i64 n) C0 (fun w4 c4=>?_) ?_
 ·go_simp
 try simp only[Act.put,yA,yB,yC,yD,yE,yF]
 refine oU 10 ?_
 go_simp
 refine (mark_any W0 L.seq L.pos n _ _ _ rfl rfl rfl HB.out.2.2.2.2.1 HB.out.2.2.2.1 HB.out.2.1).mono ?_
 rintro e w2 ⟨v2,rfl,hF2⟩
 refine⟨hF2.chg,?_⟩
 try simp only[Act.put,yA,yB,yC,yD,yE,yF]
 obtain⟨a2,k2,rfl,-⟩:=hF2.shape
 have heq:=fun w' (c:Chg [] w2 w')=>equal_any w' (.slice a1 256 k1) (.slice a2 256 k2) 256 256 b (markB L.seq L.pos n) (HF.out.own.sees.chg0 ((cd.nil hF2.chg).nil c)) (hF2.sees.chg0 c)
 have c02:=hF2.chg
 have cw2:=cw.nil c02
 have HQ:=zH cw2
 clear cw2
 by_cases hb:b=markB L.seq L.pos n
 ·rw[decide_eq_true hb] at heq
  refine oU 11 ?_
  go_simp
  refine (heq _ (Chg.refl [] _)).mono ?_
  rintro e w3 ⟨rfl,rfl⟩
  refine⟨c02,?_⟩
  try simp only[Act.put,yA,yB,yC,yD,yE,yF]
  have HBB:=zH hb
  clear heq hb
  refine tU 12 (.bool false) c02 (fun w4 c4=>?_) ?_
  ·go_simp
  try simp only[Act.put,yA,yB,yC,yD,yE,yF]
  refine tU 13 (.bool false) c02 (fun w4 c4=>?_) ?_
  ·go_simp
  try simp only[Act.put,yA,yB,yC,yD,yE,yF]
  refine tU 14 (.pointer (some ⟨l,0,none⟩)) c02 (fun w4 c4=>?_) ?_
  ·go_simp
  try simp only[Act.put,yA,yB,yC,yD,yE,yF]
  refine tU 15 (.int .i64 n) c02 (fun w4 c4=>?_) ?_
  ·go_simp
  try simp only[Act.put,yA,yB,yC,yD,yE,yF]
  refine tU 17 (.pointer (some ⟨l,0,none⟩)) c02 (fun w4 c4=>?_) ?_
  ·go_simp
  try simp only[Act.put,yA,yB,yC,yD,yE,yF]
  refine tU 18 (.pointer (some ⟨l,0,none⟩)) c02 (fun w4 c4=>?_) ?_
  ·go_simp
  try simp only[Act.put,yA,yB,yC,yD,yE,yF]
  refine tU 19 (.pointer (some ⟨l,1,none⟩)) c02 (fun w4 c4=>?_) ?_
  ·go_simp
  try simp only[Act.put,yA,yB,yC,yD,yE,yF]
  refine tU 20 (.int .i64 L.ring) c02 (fun w4 c4=>?_) ?_
  ·have z:=c4.cell_some y1 (by simp)
   go_simp
  try simp only[Act.put,yA,yB,yC,yD,yE,yF]
  refine oU 16 ?_
  go_simp
  refine (hnd _).mono ?_
  rintro e w4 ⟨rfl,rfl⟩
  refine⟨c02,?_⟩
  try simp only[Act.put,yA,yB,yC,yD,yE,yF]
  by_cases hnr:need n≤L.ring
  ·have t:decide ((L.ring:Int)<(need n:Int))=false:=decide_eq_false (by omega)
   have HN:=zH hnr
   clear hnr
   refine tU 21 (.bool false) c02 (fun w4 c4=>?_) ?_
   ·go_simp;exact HN.out
   try simp only[Act.put,yA,yB,yC,yD,yE,yF]
   refine tU 22 (.bool false) c02 (fun w4 c4=>?_) ?_
   ·go_simp
   try simp only[Act.put,yA,yB,yC,yD,yE,yF]
   refine wpAnyU_done (by kernel_rfl) ?_ _
   go_wp2_with fail
   go_ret2
   have e:=HRES.out
   rw[if_pos ⟨HBB.out,HN.out⟩] at e
   subst e
   exact⟨rfl,HQ.out⟩
  ·have t:decide ((L.ring:Int)<(need n:Int))=true:=decide_eq_true (by omega)
   have HN:=zH hnr
   clear hnr
   refine tU 21 (.bool true) c02 (fun w4 c4=>?_) ?_
   ·go_simp;have:=HN.out;omega
   try simp only[Act.put,yA,yB,yC,yD,yE,yF]
   refine tU 22 (.bool true) c02 (fun w4 c4=>?_) ?_
   ·go_simp
   try simp only[Act.put,yA,yB,yC,yD,yE,yF]
   refine wpAnyU_done (by kernel_rfl) ?_ _
   go_wp2_with fail
   go_ret2
   have e:=HRES.out
   rw[if_neg (fun h=>HN.out h.2)] at e
   subst e
   exact⟨rfl,HQ.out⟩
 ·rw[decide_eq_false hb] at heq
  refine oU 11 ?_
  go_simp
  refine (heq _ (Chg.refl [] _)).mono ?_
  rintro e w3 ⟨rfl,rfl⟩
  refine⟨c02,?_⟩
  try simp only[Act.put,yA,yB,yC,yD,yE,yF]
  have HBB:=zH hb
  clear heq hb
  refine tU 12 (.bool true) c02 (fun w4 c4=>?_) ?_
  ·go_simp
  try simp only[Act.put,yA,yB,yC,yD,yE,yF]
  refine tU 13 (.bool true) c02 (fun w4 c4=>?_) ?_
  ·go_simp
  try simp only[Act.put,yA,yB,yC,yD,yE,yF]
  refine wpAnyU_skip 14 c02 rfl (by kernel_rfl) (by kernel_rfl) (by kernel_rfl) (by kernel_rfl) (fun _ _ _ h=>h) (by rfl) ?_
  try simp only[Act.put,yA,yB,yC,yD,yE,yF]
  refine wpAnyU_skip 15 c02 rfl (by kernel_rfl) (by kernel_rfl) (by kernel_rfl) (by kernel_rfl) (fun _ _ _ h=>h) (by rfl) ?_
  try simp only[Act.put,yA,yB,yC,yD,yE,yF]
  refine wpAnyU_skip 16 c02 rfl (by kernel_rfl) (by kernel_rfl) (by kernel_rfl) (by kernel_rfl) (fun _ _ _ h=>h) (by rfl) ?_
  try simp only[Act.put,yA,yB,yC,yD,yE,yF]
  refine wpAnyU_skip 17 c02 rfl (by kernel_rfl) (by kernel_rfl) (by kernel_rfl) (by kernel_rfl) (fun _ _ _ h=>h) (by rfl) ?_
  try simp only[Act.put,yA,yB,yC,yD,yE,yF]
  refine wpAnyU_skip 18 c02 rfl (by kernel_rfl) (by kernel_rfl) (by kernel_rfl) (by kernel_rfl) (fun _ _ _ h=>h) (by rfl) ?_
  try simp only[Act.put,yA,yB,yC,yD,yE,yF]
  refine wpAnyU_skip 19 c02 rfl (by kernel_rfl) (by kernel_rfl) (by kernel_rfl) (by kernel_rfl) (fun _ _ _ h=>h) (by rfl) ?_
  try simp only[Act.put,yA,yB,yC,yD,yE,yF]
  refine wpAnyU_skip 20 c02 rfl (by kernel_rfl) (by kernel_rfl) (by kernel_rfl) (by kernel_rfl) (fun _ _ _ h=>h) (by rfl) ?_
  try simp only[Act.put,yA,yB,yC,yD,yE,yF]
  refine wpAnyU_skip 21 c02 rfl (by kernel_rfl) (by kernel_rfl) (by kernel_rfl) (by kernel_rfl) (fun _ _ _ h=>h) (by rfl) ?_
  try simp only[Act.put,yA,yB,yC,yD,yE,yF]
  refine tU 22 (.bool true) c02 (fun w4 c4=>?_) ?_
  ·go_simp
  try simp only[Act.put,yA,yB,yC,yD,yE,yF]
  refine wpAnyU_done (by kernel_rfl) ?_ _
  go_wp2_with fail
  go_ret2
  have e:=HRES.out
  rw[if_neg (fun h=>HBB.out h.1)] at e
  subst e
  exact⟨rfl,HQ.out⟩
end Go.Proofs.YtlidiclfpklliaaGreatDoor
namespace Go.Aq.Fy
open Go.Aq Go.RowKit
theorem readL_length (D:DiskD) (L:LogD) (n:Nat):(readL D L n).length=n:=by simp[readL]
theorem readL_get (D:DiskD) (L:LogD) (n i:Nat) (h:i<(readL D L n).length):(readL D L n)[i]=(readAt D L i,D.now (inL L (need n - n+i))):=by simp[readL]
theorem inL_lt (L:LogD) (i:Nat) (h:0<L.ring):inL L i<2+L.ring:=by unfold inL;have:=Nat.mod_lt (L.pos+i) h;omega
end Go.Aq.Fy
namespace Go.Proofs.YtlidiclfpklliaaGreatDoor
open Go.RowKit Go.Aq Go.Aq.Fy Go.Maps
theorem sl_put:SliceTy Tryz.prog 117 199 (.agg #[.int .i64 0,.slice none 0 0]) 2 32:=⟨Tryz.underlying117,by kernel_rfl,rfl,by decide⟩
theorem home_yes (w:World) (S:List Nat) (l p:Nat) (D:DiskD) (L:LogD) (k:Nat) (hD:DiskR w S p D) (hL:LogR w l p L) (hr:L.ring<65536) (hh:atHome D L k=true):
  Calls Tryz.prog 264 #[.pointer (some ⟨l,0,none⟩),.int .i64 k] w fun e w'=>e=.returned (.bool true)∧w'=w:=by
 have h1:=home_ok w l p L hL hr
 have h2:=sectors_ok w S p D hD
 obtain⟨⟨c0,c1,c2,c3⟩,-⟩:=Blk.c4b hL
 simp only[atHome,Bool.and_eq_true,decide_eq_true_eq] at hh
 have t1:decide (((homeL L:Nat):Int)≤(k:Int))=true:=decide_eq_true (by omega)
 have t1':decide (homeL L≤k)=true:=decide_eq_true hh.1
 have t2:decide ((k:Int)<(D.n:Int))=true:=decide_eq_true (by omega)
 have t2':decide (k<D.n)=true:=decide_eq_true hh.2
 generalize homeL L=q at *
 generalize D.n=n at *
 clear hD hL hr hh c1 c2 c3
 go_enter Tryz.func264,Tryz.ntmps264
 go_wp2_with fail
 refine h1.mono ?_
 rintro e w' ⟨rfl,rfl⟩
 go_wp2_with fail
 refine h2.mono ?_
 rintro e w' ⟨rfl,rfl⟩
 go_wp2_with fail
 go_ret
 exact⟨rfl,rfl⟩
set_option maxRecDepth 100000 in
theorem readL_ok (w:World) (S:List Nat) (l p:Nat) (D:DiskD) (L:LogD) (n:Nat) (hD:DiskR w S p D) (hL:LogR w l p L) (hd:D.down=false) (h0:0<L.ring) (hr:L.ring+4≤D.n) (hpos:L.pos<65536) (hn:n≤10000)
  (hs:∀k,k<D.n→(D.now k).length=256) (hh:∀i,i<n→atHome D L (readAt D L i)=true):
  Calls Tryz.prog 233 #[.pointer (some ⟨l,0,none⟩),.int .i64 n] w fun e w'=>∃v xs,e=.returned (.tuple #[v,.int .i64 0])∧Fresh w w' 199 2 v n xs∧PendR w' S (readL D L n) xs:=by
 obtain⟨⟨c0,c1,c2,c3⟩,-⟩:=Blk.c4b hL
 have hle:D.n≤4096:=by obtain⟨_,_,_,_,_,_,_,hb,_⟩:=hD;exact hb.least.2
 have hnd:=need_ok w (.pointer (some ⟨l,0,none⟩)) n (by omega)
 have hge:n≤need n:=by unfold need;split <;> omega
 have hne:=need_le n
 have e1:wrap64 ((need n:Int) - (n:Int))=((need n - n:Nat):Int):=by unfold wrap64;omega
 obtain⟨fi,hfi⟩:∃fi,need n - n=fi:=⟨_,rfl⟩
 rw[hfi] at e1
 have HH:=zH (And.intro hD (And.intro hL (And.intro hd (And.intro h0 (And.intro hr (And.intro hpos (And.intro hn (And.intro hs (And.intro hh (And.intro hle (And.intro hfi (show fi≤20001 by omega))))))))))))
 have hgetL:=readL_get D L n
 have hlenL:=readL_length D L n
 rw[hfi] at hgetL
 have HG:=zA hgetL hlenL
 generalize readL D L n=P at *
 generalize need n=nd at *
 clear hD hL hd h0 hr hpos hn hs hh hle hge hne hfi hgetL hlenL c1 c2 c3
 go_enter Tryz.func233,Tryz.ntmps233
 go_wp2_with fail
 refine hnd.mono ?_
 rintro e w' ⟨rfl,rfl⟩
 clear hnd
 go_wp2_with fail
 rw[e1]
 clear e1
 go_loopg [6,20] n (fun k (v6 v20:Value) wr=>∃(i:Nat) (xs:List Value),v20=.int .i64 (i:Int)∧i≤n∧k=n - i∧Fresh w' wr 199 2 v6 i xs∧PendR wr (v6.ownBlock.toList++S) (P.take i) xs)
 case atStart=>exact⟨0,[],rfl,by omega,by omega,Fresh.nil _ _ _,.nil⟩
 case round=>
  obtain⟨i,xs,rfl,hi,hk1,hF,hP⟩:=hrel
  by_cases hin:i<n
  ·have t1:decide ((i:Int)<(n:Int))=true:=decide_eq_true (by omega)
   obtain⟨va,vc,rfl,-⟩:=hF.shape
   have cr:=hF.chg
   have hDr:=HH.out.1.chg cr
   have hLr:LogR wr l p L:=HH.out.2.1.chg cr (by simp)
   have hring:L.ring<65536:=by have h1:=HH.out.2.2.2.2.1;have h2:=HH.out.2.2.2.2.2.2.2.2.2.1;omega
   have hi4:i≤10000:=by have:=HH.out.2.2.2.2.2.2.1;omega
   have hiP:i<P.length:=by rw[HG.out.2];exact hin
   have hget:P[i]?=some (readAt D L i,D.now (inL L (fi+i))):=by rw[List.getElem?_eq_getElem hiP,HG.out.1 i hiP]
   have hq64:i / 64≤i:=Nat.div_le_self _ _
   have hin1:=fun w'' (c:Chg [] wr w'')=>in_ok w'' l p L (hLr.chg c (by simp)) (i / 64) (by omega) hring HH.out.2.2.2.2.2.1 HH.out.2.2.2.1
   have hrd1:=fun w'' (c:Chg [] wr w'')=>read_ok w'' S p D (inL L (i / 64)) (hDr.chg c) HH.out.2.2.1 (by have:=inL_lt L (i / 64) HH.out.2.2.2.1;have:=HH.out.2.2.2.2.1;omega)
   have hin2:=fun w'' (c:Chg [] wr w'')=>in_ok w'' l p L (hLr.chg c (by simp)) (fi+i) (by have:=HH.out.2.2.2.2.2.2.2.2.2.2.2;omega) hring HH.out.2.2.2.2.2.1 HH.out.2.2.2.1
   have hrd2:=fun w'' (c:Chg [] wr w'')=>read_ok w'' S p D (inL L (fi+i)) (hDr.chg c) HH.out.2.2.1 (by have:=inL_lt L (fi+i) HH.out.2.2.2.1;have:=HH.out.2.2.2.2.1;omega)
   have hl1:(D.now (inL L (i / 64))).length=256:=HH.out.2.2.2.2.2.2.2.1 _ (by have:=inL_lt L (i / 64) HH.out.2.2.2.1;have:=HH.out.2.2.2.2.1;omega)
   have hhm:=fun w'' (c:Chg [] wr w'')=>home_yes w'' S l p D L (readAt D L i) (hDr.chg c) (hLr.chg c (by simp)) hring (HH.out.2.2.2.2.2.2.2.2.1 i hin)
   have hra:readAt D L i=beVal (((D.now (inL L (i / 64))).drop (i % 64 * 2)).take 2):=rfl
   have ed:=tdiv_nat i 64
   have em:=tmod_nat i 64
   have hm64:i % 64<64:=Nat.mod_lt _ (by decide)
   have ed':((i:Int)).tdiv 64=((i / 64:Nat):Int):=ed
   have em':((i:Int)).tmod 64=((i % 64:Nat):Int):=em
   have ewq:IntKind.i64.wrap ((i / 64:Nat):Int)=((i / 64:Nat):Int):=wIq (by unfold wrap64;omega)
   have ew2:wrap64 (((i % 64:Nat):Int) * 2)=((i % 64 * 2:Nat):Int):=by unfold wrap64;omega
   have efi:IntKind.i64.wrap ((fi:Int)+(i:Int))=((fi+i:Nat):Int):=wIq (by have:=HH.out.2.2.2.2.2.2.2.2.2.2.2;unfold wrap64;omega)
   have hwi:Hid (wrap64 ((i:Int)+1)=(i:Int)+1):=by show _=_;unfold wrap64;omega
   have y0:=cr.cell_some c0 (by simp)
   have hat:i % 64 * 2≤254:=by omega
   generalize inL L (i / 64)=s1 at *
   generalize inL L (fi+i)=s2 at *
   generalize D.now s1=b1 at *
   generalize D.now s2=b2 at *
   generalize readAt D L i=at1 at *
   generalize i / 64=q64 at *
   generalize i % 64=m64 at *
   generalize hmm:m64 * 2=mm at *
   have HT:=zG hk1 hF hP hget cr hra hat hl1
   clear hk1 hF hP hget cr hDr hLr hring hi4 hiP hq64 hl1 hra ed em hm64 hat hmm hi
   go_upto_region 6 with (fail)
   obtain⟨W0,hW0⟩:∃W0,wr.drew=W0:=⟨_,rfl⟩
   have cd:Chg [] wr W0:=by rw[←hW0];exact (Chg.refl _ _).drew
   refine wp_region_U [] (fun _=>false) (by kernel_rfl) ?_
   rw[hW0]
   clear hW0
   have C0:Chg [] W0 W0:=Chg.refl _ _
   have y0':=cd.cell_some y0 (by simp)
   refine tU 0 (.pointer (some ⟨l,0,none⟩)) C0 (fun w4 c4=>?_) ?_
   ·go_simp
   try simp only[Act.put,yA,yB,yC,yD,yE,yF]
   refine tU 1 (.pointer (some ⟨l,0,none⟩)) C0 (fun w4 c4=>?_) ?_
   ·go_simp
   try simp only[Act.put,yA,yB,yC,yD,yE,yF]
   refine tU 2 (.pointer (some ⟨l,0,none⟩)) C0 (fun w4 c4=>?_) ?_
   ·go_simp
   try simp only[Act.put,yA,yB,yC,yD,yE,yF]
   refine tU 3 (.pointer (some ⟨p,0,none⟩)) C0 (fun w4 c4=>?_) ?_
   ·have z:=c4.cell_some y0' (by simp)
    go_simp
   try simp only[Act.put,yA,yB,yC,yD,yE,yF]
   refine tU 4 (.pointer (some ⟨l,0,none⟩)) C0 (fun w4 c4=>?_) ?_
   ·go_simp
   try simp only[Act.put,yA,yB,yC,yD,yE,yF]
   refine tU 5 (.int .i64 i) C0 (fun w4 c4=>?_) ?_
   ·go_simp
   try simp only[Act.put,yA,yB,yC,yD,yE,yF]
   refine tU 6 (.int .i64 q64) C0 (fun w4 c4=>?_) ?_
   ·go_simp
   try simp only[Act.put,yA,yB,yC,yD,yE,yF]
   refine oU 7 ?_
   go_simp
   refine (hin1 W0 cd).mono ?_
   rintro e w1 ⟨rfl,q1,hq1⟩
   have c1:Chg [] W0 w1:=by rw[hq1];exact (Chg.refl _ _).drewN q1
   clear hq1
   refine⟨c1,?_⟩
   try simp only[Act.put,yA,yB,yC,yD,yE,yF]
   refine oU 8 ?_
   go_simp
   refine (hrd1 w1 (cd.nil c1)).mono ?_
   rintro e w2 ⟨v1,rfl,hF1⟩
   obtain⟨a1,k1,rfl,-⟩:=hF1.shape
   have c2:=c1.nil hF1.chg
   refine⟨c2,?_⟩
   try simp only[Act.put,yA,yB,yC,yD,yE,yF]
   refine tU 9 (.tuple #[.slice a1 256 k1,.int .i64 0]) c2 (fun w4 c4=>?_) ?_
   ·go_simp
   try simp only[Act.put,yA,yB,yC,yD,yE,yF]
   refine tU 10 (.slice a1 256 k1) c2 (fun w4 c4=>?_) ?_
   ·go_simp
   try simp only[Act.put,yA,yB,yC,yD,yE,yF]
   refine tU 11 (.int .i64 0) c2 (fun w4 c4=>?_) ?_
   ·go_simp
   try simp only[Act.put,yA,yB,yC,yD,yE,yF]
   refine tU 12 (.slice a1 256 k1) c2 (fun w4 c4=>?_) ?_
   ·go_simp
   try simp only[Act.put,yA,yB,yC,yD,yE,yF]
   refine tU 13 (.int .i64 0) c2 (fun w4 c4=>?_) ?_
   ·go_simp
   try simp only[Act.put,yA,yB,yC,yD,yE,yF]
   refine wpAnyU_done (by kernel_rfl) ?_ _
   have cw2:=cd.nil c2
   have HF1:=zB hF1.own.sees cw2 trivial
   clear hF1 c1 c2 C0 hin1 hrd1 y0' cd
   have hrb:=readBig_ok w2 (.slice a1 256 k1) 256 mm 2 b1 HF1.out.1 (by decide) (by decide) (by have:=HT.out.2.2.2.2.2.2.1;omega) (by decide)
   rw[←HT.out.2.2.2.2.2.1] at hrb
   go_wp2_with fail
   refine hrb.mono ?_
   rintro e w3 ⟨rfl,rfl⟩
   clear hrb
   go_wp2_with fail
   refine (hhm w2 HF1.out.2.1).mono ?_
   rintro e w3 ⟨rfl,hw3⟩
   rw[hw3]
   clear hw3 w3
   go_upto_region 12 with (fail)
   have y0':=HF1.out.2.1.cell_some y0 (by simp)
   obtain⟨W0,hW0⟩:∃W0,w2.drew=W0:=⟨_,rfl⟩
   have cd:Chg [] w2 W0:=by rw[←hW0];exact (Chg.refl _ _).drew
   refine wp_region_U [] (fun _=>false) (by kernel_rfl) ?_
   rw[hW0]
   clear hW0
   have C0:Chg [] W0 W0:=Chg.refl _ _
   have y0'':=cd.cell_some y0' (by simp)
   refine tU 0 (.pointer (some ⟨l,0,none⟩)) C0 (fun w4 c4=>?_) ?_
   ·go_simp
   try simp only[Act.put,yA,yB,yC,yD,yE,yF]
   refine tU 1 (.pointer (some ⟨l,0,none⟩)) C0 (fun w4 c4=>?_) ?_
   ·go_simp
   try simp only[Act.put,yA,yB,yC,yD,yE,yF]
   refine tU 2 (.pointer (some ⟨l,0,none⟩)) C0 (fun w4 c4=>?_) ?_
   ·go_simp
   try simp only[Act.put,yA,yB,yC,yD,yE,yF]
   refine tU 3 (.pointer (some ⟨p,0,none⟩)) C0 (fun w4 c4=>?_) ?_
   ·have z:=c4.cell_some y0'' (by simp)
    go_simp
   try simp only[Act.put,yA,yB,yC,yD,yE,yF]
   refine tU 4 (.pointer (some ⟨l,0,none⟩)) C0 (fun w4 c4=>?_) ?_
   ·go_simp
   try simp only[Act.put,yA,yB,yC,yD,yE,yF]
   refine tU 5 (.int .i64 fi) C0 (fun w4 c4=>?_) ?_
   ·go_simp
   try simp only[Act.put,yA,yB,yC,yD,yE,yF]
   refine tU 6 (.int .i64 i) C0 (fun w4 c4=>?_) ?_
   ·go_simp
   try simp only[Act.put,yA,yB,yC,yD,yE,yF]
   refine tU 7 (.int .i64 (fi+i:Nat)) C0 (fun w4 c4=>?_) ?_
   ·go_simp
   try simp only[Act.put,yA,yB,yC,yD,yE,yF]
   refine oU 8 ?_
   go_simp
   refine (hin2 W0 (HF1.out.2.1.nil cd)).mono ?_
   rintro e w4 ⟨rfl,q1,hq1⟩
   have c1:Chg [] W0 w4:=by rw[hq1];exact (Chg.refl _ _).drewN q1
   clear hq1
   refine⟨c1,?_⟩
   try simp only[Act.put,yA,yB,yC,yD,yE,yF]
   refine oU 9 ?_
   go_simp
   refine (hrd2 w4 ((HF1.out.2.1.nil cd).nil c1)).mono ?_
   rintro e w5 ⟨v2,rfl,hF2⟩
   obtain⟨a2,k2,rfl,-⟩:=hF2.shape
   have c2:=c1.nil hF2.chg
   refine⟨c2,?_⟩
   try simp only[Act.put,yA,yB,yC,yD,yE,yF]
   refine tU 10 (.tuple #[.slice a2 256 k2,.int .i64 0]) c2 (fun w4 c4=>?_) ?_
   ·go_simp
   try simp only[Act.put,yA,yB,yC,yD,yE,yF]
   refine tU 11 (.slice a2 256 k2) c2 (fun w4 c4=>?_) ?_
   ·go_simp
   try simp only[Act.put,yA,yB,yC,yD,yE,yF]
   refine tU 12 (.int .i64 0) c2 (fun w4 c4=>?_) ?_
   ·go_simp
   try simp only[Act.put,yA,yB,yC,yD,yE,yF]
   refine tU 13 (.slice a2 256 k2) c2 (fun w4 c4=>?_) ?_
   ·go_simp
   try simp only[Act.put,yA,yB,yC,yD,yE,yF]
   refine tU 14 (.int .i64 0) c2 (fun w4 c4=>?_) ?_
   ·go_simp
   try simp only[Act.put,yA,yB,yC,yD,yE,yF]
   refine wpAnyU_done (by kernel_rfl) ?_ _
   have cw5:=HF1.out.2.1.nil (cd.nil c2)
   have hsee2:=hF2.own.sees
   have hnew2:∀k∈(Value.slice a2 256 k2).ownBlock.toList,wr.heap.size≤k:=fun k hk=>Nat.le_trans (HF1.out.2.1.nil (cd.nil c1)).size (hF2.new k hk)
   have hF5:=HT.out.2.1.to cw5
   have HF5:=zC hsee2 hnew2 cw5 hF5
   have hcap:i≤10000:=by have:=HH.out.2.2.2.2.2.2.1;omega
   have hbx:Blk (w5.alloc (.cells #[.int .i64 at1,.slice a2 256 k2] 199)) w5.heap.size #[.int .i64 at1,.slice a2 256 k2] 199:=Blk.new _ _ _
   have hca:Chg [] w5 (w5.alloc (.cells #[.int .i64 at1,.slice a2 256 k2] 199)):=(Chg.refl [] _).alloc _
   have hFa:=hF5.to hca
   have hsrc:Sees (w5.alloc (.cells #[.int .i64 at1,.slice a2 256 k2] 199)) 2 (.slice (some ⟨w5.heap.size,0,none⟩) 1 1) 1 [.int .i64 at1,.slice a2 256 k2]:=Sees.blk hbx
   have hone:∀u∈[Value.int .i64 at1,.slice a2 256 k2],u.oneCell'=true:=by intro u hu;simp at hu;rcases hu with rfl | rfl <;> rfl
   clear hF2 c1 c2 C0 hin2 hrd2 y0'' cd hsee2 hnew2 cw5 hF5 hhm y0 y0' hbx ewq ew2 efi ed' em'
   go_wp2_with (at_builtin;refine wpList_app rfl _ _ 117 rfl sl_put hFa.own rfl hsrc rfl hone (by omega) (by omega) ?_;intro v7 w7 ho7 c7 hn7)
   have hF7:=hFa.app ho7 c7 hn7
   go_roundg (gk - 1)
   case measure=>have:=HT.out.1;omega
   case rel=>
    have hi1:i+1≤n:=hin
    have hk1:=HT.out.1
    have hin:=HH.out.1.lt
    have hcr:=HT.out.2.2.2.2.1.size
    have h6:=HT.out.2.1.own.lt
    have c57:Chg (Value.slice va i vc).ownBlock.toList w5 w7:=hca.toS.tr c7
    have hw5:=HF5.out.2.2.1.size
    have hwa:=hca.size
    have hlt2:=(HF5.out.1).lt (by decide)
    have hu:Upd ((Value.slice va i vc).ownBlock.toList++S) (v7.ownBlock.toList++S) wr w7:=⟨(HF5.out.2.2.1.toS.tr c57).mono (fun k hk=>.inl (by simp[hk])),fun k hk=>by
     rcases List.mem_append.1 hk with hk | hk
     ·rcases hn7 k hk with h1 | h1
      ·exact .inl (by simp[h1])
      ·exact .inr (by omega)
     ·exact .inl (by simp[hk])⟩
    have hsv:SecV w7 (v7.ownBlock.toList++S) (.slice a2 256 k2) b2:=by
     have hoff:Disj (eyes (.slice a2 256 k2)) (Value.slice va i vc).ownBlock.toList:=fun j hj hj'=>by
      have h1:=HF5.out.2.1 j (eyes_own _ j hj)
      have h2:=h6 j hj'
      omega
     refine⟨(HF5.out.1.chg0 hca).chg c7 hoff,fun j hj hj'=>?_⟩
     have h1:=HF5.out.2.1 j (eyes_own _ j hj)
     have h3:=hlt2 j hj
     rcases List.mem_append.1 hj' with hj' | hj'
     ·rcases hn7 j hj' with h2 | h2
      ·exact hoff j hj h2
      ·simp at h2;omega
     ·have h2:=hin j hj';omega
    have hst:P.take (i+1)=P.take i++[(at1,b2)]:=by rw[List.take_add_one,HT.out.2.2.2.1];rfl
    refine⟨i+1,xs++[.int .i64 at1,.slice a2 256 k2],by first | rfl | (rw[hwi.out];rfl),hi1,by omega,hF7,?_⟩
    rw[hst]
    exact (HT.out.2.2.1.upd hu).snoc hsv
  ·have t1:decide ((i:Int)<(n:Int))=false:=decide_eq_false (by omega)
   have e:i=n:=by omega
   subst e
   have htk:P.take i=P:=List.take_of_length_le (by rw[HG.out.2];exact Nat.le_refl _)
   rw[htk] at hP
   obtain⟨va,vc,rfl,-⟩:=hF.shape
   have HE:=zA hF hP
   clear hF hP htk
   go_wp2_with fail
   go_ret2
   exact⟨_,xs,rfl,HE.out.1,HE.out.2.upd ⟨Chg.refl _ _,fun k hk=>.inl (by simp[hk])⟩⟩
end Go.Proofs.YtlidiclfpklliaaGreatDoor
