/- Pix Pic PixB PixEnc PixDec -/
import Derived.Test.YtlidiclfpklliaaGreatDoorG12
import Derived.Test.YtlidiclfpklliaaGreatDoorG13
import Derived.Deep.RegionHeld3
import Derived.Deep.OwnRows
set_option linter.unusedSimpArgs false
set_option linter.unusedVariables false
set_option maxHeartbeats 8000000
namespace Go.Aq
open Go.RowKit
theorem w64 (a:Int) (h: -9223372036854775808≤a∧a≤9223372036854775807):wrap64 a=a:=by unfold wrap64;omega
end Go.Aq
namespace Go.Proofs.YtlidiclfpklliaaGreatDoor
open Go.RowKit Go.Aq Go.Aq.Wd
theorem numbers_any (s:ShpD) (w:World):Calls Tryz.prog 294 #[shpV s] w fun e w'=>e=.returned (.bool (numsB s))∧Chg [] w w':=by
 obtain⟨a,b,c,d⟩:=s
 unfold shpV
 have hc:∀o,Chg [] w (w.alloc o):=fun o=>(Chg.refl [] w).alloc _
 have HC:=zH hc
 clear hc
 simp only
 go_enter Tryz.func294,Tryz.ntmps294
 go_wp2_with fail
 all_goals go_ret
 all_goals refine⟨rb ?_,HC.out _⟩
 all_goals (try simp only[beq_iff_eq,beq_eq_false_iff_ne,ne_eq] at *)
 all_goals (rw[Bool.eq_iff_iff,numsB_iff];simp only[Bool.or_eq_true,beq_iff_eq,Bool.false_eq_true,true_iff,false_iff];omega)
theorem shp_blk (s:ShpD) (w:World) {K:Nat} (hK:w.heap.size=K):Blk (w.alloc (.cells #[.int .i64 s.w,.int .i64 s.h,.int .i64 s.c,.int .i64 s.d] 145)) K #[.int .i64 s.w,.int .i64 s.h,.int .i64 s.c,.int .i64 s.d] 145:=Blk.new_at w _ _ hK
theorem Blk4 {w:World} {p:Nat} {a b c d:Value} {e:TypeId} (h:Blk w p #[a,b,c,d] e):
  (w.cell? ⟨p,0,none⟩=some a∧w.cell? ⟨p,1,none⟩=some b∧w.cell? ⟨p,2,none⟩=some c∧w.cell? ⟨p,3,none⟩=some d):=⟨h.cell 0,h.cell 1,h.cell 2,h.cell 3⟩
theorem row_any (s:ShpD) (w:World):Calls Tryz.prog 295 #[shpV s] w fun e w'=>e=.returned (.int .i64 (rowD s))∧Chg [] w w':=by
 obtain⟨K,hK⟩:∃K,w.heap.size=K:=⟨_,rfl⟩
 have hb:=shp_blk s w hK
 have hc:Chg [] w (w.alloc (.cells #[.int .i64 s.w,.int .i64 s.h,.int .i64 s.c,.int .i64 s.d] 145)):=(Chg.refl [] w).alloc _
 have hn:=fun w'=>numbers_any s w'
 unfold shpV at *
 cases hN:numsB s with
 | false=>
  have e1:rowD s=0:=by unfold rowD;rw[hN];rfl
  rw[e1]
  rw[hN] at hn
  clear hN e1
  go_enter Tryz.func295,Tryz.ntmps295
  go_wp2_with fail
  refine (hn _).mono ?_
  rintro e w1 ⟨rfl,c1⟩
  go_wp2_with fail
  go_ret
  exact⟨rfl,hc.nil c1⟩
 | true=>
  have e1:rowD s=s.w * s.c * s.d / 8:=by unfold rowD;rw[hN];rfl
  rw[hN] at hn
  obtain⟨hw,hh,hcc,hd⟩:=(numsB_iff s).1 hN
  obtain⟨b1,b2,b3⟩:=row_bound s.w s.c s.d hw hcc hd
  have m4:(s.w * s.c * s.d).tdiv 8=s.w * s.c * s.d / 8:=Int.tdiv_eq_ediv_of_nonneg (by omega)
  have HM:Hid (wrap64 ((wrap64 (wrap64 (s.w * s.c) * s.d)).tdiv 8)=s.w * s.c * s.d / 8):=by
   show _=_
   rw[w64 (s.w * s.c) (by omega),w64 (s.w * s.c * s.d) (by omega),m4,w64 _ (by omega)]
  rw[e1]
  clear hN e1 hw hh hcc hd b1 b2 b3 m4
  go_enter Tryz.func295,Tryz.ntmps295
  go_wp2_with fail
  refine (hn _).mono ?_
  rintro e w1 ⟨rfl,c1⟩
  obtain⟨x0,x1,x2,x3⟩:=Blk4 (hb.chg0 c1)
  go_wp2_with fail
  go_ret
  exact⟨ri HM.out,hc.nil c1⟩
theorem size_any (s:ShpD) (w:World):Calls Tryz.prog 244 #[shpV s] w fun e w'=>e=.returned (.int .i64 (sizeD s))∧Chg [] w w':=by
 obtain⟨K,hK⟩:∃K,w.heap.size=K:=⟨_,rfl⟩
 have hb:=shp_blk s w hK
 have hc:Chg [] w (w.alloc (.cells #[.int .i64 s.w,.int .i64 s.h,.int .i64 s.c,.int .i64 s.d] 145)):=(Chg.refl [] w).alloc _
 have hn:=fun w'=>numbers_any s w'
 have hr:=fun w'=>row_any s w'
 unfold shpV at *
 cases hN:numsB s with
 | false=>
  have e1:sizeD s=0:=by unfold sizeD;rw[hN];rfl
  rw[e1]
  rw[hN] at hn
  clear hN e1 hr
  go_enter Tryz.func244,Tryz.ntmps244
  go_wp2_with fail
  refine (hn _).mono ?_
  rintro e w1 ⟨rfl,c1⟩
  go_wp2_with fail
  go_ret
  exact⟨rfl,hc.nil c1⟩
 | true=>
  have e1:sizeD s=rowD s * s.h:=by unfold sizeD;rw[hN];rfl
  rw[hN] at hn
  obtain⟨hb1,hb2⟩:=row_size_bound s hN
  rw[e1] at hb2 ⊢
  have m1:Hid (wrap64 (rowD s * s.h)=rowD s * s.h):=w64 (rowD s * s.h) (by omega)
  generalize rowD s=r at *
  clear hN e1 hb1 hb2
  go_enter Tryz.func244,Tryz.ntmps244
  go_wp2_with fail
  refine (hn _).mono ?_
  rintro e w1 ⟨rfl,c1⟩
  obtain⟨x0,x1,x2,x3⟩:=Blk4 (hb.chg0 c1)
  obtain⟨X,hne,F,x,hF0,hF,hX⟩:=fam0 w1
  have z0:=fun x=>(hF x).cell_some x0 (by simp)
  have z1:=fun x=>(hF x).cell_some x1 (by simp)
  have z2:=fun x=>(hF x).cell_some x2 (by simp)
  have z3:=fun x=>(hF x).cell_some x3 (by simp)
  have hc1:=hc.nil c1
  clear hb hc c1 x0 x1 x2 x3 hn
  go_wp2_with fail
  refine wp_fam F (by kernel_rfl) (by kernel_rfl) x hF0 ?_
  repeat (go_big_quiet_step (exact fam_call hF hX (hr _)))
  refine wpQuiet_nil ?_
  rintro w' ⟨x1,rfl⟩
  go_wp2_with fail
  go_ret
  exact⟨ri m1.out,hc1.nil (hF x1)⟩
theorem maySh_any (s:ShpD) (w:World):Calls Tryz.prog 243 #[shpV s] w fun e w'=>e=.returned (.bool (maySh s))∧Chg [] w w':=by
 obtain⟨K,hK⟩:∃K,w.heap.size=K:=⟨_,rfl⟩
 have hb:=shp_blk s w hK
 have hc:Chg [] w (w.alloc (.cells #[.int .i64 s.w,.int .i64 s.h,.int .i64 s.c,.int .i64 s.d] 145)):=(Chg.refl [] w).alloc _
 have hn:=fun w'=>numbers_any s w'
 have hr:=fun w'=>size_any s w'
 have e1:maySh s=(numsB s&&decide (sizeD s≤16384)):=rfl
 rw[e1]
 unfold shpV at *
 generalize sizeD s=z at *
 clear e1
 cases hN:numsB s with
 | false=>
  rw[hN] at hn
  clear hN hr
  go_enter Tryz.func243,Tryz.ntmps243
  go_wp2_with fail
  refine (hn _).mono ?_
  rintro e w1 ⟨rfl,c1⟩
  go_wp2_with fail
  go_ret
  exact⟨rfl,hc.nil c1⟩
 | true=>
  rw[hN] at hn
  clear hN
  go_enter Tryz.func243,Tryz.ntmps243
  go_wp2_with fail
  refine (hn _).mono ?_
  rintro e w1 ⟨rfl,c1⟩
  obtain⟨x0,x1,x2,x3⟩:=Blk4 (hb.chg0 c1)
  go_wp2_with fail
  refine (hr _).mono ?_
  rintro e w2 ⟨rfl,c2⟩
  go_wp2_with fail
  go_ret
  exact⟨rfl,(hc.nil c1).nil c2⟩
def rasV (s:ShpD) (pv:Value):Value:=.agg #[.int .i64 s.w,.int .i64 s.h,.int .i64 s.c,.int .i64 s.d,pv]
theorem Blk5 {w:World} {p:Nat} {a b c d f:Value} {e:TypeId} (h:Blk w p #[a,b,c,d,f] e):
  (w.cell? ⟨p,0,none⟩=some a∧w.cell? ⟨p,1,none⟩=some b∧w.cell? ⟨p,2,none⟩=some c∧w.cell? ⟨p,3,none⟩=some d∧w.cell? ⟨p,4,none⟩=some f):=⟨h.cell 0,h.cell 1,h.cell 2,h.cell 3,h.cell 4⟩
theorem mayPix_any (s:ShpD) (ao:Option Addr) (n cap:Nat) (hn64:n≤9223372036854775807) (w:World):Calls Tryz.prog 371 #[rasV s (.slice ao n cap)] w fun e w'=>e=.returned (.bool (mayPix s n))∧Chg [] w w':=by
 obtain⟨K,hK⟩:∃K,w.heap.size=K:=⟨_,rfl⟩
 have hb:Blk (w.alloc (.cells #[.int .i64 s.w,.int .i64 s.h,.int .i64 s.c,.int .i64 s.d,.slice ao n cap] 147)) K #[.int .i64 s.w,.int .i64 s.h,.int .i64 s.c,.int .i64 s.d,.slice ao n cap] 147:=Blk.new_at w _ _ hK
 have hc:Chg [] w (w.alloc (.cells #[.int .i64 s.w,.int .i64 s.h,.int .i64 s.c,.int .i64 s.d,.slice ao n cap] 147)):=(Chg.refl [] w).alloc _
 have hm:=fun w'=>maySh_any s w'
 have hr:=fun w'=>size_any s w'
 have e1:mayPix s n=(maySh s&&((n:Int)==sizeD s)):=rfl
 rw[e1]
 unfold shpV at *
 unfold rasV
 generalize sizeD s=z at *
 clear e1
 cases hM:maySh s with
 | false=>
  rw[hM] at hm
  clear hM hr
  go_enter Tryz.func371,Tryz.ntmps371
  go_upto_region 1 with (fail)
  generalize w.alloc (.cells #[.int .i64 s.w,.int .i64 s.h,.int .i64 s.c,.int .i64 s.d,.slice ao n cap] 147)=wb at *
  obtain⟨x0,x1,x2,x3,x4⟩:=Blk5 hb
  obtain⟨X,hne,F,x,hF0,hF,hX⟩:=fam0 wb
  have z0:=fun x=>(hF x).cell_some x0 (by simp)
  have z1:=fun x=>(hF x).cell_some x1 (by simp)
  have z2:=fun x=>(hF x).cell_some x2 (by simp)
  have z3:=fun x=>(hF x).cell_some x3 (by simp)
  have z4:=fun x=>(hF x).cell_some x4 (by simp)
  clear hb x0 x1 x2 x3 x4
  refine wp_fam F (by kernel_rfl) (by kernel_rfl) x hF0 ?_
  repeat (go_big_quiet_step (exact fam_call hF hX (hm _)))
  refine wpQuiet_nil ?_
  rintro w' ⟨x1,rfl⟩
  go_wp2_with fail
  go_ret
  exact⟨rfl,hc.nil (hF x1)⟩
 | true=>
  rw[hM] at hm
  clear hM
  go_enter Tryz.func371,Tryz.ntmps371
  go_upto_region 1 with (fail)
  generalize w.alloc (.cells #[.int .i64 s.w,.int .i64 s.h,.int .i64 s.c,.int .i64 s.d,.slice ao n cap] 147)=wb at *
  obtain⟨x0,x1,x2,x3,x4⟩:=Blk5 hb
  obtain⟨X,hne,F,x,hF0,hF,hX⟩:=fam0 wb
  have z0:=fun x=>(hF x).cell_some x0 (by simp)
  have z1:=fun x=>(hF x).cell_some x1 (by simp)
  have z2:=fun x=>(hF x).cell_some x2 (by simp)
  have z3:=fun x=>(hF x).cell_some x3 (by simp)
  have z4:=fun x=>(hF x).cell_some x4 (by simp)
  clear hb x0 x1 x2 x3 x4
  refine wp_fam F (by kernel_rfl) (by kernel_rfl) x hF0 ?_
  repeat (go_big_quiet_step (first | exact fam_call hF hX (hm _) | exact fam_call hF hX (hr _)))
  refine wpQuiet_nil ?_
  rintro w' ⟨x1,rfl⟩
  go_wp2_with fail
  go_ret
  exact⟨rfl,hc.nil (hF x1)⟩
end Go.Proofs.YtlidiclfpklliaaGreatDoor
namespace Go.Aq
open Go.RowKit
end Go.Aq
namespace Go.Proofs.YtlidiclfpklliaaGreatDoor
open Go.RowKit Go.Aq Go.Aq.Wd
theorem ras_ty:ArrTy Tryz.prog 147 5:=⟨⟨_,Tryz.underlying147,rfl⟩,by kernel_rfl⟩
end Go.Proofs.YtlidiclfpklliaaGreatDoor
namespace Go.Aq
open Go.RowKit
theorem pcell_al {w:World} {a:Addr} {u:Value} (h:w.cell? a=some u) (o:Obj):(w.alloc o).cell? a=some u:=((Chg.refl [] w).alloc o).cell_some h (by simp)
theorem pown_blk {w:World} {K n:Nat} {cs:Array Value} {e:TypeId} (h:Blk w K cs e) (hn:cs.size=n) (h63:n≤9223372036854775807):Own w e 1 (.slice (some ⟨K,0,none⟩) n n) n cs.toList:=
 ⟨by simpa using hn,.inr ⟨K,n,cs,rfl,Nat.zero_le _,h,Nat.le_refl _,by simpa[maxLen] using h63,by omega,by subst hn;rw[Nat.mul_one,←Array.length_toList,List.take_length]⟩⟩
theorem Sees.pbytes {w:World} {v:Value} {n:Nat} {b:List UInt8} (h:Sees w 1 v n (Bs b)) (hn:0<n):
  ∃g off cap,v=.slice (some ⟨g,off,none⟩) n cap∧n≤cap∧g<w.heap.size∧∀j,j<n→w.cell? ⟨g,off+j,none⟩=some (.int .u8 ((b.getD j 0).toNat:Int)):=by
 have hbl:b.length=n:=by have:=h.len;simpa[Bs] using this
 obtain⟨g,off,cap,h1,h2,h3,h4⟩:=h.cells (by omega)
 refine⟨g,off,cap,h1,h2,h3,fun j hj=>?_⟩
 rw[h4 j (by omega)]
 simp[Bs,Bc,List.getElem?_eq_getElem (show j<b.length by omega)]
def encP (s:ShpD) (px:List UInt8):List UInt8:=[82]++beB s.w.toNat 2++beB s.h.toNat 2++[UInt8.ofNat s.c.toNat,UInt8.ofNat s.d.toNat]++px
theorem encP_len (s:ShpD) (px:List UInt8):(encP s px).length=7+px.length:=by simp[encP,beB_length];omega
theorem wrap_u8_nat (a:Nat) (h:a<256):IntKind.u8.wrap (a:Int)=(a:Int):=by
 simp[IntKind.wrap,IntKind.bits,IntKind.signed];omega
end Go.Aq
namespace Go.Proofs.YtlidiclfpklliaaGreatDoor
open Go.RowKit Go.Aq Go.Aq.Wd
set_option maxRecDepth 100000 in
theorem enc_good (s:ShpD) (pv:Value) (n:Nat) (px:List UInt8) (w:World) (hv:Sees w 1 pv n (Bs px)) (hm:mayPix s n=true):
  Calls Tryz.prog 370 #[rasV s pv] w fun e w'=>∃v',e=.returned (.tuple #[v',.int .i64 0])∧Sees w' 1 v' (7+n) (Bs (encP s px))∧(∀k∈eyes v',w.heap.size≤k)∧Chg [] w w':=by
 obtain⟨K,hK⟩:∃K,w.heap.size=K:=⟨_,rfl⟩
 have hm':=hm
 unfold mayPix maySh at hm'
 simp only[Bool.and_eq_true,decide_eq_true_eq,beq_iff_eq] at hm'
 obtain⟨⟨hnum,hsz⟩,hns⟩:=hm'
 obtain⟨hw,hh,hc4,hd8⟩:=(numsB_iff s).1 hnum
 have hn16:n≤16384:=by omega
 obtain⟨ao,cap,rfl,hcap,hno⟩:=hv.shape
 have hmp:=fun w'=>mayPix_any s ao n cap (by omega) w'
 rw[hm] at hmp
 obtain⟨W,hW⟩:∃W:Nat,s.w=W:=⟨s.w.toNat,by omega⟩
 obtain⟨H,hH⟩:∃H:Nat,s.h=H:=⟨s.h.toNat,by omega⟩
 obtain⟨C,hC⟩:∃C:Nat,s.c=C:=⟨s.c.toNat,by omega⟩
 obtain⟨D,hD⟩:∃D:Nat,s.d=D:=⟨s.d.toNat,by omega⟩
 have hP:encP s px=[82]++beB W 2++beB H 2++[UInt8.ofNat C,UInt8.ofNat D]++px:=by unfold encP;rw[hW,hH,hC,hD];rfl
 rw[hW] at hw
 rw[hH] at hh
 rw[hC] at hc4
 rw[hD] at hd8
 unfold rasV at hmp ⊢
 rw[hW,hH,hC,hD] at hmp ⊢
 have hbK:Blk (w.alloc (.cells #[.int .i64 W,.int .i64 H,.int .i64 C,.int .i64 D,.slice ao n cap] 147)) K #[.int .i64 W,.int .i64 H,.int .i64 C,.int .i64 D,.slice ao n cap] 147:=Blk.new_at w _ _ hK
 have hc1:Chg [] w (w.alloc (.cells #[.int .i64 W,.int .i64 H,.int .i64 C,.int .i64 D,.slice ao n cap] 147)):=(Chg.refl [] w).alloc _
 have wC:=wrap_u8_nat C (by omega)
 have wD:=wrap_u8_nat D (by rcases hd8 with h | h <;> omega)
 have hDl:D≤16:=by rcases hd8 with h | h <;> omega
 have hWl:W≤256:=by omega
 have hHl:H≤256:=by omega
 have hCl:C≤4:=by omega
 have HP:=zB hP hv hno
 clear hP hv hno hm hnum hsz hns hw hh hc4 hd8 hW hH hC hD
 obtain⟨x0,x1,x2,x3,x4⟩:=Blk5 hbK
 go_enter Tryz.func370,Tryz.ntmps370
 go_wp2_with fail
 generalize (w.alloc (.cells #[.int .i64 W,.int .i64 H,.int .i64 C,.int .i64 D,.slice ao n cap] 147))=w1 at *
 refine (hmp _).mono ?_
 rintro e w2 ⟨rfl,c2⟩
 have hbK2:=hbK.chg0 c2
 have hc2:=hc1.nil c2
 clear x0 x1 x2 x3 x4 hmp hbK hc1 c2
 obtain⟨x0,x1,x2,x3,x4⟩:=Blk5 hbK2
 obtain⟨P,hP⟩:∃P,w2.heap.size=P:=⟨_,rfl⟩
 have hbP:Blk (w2.alloc (.cells #[.int .i64 W,.int .i64 H,.int .i64 C,.int .i64 D] 145)) P #[.int .i64 W,.int .i64 H,.int .i64 C,.int .i64 D] 145:=Blk.new_at w2 _ _ hP
 have hbK3:=hbK2.alloc (.cells #[.int .i64 W,.int .i64 H,.int .i64 C,.int .i64 D] 145)
 have hc3:Chg [] w (w2.alloc (.cells #[.int .i64 W,.int .i64 H,.int .i64 C,.int .i64 D] 145)):=hc2.alloc _
 have hbw:∀w',Calls Tryz.prog 191 #[.int .i64 W,.int .i64 2] w' fun e w''=>∃g,e=.returned (.tuple #[.slice (some ⟨g,0,none⟩) 2 2,.int .i64 0])∧Own w'' 5 1 (.slice (some ⟨g,0,none⟩) 2 2) 2 (Bs (beB W 2))∧Chg [] w' w''∧w'.heap.size≤g:=fun w'=>big_ok w' W 2 (by decide) (by decide) (by omega) sl_u8
 have hbh:∀w',Calls Tryz.prog 191 #[.int .i64 H,.int .i64 2] w' fun e w''=>∃g,e=.returned (.tuple #[.slice (some ⟨g,0,none⟩) 2 2,.int .i64 0])∧Own w'' 5 1 (.slice (some ⟨g,0,none⟩) 2 2) 2 (Bs (beB H 2))∧Chg [] w' w''∧w'.heap.size≤g:=fun w'=>big_ok w' H 2 (by decide) (by decide) (by omega) sl_u8
 clear hbK2 hc2
 obtain⟨y0,y1,y2,y3⟩:=Blk4 hbP
 have hPs:P<(w2.alloc (.cells #[.int .i64 W,.int .i64 H,.int .i64 C,.int .i64 D] 145)).heap.size:=hbP.lt
 go_upto_region 4 with (fail)
 generalize (w2.alloc (.cells #[.int .i64 W,.int .i64 H,.int .i64 C,.int .i64 D] 145))=w3 at *
 clear x0 x1 x2 x3 x4 hP
 go_wp2_with fail
 refine (hbw _).mono ?_
 rintro e w4 ⟨g4,rfl,hO4,c4,hg4⟩
 clear hbw y0 y1 y2 y3
 obtain⟨y0,y1,y2,y3⟩:=Blk4 (hbP.chg0 c4)
 go_wp2_with fail
 refine (hbh _).mono ?_
 rintro e w5 ⟨g5,rfl,hO5,c5,hg5⟩
 clear hbh y0 y1 y2 y3
 have hbP5:=(hbP.chg0 c4).chg0 c5
 have hbK5:=(hbK3.chg0 c4).chg0 c5
 have cw5:=(hc3.nil c4).nil c5
 have hw4:=hO4.sees.chg0 c5
 have hw5:=hO5.sees
 have hK5:K<w5.heap.size:=hbK5.lt
 have hP5:P<w5.heap.size:=hbP5.lt
 obtain⟨Q,hQ⟩:∃Q,w5.heap.size=Q:=⟨_,rfl⟩
 have hwQ:w.heap.size≤Q:=by have:=cw5.size;omega
 have hf6:Fresh w (w5.alloc (.cells #[.int .u8 82] 5)) 5 1 (.slice (some ⟨Q,0,none⟩) 1 1) 1 [.int .u8 82]:=
  ⟨pown_blk (Blk.new_at w5 _ _ hQ) rfl (by decide),cw5.alloc _,fun k hk=>by simp[Value.ownBlock] at hk;omega⟩
 have hs4:=hw4.chg0 ((Chg.refl [] w5).alloc (.cells #[.int .u8 82] 5))
 have hs5:=hw5.chg0 ((Chg.refl [] w5).alloc (.cells #[.int .u8 82] 5))
 have hg4l:g4<Q:=by have:=hw4.lt (by decide) g4 (by simp[eyes]);omega
 have hg5l:g5<Q:=by have:=hw5.lt (by decide) g5 (by simp[eyes]);omega
 have HB:=zA (hbP5.alloc (.cells #[.int .u8 82] 5)) (hbK5.alloc (.cells #[.int .u8 82] 5))
 clear hbP hbK3 hc3 c4 c5 hO4 hO5 hbP5 hbK5 cw5 hw4 hw5 hg4 hg5
 go_wp2_with (at_builtin;first | (refine wpList_app (v:=.slice (some ⟨Q,0,none⟩) 1 1) rfl _ _ 36 rfl sl_u8 (by exact hf6.own) rfl (vx:=.slice (some ⟨g4,0,none⟩) 2 2) (by exact hs4) rfl (by exact Bs_one _) (by omega) (by omega) ?_;intro v7 w7 hO7 c7 n7;have hf7:=hf6.app hO7 c7 n7;obtain⟨ao7,cp7,rfl,-,-⟩:=hO7.sees.shape;have hs7:=hs5.chg c7 (fun k hk=>by simp[eyes] at hk;simp[Value.ownBlock];omega)) | (refine wpList_app (v:=.slice ao7 3 cp7) rfl _ _ 36 rfl sl_u8 (by exact hf7.own) rfl (vx:=.slice (some ⟨g5,0,none⟩) 2 2) (by exact hs7) rfl (by exact Bs_one _) (by omega) (by omega) ?_;intro v8 w8 hO8 c8 n8;have hf8:=hf7.app hO8 c8 n8;obtain⟨ao8,cp8,rfl,-,-⟩:=hO8.sees.shape))
 have bP7:=HB.out.1.chg c7 (Own.ne hf6.own HB.out.1 (by decide))
 have bK7:=HB.out.2.chg c7 (Own.ne hf6.own HB.out.2 (by decide))
 have bP8:=(bP7.chg c8 (Own.ne hf7.own bP7 (by decide))).drew
 have bK8:=(bK7.chg c8 (Own.ne hf7.own bK7 (by decide))).drew
 have hf8d:=hf8.to (Chg.refl [] w8).drew
 have hPn:=Own.ne hf8d.own bP8 (by decide)
 have hKn:=Own.ne hf8d.own bK8 (by decide)
 have m2:w8.drew.cell? ⟨P,2,none⟩=some (.int .i64 C):=bP8.cell 2
 have m3:w8.drew.cell? ⟨P,3,none⟩=some (.int .i64 D):=bP8.cell 3
 have m4:w8.drew.cell? ⟨K,4,none⟩=some (.slice ao n cap):=bK8.cell 4
 have l2:w8.cell? ⟨P,2,none⟩=some (.int .i64 C):=m2
 have l3:w8.cell? ⟨P,3,none⟩=some (.int .i64 D):=m3
 have l4:w8.cell? ⟨K,4,none⟩=some (.slice ao n cap):=m4
 have hn':(n:Int)≤16384:=by omega
 clear hs4 hs5 hO7 n7 hO8 n8 hs7 bP7 bK7 hg4l hg5l hf6 hf7 c7 c8 hK5 hP5 hPs hwQ hQ
 go_upto_region 7 with (fail)
 go_region_held3 (fun w'=>w'.cell? ⟨P,2,none⟩=some (.int .i64 C)∧w'.cell? ⟨P,3,none⟩=some (.int .i64 D)∧w'.cell? ⟨K,4,none⟩=some (.slice ao n cap))
  (first | exact⟨m2,m3,m4⟩ | exact⟨pcell_al m2 _,pcell_al m3 _,pcell_al m4 _⟩ | exact⟨q2,q3,q4⟩ | exact⟨r2,r3,r4⟩)
  (first
   | (refine step_app (by rfl) _ _ 36 (by rfl) sl_u8 (by exact hf8d.own.alloc (.cells #[.int .u8 C,.int .u8 D] 5)) (by rfl) (Sees.row (cs:=#[.int .u8 C,.int .u8 D]) (by exact Blk.new w8.drew _ 5) (m:=2) rfl) (by rfl) (by simp[Value.oneCell']) (by omega) (by omega) ?_;intro v9 w9 hO9 c9 n9;have q2:=c9.cell_some (pcell_al m2 _) hPn;have q3:=c9.cell_some (pcell_al m3 _) hPn;have q4:=c9.cell_some (pcell_al m4 _) hKn;have hf9:=(hf8d.to ((Chg.refl [] w8.drew).alloc (.cells #[.int .u8 C,.int .u8 D] 5))).app hO9 c9 n9;have bP9:=(bP8.alloc (.cells #[.int .u8 C,.int .u8 D] 5)).chg c9 hPn;have bK9:=(bK8.alloc (.cells #[.int .u8 C,.int .u8 D] 5)).chg c9 hKn;have hP9:=Own.ne hO9 bP9 (by decide);have hK9:=Own.ne hO9 bK9 (by decide);have hvw:=HP.out.2.1.chg0 hf9.chg)
   | (refine step_app (by rfl) _ _ 36 (by rfl) sl_u8 (by exact hf9.own) (by rfl) (by exact hvw) (by rfl) (by exact Bs_one _) (by omega) (by omega) ?_;intro v10 w10 hO10 c10 n10;have r2:=c10.cell_some q2 hP9;have r3:=c10.cell_some q3 hP9;have r4:=c10.cell_some q4 hK9;have hf10:=hf9.app hO10 c10 n10))
 clear m2 m3 m4 l2 l3 l4 q2 q3 q4 r2 r3 r4
 go_wp2_with fail
 go_ret2
 refine⟨v10,rfl,?_,fun k hk=>by have:=hf10.new k (eyes_own v10 k hk);omega,hf10.chg⟩
 have h:=hf10.own.sees
 have e1:5+2+n=7+n:=by omega
 have e2:[Value.int .u8 82]++Bs (beB W 2)++Bs (beB H 2)++#[Value.int .u8 (C:Int),.int .u8 (D:Int)].toList++Bs px=Bs (encP s px):=by
  rw[HP.out.1,Bs_append,Bs_append,Bs_append,Bs_append]
  have hc:Bs [UInt8.ofNat C,UInt8.ofNat D]=#[Value.int .u8 (C:Int),.int .u8 (D:Int)].toList:=by
   simp only[Bs,Bc,List.map_cons,List.map_nil]
   rw[u8n C (by omega),u8n D (by omega)]
  rw[hc];rfl
 rw[←e2,←e1]
 exact h
end Go.Proofs.YtlidiclfpklliaaGreatDoor
namespace Go.Aq
open Go.RowKit
def shpAt (b:List UInt8):ShpD:=⟨((beVal ((b.drop 1).take 2):Nat):Int),((beVal ((b.drop 3).take 2):Nat):Int),(((b.getD 5 0).toNat:Nat):Int),(((b.getD 6 0).toNat:Nat):Int)⟩
def decPL (b:List UInt8):ShpD×List UInt8×Int:=
 if b.length<7 then (shpZ,[],2)
 else if ¬((b.getD 0 0).toNat=82∧maySh (shpAt b)=true) then (shpZ,[],4)
 else if ((b.length - 7:Nat):Int)<sizeD (shpAt b) then (shpZ,[],2)
 else if sizeD (shpAt b)<((b.length - 7:Nat):Int) then (shpZ,[],3)
 else (shpAt b,b.drop 7,0)
theorem Sees.dropAt {w:World} {g off n cap k:Nat} {b:List UInt8} (h:Sees w 1 (.slice (some ⟨g,off,none⟩) n cap) n (Bs b)) (hk:k≤n) {ad:Addr} (had:(if cap=k then some (⟨g,off,none⟩:Addr) else some ⟨g,off+k,none⟩)=some ad):
  Sees w 1 (.slice (some ad) (n - k) (cap - k)) (n - k) (Bs (b.drop k)):=by
 obtain⟨h1,ao',cap',h2,h3,h4,h5⟩:=h
 simp only[Value.slice.injEq,true_and] at h2
 obtain⟨rfl,rfl⟩:=h2
 have hbl:b.length=n:=by simpa[Bs] using h1
 refine⟨by simp[Bs];omega,_,_,rfl,by omega,by simp,fun ad' had' j u hu=>?_⟩
 simp only[Option.some.injEq] at had'
 subst had'
 have hj:j<n - k:=by
  have:=(List.getElem?_eq_some_iff.1 hu).1
  simp[Bs] at this;omega
 rw[if_neg (by omega)] at had
 simp only[Option.some.injEq] at had
 subst had
 have e:(Bs (b.drop k))[j]?=(Bs b)[k+j]?:=by simp[Bs]
 rw[e] at hu
 have:=h5 _ rfl (k+j) u hu
 rw[Addr.add_lit] at this ⊢
 rw[Nat.add_assoc]
 exact this
end Go.Aq
namespace Go.Proofs.YtlidiclfpklliaaGreatDoor
open Go.RowKit Go.Aq Go.Aq.Wd
set_option maxRecDepth 100000 in
theorem pdec_short (v:Value) (n:Nat) (b:List UInt8) (w:World) (hv:Sees w 1 v n (Bs b)) (hn:n<7):
  Calls Tryz.prog 185 #[v] w fun e w'=>e=.returned (.tuple #[rasV shpZ (.slice none 0 0),.int .i64 2])∧Chg [] w w':=by
 obtain⟨K,hK⟩:∃K,w.heap.size=K:=⟨_,rfl⟩
 obtain⟨ao,cap,rfl,hcap,hno⟩:=hv.shape
 have t1:decide ((n:Int)<7)=true:=by simp;omega
 have t1':decide (n<7)=true:=by simp;omega
 have hbK:Blk (w.alloc (.cells #[.int .i64 0,.int .i64 0,.int .i64 0,.int .i64 0,.slice none 0 0] 147)) K #[.int .i64 0,.int .i64 0,.int .i64 0,.int .i64 0,.slice none 0 0] 147:=Blk.new_at w _ _ hK
 clear hno hv hn
 go_enter Tryz.func185,Tryz.ntmps185
 go_wp2_with fail
 refine bodyPost_ret (results_AT rfl _ _ hbK ras_ty rfl) rfl ⟨rfl,(Chg.refl [] w).alloc _⟩
theorem shp_ty:ArrTy Tryz.prog 145 4:=⟨⟨_,Tryz.underlying145,rfl⟩,by kernel_rfl⟩
theorem clone_any (ao:Addr) (n cap:Nat) (b:List UInt8) (w:World) (hv:Sees w 1 (.slice (some ao) n cap) n (Bs b)) (hn:n≤1000000000):
  Calls Tryz.prog 52 #[.slice (some ao) n cap] w fun e w'=>∃v',e=.returned v'∧Sees w' 1 v' n (Bs b)∧(∀k∈eyes v',w.heap.size≤k)∧Chg [] w w':=by
 have hbl:b.length=n:=by have:=hv.len;simpa[Bs] using this
 obtain⟨hl,ao',cap',h2,h3,h4,h5⟩:=hv
 simp only[Value.slice.injEq,true_and] at h2
 obtain⟨rfl,rfl⟩:=h2
 refine (Tryz.bytes_Clone_at ao n cap (b.map fun c=>(c.toNat:Int)) w (by simpa using hbl) (by omega) (fun i hi=>?_)).mono ?_
 ·have hi':i<b.length:=by omega
  rw[h5 ao rfl i (.int .u8 (b[i]).toNat) (by simp[Bs,Bc,List.getElem?_eq_getElem hi'])]
  simp[List.getElem?_eq_getElem hi']
 ·rintro e w' ⟨v',rfl,ho,-,hb⟩
  have eB:(b.map fun c=>(c.toNat:Int)).map (Value.int .u8)=Bs b:=by simp[Bs,Bc]
  rw[eB] at ho
  have ho0:Own w' 5 1 v' n (Bs b):=⟨ho.1,ho.2.imp id fun⟨g,cap,cur,h1,h2,h3⟩=>⟨g,cap,cur,h1,Nat.zero_le _,h3⟩⟩
  refine⟨v',rfl,ho0.sees,fun k hk=>?_,Chg.of_below hb⟩
  have:=eyes_own v' k hk
  exact (World.ownsRow.lt ho k (by simpa[Option.mem_toList] using this)).1
set_option maxRecDepth 100000 in
theorem pdec_long (v:Value) (n:Nat) (b:List UInt8) (w:World) (hv:Sees w 1 v n (Bs b)) (hn:7≤n) (hn9:n≤1000000000):
  Calls Tryz.prog 185 #[v] w fun e w'=>∃v',e=.returned (.tuple #[rasV (decPL b).1 v',.int .i64 (decPL b).2.2])∧Sees w' 1 v' (decPL b).2.1.length (Bs (decPL b).2.1)∧(∀k∈eyes v',w.heap.size≤k)∧Chg [] w w':=by
 obtain⟨K,hK⟩:∃K,w.heap.size=K:=⟨_,rfl⟩
 have hbl:b.length=n:=by have:=hv.len;simpa[Bs] using this
 obtain⟨g,off,cap,rfl,hcap,hgl,hcell⟩:=hv.pbytes (by omega)
 have t1:decide ((n:Int)<7)=false:=by simp;omega
 have t1':decide (n<7)=false:=by simp;omega
 have hbK:Blk (w.alloc (.cells #[.int .i64 0,.int .i64 0,.int .i64 0,.int .i64 0,.slice none 0 0] 147)) K #[.int .i64 0,.int .i64 0,.int .i64 0,.int .i64 0,.slice none 0 0] 147:=Blk.new_at w _ _ hK
 have hc1:Chg [] w (w.alloc (.cells #[.int .i64 0,.int .i64 0,.int .i64 0,.int .i64 0,.slice none 0 0] 147)):=(Chg.refl [] w).alloc _
 have hv1:=hv.chg0 hc1
 have m0:=hc1.cell_some (hcell 0 (by omega)) (by simp)
 have m5:=hc1.cell_some (hcell 5 (by omega)) (by simp)
 have m6:=hc1.cell_some (hcell 6 (by omega)) (by simp)
 rw[Nat.add_zero] at m0
 have x0:=(b.getD 0 0).toNat_lt
 have x5:=(b.getD 5 0).toNat_lt
 have x6:=(b.getD 6 0).toNat_lt
 have hrd:∀(at_:Nat),at_+2≤n→∀w',Sees w' 1 (.slice (some ⟨g,off,none⟩) n cap) n (Bs b)→Calls Tryz.prog 99 #[.slice (some ⟨g,off,none⟩) n cap,.int .i64 at_,.int .i64 2] w' fun e w''=>e=.returned (.tuple #[.int .i64 (beVal ((b.drop at_).take 2):Nat),.int .i64 0])∧w'=w'':=
  fun at_ ha w' h=>readBig_ok w' _ n at_ 2 b h (by decide) (by decide) ha (by omega)
 have hr1:=hrd 1 (by omega)
 have hr3:=hrd 3 (by omega)
 have hS:shpAt b=⟨((beVal ((b.drop 1).take 2):Nat):Int),((beVal ((b.drop 3).take 2):Nat):Int),(((b.getD 5 0).toNat:Nat):Int),(((b.getD 6 0).toNat:Nat):Int)⟩:=rfl
 obtain⟨b0,hb0⟩:∃b0,(b.getD 0 0).toNat=b0:=⟨_,rfl⟩
 rw[hb0] at m0 x0
 generalize (b.getD 5 0).toNat=C at *
 generalize (b.getD 6 0).toNat=D at *
 generalize beVal ((b.drop 1).take 2)=W at *
 generalize beVal ((b.drop 3).take 2)=H at *
 generalize hB00:b0=B0 at *
 clear hB00
 have n7:(7:Int)≤(n:Int):=by omega
 have n5:(5:Int)<(n:Int):=by omega
 have n6:(6:Int)<(n:Int):=by omega
 have ncap:(n:Int)≤(cap:Int):=by omega
 have wC:=wrap_i64_nat C (by omega)
 have wD:=wrap_i64_nat D (by omega)
 have HB:=zE hbK hv hbl hS hb0 hcell
 clear hbK hv hbl hS hb0 hcell hrd
 go_enter Tryz.func185,Tryz.ntmps185
 go_wp2_with fail
 generalize (w.alloc (.cells #[.int .i64 0,.int .i64 0,.int .i64 0,.int .i64 0,.slice none 0 0] 147))=w1 at *
 refine (hr1 _ hv1).mono ?_
 rintro e w2 ⟨rfl,rfl⟩
 clear hr1
 go_wp2_with fail
 refine (hr3 _ hv1).mono ?_
 rintro e w2 ⟨rfl,rfl⟩
 clear hr3
 go_upto_region 5 with (fail)
 refine wp_region_S (fun i=>i==12) (by kernel_rfl) ?_
 refine tS 0 (.int .i64 W) (fun w4 c4=>?_) ?_
 ·go_simp
 try simp only[Act.put,yA,yB,yC,yD,yE,yF]
 refine tS 1 (.int .i64 H) (fun w4 c4=>?_) ?_
 ·go_simp
 try simp only[Act.put,yA,yB,yC,yD,yE,yF]
 refine tS 2 (.slice (some ⟨g,off,none⟩) n cap) (fun w4 c4=>?_) ?_
 ·go_simp
 try simp only[Act.put,yA,yB,yC,yD,yE,yF]
 refine tS 3 (.pointer (some ⟨g,off+5,none⟩)) (fun w4 c4=>?_) ?_
 ·go_simp
 try simp only[Act.put,yA,yB,yC,yD,yE,yF]
 refine tS 4 (.int .u8 C) (fun w4 c4=>?_) ?_
 ·have z:=c4.cell_some m5 (by simp)
  go_simp
 try simp only[Act.put,yA,yB,yC,yD,yE,yF]
 refine tS 5 (.int .i64 C) (fun w4 c4=>?_) ?_
 ·go_simp
 try simp only[Act.put,yA,yB,yC,yD,yE,yF]
 refine tS 6 (.slice (some ⟨g,off,none⟩) n cap) (fun w4 c4=>?_) ?_
 ·go_simp
 try simp only[Act.put,yA,yB,yC,yD,yE,yF]
 refine tS 7 (.pointer (some ⟨g,off+6,none⟩)) (fun w4 c4=>?_) ?_
 ·go_simp
 try simp only[Act.put,yA,yB,yC,yD,yE,yF]
 refine tS 8 (.int .u8 D) (fun w4 c4=>?_) ?_
 ·have z:=c4.cell_some m6 (by simp)
  go_simp
 try simp only[Act.put,yA,yB,yC,yD,yE,yF]
 refine tS 9 (.int .i64 D) (fun w4 c4=>?_) ?_
 ·go_simp
 try simp only[Act.put,yA,yB,yC,yD,yE,yF]
 refine tS 10 (.agg #[.int .i64 W,.int .i64 H,.int .i64 C,.int .i64 D]) (fun w4 c4=>?_) ?_
 ·go_simp
 try simp only[Act.put,yA,yB,yC,yD,yE,yF]
 refine wpAnyS_only 11 rfl (by kernel_rfl) rfl (by rfl) (fun w4 c4=>?_)
 go_simp
 obtain⟨P,hP⟩:∃P,w4.heap.size=P:=⟨_,rfl⟩
 rw[hP]
 have hb4:Blk (w4.alloc (.cells #[.int .i64 0,.int .i64 0,.int .i64 0,.int .i64 0] 145)) P #[.int .i64 0,.int .i64 0,.int .i64 0,.int .i64 0] 145:=Blk.new_at w4 _ _ hP
 have hcP:Chg [] w4 (w4.alloc (.cells #[.int .i64 0,.int .i64 0,.int .i64 0,.int .i64 0] 145)):=(Chg.refl [] w4).alloc _
 refine⟨hcP,?_⟩
 try simp only[Act.put,yA,yB,yC,yD,yE,yF]
 refine wpAnyS_last 12 rfl (by kernel_rfl) rfl (by rfl) (fun w5 c5=>?_)
 have hb5:=hb4.chg0 c5
 refine wp_stA (cs:=#[.int .i64 W,.int .i64 H,.int .i64 C,.int .i64 D]) 145 _ _ rfl hb5 shp_ty rfl (by simp[Value.oneCell']) rfl rfl ?_
 intro w6 hb6 c6 hs6
 clear hs6
 refine wpAny_fin (by kernel_rfl) ?_ _
 have cw5:=((hc1.nil c4).nil hcP).nil c5
 have hPK:K<P:=by have:=HB.out.1.lt;have:=c4.size;omega
 have cw6:Chg [] w w6:=cw5.trans c6 (fun k hk=>by simp at hk;right;omega)
 have hbK6:=(((HB.out.1.chg0 c4).chg0 hcP).chg0 c5).chg c6 (by simp;omega)
 have m0':=cw6.cell_some (HB.out.2.2.2.2.2 0 (by omega)) (by simp)
 clear m0 m5 m6 hb4 hb5 c4 hcP c5 c6 cw5 hP hv1 hc1
 try simp only[Act.put,yA,yB,yC,yD,yE,yF]
 go_upto_region 7 with (fail)
 obtain⟨ad,had⟩:∃ad,(if cap=7 then some (⟨g,off,none⟩:Addr) else some ⟨g,off+7,none⟩)=some ad:=by split <;> exact⟨_,rfl⟩
 rw[had]
 have hdr:=fun w' (c:Chg [] w w')=>(HB.out.2.1.chg0 c).dropAt hn had
 obtain⟨nn,hnn⟩:∃nn,n - 7=nn:=⟨_,rfl⟩
 rw[hnn] at hdr ⊢
 generalize cap - 7=cap7 at *
 have hnb:nn≤1000000000:=by omega
 have n0:(0:Int)<(n:Int):=by omega
 have n0':0<n:=by omega
 have hdec:decPL b=if ¬(B0=82∧maySh ⟨W,H,C,D⟩=true) then (shpZ,[],4) else if (nn:Int)<sizeD ⟨W,H,C,D⟩ then (shpZ,[],2) else if sizeD ⟨W,H,C,D⟩<(nn:Int) then (shpZ,[],3) else (⟨W,H,C,D⟩,b.drop 7,0):=by
  obtain⟨-,-,hbl,hS,hb0,-⟩:=HB.out
  unfold decPL
  rw[if_neg (by omega),hS,hbl,hnn,hb0]
 have hms:=fun w'=>maySh_any ⟨W,H,C,D⟩ w'
 have hsz:=fun w'=>size_any ⟨W,H,C,D⟩ w'
 unfold shpV at hms hsz
 simp only at hms hsz
 have HD:=zC hdec hbK6 cw6 hPK
 obtain⟨p0,p1,p2,p3⟩:=Blk4 hb6
 clear hdec hnn had t1 t1' n7 n5 n6 ncap x0 x5 x6 wC wD hcap hgl hn hn9 cw6 hPK
 have m00:w6.cell? ⟨g,off,none⟩=some (.int .u8 B0):=by
  have:=HB.out.2.2.2.2.1
  rw[this,Nat.add_zero] at m0'
  exact m0'
 clear m0'
 by_cases hB0:B0=82
 ·have e1:((B0:Int) != 82)=false:=by simp[hB0]
  cases hmS:maySh ⟨W,H,C,D⟩ with
  | false=>
   have hz:decPL b=(shpZ,[],4):=by rw[HD.out.1,if_pos (fun h=>by rw[hmS] at h;exact absurd h.2 (by simp))]
   have HZ:=zH hz
   rw[hmS] at hms
   clear hB0 hz hmS
   go_wp2_with fail
   refine (hms _).mono ?_
   rintro e w7 ⟨rfl,c7⟩
   have hbK7:=hbK6.chg0 c7
   clear hms p0 p1 p2 p3
   have aT:ArrTy Tryz.prog 147 (#[.int .i64 0,.int .i64 0,.int .i64 0,.int .i64 0,.slice none 0 0]:Array Value).size:=ras_ty
   go_wp2_with (with_reducible refine wpList_stA rfl 147 _ _ rfl hbK7 aT rfl (by simp[Value.oneCell']) rfl rfl ?_;intro w20 hb20 c20 hs20)
   refine bodyPost_ret (results_AT rfl _ _ hb20 aT rfl) rfl ⟨.slice none 0 0,?_⟩
   rw[HZ.out]
   refine⟨rfl,Sees.nil _ _,by simp[eyes],(HD.out.2.2.1.nil c7).trans c20 fun k hk=>?_⟩
   simp at hk;right;omega
  | true=>
   have hnn:¬¬(B0=82∧maySh ⟨W,H,C,D⟩=true):=fun h=>h ⟨hB0,hmS⟩
   have hsb:=(row_size_bound ⟨W,H,C,D⟩ (by unfold maySh at hmS;simp only[Bool.and_eq_true] at hmS;exact hmS.1)).2
   have hdd:=HD.out.1
   rw[if_neg hnn] at hdd
   rw[hmS] at hms
   generalize sizeD ⟨W,H,C,D⟩=sz at *
   have HD2:=zH hdd
   clear hB0 hmS hnn hdd
   go_wp2_with fail
   refine (hms _).mono ?_
   rintro e w7 ⟨rfl,c7⟩
   have hb7:=hb6.chg0 c7
   clear hms p0 p1 p2 p3
   obtain⟨p0,p1,p2,p3⟩:=Blk4 hb7
   go_wp2_with fail
   refine (hsz _).mono ?_
   rintro e w8 ⟨rfl,c8⟩
   have hb8:=hb7.chg0 c8
   clear p0 p1 p2 p3
   by_cases hlt:(nn:Int)<sz
   ·have e2:decide ((nn:Int)<sz)=true:=by simp;omega
    have hz:decPL b=(shpZ,[],2):=by rw[HD2.out,if_pos hlt]
    have HZ:=zH hz
    have hbK8:=(hbK6.chg0 c7).chg0 c8
    clear hz hlt
    have aT:ArrTy Tryz.prog 147 (#[.int .i64 0,.int .i64 0,.int .i64 0,.int .i64 0,.slice none 0 0]:Array Value).size:=ras_ty
    go_wp2_with (with_reducible refine wpList_stA rfl 147 _ _ rfl hbK8 aT rfl (by simp[Value.oneCell']) rfl rfl ?_;intro w20 hb20 c20 hs20)
    refine bodyPost_ret (results_AT rfl _ _ hb20 aT rfl) rfl ⟨.slice none 0 0,?_⟩
    rw[HZ.out]
    refine⟨rfl,Sees.nil _ _,by simp[eyes],((HD.out.2.2.1.nil c7).nil c8).trans c20 fun k hk=>?_⟩
    simp at hk;right;omega
   ·have e2:decide ((nn:Int)<sz)=false:=by simp;omega
    obtain⟨p0,p1,p2,p3⟩:=Blk4 hb8
    go_wp2_with fail
    refine (hsz _).mono ?_
    rintro e w9 ⟨rfl,c9⟩
    have hb9:=hb8.chg0 c9
    have hbK9:=((hbK6.chg0 c7).chg0 c8).chg0 c9
    have cw9:=((HD.out.2.2.1.nil c7).nil c8).nil c9
    clear p0 p1 p2 p3 hsz hb7 hb8 c7 c8 c9
    by_cases hgt:sz<(nn:Int)
    ·have e3:decide (sz<(nn:Int))=true:=by simp;omega
     have hz:decPL b=(shpZ,[],3):=by rw[HD2.out,if_neg (by omega),if_pos hgt]
     have HZ:=zH hz
     clear hz hlt hgt
     have aT:ArrTy Tryz.prog 147 (#[.int .i64 0,.int .i64 0,.int .i64 0,.int .i64 0,.slice none 0 0]:Array Value).size:=ras_ty
     go_wp2_with (with_reducible refine wpList_stA rfl 147 _ _ rfl hbK9 aT rfl (by simp[Value.oneCell']) rfl rfl ?_;intro w20 hb20 c20 hs20)
     refine bodyPost_ret (results_AT rfl _ _ hb20 aT rfl) rfl ⟨.slice none 0 0,?_⟩
     rw[HZ.out]
     refine⟨rfl,Sees.nil _ _,by simp[eyes],cw9.trans c20 fun k hk=>?_⟩
     simp at hk;right;omega
    ·have e3:decide (sz<(nn:Int))=false:=by simp;omega
     have hz:decPL b=(⟨W,H,C,D⟩,b.drop 7,0):=by rw[HD2.out,if_neg (by omega),if_neg (by omega)]
     have HZ:=zH hz
     have hse:=hdr w9 cw9
     obtain⟨p0,p1,p2,p3⟩:=Blk4 hb9
     clear hz hlt hgt
     go_upto_region 13 with (fail)
     refine wp_region_S (fun i=>i==4) (by kernel_rfl) ?_
     refine tS 0 (.agg #[.int .i64 W,.int .i64 H,.int .i64 C,.int .i64 D]) (fun w4 c4=>?_) ?_
     ·have z0:=c4.cell_some p0 (by simp)
      have z1:=c4.cell_some p1 (by simp)
      have z2:=c4.cell_some p2 (by simp)
      have z3:=c4.cell_some p3 (by simp)
      go_simp
     try simp only[Act.put,yA,yB,yC,yD,yE,yF]
     refine tS 1 (.slice (some ad) nn cap7) (fun w4 c4=>?_) ?_
     ·go_simp
     try simp only[Act.put,yA,yB,yC,yD,yE,yF]
     refine wpAnyS_only 2 rfl (by kernel_rfl) rfl (by rfl) (fun w10 c10=>?_)
     go_simp
     refine (clone_any ad nn cap7 (b.drop 7) w10 (hse.chg0 c10) hnb).mono ?_
     rintro e w11 ⟨v11,rfl,hs11,hn11,c11⟩
     refine⟨c11,?_⟩
     try simp only[Act.put,yA,yB,yC,yD,yE,yF]
     obtain⟨ao11,cp11,rfl,-,-⟩:=hs11.shape
     have hbK11:=(hbK9.chg0 c10).chg0 c11
     have cw11:=(cw9.nil c10).nil c11
     refine tS 3 (.agg #[.int .i64 W,.int .i64 H,.int .i64 C,.int .i64 D,.slice ao11 nn cp11]) (fun w4 c4=>?_) ?_
     ·go_simp
     try simp only[Act.put,yA,yB,yC,yD,yE,yF]
     refine wpAnyS_last 4 rfl (by kernel_rfl) rfl (by rfl) (fun w12 c12=>?_)
     refine wp_stA (cs:=#[.int .i64 W,.int .i64 H,.int .i64 C,.int .i64 D,.slice ao11 nn cp11]) 147 _ _ rfl (hbK11.chg0 c12) ras_ty rfl (by simp[Value.oneCell']) rfl rfl ?_
     intro w13 hb13 c13 hs13
     try simp only[Act.put,yA,yB,yC,yD,yE,yF]
     refine wpAny_only 5 rfl (by kernel_rfl) (by rfl) ?_
     go_simp
     refine wpAny_fin (by kernel_rfl) ?_ _
     try simp only[Act.put,yA,yB,yC,yD,yE,yF]
     have cw13:Chg [] w w13:=(cw11.nil c12).trans c13 fun k hk=>by simp at hk;right;omega
     have hs13:Sees w13 1 (.slice ao11 nn cp11) nn (Bs (b.drop 7)):=(hs11.chg0 c12).chg c13 fun k hk=>by
      have h1:=hn11 k hk
      have h2:=hbK9.lt
      have h3:=c10.size
      simp;omega
     have hn13:∀k∈eyes (.slice ao11 nn cp11),w.heap.size≤k:=fun k hk=>by
      have h1:=hn11 k hk
      have h2:=cw9.size
      have h3:=c10.size
      omega
     have hl7:(b.drop 7).length=nn:=by have:=hs11.len;simpa[Bs] using this
     clear p0 p1 p2 p3
     go_wp2_with fail
     refine bodyPost_ret (results_AT rfl _ _ hb13 ras_ty rfl) rfl ⟨.slice ao11 nn cp11,?_⟩
     rw[HZ.out]
     refine⟨rfl,?_,fun k hk=>by have:=hn13 k hk;omega,cw13⟩
     simp only
     rw[hl7]
     exact hs13
 ·have e1:((B0:Int) != 82)=true:=by simp;omega
  have hz:decPL b=(shpZ,[],4):=by rw[HD.out.1,if_pos (fun h=>hB0 h.1)]
  have HZ:=zH hz
  clear hB0 hz
  have aT:ArrTy Tryz.prog 147 (#[.int .i64 0,.int .i64 0,.int .i64 0,.int .i64 0,.slice none 0 0]:Array Value).size:=ras_ty
  go_wp2_with (with_reducible refine wpList_stA rfl 147 _ _ rfl hbK6 aT rfl (by simp[Value.oneCell']) rfl rfl ?_;intro w7 hb7 c7 hs7)
  refine bodyPost_ret (results_AT rfl _ _ hb7 aT rfl) rfl ⟨.slice none 0 0,?_⟩
  rw[HZ.out]
  refine⟨rfl,Sees.nil _ _,by simp[eyes],HD.out.2.2.1.trans c7 fun k hk=>?_⟩
  simp at hk;right;omega
theorem decode_pix (v:Value) (n:Nat) (b:List UInt8) (w:World) (hv:Sees w 1 v n (Bs b)) (hn9:n≤1000000000):
  Calls Tryz.prog 185 #[v] w fun e w'=>∃v',e=.returned (.tuple #[rasV (decPL b).1 v',.int .i64 (decPL b).2.2])∧Sees w' 1 v' (decPL b).2.1.length (Bs (decPL b).2.1)∧(∀k∈eyes v',w.heap.size≤k)∧Chg [] w w':=by
 by_cases h:n<7
 ·have hbl:b.length=n:=by have:=hv.len;simpa[Bs] using this
  have e:decPL b=(shpZ,[],2):=by unfold decPL;rw[if_pos (by omega)]
  rw[e]
  refine (pdec_short v n b w hv h).mono ?_
  rintro e w' ⟨rfl,h3⟩
  exact⟨_,rfl,Sees.nil _ _,by simp[eyes],h3⟩
 ·exact pdec_long v n b w hv (by omega) hn9
end Go.Proofs.YtlidiclfpklliaaGreatDoor
