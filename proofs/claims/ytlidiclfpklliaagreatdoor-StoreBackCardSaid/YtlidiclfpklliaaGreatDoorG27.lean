/- RPic REnc ObG ObC ObD ObE ObF -/
import Derived.Test.YtlidiclfpklliaaGreatDoorG26
set_option linter.unusedSimpArgs false
set_option linter.unusedVariables false
set_option maxHeartbeats 8000000
namespace Go.Proofs.YtlidiclfpklliaaGreatDoor
open Go.RowKit Go.Aq Go.Aq.Wd
theorem rnumbers_any (s:ShpD) (w:World):Calls Tryz.prog 270 #[shpV s] w fun e w'=>e=.returned (.bool (numsB s))∧Chg [] w w':=by
 obtain⟨a,b,c,d⟩:=s
 unfold shpV
 have hc:∀o,Chg [] w (w.alloc o):=fun o=>(Chg.refl [] w).alloc _
 have HC:=zH hc
 clear hc
 simp only
 go_enter Tryz.func270,Tryz.ntmps270
 go_wp2_with fail
 all_goals go_ret
 all_goals refine⟨rb ?_,HC.out _⟩
 all_goals (try simp only[beq_iff_eq,beq_eq_false_iff_ne,ne_eq] at *)
 all_goals (rw[Bool.eq_iff_iff,numsB_iff];simp only[Bool.or_eq_true,beq_iff_eq,Bool.false_eq_true,true_iff,false_iff];omega)
theorem rrow_any (s:ShpD) (w:World):Calls Tryz.prog 271 #[shpV s] w fun e w'=>e=.returned (.int .i64 (rowD s))∧Chg [] w w':=by
 obtain⟨K,hK⟩:∃K,w.heap.size=K:=⟨_,rfl⟩
 have hb:=shp_blk s w hK
 have hc:Chg [] w (w.alloc (.cells #[.int .i64 s.w,.int .i64 s.h,.int .i64 s.c,.int .i64 s.d] 145)):=(Chg.refl [] w).alloc _
 have hn:=fun w'=>rnumbers_any s w'
 unfold shpV at *
 cases hN:numsB s with
 | false=>
  have e1:rowD s=0:=by unfold rowD;rw[hN];rfl
  rw[e1]
  rw[hN] at hn
  clear hN e1
  go_enter Tryz.func271,Tryz.ntmps271
  go_wp2_with fail
  refine (hn _).mono ?_
  rintro e w1 ⟨rfl,c1⟩
  go_wp2_with fail
  go_ret
  exact⟨rfl,hc.nil c1⟩
 | true=>
  have e1:rowD s=s.w * s.c * s.d / 8:=by unfold rowD;rw[hN];rfl
  rw[hN] at hn
  obtain⟨hw,hh,hcc,hd⟩:=(numsB_iff s).1 hN
  obtain⟨b1,b2,b3⟩:=row_bound s.w s.c s.d hw hcc hd
  have m4:(s.w * s.c * s.d).tdiv 8=s.w * s.c * s.d / 8:=Int.tdiv_eq_ediv_of_nonneg (by omega)
  have HM:Hid (wrap64 ((wrap64 (wrap64 (s.w * s.c) * s.d)).tdiv 8)=s.w * s.c * s.d / 8):=by
   show _=_
   rw[w64 (s.w * s.c) (by omega),w64 (s.w * s.c * s.d) (by omega),m4,w64 _ (by omega)]
  rw[e1]
  clear hN e1 hw hh hcc hd b1 b2 b3 m4
  go_enter Tryz.func271,Tryz.ntmps271
  go_wp2_with fail
  refine (hn _).mono ?_
  rintro e w1 ⟨rfl,c1⟩
  obtain⟨x0,x1,x2,x3⟩:=Blk4 (hb.chg0 c1)
  go_wp2_with fail
  go_ret
  exact⟨ri HM.out,hc.nil c1⟩
theorem rsize_any (s:ShpD) (w:World):Calls Tryz.prog 209 #[shpV s] w fun e w'=>e=.returned (.int .i64 (sizeD s))∧Chg [] w w':=by
 obtain⟨K,hK⟩:∃K,w.heap.size=K:=⟨_,rfl⟩
 have hb:=shp_blk s w hK
 have hc:Chg [] w (w.alloc (.cells #[.int .i64 s.w,.int .i64 s.h,.int .i64 s.c,.int .i64 s.d] 145)):=(Chg.refl [] w).alloc _
 have hr:=fun w'=>rrow_any s w'
 unfold shpV at *
 obtain⟨q,hq⟩:∃q:Int,min (max s.h 0) 256=q:=⟨_,rfl⟩
 have hqb:0≤q∧q≤256:=by omega
 have HM:Hid (wrap64 (rowD s * q)=sizeD s):=by
  show _=_
  cases hN:numsB s with
  | false=>
   have e1:sizeD s=0:=by unfold sizeD;rw[hN];rfl
   have e2:rowD s=0:=by unfold rowD;rw[hN];rfl
   rw[e1,e2,Int.zero_mul];exact w64 0 (by omega)
  | true=>
   have e1:sizeD s=rowD s * s.h:=by unfold sizeD;rw[hN];rfl
   obtain⟨hb1,hb2⟩:=row_size_bound s hN
   obtain⟨-,hh,-,-⟩:=(numsB_iff s).1 hN
   have:q=s.h:=by omega
   rw[this,←e1]
   exact w64 _ (by omega)
 have hrb:0≤rowD s∧rowD s≤2048:=by
  cases hN:numsB s with
  | false=>
   have e2:rowD s=0:=by unfold rowD;rw[hN];rfl
   omega
  | true=>have:=(row_size_bound s hN).1;omega
 generalize sizeD s=z at *
 generalize rowD s=r at *
 clear hrb
 go_enter Tryz.func209,Tryz.ntmps209
 go_upto_region 1 with (fail)
 generalize w.alloc (.cells #[.int .i64 s.w,.int .i64 s.h,.int .i64 s.c,.int .i64 s.d] 145)=wb at *
 obtain⟨x0,x1,x2,x3⟩:=Blk4 hb
 obtain⟨X,hne,F,x,hF0,hF,hX⟩:=fam0 wb
 have z0:=fun x=>(hF x).cell_some x0 (by simp)
 have z1:=fun x=>(hF x).cell_some x1 (by simp)
 have z2:=fun x=>(hF x).cell_some x2 (by simp)
 have z3:=fun x=>(hF x).cell_some x3 (by simp)
 clear hb x0 x1 x2 x3
 refine wp_fam F (by kernel_rfl) (by kernel_rfl) x hF0 ?_
 repeat (go_big_quiet_step (exact fam_call hF hX (hr _)))
 refine wpQuiet_nil ?_
 rintro w' ⟨x1,rfl⟩
 go_wp2_with fail
 go_ret
 exact⟨ri HM.out,hc.nil (hF x1)⟩
end Go.Proofs.YtlidiclfpklliaaGreatDoor
namespace Go.Aq
open Go.RowKit
end Go.Aq
namespace Go.Proofs.YtlidiclfpklliaaGreatDoor
section
open Go.RowKit Go.Aq Go.Aq.Wd
theorem rmaySh_any (s:ShpD) (w:World):Calls Tryz.prog 208 #[shpV s] w fun e w'=>e=.returned (.bool (maySh s))∧Chg [] w w':=by
 obtain⟨K,hK⟩:∃K,w.heap.size=K:=⟨_,rfl⟩
 have hb:=shp_blk s w hK
 have hc:Chg [] w (w.alloc (.cells #[.int .i64 s.w,.int .i64 s.h,.int .i64 s.c,.int .i64 s.d] 145)):=(Chg.refl [] w).alloc _
 have hn:=fun w'=>rnumbers_any s w'
 have hr:=fun w'=>rsize_any s w'
 have e1:maySh s=(numsB s&&decide (sizeD s≤16384)):=rfl
 rw[e1]
 unfold shpV at *
 generalize sizeD s=z at *
 clear e1
 cases hN:numsB s with
 | false=>
  rw[hN] at hn
  clear hN hr
  go_enter Tryz.func208,Tryz.ntmps208
  go_wp2_with fail
  refine (hn _).mono ?_
  rintro e w1 ⟨rfl,c1⟩
  go_wp2_with fail
  go_ret
  exact⟨rfl,hc.nil c1⟩
 | true=>
  rw[hN] at hn
  clear hN
  go_enter Tryz.func208,Tryz.ntmps208
  go_wp2_with fail
  refine (hn _).mono ?_
  rintro e w1 ⟨rfl,c1⟩
  obtain⟨x0,x1,x2,x3⟩:=Blk4 (hb.chg0 c1)
  go_wp2_with fail
  refine (hr _).mono ?_
  rintro e w2 ⟨rfl,c2⟩
  go_wp2_with fail
  go_ret
  exact⟨rfl,(hc.nil c1).nil c2⟩
theorem rmayPix_any (s:ShpD) (ao:Option Addr) (n cap:Nat) (hn64:n≤9223372036854775807) (w:World):Calls Tryz.prog 210 #[rasV s (.slice ao n cap)] w fun e w'=>e=.returned (.bool (mayPix s n))∧Chg [] w w':=by
 obtain⟨K,hK⟩:∃K,w.heap.size=K:=⟨_,rfl⟩
 have hb:Blk (w.alloc (.cells #[.int .i64 s.w,.int .i64 s.h,.int .i64 s.c,.int .i64 s.d,.slice ao n cap] 147)) K #[.int .i64 s.w,.int .i64 s.h,.int .i64 s.c,.int .i64 s.d,.slice ao n cap] 147:=Blk.new_at w _ _ hK
 have hc:Chg [] w (w.alloc (.cells #[.int .i64 s.w,.int .i64 s.h,.int .i64 s.c,.int .i64 s.d,.slice ao n cap] 147)):=(Chg.refl [] w).alloc _
 have hm:=fun w'=>rmaySh_any s w'
 have hr:=fun w'=>rsize_any s w'
 have e1:mayPix s n=(maySh s&&((n:Int)==sizeD s)):=rfl
 rw[e1]
 unfold shpV at *
 unfold rasV
 generalize sizeD s=z at *
 clear e1
 cases hM:maySh s with
 | false=>
  rw[hM] at hm
  clear hM hr
  go_enter Tryz.func210,Tryz.ntmps210
  go_upto_region 1 with (fail)
  generalize w.alloc (.cells #[.int .i64 s.w,.int .i64 s.h,.int .i64 s.c,.int .i64 s.d,.slice ao n cap] 147)=wb at *
  obtain⟨x0,x1,x2,x3,x4⟩:=Blk5 hb
  obtain⟨X,hne,F,x,hF0,hF,hX⟩:=fam0 wb
  have z0:=fun x=>(hF x).cell_some x0 (by simp)
  have z1:=fun x=>(hF x).cell_some x1 (by simp)
  have z2:=fun x=>(hF x).cell_some x2 (by simp)
  have z3:=fun x=>(hF x).cell_some x3 (by simp)
  have z4:=fun x=>(hF x).cell_some x4 (by simp)
  clear hb x0 x1 x2 x3 x4
  refine wp_fam F (by kernel_rfl) (by kernel_rfl) x hF0 ?_
  repeat (go_big_quiet_step (exact fam_call hF hX (hm _)))
  refine wpQuiet_nil ?_
  rintro w' ⟨x1,rfl⟩
  go_wp2_with fail
  go_ret
  exact⟨rfl,hc.nil (hF x1)⟩
 | true=>
  rw[hM] at hm
  clear hM
  go_enter Tryz.func210,Tryz.ntmps210
  go_upto_region 1 with (fail)
  generalize w.alloc (.cells #[.int .i64 s.w,.int .i64 s.h,.int .i64 s.c,.int .i64 s.d,.slice ao n cap] 147)=wb at *
  obtain⟨x0,x1,x2,x3,x4⟩:=Blk5 hb
  obtain⟨X,hne,F,x,hF0,hF,hX⟩:=fam0 wb
  have z0:=fun x=>(hF x).cell_some x0 (by simp)
  have z1:=fun x=>(hF x).cell_some x1 (by simp)
  have z2:=fun x=>(hF x).cell_some x2 (by simp)
  have z3:=fun x=>(hF x).cell_some x3 (by simp)
  have z4:=fun x=>(hF x).cell_some x4 (by simp)
  clear hb x0 x1 x2 x3 x4
  refine wp_fam F (by kernel_rfl) (by kernel_rfl) x hF0 ?_
  repeat (go_big_quiet_step (first | exact fam_call hF hX (hm _) | exact fam_call hF hX (hr _)))
  refine wpQuiet_nil ?_
  rintro w' ⟨x1,rfl⟩
  go_wp2_with fail
  go_ret
  exact⟨rfl,hc.nil (hF x1)⟩
end
section
open Go.RowKit Go.Aq
theorem grid_bounds {s:ShpD} (h:maySh s=true):(1≤s.w∧s.w≤256)∧1≤s.h∧s.h≤256:=by
 have hn:numsB s=true:=by unfold maySh at h;simp only[Bool.and_eq_true] at h;exact h.1
 obtain⟨hw,hh,-,-⟩:=(numsB_iff s).1 hn
 exact⟨hw,hh⟩
theorem ri2 {a b c d:Int} (h:a=b) (k:c=d):Ending.returned (.tuple #[.int .i64 a,.int .i64 c])=.returned (.tuple #[.int .i64 b,.int .i64 d]):=by rw[h,k]
theorem grid_any (s:ShpD) (w:World):Calls Tryz.prog 245 #[shpV s] w fun e w'=>e=.returned (.tuple #[.int .i64 (gridD s).1,.int .i64 (gridD s).2])∧Chg [] w w':=by
 obtain⟨K,hK⟩:∃K,w.heap.size=K:=⟨_,rfl⟩
 have hb:=shp_blk s w hK
 have hc:Chg [] w (w.alloc (.cells #[.int .i64 s.w,.int .i64 s.h,.int .i64 s.c,.int .i64 s.d] 145)):=(Chg.refl [] w).alloc _
 have hn:=fun w'=>maySh_any s w'
 unfold shpV at *
 cases hN:maySh s with
 | false=>
  have e1:gridD s=(0,0):=by unfold gridD;rw[hN];rfl
  rw[e1]
  rw[hN] at hn
  clear hN e1
  obtain⟨x0,x1,x2,x3⟩:=Blk4 hb
  go_enter Tryz.func245,Tryz.ntmps245
  go_wp2_with fail
  refine (hn _).mono ?_
  rintro e w1 ⟨rfl,c1⟩
  go_wp2_with fail
  go_ret2
  exact⟨rfl,hc.nil c1⟩
 | true=>
  have e1:gridD s=((s.w+7) / 8,(s.h+7) / 8):=by unfold gridD;rw[hN];rfl
  obtain⟨b1,b2⟩:=grid_bounds hN
  rw[e1]
  rw[hN] at hn
  have t1:(s.w+7).tdiv 8=(s.w+7) / 8:=Int.tdiv_eq_ediv_of_nonneg (by omega)
  have t2:(s.h+7).tdiv 8=(s.h+7) / 8:=Int.tdiv_eq_ediv_of_nonneg (by omega)
  have HM:Hid ((wrap64 ((wrap64 (wrap64 (s.w+8) - 1)).tdiv 8)=(s.w+7) / 8)∧(wrap64 ((wrap64 (wrap64 (s.h+8) - 1)).tdiv 8)=(s.h+7) / 8)):=by
   constructor
   ·rw[w64 (s.w+8) (by omega),w64 (s.w+8 - 1) (by omega),show s.w+8 - 1=s.w+7 by omega,t1,w64 _ (by omega)]
   ·rw[w64 (s.h+8) (by omega),w64 (s.h+8 - 1) (by omega),show s.h+8 - 1=s.h+7 by omega,t2,w64 _ (by omega)]
  clear hN e1 b1 b2 t1 t2
  obtain⟨x0,x1,x2,x3⟩:=Blk4 hb
  go_enter Tryz.func245,Tryz.ntmps245
  go_wp2_with fail
  refine (hn _).mono ?_
  rintro e w1 ⟨rfl,c1⟩
  have x0:=c1.cell_some x0 (by simp)
  have x1:=c1.cell_some x1 (by simp)
  go_wp2_with fail
  go_quiet (fail)
  go_wp2_with fail
  go_ret2
  exact⟨ri2 HM.out.1 HM.out.2,(hc.nil c1).drewN nq⟩
theorem rgrid_any (s:ShpD) (w:World):Calls Tryz.prog 211 #[shpV s] w fun e w'=>e=.returned (.tuple #[.int .i64 (gridD s).1,.int .i64 (gridD s).2])∧Chg [] w w':=by
 obtain⟨K,hK⟩:∃K,w.heap.size=K:=⟨_,rfl⟩
 have hb:=shp_blk s w hK
 have hc:Chg [] w (w.alloc (.cells #[.int .i64 s.w,.int .i64 s.h,.int .i64 s.c,.int .i64 s.d] 145)):=(Chg.refl [] w).alloc _
 have hn:=fun w'=>rmaySh_any s w'
 unfold shpV at *
 cases hN:maySh s with
 | false=>
  have e1:gridD s=(0,0):=by unfold gridD;rw[hN];rfl
  rw[e1]
  rw[hN] at hn
  clear hN e1
  obtain⟨x0,x1,x2,x3⟩:=Blk4 hb
  go_enter Tryz.func211,Tryz.ntmps211
  go_wp2_with fail
  refine (hn _).mono ?_
  rintro e w1 ⟨rfl,c1⟩
  go_wp2_with fail
  go_ret2
  exact⟨rfl,hc.nil c1⟩
 | true=>
  have e1:gridD s=((s.w+7) / 8,(s.h+7) / 8):=by unfold gridD;rw[hN];rfl
  obtain⟨b1,b2⟩:=grid_bounds hN
  rw[e1]
  rw[hN] at hn
  have t1:(s.w+7).tdiv 8=(s.w+7) / 8:=Int.tdiv_eq_ediv_of_nonneg (by omega)
  have t2:(s.h+7).tdiv 8=(s.h+7) / 8:=Int.tdiv_eq_ediv_of_nonneg (by omega)
  have HM:Hid ((wrap64 ((wrap64 (wrap64 (s.w+8) - 1)).tdiv 8)=(s.w+7) / 8)∧(wrap64 ((wrap64 (wrap64 (s.h+8) - 1)).tdiv 8)=(s.h+7) / 8)):=by
   constructor
   ·rw[w64 (s.w+8) (by omega),w64 (s.w+8 - 1) (by omega),show s.w+8 - 1=s.w+7 by omega,t1,w64 _ (by omega)]
   ·rw[w64 (s.h+8) (by omega),w64 (s.h+8 - 1) (by omega),show s.h+8 - 1=s.h+7 by omega,t2,w64 _ (by omega)]
  clear hN e1 b1 b2 t1 t2
  obtain⟨x0,x1,x2,x3⟩:=Blk4 hb
  go_enter Tryz.func211,Tryz.ntmps211
  go_wp2_with fail
  refine (hn _).mono ?_
  rintro e w1 ⟨rfl,c1⟩
  have x0:=c1.cell_some x0 (by simp)
  have x1:=c1.cell_some x1 (by simp)
  go_wp2_with fail
  go_quiet (fail)
  go_wp2_with fail
  go_ret2
  exact⟨ri2 HM.out.1 HM.out.2,(hc.nil c1).drewN nq⟩
end
end Go.Proofs.YtlidiclfpklliaaGreatDoor
namespace Go.Aq
open Go.RowKit
theorem numR_rest (n:Nat) (r:RdD):(numR n r).2.rest.length≤r.rest.length:=takeR_rest n r
theorem keysR_rest:∀(n:Nat) (r:RdD),(keysR n r).2.rest.length≤r.rest.length
 | 0,r=>Nat.le_refl _
 | n+1,r=>by
  unfold keysR
  split
  ·exact Nat.le_refl _
  ·exact Nat.le_trans (keysR_rest n _) (takeR_rest 32 r)
theorem mul_nat {a b:Int} (ha:0≤a∧a≤64) (hb:0≤b∧b≤64):(a * b).toNat≤4096∧wrap64 (a * b)=(((a * b).toNat:Nat):Int):=by
 obtain⟨x,rfl⟩:=Int.eq_ofNat_of_zero_le ha.1
 obtain⟨y,rfl⟩:=Int.eq_ofNat_of_zero_le hb.1
 have hx:x≤64:=by omega
 have hy:y≤64:=by omega
 have h:x * y≤64 * 64:=Nat.mul_le_mul hx hy
 have e:(x:Int) * (y:Int)=((x * y:Nat):Int):=by simp
 rw[e]
 unfold wrap64
 omega
end Go.Aq
namespace Go.Proofs.YtlidiclfpklliaaGreatDoor
open Go.RowKit Go.Aq Go.Aq.Fy Go.Maps
theorem grid_le (s:ShpD):(0≤(gridD s).1∧(gridD s).1≤64)∧(0≤(gridD s).2∧(gridD s).2≤64):=by
 unfold gridD
 split
 ·rename_i h
  obtain⟨⟨a,b⟩,c,d⟩:=grid_bounds h
  simp only
  omega
 ·decide
def treeV (t:TreeD) (v:Value):Value:=.agg #[.int .i64 t.shp.w,.int .i64 t.shp.h,.int .i64 t.shp.c,.int .i64 t.shp.d,v]
theorem tree_ty:ArrTy Tryz.prog 271 5:=⟨⟨_,Tryz.underlying271,rfl⟩,by kernel_rfl⟩
set_option maxRecDepth 100000 in
theorem otree_ok (w:World) (p B:Nat) (hBw:B≤w.heap.size) (r0:RdD) (h:RdO w p B r0) (hl:r0.rest.length≤1000000000):
  Calls Tryz.prog 186 #[.pointer (some ⟨p,0,none⟩)] w fun e w'=>∃v,e=.returned (treeV (treeR r0).1 v)∧OwnN w w' 9 1 v (treeR r0).1.keys.length (names (treeR r0).1.keys)∧RdO w' p B (treeR r0).2∧Chg [p] w w':=by
 have hpw:p<w.heap.size:=by obtain⟨v,hb,-⟩:=h;exact hb.lt
 obtain⟨K,hK⟩:∃K,w.heap.size=K:=⟨_,rfl⟩
 have hc0:Chg [] w (w.alloc (.cells #[.int .i64 0,.int .i64 0,.int .i64 0,.int .i64 0,.slice none 0 0] 271)):=(Chg.refl [] w).alloc _
 have hb0:Blk (w.alloc (.cells #[.int .i64 0,.int .i64 0,.int .i64 0,.int .i64 0,.slice none 0 0] 271)) K #[.int .i64 0,.int .i64 0,.int .i64 0,.int .i64 0,.slice none 0 0] 271:=Blk.new_at w _ _ hK
 have h0:=h.chg hc0 (by simp)
 obtain⟨r1,hr1⟩:∃r1,numR 2 r0=r1:=⟨_,rfl⟩
 obtain⟨r2,hr2⟩:∃r2,numR 2 r1.2=r2:=⟨_,rfl⟩
 obtain⟨r3,hr3⟩:∃r3,numR 1 r2.2=r3:=⟨_,rfl⟩
 obtain⟨r4,hr4⟩:∃r4,numR 1 r3.2=r4:=⟨_,rfl⟩
 have l1:r1.2.rest.length≤r0.rest.length:=by rw[←hr1];exact numR_rest 2 r0
 have l2:r2.2.rest.length≤r1.2.rest.length:=by rw[←hr2];exact numR_rest 2 r1.2
 have l3:r3.2.rest.length≤r2.2.rest.length:=by rw[←hr3];exact numR_rest 1 r2.2
 have l4:r4.2.rest.length≤r3.2.rest.length:=by rw[←hr4];exact numR_rest 1 r3.2
 have n1:=fun w' h=>onumber_ok w' p B r0 2 (by decide) (by decide) h hl
 have n2:=fun w' h=>onumber_ok w' p B r1.2 2 (by decide) (by decide) h (by omega)
 have n3:=fun w' h=>onumber_ok w' p B r2.2 1 (by decide) (by decide) h (by omega)
 have n4:=fun w' h=>onumber_ok w' p B r3.2 1 (by decide) (by decide) h (by omega)
 rw[hr1] at n1
 rw[hr2] at n2
 rw[hr3] at n3
 rw[hr4] at n4
 obtain⟨s,hs⟩:∃s:ShpD,(⟨(r1.1:Int),(r2.1:Int),(r3.1:Int),(r4.1:Int)⟩:ShpD)=s:=⟨_,rfl⟩
 have eR:treeR r0=(⟨s,(keysR ((gridD s).1 * (gridD s).2).toNat r4.2).1⟩,(keysR ((gridD s).1 * (gridD s).2).toNat r4.2).2):=by
  unfold treeR
  simp only[hr1,hr2,hr3,hr4,hs]
 rw[eR]
 have hgr:=fun w'=>grid_any s w'
 rw[←hs] at hgr
 unfold shpV at hgr
 simp only at hgr
 rw[hs] at hgr
 obtain⟨g1,g2⟩:=grid_le s
 obtain⟨hm1,hm2⟩:=mul_nat g1 g2
 have hsv:s.w=r1.1∧s.h=r2.1∧s.c=r3.1∧s.d=r4.1:=by subst hs;exact⟨rfl,rfl,rfl,rfl⟩
 obtain⟨m,hm⟩:∃m,((gridD s).1 * (gridD s).2).toNat=m:=⟨_,rfl⟩
 rw[hm] at hm1 hm2 ⊢
 have hky:=fun w' h hw=>okeys_ok w' p B hw r4.2 m h (by omega) (by omega)
 have HM:Hid (wrap64 ((gridD s).1 * (gridD s).2)=(m:Int)):=hm2
 have HS:=zD hc0 hpw hK hBw hsv
 clear h eR hs hr1 hr2 hr3 hr4 l1 l2 l3 l4 hm hm1 hm2 hsv hl hBw hc0
 go_enter Tryz.func186,Tryz.ntmps186
 go_wp2_with fail
 generalize w.alloc (.cells #[.int .i64 0,.int .i64 0,.int .i64 0,.int .i64 0,.slice none 0 0] 271)=w0 at *
 refine (n1 _ h0).mono ?_
 rintro e w1 ⟨rfl,h1,c1⟩
 have hb1:=hb0.chg c1 (by have:=HS.out.2.1;have:=HS.out.2.2.1;simp;omega)
 clear n1 h0 hb0
 go_wp2_with fail
 refine (n2 _ h1).mono ?_
 rintro e w2 ⟨rfl,h2,c2⟩
 have hb2:=hb1.chg c2 (by have:=HS.out.2.1;have:=HS.out.2.2.1;simp;omega)
 clear n2 h1 hb1
 go_wp2_with fail
 refine (n3 _ h2).mono ?_
 rintro e w3 ⟨rfl,h3,c3⟩
 have hb3:=hb2.chg c3 (by have:=HS.out.2.1;have:=HS.out.2.2.1;simp;omega)
 clear n3 h2 hb2
 go_wp2_with fail
 refine (n4 _ h3).mono ?_
 rintro e w4 ⟨rfl,h4,c4⟩
 have hb4:=hb3.chg c4 (by have:=HS.out.2.1;have:=HS.out.2.2.1;simp;omega)
 clear n4 h3 hb3
 go_wp2_with fail
 obtain⟨K1,hK1⟩:∃K1,w4.heap.size=K1:=⟨_,rfl⟩
 rw[hK1]
 have hb5:Blk (w4.alloc (.cells #[.int .i64 r1.1,.int .i64 r2.1,.int .i64 r3.1,.int .i64 r4.1,.slice none 0 0] 271)) K1 #[.int .i64 r1.1,.int .i64 r2.1,.int .i64 r3.1,.int .i64 r4.1,.slice none 0 0] 271:=Blk.new_at w4 _ _ hK1
 have c5:Chg [] w4 (w4.alloc (.cells #[.int .i64 r1.1,.int .i64 r2.1,.int .i64 r3.1,.int .i64 r4.1,.slice none 0 0] 271)):=(Chg.refl [] w4).alloc _
 generalize w4.alloc (.cells #[.int .i64 r1.1,.int .i64 r2.1,.int .i64 r3.1,.int .i64 r4.1,.slice none 0 0] 271)=w5 at *
 have h5:=h4.chg c5 (by simp)
 have hb05:=hb4.chg c5 (by simp)
 refine (hgr _).mono ?_
 rintro e w6 ⟨rfl,c6⟩
 have h6:=h5.chg c6 (by simp)
 have hb06:=hb05.chg c6 (by simp)
 have hb16:=hb5.chg c6 (by simp)
 have hK1w:K<K1:=by rw[←hK1];exact hb4.lt
 have ct:Chg [p] w w6:=((((((HS.out.1.mono (by simp)).trans c1 (fun _ h=>.inl h)).trans c2 (fun _ h=>.inl h)).trans c3 (fun _ h=>.inl h)).trans c4 (fun _ h=>.inl h)).nil c5).nil c6
 have HT:=zC ct hK1w g1 g2
 clear hgr h4 h5 hb4 hb05 hb5 c1 c2 c3 c4 c5 c6 ct hK1w hK1 g1 g2
 have hM:=HM.out
 go_wp2_with fail
 refine (hky _ h6 (Nat.le_trans HS.out.2.2.2.1 HT.out.1.size)).mono ?_
 rintro e w7 ⟨v,rfl,hO,h7,c7⟩
 have hb16l:=hb16.lt
 have hb07:=hb06.chg c7 (by have:=HS.out.2.1;have:=HS.out.2.2.1;simp;omega)
 have hb17:=hb16.chg c7 (by have:=HS.out.2.1;have:=HS.out.2.2.1;have:=HT.out.2.1;simp;omega)
 obtain⟨ao,cap,rfl,-⟩:=hO.shape
 have HO:=zB hO h7 c7
 clear hky h6 hb06 hb16 hO h7 c7
 obtain⟨n,hn⟩:∃n,(keysR m r4.2).1.length=n:=⟨_,rfl⟩
 rw[hn] at HO ⊢
 have c8:Chg [K1] w7 (w7.setCell ⟨K1,4,none⟩ (.slice ao n cap)):=(Chg.refl _ _).setCell (by simp) _
 have hb18:=hb17.set 4 (.slice ao n cap)
 simp only[List.setIfInBounds_toArray,List.set_cons_zero,List.set_cons_succ] at hb18
 have hb08:=hb07.chg c8 (by have:=HT.out.2.1;simp;omega)
 have HC8:=zH c8
 have x4:w7.cell? ⟨K1,4,none⟩=some (.slice none 0 0):=hb17.cell 4
 have f4:w7.frozen? ⟨K1,4,none⟩=false:=hb17.frozen 4
 clear c8 hb07
 have hone:∀v∈(#[Value.int .i64 r1.1,.int .i64 r2.1,.int .i64 r3.1,.int .i64 r4.1,.slice ao n cap]).toList,v.oneCell'=true:=by simp[Value.oneCell']
 have aT:ArrTy Tryz.prog 271 (#[Value.int .i64 r1.1,.int .i64 r2.1,.int .i64 r3.1,.int .i64 r4.1,.slice ao n cap]).size:=tree_ty
 have hss:(#[Value.int .i64 0,.int .i64 0,.int .i64 0,.int .i64 0,.slice none 0 0]).size=(#[Value.int .i64 r1.1,.int .i64 r2.1,.int .i64 r3.1,.int .i64 r4.1,.slice ao n cap]).size:=rfl
 go_wp2_with (first
  | (with_reducible refine wpList_ldA rfl 271 _ rfl hb18 aT rfl ?_)
  | (with_reducible refine wpList_stA rfl 271 _ _ rfl hb08 aT hss hone rfl rfl ?_;intro w9 hb9 c9 hs9))
 refine bodyPost_ret (results_A rfl _ _ hb9 aT rfl) rfl ?_
 obtain⟨hO,h7,c7⟩:=HO.out
 obtain⟨hc0,hpw',hK',hBw,e1,e2,e3,e4⟩:=HS.out
 obtain⟨ct,hKK,-⟩:=HT.out
 have hnew:∀t∈(Value.slice ao n cap).ownBlock.toList,w6.heap.size≤t:=fun t ht=>hO.new t ht
 have c8:=HC8.out
 have hK16:K1<w6.heap.size:=hb16l
 have hK6:K<w6.heap.size:=by omega
 refine⟨.slice ao n cap,?_,?_,?_,?_⟩
 ·show Ending.returned (Value.agg _)=_
  unfold treeV
  simp only
  rw[e1,e2,e3,e4]
 ·have h8:=(hO.chg c8 (fun t ht ht'=>by have:=hnew t ht;simp at ht';omega)).chg c9 (fun t ht ht'=>by have:=hnew t ht;simp at ht';omega)
  rw[hn]
  exact h8.back ct.size
 ·exact (h7.chg c8 (fun t ht=>by simp at ht;omega)).chg c9 (fun t ht=>by simp at ht;omega)
 ·exact ((ct.trans c7 (fun _ h=>.inl h)).trans c8 (fun t ht=>by simp at ht;right;omega)).trans c9 (fun t ht=>by simp at ht;right;omega)
end Go.Proofs.YtlidiclfpklliaaGreatDoor
namespace Go.Aq
open Go.RowKit
theorem numR_lt (wd:Nat) (r:RdD):(numR wd r).1<256^wd:=by
 have h:=beVal_lt (takeR wd r).1
 have h2:=takeR_len wd r
 exact Nat.lt_of_lt_of_le h (Nat.pow_le_pow_right (by decide) h2)
end Go.Aq
namespace Go.Proofs.YtlidiclfpklliaaGreatDoor
open Go.RowKit Go.Aq Go.Aq.Fy Go.Maps
def commV (c:CommD) (v:Value):Value:=.agg #[.string (str c.tree),v,.int .i64 c.stamp,.string (str c.author),.string (str c.text)]
theorem comm_ty:ArrTy Tryz.prog 273 5:=⟨⟨_,Tryz.underlying273,rfl⟩,by kernel_rfl⟩
set_option maxRecDepth 100000 in
theorem ocomm_ok (w:World) (p B:Nat) (hBw:B≤w.heap.size) (r0:RdD) (h:RdO w p B r0) (hl:r0.rest.length≤1000000000):
  Calls Tryz.prog 187 #[.pointer (some ⟨p,0,none⟩)] w fun e w'=>∃v,e=.returned (commV (commR r0).1 v)∧OwnN w w' 9 1 v (commR r0).1.pars.length (names (commR r0).1.pars)∧RdO w' p B (commR r0).2∧Chg [p] w w':=by
 have hpw:p<w.heap.size:=by obtain⟨v,hb,-⟩:=h;exact hb.lt
 obtain⟨K,hK⟩:∃K,w.heap.size=K:=⟨_,rfl⟩
 have hc0:Chg [] w (w.alloc (.cells #[.string ⟨#[]⟩,.slice none 0 0,.int .i64 0,.string ⟨#[]⟩,.string ⟨#[]⟩] 273)):=(Chg.refl [] w).alloc _
 have hb0:Blk (w.alloc (.cells #[.string ⟨#[]⟩,.slice none 0 0,.int .i64 0,.string ⟨#[]⟩,.string ⟨#[]⟩] 273)) K #[.string ⟨#[]⟩,.slice none 0 0,.int .i64 0,.string ⟨#[]⟩,.string ⟨#[]⟩] 273:=Blk.new_at w _ _ hK
 have h0:=h.chg hc0 (by simp)
 obtain⟨r1,hr1⟩:∃r1,takeR 32 r0=r1:=⟨_,rfl⟩
 obtain⟨r2,hr2⟩:∃r2,numR 1 r1.2=r2:=⟨_,rfl⟩
 obtain⟨r3,hr3⟩:∃r3,keysR r2.1 r2.2=r3:=⟨_,rfl⟩
 obtain⟨r4,hr4⟩:∃r4,numR 6 r3.2=r4:=⟨_,rfl⟩
 obtain⟨r5,hr5⟩:∃r5,numR 2 r4.2=r5:=⟨_,rfl⟩
 obtain⟨r6,hr6⟩:∃r6,takeR r5.1 r5.2=r6:=⟨_,rfl⟩
 obtain⟨r7,hr7⟩:∃r7,numR 2 r6.2=r7:=⟨_,rfl⟩
 obtain⟨r8,hr8⟩:∃r8,takeR r7.1 r7.2=r8:=⟨_,rfl⟩
 have eR:commR r0=(⟨hexL r1.1,r3.1,(r4.1:Int),r6.1,r8.1⟩,r8.2):=by
  unfold commR
  simp only[hr1,hr2,hr3,hr4,hr5,hr6,hr7,hr8]
 rw[eR]
 have l1:r1.2.rest.length≤r0.rest.length:=by rw[←hr1];exact takeR_rest 32 r0
 have l2:r2.2.rest.length≤r1.2.rest.length:=by rw[←hr2];exact numR_rest 1 r1.2
 have l3:r3.2.rest.length≤r2.2.rest.length:=by rw[←hr3];exact keysR_rest _ r2.2
 have l4:r4.2.rest.length≤r3.2.rest.length:=by rw[←hr4];exact numR_rest 6 r3.2
 have l5:r5.2.rest.length≤r4.2.rest.length:=by rw[←hr5];exact numR_rest 2 r4.2
 have l6:r6.2.rest.length≤r5.2.rest.length:=by rw[←hr6];exact takeR_rest _ r5.2
 have l7:r7.2.rest.length≤r6.2.rest.length:=by rw[←hr7];exact numR_rest 2 r6.2
 have b1:r1.1.length≤32:=by rw[←hr1];exact takeR_len 32 r0
 have b2:r2.1<256:=by rw[←hr2];exact numR_lt 1 _
 have b5:r5.1<65536:=by rw[←hr5];exact numR_lt 2 _
 have b7:r7.1<65536:=by rw[←hr7];exact numR_lt 2 _
 have n1:=fun w' h=>otake_ok w' p B r0 32 h hl (by decide)
 have n2:=fun w' h=>onumber_ok w' p B r1.2 1 (by decide) (by decide) h (by omega)
 have n3:=fun w' h hw=>okeys_ok w' p B hw r2.2 r2.1 h (by omega) (by omega)
 have n4:=fun w' h=>onumber_ok w' p B r3.2 6 (by decide) (by decide) h (by omega)
 have n5:=fun w' h=>onumber_ok w' p B r4.2 2 (by decide) (by decide) h (by omega)
 have n6:=fun w' h=>otake_ok w' p B r5.2 r5.1 h (by omega) (by omega)
 have n7:=fun w' h=>onumber_ok w' p B r6.2 2 (by decide) (by decide) h (by omega)
 have n8:=fun w' h=>otake_ok w' p B r7.2 r7.1 h (by omega) (by omega)
 rw[hr1] at n1
 rw[hr2] at n2
 rw[hr3] at n3
 rw[hr4] at n4
 rw[hr5] at n5
 rw[hr6] at n6
 rw[hr7] at n7
 rw[hr8] at n8
 have HS:=zD hc0 hpw hK hBw b1
 clear h eR hr1 hr2 hr3 hr4 hr5 hr6 hr7 hr8 l1 l2 l3 l4 l5 l6 l7 hl hBw hc0 b1 b2 b5 b7
 have NP:∀t∈[p],t∈[p]∨w.heap.size≤t:=fun _ h=>.inl h
 go_enter Tryz.func187,Tryz.ntmps187
 go_wp2_with fail
 generalize w.alloc (.cells #[.string ⟨#[]⟩,.slice none 0 0,.int .i64 0,.string ⟨#[]⟩,.string ⟨#[]⟩] 273)=w0 at *
 refine (n1 _ h0).mono ?_
 rintro e w1 ⟨v1,rfl,hT1,h1,c1⟩
 have hb1:=hb0.chg c1 (by have:=HS.out.2.1;have:=HS.out.2.2.1;simp;omega)
 have ct1:=(HS.out.1.mono (T:=[p]) (by simp)).tr c1
 have hhx:=hex_any w1 _ _ _ hT1.1 (by have:=HS.out.2.2.2.2;omega)
 obtain⟨ao1,cap1,rfl,-⟩:=hT1.1.shape
 clear n1 h0 hb0 hT1 c1
 go_wp2_with fail
 refine hhx.mono ?_
 rintro e w2 ⟨rfl,c2⟩
 have hb2:=hb1.chg0 c2
 have h2:=h1.chg c2 (by simp)
 have ct2:=ct1.nil c2
 clear hhx h1 hb1 ct1 c2
 go_wp2_with fail
 obtain⟨K1,hK1⟩:∃K1,w2.heap.size=K1:=⟨_,rfl⟩
 rw[hK1]
 have hk3:Blk (w2.alloc (.cells #[.string (str (hexL r1.1)),.slice none 0 0,.int .i64 0,.string ⟨#[]⟩,.string ⟨#[]⟩] 273)) K1 #[.string (str (hexL r1.1)),.slice none 0 0,.int .i64 0,.string ⟨#[]⟩,.string ⟨#[]⟩] 273:=Blk.new_at w2 _ _ hK1
 have c3:Chg [] w2 (w2.alloc (.cells #[.string (str (hexL r1.1)),.slice none 0 0,.int .i64 0,.string ⟨#[]⟩,.string ⟨#[]⟩] 273)):=(Chg.refl [] w2).alloc _
 have hK1w:K<K1:=by rw[←hK1];exact hb2.lt
 have HK:Hid (K<K1∧p<K∧B≤K):=⟨hK1w,by have:=HS.out.2.1;have:=HS.out.2.2.1;omega,by have:=HS.out.2.2.2.1;have:=HS.out.2.2.1;omega⟩
 generalize w2.alloc (.cells #[.string (str (hexL r1.1)),.slice none 0 0,.int .i64 0,.string ⟨#[]⟩,.string ⟨#[]⟩] 273)=w3 at *
 have h3:=h2.chg c3 (by simp)
 have hb3:=hb2.chg0 c3
 have ct3:=ct2.nil c3
 clear h2 hb2 ct2 c3 hK1 hK1w
 refine (n2 _ h3).mono ?_
 rintro e w4 ⟨rfl,h4,c4⟩
 clear n2
 have hb4:=hb3.chg c4 (by have:=HK.out;simp;omega)
 have hk4:=hk3.chg c4 (by have:=HK.out;simp;omega)
 have ct4:=ct3.tr c4
 clear h3 hb3 hk3 ct3 c4
 go_wp2_with fail
 refine (n3 _ h4 (by have:=ct4.size;have:=HS.out.2.2.2.1;omega)).mono ?_
 rintro e w5 ⟨v3,rfl,hO5,h5,c5⟩
 clear n3
 obtain⟨ao3,cap3,rfl,-⟩:=hO5.shape
 have hk4l:=hk4.lt
 have HON:Hid ((∀t∈(Value.slice ao3 r3.1.length cap3).ownBlock.toList,K1<t)∧∀t∈(Value.slice ao3 r3.1.length cap3).ownBlock.toList,p<t):=⟨fun t ht=>by have:=hO5.new t ht;omega,fun t ht=>by have:=hO5.new t ht;have:=HK.out;omega⟩
 have hO5:=hO5.back ct4.size
 clear hk4l
 have hb5:=hb4.chg c5 (by have:=HK.out;simp;omega)
 have hk5:=hk4.chg c5 (by have:=HK.out;simp;omega)
 have ct5:=ct4.tr c5
 clear h4 hb4 hk4 ct4 c5
 have x6:w5.cell? ⟨K1,1,none⟩=some (.slice none 0 0):=hk5.cell 1
 have f6:w5.frozen? ⟨K1,1,none⟩=false:=hk5.frozen 1
 go_wp2_with fail
 have c6:Chg [K1] w5 (w5.setCell ⟨K1,1,none⟩ (.slice ao3 r3.1.length cap3)):=(Chg.refl _ _).setCell (by simp) _
 have hk6:=hk5.set 1 (.slice ao3 r3.1.length cap3)
 simp only[List.setIfInBounds_toArray,List.set_cons_zero,List.set_cons_succ] at hk6
 have hb6:=hb5.chg c6 (by have:=HK.out;simp;omega)
 have h6:=h5.chg c6 (fun t ht=>by have:=HK.out;simp at ht;omega)
 have ct6:=ct5.trans c6 (fun t ht=>by have:=HK.out;have:=HS.out.2.2.1;simp at ht;right;omega)
 have hO6:=hO5.chg c6 (fun t ht ht'=>by have:=HON.out.1 t ht;simp at ht';omega)
 generalize w5.setCell ⟨K1,1,none⟩ (.slice ao3 r3.1.length cap3)=w6 at *
 clear h5 hb5 hk5 ct5 c6 x6 f6 hO5
 refine (n4 _ h6).mono ?_
 rintro e w7 ⟨rfl,h7,c7⟩
 clear n4
 have hb7:=hb6.chg c7 (by have:=HK.out;simp;omega)
 have hk7:=hk6.chg c7 (by have:=HK.out;simp;omega)
 have ct7:=ct6.tr c7
 have hO7:=hO6.chg c7 (fun t ht ht'=>by have:=HON.out.2 t ht;have:=HK.out;simp at ht';omega)
 clear h6 hb6 hk6 ct6 c7 hO6
 have x8:w7.cell? ⟨K1,2,none⟩=some (.int .i64 0):=hk7.cell 2
 have f8:w7.frozen? ⟨K1,2,none⟩=false:=hk7.frozen 2
 go_wp2_with fail
 have c8:Chg [K1] w7 (w7.setCell ⟨K1,2,none⟩ (.int .i64 r4.1)):=(Chg.refl _ _).setCell (by simp) _
 have hk8:=hk7.set 2 (.int .i64 r4.1)
 simp only[List.setIfInBounds_toArray,List.set_cons_zero,List.set_cons_succ] at hk8
 have hb8:=hb7.chg c8 (by have:=HK.out;simp;omega)
 have h8:=h7.chg c8 (fun t ht=>by have:=HK.out;simp at ht;omega)
 have ct8:=ct7.trans c8 (fun t ht=>by have:=HK.out;have:=HS.out.2.2.1;simp at ht;right;omega)
 have hO8:=hO7.chg c8 (fun t ht ht'=>by have:=HON.out.1 t ht;simp at ht';omega)
 generalize w7.setCell ⟨K1,2,none⟩ (.int .i64 r4.1)=w8 at *
 clear h7 hb7 hk7 ct7 c8 x8 f8 hO7
 refine (n5 _ h8).mono ?_
 rintro e w9 ⟨rfl,h9,c9⟩
 clear n5
 have hb9:=hb8.chg c9 (by have:=HK.out;simp;omega)
 have hk9:=hk8.chg c9 (by have:=HK.out;simp;omega)
 have ct9:=ct8.tr c9
 have hO9:=hO8.chg c9 (fun t ht ht'=>by have:=HON.out.2 t ht;have:=HK.out;simp at ht';omega)
 clear h8 hb8 hk8 ct8 c9 hO8
 go_wp2_with fail
 refine (n6 _ h9).mono ?_
 rintro e w10 ⟨u10,rfl,hT10,h10,c10⟩
 clear n6
 have hcv10:=run_str8 hT10.1
 obtain⟨ao10,cap10,rfl,-⟩:=hT10.1.shape
 clear hT10
 have hb10:=hb9.chg c10 (by have:=HK.out;simp;omega)
 have hk10:=hk9.chg c10 (by have:=HK.out;simp;omega)
 have ct10:=ct9.tr c10
 have hO10:=hO9.chg c10 (fun t ht ht'=>by have:=HON.out.2 t ht;have:=HK.out;simp at ht';omega)
 clear h9 hb9 hk9 ct9 c10 hO9
 have x11:w10.cell? ⟨K1,3,none⟩=some (.string ⟨#[]⟩):=hk10.cell 3
 have f11:w10.frozen? ⟨K1,3,none⟩=false:=hk10.frozen 3
 go_wp2_with fail
 have c11:Chg [K1] w10 (w10.setCell ⟨K1,3,none⟩ (.string (str r6.1))):=(Chg.refl _ _).setCell (by simp) _
 have hk11:=hk10.set 3 (.string (str r6.1))
 simp only[List.setIfInBounds_toArray,List.set_cons_zero,List.set_cons_succ] at hk11
 have hb11:=hb10.chg c11 (by have:=HK.out;simp;omega)
 have h11:=h10.chg c11 (fun t ht=>by have:=HK.out;simp at ht;omega)
 have ct11:=ct10.trans c11 (fun t ht=>by have:=HK.out;have:=HS.out.2.2.1;simp at ht;right;omega)
 have hO11:=hO10.chg c11 (fun t ht ht'=>by have:=HON.out.1 t ht;simp at ht';omega)
 clear hcv10
 generalize w10.setCell ⟨K1,3,none⟩ (.string (str r6.1))=w11 at *
 clear h10 hb10 hk10 ct10 c11 x11 f11 hO10
 refine (n7 _ h11).mono ?_
 rintro e w12 ⟨rfl,h12,c12⟩
 clear n7
 have hb12:=hb11.chg c12 (by have:=HK.out;simp;omega)
 have hk12:=hk11.chg c12 (by have:=HK.out;simp;omega)
 have ct12:=ct11.tr c12
 have hO12:=hO11.chg c12 (fun t ht ht'=>by have:=HON.out.2 t ht;have:=HK.out;simp at ht';omega)
 clear h11 hb11 hk11 ct11 c12 hO11
 go_wp2_with fail
 refine (n8 _ h12).mono ?_
 rintro e w13 ⟨u13,rfl,hT13,h13,c13⟩
 clear n8
 have hcv13:=run_str8 hT13.1
 obtain⟨ao13,cap13,rfl,-⟩:=hT13.1.shape
 clear hT13
 have hb13:=hb12.chg c13 (by have:=HK.out;simp;omega)
 have hk13:=hk12.chg c13 (by have:=HK.out;simp;omega)
 have ct13:=ct12.tr c13
 have hO13:=hO12.chg c13 (fun t ht ht'=>by have:=HON.out.2 t ht;have:=HK.out;simp at ht';omega)
 clear h12 hb12 hk12 ct12 c13 hO12
 have x14:w13.cell? ⟨K1,4,none⟩=some (.string ⟨#[]⟩):=hk13.cell 4
 have f14:w13.frozen? ⟨K1,4,none⟩=false:=hk13.frozen 4
 have c14:Chg [K1] w13 (w13.setCell ⟨K1,4,none⟩ (.string (str r8.1))):=(Chg.refl _ _).setCell (by simp) _
 have hk14:=hk13.set 4 (.string (str r8.1))
 simp only[List.setIfInBounds_toArray,List.set_cons_zero,List.set_cons_succ] at hk14
 have hb14:=hb13.chg c14 (by have:=HK.out;simp;omega)
 have h14:=h13.chg c14 (fun t ht=>by have:=HK.out;simp at ht;omega)
 have ct14:=ct13.trans c14 (fun t ht=>by have:=HK.out;have:=HS.out.2.2.1;simp at ht;right;omega)
 have hO14:=hO13.chg c14 (fun t ht ht'=>by have:=HON.out.1 t ht;simp at ht';omega)
 have HC:=zB h14 ct14 hO14
 clear h14 ct14 hO14 h13 ct13 hO13 c14
 clear hb13 hk13
 have hone:∀v∈(#[.string (str (hexL r1.1)),.slice ao3 r3.1.length cap3,.int .i64 r4.1,.string (str r6.1),.string (str r8.1)]:Array Value).toList,v.oneCell'=true:=by simp[Value.oneCell']
 have aT:ArrTy Tryz.prog 273 (#[.string (str (hexL r1.1)),.slice ao3 r3.1.length cap3,.int .i64 r4.1,.string (str r6.1),.string (str r8.1)]:Array Value).size:=comm_ty
 have hss:(#[.string ⟨#[]⟩,.slice none 0 0,.int .i64 0,.string ⟨#[]⟩,.string ⟨#[]⟩]:Array Value).size=(#[.string (str (hexL r1.1)),.slice ao3 r3.1.length cap3,.int .i64 r4.1,.string (str r6.1),.string (str r8.1)]:Array Value).size:=rfl
 go_wp2_with (first
  | (with_reducible refine wpList_ldA rfl 273 _ rfl hk14 aT rfl ?_)
  | (with_reducible refine wpList_stA rfl 273 _ _ rfl hb14 aT hss hone rfl rfl ?_;intro w99 hb99 c99 hs99))
 refine bodyPost_ret (results_A rfl _ _ hb99 aT rfl) rfl ?_
 obtain⟨h,ct,hO⟩:=HC.out
 have hk:=HK.out
 have hs:=HS.out.2.2.1
 refine⟨.slice ao3 r3.1.length cap3,rfl,hO.chg c99 (fun t ht ht'=>by have:=HON.out.1 t ht;simp at ht';omega),h.chg c99 (fun t ht=>by simp at ht;omega),ct.trans c99 (fun t ht=>by simp at ht;right;omega)⟩
end Go.Proofs.YtlidiclfpklliaaGreatDoor
namespace Go.Aq
open Go.RowKit
theorem validAll_get {l:List (List UInt8)} (h:∀(i:Nat) (k:List UInt8),l[i]?=some k→validB k=true):validAll l=true:=by
 unfold validAll
 rw[List.all_eq_true]
 intro x hx
 obtain⟨i,hi⟩:=List.mem_iff_getElem?.1 hx
 exact h i x hi
theorem validAll_no {l:List (List UInt8)} {i:Nat} {k:List UInt8} (hi:l[i]?=some k) (h:validB k=false):validAll l=false:=by
 unfold validAll
 rw[List.all_eq_false]
 exact⟨k,List.mem_of_getElem? hi,by rw[h];decide⟩
end Go.Aq
namespace Go.Proofs.YtlidiclfpklliaaGreatDoor
open Go.RowKit Go.Aq Go.Aq.Fy Go.Maps
theorem bad_any (w:World) (k:List UInt8) (hk:k.length≤1000000):Calls Tryz.prog 380 #[.string (str k)] w fun e w'=>e=.returned (.bool (!validB k))∧Chg [] w w':=by
 have hv:=valid_any w k hk
 clear hk
 go_enter Tryz.func380,Tryz.ntmps380
 go_wp2_with fail
 refine hv.mono ?_
 rintro e w1 ⟨rfl,c1⟩
 clear hv
 go_wp2_with fail
 go_ret
 exact⟨rfl,c1⟩
theorem indexV_ok (w:World) (l:List (List UInt8)) (v:Value) (n:Nat) (hn:l.length=n) (hv:Sees w 1 v n (names l)) (hb:n≤1000000) (hs:∀k∈l,k.length≤1000000):
  Calls Tryz.prog 381 #[v,.func (.func 380) #[] #[]] w fun e w'=>∃z:Int,e=.returned (.int .i64 z)∧decide (0≤z)=(!validAll l)∧Chg [] w w':=by
 obtain⟨ao,cap,rfl,-⟩:=hv.shape
 have HV:=zC hv hn hb hs
 clear hv hn hb hs
 go_enter Tryz.func381,Tryz.ntmps381
 go_wp2_with fail
 go_loopg [8] n (fun k vi wr=>∃(i:Nat),vi=.int .i64 i∧k=n - i∧i≤n∧(∀(j:Nat) (k':List UInt8),l[j]?=some k'→j<i→validB k'=true)∧Chg [] w wr)
 case atStart=>exact⟨0,rfl,by omega,by omega,fun _ _ _ h=>absurd h (Nat.not_lt_zero _),Chg.refl _ _⟩
 case round=>
  obtain⟨i,rfl,hk,hi,hj,hc⟩:=hrel
  by_cases him:i<n
  ·have t1:decide ((i:Int)<(n:Int))=true:=decide_eq_true (by omega)
   have him':i<l.length:=by rw[HV.out.2.1];exact him
   obtain⟨g',off',cap',e1,hle,-,hx⟩:=HV.out.1.cells (by omega)
   injection e1 with e1 _ e2
   subst e1 e2
   have x0:=hx i (by omega)
   obtain⟨ki,hki⟩:∃ki,l[i]?=some ki:=⟨_,List.getElem?_eq_getElem him'⟩
   have ex:(names l)[i]?=some (.string (str ki)):=by unfold names;rw[List.getElem?_map,hki];rfl
   rw[ex] at x0
   have y0:=hc.cell_some x0 (by simp)
   have hcl:=fun w'=>bad_any w' ki (HV.out.2.2.2 _ (List.mem_of_getElem? hki))
   have hwi:Hid (wrap64 ((i:Int)+1)=(i:Int)+1):=by have:=HV.out.2.2.1;show _=_;unfold wrap64;omega
   obtain⟨b,hbv⟩:∃b,validB ki=b:=⟨_,rfl⟩
   rw[hbv] at hcl
   have HC:=zD hc hk hj hki hbv
   clear x0 hx ex him' hc hk hi hj hbv hki hle
   go_wp2_with fail
   refine (hcl _).mono ?_
   rintro e w3 ⟨rfl,c3⟩
   clear hcl y0
   cases b with
   | false=>
    have HC3:=zH c3
    clear c3
    go_wp2_with fail
    go_ret
    refine⟨(i:Int),rfl,?_,HC.out.1.nil HC3.out⟩
    rw[validAll_no HC.out.2.2.2.1 HC.out.2.2.2.2]
    simp
   | true=>
    go_wp2_with fail
    go_roundg (gk - 1)
    case measure=>have:=HC.out.2.1;omega
    case rel=>
     have hi1:i+1≤n:=him
     refine⟨i+1,by rw[hwi.out];rfl,by have:=HC.out.2.1;omega,hi1,fun j kj hj hji=>?_,HC.out.1.nil c3⟩
     by_cases e:j<i
     ·exact HC.out.2.2.1 j kj hj e
     ·have e:j=i:=by omega
      subst e
      have e2:=HC.out.2.2.2.1
      rw[hj] at e2
      injection e2 with e2
      rw[e2]
      exact HC.out.2.2.2.2
  ·have t1:decide ((i:Int)<(n:Int))=false:=decide_eq_false (by omega)
   have HC:=zB hc hi hj
   clear hc hi hj hk
   go_wp2_with fail
   go_ret
   refine⟨-1,rfl,?_,HC.out.1⟩
   rw[validAll_get (l:=l) (fun j kj hj=>HC.out.2.2 j kj hj (by have:=HV.out.2.1;have:=(List.getElem?_eq_some_iff.1 hj).1;omega))]
   decide
theorem valids_ok (w:World) (l:List (List UInt8)) (v:Value) (n:Nat) (hn:l.length=n) (hv:Sees w 1 v n (names l)) (hb:n≤1000000) (hs:∀k∈l,k.length≤1000000):
  Calls Tryz.prog 378 #[v] w fun e w'=>e=.returned (.bool (validAll l))∧Chg [] w w':=by
 have hi:=indexV_ok w l v n hn hv hb hs
 have hc:Calls Tryz.prog 379 #[v,.func (.func 380) #[] #[]] w fun e w'=>e=.returned (.bool (!validAll l))∧Chg [] w w':=by
  obtain⟨ao,cap,rfl,-⟩:=hv.shape
  clear hn hv hb hs
  go_enter Tryz.func379,Tryz.ntmps379
  go_wp2_with fail
  refine hi.mono ?_
  rintro e w1 ⟨z,rfl,hz,c1⟩
  clear hi
  go_wp2_with fail
  go_ret
  exact⟨by rw[←hz];simp,c1⟩
 obtain⟨ao,cap,rfl,-⟩:=hv.shape
 clear hn hv hb hs hi
 go_enter Tryz.func378,Tryz.ntmps378
 go_wp2_with fail
 refine hc.mono ?_
 rintro e w1 ⟨rfl,c1⟩
 clear hc
 go_wp2_with fail
 go_ret
 exact⟨by simp,c1⟩
def FB (w0 w:World) (v:Value) (b:List UInt8):Prop:=Fresh w0 w 5 1 v b.length (Bs b)
theorem FB.shape {w0 w:World} {v:Value} {b:List UInt8} (h:FB w0 w v b):∃ao cap,v=.slice ao b.length cap:=by
 obtain⟨ao,cap,h1,h2,-⟩:=h.own.sees.shape
 exact⟨ao,cap,h1⟩
theorem one_Bs (b:List UInt8):∀u∈Bs b,u.oneCell'=true:=by
 intro u hu
 simp only[Bs,Bc,List.mem_map] at hu
 obtain⟨x,-,rfl⟩:=hu
 rfl
theorem onum_ok (w0 w:World) (v:Value) (b:List UInt8) (n wd:Nat) (h:FB w0 w v b) (hb:b.length≤1000000000) (h1:1≤wd) (h6:wd≤6) (hn:n<2^(8 * wd)):
  Calls Tryz.prog 376 #[v,.int .i64 n,.int .i64 wd] w fun e w'=>∃v',e=.returned v'∧FB w0 w' v' (b++beB n wd):=by
 have hg:=big_ok w n wd h1 h6 hn sl_u8
 have hl:(beB n wd).length=wd:=by unfold beB;rw[List.length_reverse,leB_length]
 obtain⟨ao,cap,rfl⟩:=h.shape
 have HH:=zC h hb hl h6
 clear h hb hl h1 h6 hn
 go_enter Tryz.func376,Tryz.ntmps376
 go_wp2_with fail
 refine hg.mono ?_
 rintro e w1 ⟨g,rfl,ho,c1,hgn⟩
 have hf:Fresh w0 w1 5 1 (.slice ao b.length cap) b.length (Bs b):=HH.out.1.to c1
 have hsrc:=ho.sees
 have HC:=zH c1
 have h1s:=one_Bs (beB n wd)
 clear hg c1 hgn ho
 go_wp2_with (first
  | (at_builtin;refine wpList_appF rfl _ _ 36 rfl sl_u8 hf rfl hsrc rfl h1s (by have:=HH.out.2.1;have:=HH.out.2.2.2;omega) (by have:=HH.out.2.1;have:=HH.out.2.2.2;omega) ?_;intro v2 w2 hf2 c2)
  | fail)
 obtain⟨ao2,cap2,rfl,-⟩:=hf2.own.sees.shape
 go_wp2_with fail
 go_ret
 refine⟨_,rfl,?_⟩
 unfold FB
 rw[List.length_append,HH.out.2.2.1,show Bs (b++beB n wd)=Bs b++Bs (beB n wd) by simp[Bs]]
 exact hf2
theorem rawKs_take {l:List (List UInt8)} {i:Nat} {k:List UInt8} (h:l[i]?=some k):rawKs (l.take (i+1))=rawKs (l.take i)++rawK k:=by
 rw[List.take_add_one,h]
 simp[rawKs]
end Go.Proofs.YtlidiclfpklliaaGreatDoor
