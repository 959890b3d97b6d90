/- Contracts of package pix: numbers, Row, Size, MayShape, May; aquref9.sides, Row, Size. No statement of the seat is proved here. -/
import Derived.Test.YtfammoidikdbpaaGreatDoorPixPlain
import Derived.Test.YtfammoidikdbpaaGreatDoorQuiet
import Derived.Test.YtfammoidikdbpaaGreatDoorWordA
import Derived.Deep.RegionHeld3
import Derived.Deep.DeepCutAuto
set_option linter.unusedVariables false
namespace Go.Aq
open Go.RowKit
theorem w64 (a : Int) (h : -9223372036854775808 ≤ a ∧ a ≤ 9223372036854775807) : wrap64 a = a := by unfold wrap64; omega
end Go.Aq
namespace Go.Proofs.YtfammoidikdbpaaGreatDoor
open Go.RowKit Go.Aq Go.Aq.Wd
set_option maxHeartbeats 2000000 in
theorem numbers_any (s : ShpD) (w : World) : Calls Tryz.prog 81 #[shpV s] w fun e w' => e = .returned (.bool (numsB s)) ∧ Chg [] w w' := by
  obtain ⟨a, b, c, d⟩ := s
  unfold shpV
  have hc : ∀ o, Chg [] w (w.alloc o) := fun o => (Chg.refl [] w).alloc _
  have HC := Lib.hid hc
  clear hc
  simp only
  go_enter Tryz.func81, Tryz.ntmps81
  go_wp2_with fail
  all_goals go_ret
  all_goals refine ⟨rb ?_, HC.out _⟩
  all_goals (try simp only [beq_iff_eq, beq_eq_false_iff_ne, ne_eq] at *)
  all_goals (rw [Bool.eq_iff_iff, numsB_iff]; simp only [Bool.or_eq_true, beq_iff_eq, Bool.false_eq_true, true_iff, false_iff]; omega)
theorem shp_blk (s : ShpD) (w : World) {K : Nat} (hK : w.heap.size = K) : Blk (w.alloc (.cells #[.int .i64 s.w, .int .i64 s.h, .int .i64 s.c, .int .i64 s.d] 23)) K #[.int .i64 s.w, .int .i64 s.h, .int .i64 s.c, .int .i64 s.d] 23 := Blk.new_at w _ _ hK
theorem Blk4 {w : World} {p : Nat} {a b c d : Value} {e : TypeId} (h : Blk w p #[a, b, c, d] e) :
    (w.cell? ⟨p, 0, none⟩ = some a ∧ w.cell? ⟨p, 1, none⟩ = some b ∧ w.cell? ⟨p, 2, none⟩ = some c ∧ w.cell? ⟨p, 3, none⟩ = some d) := ⟨h.cell 0, h.cell 1, h.cell 2, h.cell 3⟩
set_option maxHeartbeats 2000000 in
theorem row_any (s : ShpD) (w : World) : Calls Tryz.prog 82 #[shpV s] w fun e w' => e = .returned (.int .i64 (rowD s)) ∧ Chg [] w w' := by
  obtain ⟨K, hK⟩ : ∃ K, w.heap.size = K := ⟨_, rfl⟩
  have hb := shp_blk s w hK
  have hc : Chg [] w (w.alloc (.cells #[.int .i64 s.w, .int .i64 s.h, .int .i64 s.c, .int .i64 s.d] 23)) := (Chg.refl [] w).alloc _
  have hn := fun w' => numbers_any s w'
  unfold shpV at *
  cases hN : numsB s with
  | false =>
    have e1 : rowD s = 0 := by unfold rowD; rw [hN]; rfl
    rw [e1]
    rw [hN] at hn
    clear hN e1
    go_enter Tryz.func82, Tryz.ntmps82
    go_wp2_with fail
    refine (hn _).mono ?_
    rintro e w1 ⟨rfl, c1⟩
    go_wp2_with fail
    go_ret
    exact ⟨rfl, hc.nil c1⟩
  | true =>
    have e1 : rowD s = s.w * s.c * s.d / 8 := by unfold rowD; rw [hN]; rfl
    rw [hN] at hn
    obtain ⟨hw, hh, hcc, hd⟩ := (numsB_iff s).1 hN
    obtain ⟨b1, b2, b3⟩ := row_bound s.w s.c s.d hw hcc hd
    have m4 : (s.w * s.c * s.d).tdiv 8 = s.w * s.c * s.d / 8 := Int.tdiv_eq_ediv_of_nonneg (by omega)
    have HM : Hid (wrap64 ((wrap64 (wrap64 (s.w * s.c) * s.d)).tdiv 8) = s.w * s.c * s.d / 8) := by
      show _ = _
      rw [w64 (s.w * s.c) (by omega), w64 (s.w * s.c * s.d) (by omega), m4, w64 _ (by omega)]
    rw [e1]
    clear hN e1 hw hh hcc hd b1 b2 b3 m4
    go_enter Tryz.func82, Tryz.ntmps82
    go_wp2_with fail
    refine (hn _).mono ?_
    rintro e w1 ⟨rfl, c1⟩
    obtain ⟨x0, x1, x2, x3⟩ := Blk4 (hb.chg0 c1)
    go_wp2_with fail
    go_ret
    exact ⟨ri HM.out, hc.nil c1⟩
set_option maxHeartbeats 2000000 in
theorem size_any (s : ShpD) (w : World) : Calls Tryz.prog 55 #[shpV s] w fun e w' => e = .returned (.int .i64 (sizeD s)) ∧ Chg [] w w' := by
  obtain ⟨K, hK⟩ : ∃ K, w.heap.size = K := ⟨_, rfl⟩
  have hb := shp_blk s w hK
  have hc : Chg [] w (w.alloc (.cells #[.int .i64 s.w, .int .i64 s.h, .int .i64 s.c, .int .i64 s.d] 23)) := (Chg.refl [] w).alloc _
  have hn := fun w' => numbers_any s w'
  have hr := fun w' => row_any s w'
  unfold shpV at *
  cases hN : numsB s with
  | false =>
    have e1 : sizeD s = 0 := by unfold sizeD; rw [hN]; rfl
    rw [e1]
    rw [hN] at hn
    clear hN e1 hr
    go_enter Tryz.func55, Tryz.ntmps55
    go_wp2_with fail
    refine (hn _).mono ?_
    rintro e w1 ⟨rfl, c1⟩
    go_wp2_with fail
    go_ret
    exact ⟨rfl, hc.nil c1⟩
  | true =>
    have e1 : sizeD s = rowD s * s.h := by unfold sizeD; rw [hN]; rfl
    rw [hN] at hn
    obtain ⟨hb1, hb2⟩ := row_size_bound s hN
    rw [e1] at hb2 ⊢
    have m1 : Hid (wrap64 (rowD s * s.h) = rowD s * s.h) := w64 (rowD s * s.h) (by omega)
    generalize rowD s = r at *
    clear hN e1 hb1 hb2
    go_enter Tryz.func55, Tryz.ntmps55
    go_wp2_with fail
    refine (hn _).mono ?_
    rintro e w1 ⟨rfl, c1⟩
    obtain ⟨x0, x1, x2, x3⟩ := Blk4 (hb.chg0 c1)
    obtain ⟨X, hne, F, x, hF0, hF, hX⟩ := fam0 w1
    have z0 := fun x => (hF x).cell_some x0 (by simp)
    have z1 := fun x => (hF x).cell_some x1 (by simp)
    have z2 := fun x => (hF x).cell_some x2 (by simp)
    have z3 := fun x => (hF x).cell_some x3 (by simp)
    have hc1 := hc.nil c1
    clear hb hc c1 x0 x1 x2 x3 hn
    go_wp2_with fail
    refine wp_fam F (by kernel_rfl) (by kernel_rfl) x hF0 ?_
    repeat (go_big_quiet_step (exact fam_call hF hX (hr _)))
    refine wpQuiet_nil ?_
    rintro w' ⟨x1, rfl⟩
    go_wp2_with fail
    go_ret
    exact ⟨ri m1.out, hc1.nil (hF x1)⟩
set_option maxHeartbeats 2000000 in
theorem maySh_any (s : ShpD) (w : World) : Calls Tryz.prog 54 #[shpV s] w fun e w' => e = .returned (.bool (maySh s)) ∧ Chg [] w w' := by
  obtain ⟨K, hK⟩ : ∃ K, w.heap.size = K := ⟨_, rfl⟩
  have hb := shp_blk s w hK
  have hc : Chg [] w (w.alloc (.cells #[.int .i64 s.w, .int .i64 s.h, .int .i64 s.c, .int .i64 s.d] 23)) := (Chg.refl [] w).alloc _
  have hn := fun w' => numbers_any s w'
  have hr := fun w' => size_any s w'
  have e1 : maySh s = (numsB s && decide (sizeD s ≤ 16384)) := rfl
  rw [e1]
  unfold shpV at *
  generalize sizeD s = z at *
  clear e1
  cases hN : numsB s with
  | false =>
    rw [hN] at hn
    clear hN hr
    go_enter Tryz.func54, Tryz.ntmps54
    go_wp2_with fail
    refine (hn _).mono ?_
    rintro e w1 ⟨rfl, c1⟩
    go_wp2_with fail
    go_ret
    exact ⟨rfl, hc.nil c1⟩
  | true =>
    rw [hN] at hn
    clear hN
    go_enter Tryz.func54, Tryz.ntmps54
    go_wp2_with fail
    refine (hn _).mono ?_
    rintro e w1 ⟨rfl, c1⟩
    obtain ⟨x0, x1, x2, x3⟩ := Blk4 (hb.chg0 c1)
    go_wp2_with fail
    refine (hr _).mono ?_
    rintro e w2 ⟨rfl, c2⟩
    go_wp2_with fail
    go_ret
    exact ⟨rfl, (hc.nil c1).nil c2⟩
def rasL (s : ShpD) (pv : Value) : Array Value := #[.int .i64 s.w, .int .i64 s.h, .int .i64 s.c, .int .i64 s.d, pv]
def rasV (s : ShpD) (pv : Value) : Value := .agg #[.int .i64 s.w, .int .i64 s.h, .int .i64 s.c, .int .i64 s.d, pv]
theorem Blk5 {w : World} {p : Nat} {a b c d f : Value} {e : TypeId} (h : Blk w p #[a, b, c, d, f] e) :
    (w.cell? ⟨p, 0, none⟩ = some a ∧ w.cell? ⟨p, 1, none⟩ = some b ∧ w.cell? ⟨p, 2, none⟩ = some c ∧ w.cell? ⟨p, 3, none⟩ = some d ∧ w.cell? ⟨p, 4, none⟩ = some f) := ⟨h.cell 0, h.cell 1, h.cell 2, h.cell 3, h.cell 4⟩
set_option maxHeartbeats 2000000 in
theorem mayPix_any (s : ShpD) (ao : Option Addr) (n cap : Nat) (hn64 : n ≤ 9223372036854775807) (w : World) : Calls Tryz.prog 69 #[rasV s (.slice ao n cap)] w fun e w' => e = .returned (.bool (mayPix s n)) ∧ Chg [] w w' := by
  obtain ⟨K, hK⟩ : ∃ K, w.heap.size = K := ⟨_, rfl⟩
  have hb : Blk (w.alloc (.cells #[.int .i64 s.w, .int .i64 s.h, .int .i64 s.c, .int .i64 s.d, .slice ao n cap] 26)) K #[.int .i64 s.w, .int .i64 s.h, .int .i64 s.c, .int .i64 s.d, .slice ao n cap] 26 := Blk.new_at w _ _ hK
  have hc : Chg [] w (w.alloc (.cells #[.int .i64 s.w, .int .i64 s.h, .int .i64 s.c, .int .i64 s.d, .slice ao n cap] 26)) := (Chg.refl [] w).alloc _
  have hm := fun w' => maySh_any s w'
  have hr := fun w' => size_any s w'
  have e1 : mayPix s n = (maySh s && ((n : Int) == sizeD s)) := rfl
  rw [e1]
  unfold shpV at *
  unfold rasV
  generalize sizeD s = z at *
  clear e1
  cases hM : maySh s with
  | false =>
    rw [hM] at hm
    clear hM hr
    go_enter Tryz.func69, Tryz.ntmps69
    go_upto_region 1 with (fail)
    generalize w.alloc (.cells #[.int .i64 s.w, .int .i64 s.h, .int .i64 s.c, .int .i64 s.d, .slice ao n cap] 26) = wb at *
    obtain ⟨x0, x1, x2, x3, x4⟩ := Blk5 hb
    obtain ⟨X, hne, F, x, hF0, hF, hX⟩ := fam0 wb
    have z0 := fun x => (hF x).cell_some x0 (by simp)
    have z1 := fun x => (hF x).cell_some x1 (by simp)
    have z2 := fun x => (hF x).cell_some x2 (by simp)
    have z3 := fun x => (hF x).cell_some x3 (by simp)
    have z4 := fun x => (hF x).cell_some x4 (by simp)
    clear hb x0 x1 x2 x3 x4
    refine wp_fam F (by kernel_rfl) (by kernel_rfl) x hF0 ?_
    repeat (go_big_quiet_step (exact fam_call hF hX (hm _)))
    refine wpQuiet_nil ?_
    rintro w' ⟨x1, rfl⟩
    go_wp2_with fail
    go_ret
    exact ⟨rfl, hc.nil (hF x1)⟩
  | true =>
    rw [hM] at hm
    clear hM
    go_enter Tryz.func69, Tryz.ntmps69
    go_upto_region 1 with (fail)
    generalize w.alloc (.cells #[.int .i64 s.w, .int .i64 s.h, .int .i64 s.c, .int .i64 s.d, .slice ao n cap] 26) = wb at *
    obtain ⟨x0, x1, x2, x3, x4⟩ := Blk5 hb
    obtain ⟨X, hne, F, x, hF0, hF, hX⟩ := fam0 wb
    have z0 := fun x => (hF x).cell_some x0 (by simp)
    have z1 := fun x => (hF x).cell_some x1 (by simp)
    have z2 := fun x => (hF x).cell_some x2 (by simp)
    have z3 := fun x => (hF x).cell_some x3 (by simp)
    have z4 := fun x => (hF x).cell_some x4 (by simp)
    clear hb x0 x1 x2 x3 x4
    refine wp_fam F (by kernel_rfl) (by kernel_rfl) x hF0 ?_
    repeat (go_big_quiet_step (first | exact fam_call hF hX (hm _) | exact fam_call hF hX (hr _)))
    refine wpQuiet_nil ?_
    rintro w' ⟨x1, rfl⟩
    go_wp2_with fail
    go_ret
    exact ⟨rfl, hc.nil (hF x1)⟩
end Go.Proofs.YtfammoidikdbpaaGreatDoor
