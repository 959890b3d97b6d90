/- Contracts of aquref9.sides, Row, Size and aquref24.Pic. No statement of the seat is proved here. -/
import Derived.Test.YtfammoidikdbpaaGreatDoorPic
import Derived.Test.YtfammoidikdbpaaGreatDoorBld2
set_option linter.unusedVariables false
namespace Go.Proofs.YtfammoidikdbpaaGreatDoor
open Go.RowKit Go.Aq Go.Aq.Wd
set_option maxHeartbeats 2000000 in
theorem rnumbers_any (s : ShpD) (w : World) : Calls Tryz.prog 86 #[shpV s] w fun e w' => e = .returned (.bool (numsB s)) ∧ Chg [] w w' := by
  obtain ⟨a, b, c, d⟩ := s
  unfold shpV
  have hc : ∀ o, Chg [] w (w.alloc o) := fun o => (Chg.refl [] w).alloc _
  have HC := Lib.hid hc
  clear hc
  simp only
  go_enter Tryz.func86, Tryz.ntmps86
  go_wp2_with fail
  all_goals go_ret
  all_goals refine ⟨rb ?_, HC.out _⟩
  all_goals (try simp only [beq_iff_eq, beq_eq_false_iff_ne, ne_eq] at *)
  all_goals (rw [Bool.eq_iff_iff, numsB_iff]; simp only [Bool.or_eq_true, beq_iff_eq, Bool.false_eq_true, true_iff, false_iff]; omega)
set_option maxHeartbeats 2000000 in
theorem rrow_any (s : ShpD) (w : World) : Calls Tryz.prog 87 #[shpV s] w fun e w' => e = .returned (.int .i64 (rowD s)) ∧ Chg [] w w' := by
  obtain ⟨K, hK⟩ : ∃ K, w.heap.size = K := ⟨_, rfl⟩
  have hb := shp_blk s w hK
  have hc : Chg [] w (w.alloc (.cells #[.int .i64 s.w, .int .i64 s.h, .int .i64 s.c, .int .i64 s.d] 23)) := (Chg.refl [] w).alloc _
  have hn := fun w' => rnumbers_any s w'
  unfold shpV at *
  cases hN : numsB s with
  | false =>
    have e1 : rowD s = 0 := by unfold rowD; rw [hN]; rfl
    rw [e1]
    rw [hN] at hn
    clear hN e1
    go_enter Tryz.func87, Tryz.ntmps87
    go_wp2_with fail
    refine (hn _).mono ?_
    rintro e w1 ⟨rfl, c1⟩
    go_wp2_with fail
    go_ret
    exact ⟨rfl, hc.nil c1⟩
  | true =>
    have e1 : rowD s = s.w * s.c * s.d / 8 := by unfold rowD; rw [hN]; rfl
    rw [hN] at hn
    obtain ⟨hw, hh, hcc, hd⟩ := (numsB_iff s).1 hN
    obtain ⟨b1, b2, b3⟩ := row_bound s.w s.c s.d hw hcc hd
    have m4 : (s.w * s.c * s.d).tdiv 8 = s.w * s.c * s.d / 8 := Int.tdiv_eq_ediv_of_nonneg (by omega)
    have HM : Hid (wrap64 ((wrap64 (wrap64 (s.w * s.c) * s.d)).tdiv 8) = s.w * s.c * s.d / 8) := by
      show _ = _
      rw [w64 (s.w * s.c) (by omega), w64 (s.w * s.c * s.d) (by omega), m4, w64 _ (by omega)]
    rw [e1]
    clear hN e1 hw hh hcc hd b1 b2 b3 m4
    go_enter Tryz.func87, Tryz.ntmps87
    go_wp2_with fail
    refine (hn _).mono ?_
    rintro e w1 ⟨rfl, c1⟩
    obtain ⟨x0, x1, x2, x3⟩ := Blk4 (hb.chg0 c1)
    go_wp2_with fail
    go_ret
    exact ⟨ri HM.out, hc.nil c1⟩
set_option maxHeartbeats 2000000 in
theorem rsize_any (s : ShpD) (w : World) : Calls Tryz.prog 62 #[shpV s] w fun e w' => e = .returned (.int .i64 (sizeD s)) ∧ Chg [] w w' := by
  obtain ⟨K, hK⟩ : ∃ K, w.heap.size = K := ⟨_, rfl⟩
  have hb := shp_blk s w hK
  have hc : Chg [] w (w.alloc (.cells #[.int .i64 s.w, .int .i64 s.h, .int .i64 s.c, .int .i64 s.d] 23)) := (Chg.refl [] w).alloc _
  have hr := fun w' => rrow_any s w'
  unfold shpV at *
  obtain ⟨q, hq⟩ : ∃ q : Int, min (max s.h 0) 256 = q := ⟨_, rfl⟩
  have hqb : 0 ≤ q ∧ q ≤ 256 := by omega
  have HM : Hid (wrap64 (rowD s * q) = sizeD s) := by
    show _ = _
    cases hN : numsB s with
    | false =>
      have e1 : sizeD s = 0 := by unfold sizeD; rw [hN]; rfl
      have e2 : rowD s = 0 := by unfold rowD; rw [hN]; rfl
      rw [e1, e2, Int.zero_mul]; exact w64 0 (by omega)
    | true =>
      have e1 : sizeD s = rowD s * s.h := by unfold sizeD; rw [hN]; rfl
      obtain ⟨hb1, hb2⟩ := row_size_bound s hN
      obtain ⟨-, hh, -, -⟩ := (numsB_iff s).1 hN
      have : q = s.h := by omega
      rw [this, ← e1]
      exact w64 _ (by omega)
  have hrb : 0 ≤ rowD s ∧ rowD s ≤ 2048 := by
    cases hN : numsB s with
    | false =>
      have e2 : rowD s = 0 := by unfold rowD; rw [hN]; rfl
      omega
    | true => have := (row_size_bound s hN).1; omega
  generalize sizeD s = z at *
  generalize rowD s = r at *
  clear hrb
  go_enter Tryz.func62, Tryz.ntmps62
  go_upto_region 1 with (fail)
  generalize w.alloc (.cells #[.int .i64 s.w, .int .i64 s.h, .int .i64 s.c, .int .i64 s.d] 23) = wb at *
  obtain ⟨x0, x1, x2, x3⟩ := Blk4 hb
  obtain ⟨X, hne, F, x, hF0, hF, hX⟩ := fam0 wb
  have z0 := fun x => (hF x).cell_some x0 (by simp)
  have z1 := fun x => (hF x).cell_some x1 (by simp)
  have z2 := fun x => (hF x).cell_some x2 (by simp)
  have z3 := fun x => (hF x).cell_some x3 (by simp)
  clear hb x0 x1 x2 x3
  refine wp_fam F (by kernel_rfl) (by kernel_rfl) x hF0 ?_
  repeat (go_big_quiet_step (exact fam_call hF hX (hr _)))
  refine wpQuiet_nil ?_
  rintro w' ⟨x1, rfl⟩
  go_wp2_with fail
  go_ret
  exact ⟨ri HM.out, hc.nil (hF x1)⟩
end Go.Proofs.YtfammoidikdbpaaGreatDoor
