/- Contract of lz.wrong. No statement of the seat is proved here. -/
import Derived.Test.YtoacegccpajkoaaLz2
import Derived.Test.YtoacegccpajkoaaExpPlain
namespace Go.Aq
/-- The cases of a token, in the order of the tests. -/
theorem wrong_cases (a d c : Int) : (a = 0 ∧ (d ≠ 0 ∧ wrongT ⟨a, d, c⟩ = true ∨ d = 0 ∧ (c < 0 ∧ wrongT ⟨a, d, c⟩ = true ∨ 0 ≤ c ∧ (255 < c ∧ wrongT ⟨a, d, c⟩ = true ∨ c ≤ 255 ∧ wrongT ⟨a, d, c⟩ = false)))) ∨
    (a ≠ 0 ∧ (a < 3 ∧ wrongT ⟨a, d, c⟩ = true ∨ 3 ≤ a ∧ (258 < a ∧ wrongT ⟨a, d, c⟩ = true ∨ a ≤ 258 ∧ (d < 1 ∧ wrongT ⟨a, d, c⟩ = true ∨ 1 ≤ d ∧ (32768 < d ∧ wrongT ⟨a, d, c⟩ = true ∨ d ≤ 32768 ∧ (c ≠ 0 ∧ wrongT ⟨a, d, c⟩ = true ∨ c = 0 ∧ wrongT ⟨a, d, c⟩ = false)))))) := by
  unfold wrongT
  by_cases h : a = 0
  · left
    simp only [h, if_true, true_and, decide_eq_true_eq, decide_eq_false_iff_not]
    omega
  · right
    simp only [h, if_false, decide_eq_true_eq, decide_eq_false_iff_not]
    omega
end Go.Aq
namespace Go.Proofs.Ytoacegccpajkoaa
open Go.RowKit Go.Aq Go.Maps

set_option maxHeartbeats 2000000 in
theorem wrong_any (w : World) (a d c : Int) :
    Calls Try.prog 50 #[.agg #[.int .i64 a, .int .i64 d, .int .i64 c]] w fun e w' => e = .returned (.bool (wrongT ⟨a, d, c⟩)) ∧ Chg [] w w' := by
  have done : ∀ W, W = w.alloc (.cells #[.int .i64 a, .int .i64 d, .int .i64 c] 61) → Chg [] w W := fun W h => by rw [h]; exact (Chg.refl _ _).alloc _
  rcases wrong_cases a d c with ⟨rfl, ⟨h1, hw⟩ | ⟨rfl, ⟨h2, hw⟩ | ⟨h2, ⟨h3, hw⟩ | ⟨h3, hw⟩⟩⟩⟩ | ⟨h0, ⟨h1, hw⟩ | ⟨h1, ⟨h2, hw⟩ | ⟨h2, ⟨h3, hw⟩ | ⟨h3, ⟨h4, hw⟩ | ⟨h4, ⟨h5, hw⟩ | ⟨rfl, hw⟩⟩⟩⟩⟩⟩
  all_goals
    rw [hw]
    clear hw
    go_enter Try.func50, Try.ntmps50
    go_wp2_with fail
    go_ret
    refine ⟨?_, done _ rfl⟩
    first | rfl | (simp; done) | (simp; omega)
end Go.Proofs.Ytoacegccpajkoaa
