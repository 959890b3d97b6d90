/- Contracts of script.back and aquref24.later. No statement of the seat is proved here. -/
import Derived.Test.YtfammoidikdbpaaGreatDoorFront
set_option linter.unusedVariables false
namespace Go.Aq
open Go.RowKit
theorem actR_mask {w w2 w5 : World} {K m : Nat} {mv : Value} {a : ActD} (hK : w.heap.size = K) (hsee : Sees w2 1 mv m (Bs a.mask)) (hnew : ∀ k ∈ eyes mv, K < k) (hc1 : Chg [] w w2) (hc5 : Chg [K] w2 w5) (hp : a.pix = []) (hl : a.mask.length = m) :
    ActR w w5 a (.slice none 0 0) mv ∧ Chg [] w w5 := by
  subst hl
  refine ⟨⟨?_, hsee.chg hc5 fun k hk => ?_, by simp [eyes], fun k hk => ?_⟩, hc1.trans hc5 fun k hk => ?_⟩
  · rw [hp]; exact Sees.nil _ _
  · have := hnew k hk; simp; omega
  · have := hnew k hk; omega
  · simp at hk; right; omega
end Go.Aq
namespace Go.Proofs.YtfammoidikdbpaaGreatDoor
open Go.RowKit Go.Aq Go.Aq.Wd
theorem ract_ty : ArrTy Tryz.prog 35 13 := ⟨⟨_, Tryz.underlying35, rfl⟩, by kernel_rfl⟩
end Go.Proofs.YtfammoidikdbpaaGreatDoor
