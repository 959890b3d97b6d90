/- Contract of aquref1.letter. No statement of the seat is proved here. -/
import Derived.Test.YtfammoidikdbpaaGreatDoorWordK
set_option linter.unusedVariables false
namespace Go.Proofs.YtfammoidikdbpaaGreatDoor
open Go.RowKit Go.Aq Go.Aq.Wd
theorem letter_iff (c : Nat) : letter c = true ↔ (((97 ≤ c ∧ c ≤ 122) ∨ (65 ≤ c ∧ c ≤ 90) ∨ (48 ≤ c ∧ c ≤ 57) ∨ c = 45 ∨ c = 95 ∨ c = 46 ∨ c = 47 ∨ (192 ≤ c ∧ c ≤ 591 ∧ c ≠ 215 ∧ c ≠ 247) ∨ (880 ≤ c ∧ c ≤ 1279) ∨ (19968 ≤ c ∧ c ≤ 40959))) := by
  simp only [letter, Bool.or_eq_true, Bool.and_eq_true, decide_eq_true_eq, beq_iff_eq, bne_iff_ne, ne_eq]; omega
theorem letter_yes (c : Nat) (h : (((97 ≤ c ∧ c ≤ 122) ∨ (65 ≤ c ∧ c ≤ 90) ∨ (48 ≤ c ∧ c ≤ 57) ∨ c = 45 ∨ c = 95 ∨ c = 46 ∨ c = 47 ∨ (192 ≤ c ∧ c ≤ 591 ∧ c ≠ 215 ∧ c ≠ 247) ∨ (880 ≤ c ∧ c ≤ 1279) ∨ (19968 ≤ c ∧ c ≤ 40959)))) : true = letter c := ((letter_iff c).2 h).symm
theorem letter_no (c : Nat) (h : ¬ (((97 ≤ c ∧ c ≤ 122) ∨ (65 ≤ c ∧ c ≤ 90) ∨ (48 ≤ c ∧ c ≤ 57) ∨ c = 45 ∨ c = 95 ∨ c = 46 ∨ c = 47 ∨ (192 ≤ c ∧ c ≤ 591 ∧ c ≠ 215 ∧ c ≠ 247) ∨ (880 ≤ c ∧ c ≤ 1279) ∨ (19968 ≤ c ∧ c ≤ 40959)))) : false = letter c := (Bool.eq_false_iff.2 fun h2 => h ((letter_iff c).1 h2)).symm
end Go.Proofs.YtfammoidikdbpaaGreatDoor
