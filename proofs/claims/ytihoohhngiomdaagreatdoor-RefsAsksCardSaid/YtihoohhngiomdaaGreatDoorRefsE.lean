/- The walk of the law RefsOrder. No statement of the seat is proved here. -/
import Derived.Test.YtihoohhngiomdaaGreatDoorRefsD
import Derived.Deep.DeepCutAuto
set_option linter.unusedVariables false
namespace Go.Aq
open Go.RowKit Go.Aq.Wd
theorem Sees.rows {W : World} {k : Nat} {cs : Array Value} {e : TypeId} {m s : Nat} (h : Blk W k cs e) (hm : cs.size = m * s) : Sees W s (.slice (some ⟨k, 0, none⟩) m m) m cs.toList := by
  refine ⟨by simpa using hm, _, _, rfl, Nat.le_refl _, by simp, fun ad had j u hu => ?_⟩
  cases had
  rw [Addr.add_lit, Nat.zero_add, h.cell]
  simpa using hu
theorem cmpR_range (a b : RefD) : cmpR a b = -1 ∨ cmpR a b = 0 ∨ cmpR a b = 1 := by
  unfold cmpR; split
  · exact cmpB_range _ _
  · split
    · right; right; rfl
    · left; rfl
theorem cmpR_anti (a b : RefD) : cmpR b a = - cmpR a b := by
  obtain ⟨ta, na, ka⟩ := a
  obtain ⟨tb, nb, kb⟩ := b
  unfold cmpR
  simp only
  cases ta <;> cases tb <;> simp
  · exact cmpB_anti nb na
  · exact cmpB_anti nb na
theorem cmpR_self (a : RefD) : cmpR a a = 0 := by unfold cmpR; rw [if_pos rfl]; exact cmpB_self _
theorem cmpR_zero (a b : RefD) : cmpR a b = 0 ↔ a.tag = b.tag ∧ a.name = b.name := by
  unfold cmpR
  split
  · rename_i h; rw [cmpB_zero]; simp [h]
  · rename_i h
    split
    · simp [h]
    · simp [h]
theorem cmpR_trans (a b c : RefD) (h1 : cmpR a b ≤ 0) (h2 : cmpR b c ≤ 0) : cmpR a c ≤ 0 := by
  obtain ⟨ta, na, ka⟩ := a
  obtain ⟨tb, nb, kb⟩ := b
  obtain ⟨tc, nc, kc⟩ := c
  unfold cmpR at *
  simp only at *
  cases ta <;> cases tb <;> cases tc <;> simp at * <;> try omega
  · exact cmpB_trans _ _ _ h1 h2
  · exact cmpB_trans _ _ _ h1 h2
theorem cmpR_trans' (a b c : RefD) (h1 : 0 ≤ cmpR a b) (h2 : 0 ≤ cmpR b c) : 0 ≤ cmpR a c := by
  have e1 := cmpR_anti a b
  have e2 := cmpR_anti b c
  have e3 := cmpR_anti a c
  have := cmpR_trans c b a (by omega) (by omega)
  omega
theorem cmpR_tag (a b : RefD) (h1 : a.tag = true) (h2 : b.tag = false) : cmpR a b = 1 := by
  unfold cmpR; rw [h1, h2]; rfl
/-- The seven ways in which three comparisons can fall, as far as they are asked for. -/
theorem cmp_ways {x y z : Int} (hx : x = -1 ∨ x = 0 ∨ x = 1) (h1 : x ≤ 0 → y ≤ 0 → z ≤ 0) (h2 : 0 ≤ x → 0 ≤ y → 0 ≤ z) :
    (x = -1 ∧ decide (y ≤ 0) = true ∧ decide (0 < z) = false) ∨ (x = -1 ∧ decide (y ≤ 0) = false) ∨
    (x = 0 ∧ decide (y ≤ 0) = true ∧ decide (0 < z) = false ∧ decide (0 ≤ y) = false) ∨ (x = 0 ∧ decide (y ≤ 0) = true ∧ decide (0 < z) = false ∧ decide (0 ≤ y) = true ∧ decide (z < 0) = false) ∨ (x = 0 ∧ decide (y ≤ 0) = false ∧ decide (0 ≤ y) = true ∧ decide (z < 0) = false) ∨
    (x = 1 ∧ decide (0 ≤ y) = true ∧ decide (z < 0) = false) ∨ (x = 1 ∧ decide (0 ≤ y) = false) := by
  simp only [decide_eq_true_eq, decide_eq_false_iff_not]
  omega
end Go.Aq
namespace Go.Proofs.YtihoohhngiomdaaGreatDoor
open Go.RowKit Go.Aq Go.Aq.Wd
def okRef (r : RefD) : Prop := r.name.length ≤ 9223372036854775807 ∧ r.key.length ≤ 9223372036854775807
end Go.Proofs.YtihoohhngiomdaaGreatDoor
