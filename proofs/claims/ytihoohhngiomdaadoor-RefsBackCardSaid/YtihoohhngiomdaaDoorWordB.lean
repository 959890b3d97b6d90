/- Contracts of package word: Clip, Text, Name. No statement of the seat is proved here. -/
import Derived.Test.YtihoohhngiomdaaDoorWordA
set_option linter.unusedVariables false
namespace Go.Aq.Wd
/-- A place in a good text: behind its first j signs. -/
theorem place_take (rs : List Nat) (j : Nat) : (encL rs).take (encL (rs.take j)).length = encL (rs.take j) := by
  conv => lhs; arg 2; rw [← List.take_append_drop j rs, encL_append]
  exact List.take_left
theorem place_drop (rs : List Nat) (j : Nat) : (encL rs).drop (encL (rs.take j)).length = encL (rs.drop j) := by
  conv => lhs; arg 2; rw [← List.take_append_drop j rs, encL_append]
  exact List.drop_left
theorem place_lt (rs : List Nat) (j : Nat) (hj : j ≤ rs.length) : (encL (rs.take j)).length < (encL rs).length ↔ j < rs.length := by
  have h : (encL rs).length = (encL (rs.take j)).length + (encL (rs.drop j)).length := by rw [← List.length_append, ← encL_append, List.take_append_drop]
  constructor
  · intro hl
    by_cases h2 : j < rs.length
    · exact h2
    · have e0 : (encL ([] : List Nat)).length = 0 := rfl
      rw [List.drop_eq_nil_of_le (by omega), e0] at h; omega
  · intro hl
    rw [List.drop_eq_getElem_cons hl, encL_cons, List.length_append] at h
    have := enc1_len rs[j]
    omega
theorem place_step (rs : List Nat) (ok : ∀ c ∈ rs, okR c) (j : Nat) (hj : j < rs.length) :
    dec ((encL rs).drop (encL (rs.take j)).length) = (rs[j], (enc1 rs[j]).length) ∧ (encL (rs.take (j + 1))).length = (encL (rs.take j)).length + (enc1 rs[j]).length := by
  refine ⟨?_, ?_⟩
  · rw [place_drop, List.drop_eq_getElem_cons hj, encL_cons]
    exact dec_enc _ (ok _ (List.getElem_mem hj)) _
  · rw [List.take_succ_eq_append_getElem hj, encL_append, List.length_append]
    simp [encL]
theorem place_all (rs : List Nat) (j : Nat) (hj : rs.length ≤ j) : encL (rs.take j) = encL rs := by rw [List.take_of_length_le hj]
theorem okR_le {c : Nat} (h : okR c) : c ≤ 2000000 := by unfold okR at h; omega
end Go.Aq.Wd
namespace Go.Proofs.YtihoohhngiomdaaDoor
open Go.RowKit Go.Aq Go.Aq.Wd
end Go.Proofs.YtihoohhngiomdaaDoor
