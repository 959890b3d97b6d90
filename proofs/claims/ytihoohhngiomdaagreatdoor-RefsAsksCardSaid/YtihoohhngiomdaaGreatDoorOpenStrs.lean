/- How a list of texts that was read is opened. No statement of the seat is proved here. -/
import Derived.Test.YtihoohhngiomdaaGreatDoorOpenS
import Derived.Test.YtihoohhngiomdaaGreatDoorWordAll
set_option linter.unusedVariables false
namespace Go.Proofs.YtihoohhngiomdaaGreatDoor
open Go.RowKit Go.Aq Go.Aq.Wd
instance : Inhabited { l : List UInt8 // l.length ≤ 9223372036854775807 } := ⟨⟨[], by simp⟩⟩
section
open Go.ChangeShapes Go.WideShapes Go.ChangeAt
set_option maxRecDepth 100000 in
theorem open_strs {H : Type} {enc : TypeId × Value → H} {W : World} {base : Nat} {v : Value} {d : DataW H} {ps : List MemPlace}
    (hv : Value.okWide Tryz.prog W .any base 74 v) (h : DataW.Trod enc Tryz.prog W 0 (fun _ => true) true 74 v d ps) :
    ∃ xs : List (List UInt8), Sees W 1 v xs.length (Ss xs) ∧ xs.length ≤ 9223372036854775807 ∧ ∀ x ∈ xs, x.length ≤ 9223372036854775807 := by
  obtain ⟨xs, h1, h2⟩ := open_list (α := { l : List UInt8 // l.length ≤ 9223372036854775807 }) (fun a => [Value.string (str a.1)]) 1 Tryz.underlying74 (by kernel_rfl) (fun _ => rfl) (by decide) (by
    intro n cs y hlen ht
    obtain ⟨s, rfl, _, hs⟩ := DataW.trod_string Tryz.underlying9 ht
    exact ⟨⟨s.data.toList, by simp only [maxLen, ByteArray.size] at hs; rw [Array.length_toList]; omega⟩, rfl⟩) hv h
  refine ⟨xs.map (·.1), ?_, by simpa using h2, ?_⟩
  · have e : Ss (xs.map (·.1)) = xs.flatMap fun a => [Value.string (str a.1)] := by
      clear h1 h2
      unfold Ss
      rw [List.map_map, List.flatMap_def]
      induction xs with
      | nil => rfl
      | cons a t ih => rw [List.map_cons, List.map_cons, List.flatten_cons, ih]; rfl
    rw [e]; simpa using h1
  · intro x hx
    obtain ⟨a, -, rfl⟩ := List.mem_map.1 hx
    exact a.2
end
end Go.Proofs.YtihoohhngiomdaaGreatDoor
