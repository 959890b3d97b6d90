/- How a list of numbers and a list of bytes' lists that came in are opened. No statement of the seat is proved here. -/
import Derived.Test.YtgcmgcffndbpoaaGreatDoorFsOpen
set_option linter.unusedVariables false
namespace Go.Proofs.YtgcmgcffndbpoaaGreatDoor
open Go.RowKit Go.Aq Go.Aq.Fy
open Go.ChangeShapes Go.WideShapes Go.ChangeAt
section
variable {H : Type} {enc : TypeId × Value → H} {W : World} {base : Nat} {v : Value} {d : DataW H} {ps : List MemPlace}
def IntsC (W : World) (v : Value) (zs : List Int) : Prop := Sees W 1 v zs.length (zs.map fun z => Value.int .i64 z) ∧ ∀ z ∈ zs, z ≤ 9223372036854775807
set_option maxRecDepth 100000 in
theorem open_nums (hv : Value.okWide Tryz.prog W .any base 40 v) (h : DataW.Trod enc Tryz.prog W 0 (fun _ => true) true 40 v d ps) : ∃ zs, IntsC W v zs := by
  obtain ⟨ao, len, cap, rfl⟩ := okWide_slice Tryz.underlying40 hv
  obtain ⟨fuel, hf⟩ := h
  obtain ⟨zs, h1, -, h3⟩ := ints_of_trod (c := .slice ao len cap) rfl Tryz.underlying40 Tryz.underlying3 (by kernel_rfl) hf
  exact ⟨zs, h1, fun z hz => (h3 z hz).2⟩
set_option maxRecDepth 100000 in
theorem open_rows (hv : Value.okWide Tryz.prog W .any base 31 v) (h : DataW.Trod enc Tryz.prog W 0 (fun _ => true) true 31 v d ps) : ∃ L, RowsV W [] v L := by
  obtain ⟨ao, len, cap, rfl⟩ := okWide_slice Tryz.underlying31 hv
  obtain ⟨fuel, hf⟩ := h
  obtain ⟨xs, h1, -, h3⟩ := open_list_r (fun (a : Value × List UInt8) => [a.1]) 1 (fun a => Sees W 1 a.1 a.2.length (Bs a.2)) Tryz.underlying31 (by kernel_rfl) (fun _ => rfl) (by decide) (fun n cs y hlen ht => by
    match cs, hlen with
    | [c], _ =>
      obtain ⟨l, h1, -⟩ := bytes_of_trod (c := c) rfl Tryz.underlying38 Tryz.underlying5 (by kernel_rfl) ht
      exact ⟨(c, l), rfl, h1⟩) hf
  refine ⟨xs.map (·.2), xs.flatMap fun a => [a.1], by rw [List.length_map]; exact h1, fun i b hi => ?_, fun _ _ hh => by cases hh⟩
  rw [List.getElem?_map] at hi
  obtain ⟨x, hx, rfl⟩ := Option.map_eq_some_iff.1 hi
  refine ⟨x.1, ?_, h3 x (List.mem_of_getElem? hx), fun _ _ hh => by cases hh⟩
  have e : (xs.flatMap fun a => [a.1]) = xs.map (·.1) := by rw [List.map_eq_flatMap]
  rw [e, List.getElem?_map, hx]
  rfl
end
end Go.Proofs.YtgcmgcffndbpoaaGreatDoor
