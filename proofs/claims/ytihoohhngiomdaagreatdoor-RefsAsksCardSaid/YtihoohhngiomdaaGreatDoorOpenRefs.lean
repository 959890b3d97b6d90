/- How a ref and a list of refs that were read are opened. No statement of the seat is proved here. -/
import Derived.Test.YtihoohhngiomdaaGreatDoorOpenStrs
import Derived.Test.YtihoohhngiomdaaGreatDoorRefsE
set_option linter.unusedVariables false
namespace Go.Proofs.YtihoohhngiomdaaGreatDoor
open Go.RowKit Go.Aq Go.Aq.Wd
instance : Inhabited { r : RefD // okRef r } := ⟨⟨⟨false, [], []⟩, by simp [okRef]⟩⟩
section
open Go.ChangeShapes Go.WideShapes Go.ChangeAt
variable {H : Type} {enc : TypeId × Value → H} {W : World} {base : Nat} {v : Value} {d : DataW H} {ps : List MemPlace}
set_option maxRecDepth 100000 in
theorem ref_cells {n : Nat} {cs : List Value} {y : DataW H × List MemPlace} (hlen : cs.length = 3) (ht : DataW.trod enc Tryz.prog W 0 (fun _ => true) true n 24 cs = some y) : ∃ a : { r : RefD // okRef r }, rfCells a.1 = cs := by
  obtain ⟨xs, n', _, _, _, hxl, hf⟩ := DataW.trod_struct Tryz.underlying24 ht
  match cs, hlen with
  | [c0, c1, c2], _ =>
    have f0 := hf 0 _ rfl
    have f1 := hf 1 _ rfl
    have f2 := hf 2 _ rfl
    rw [List.getElem?_eq_getElem (by rw [hxl]; decide)] at f0 f1 f2
    have k1 : Tryz.prog.cellsOf 9 = 1 := by kernel_rfl
    have k2 : Tryz.prog.cellsOf 4 = 1 := by kernel_rfl
    obtain ⟨a, e0, _⟩ := DataW.trod_bool Tryz.underlying4 f0
    obtain ⟨b, e1, _, hb⟩ := DataW.trod_string Tryz.underlying9 f1
    obtain ⟨c, e2, _, hc⟩ := DataW.trod_string Tryz.underlying9 f2
    simp [k1, k2] at e0 e1 e2
    subst e0 e1 e2
    refine ⟨⟨⟨a, b.data.toList, c.data.toList⟩, ?_, ?_⟩, rfl⟩
    · simp only [maxLen, ByteArray.size] at hb; rw [Array.length_toList]; omega
    · simp only [maxLen, ByteArray.size] at hc; rw [Array.length_toList]; omega
set_option maxRecDepth 100000 in
theorem open_ref (hv : Value.okWide Tryz.prog W .any base 24 v) (h : DataW.Trod enc Tryz.prog W 0 (fun _ => true) true 24 v d ps) : ∃ x : RefD, v = rfV x ∧ okRef x := by
  unfold Value.okWide at hv
  rw [Tryz.underlying24] at hv
  obtain ⟨cs, rfl, hsz, -⟩ := hv
  obtain ⟨fuel, hf⟩ := h
  have k : Tryz.prog.cellsOf 24 = 3 := by kernel_rfl
  obtain ⟨⟨a, ha⟩, e⟩ := ref_cells (by rw [← k, ← hsz]; simp [Value.cells]) hf
  refine ⟨a, ?_, ha⟩
  simp only [Value.cells] at e
  obtain ⟨l⟩ := cs
  simp only at e
  rw [← e]; rfl
set_option maxRecDepth 100000 in
theorem open_refs (hv : Value.okWide Tryz.prog W .any base 22 v) (h : DataW.Trod enc Tryz.prog W 0 (fun _ => true) true 22 v d ps) :
    ∃ xs : List RefD, Sees W 3 v xs.length (Rfs xs) ∧ xs.length ≤ 9223372036854775807 ∧ ∀ x ∈ xs, okRef x := by
  obtain ⟨xs, h1, h2⟩ := open_list (α := { r : RefD // okRef r }) (fun a => rfCells a.1) 3 Tryz.underlying22 (by kernel_rfl) (fun _ => rfl) (by decide) (fun n cs y hlen ht => ref_cells hlen ht) hv h
  refine ⟨xs.map (·.1), ?_, by simpa using h2, ?_⟩
  · have e : Rfs (xs.map (·.1)) = xs.flatMap fun a => rfCells a.1 := by unfold Rfs; rw [List.flatMap_map]
    rw [e]; simpa using h1
  · intro x hx
    obtain ⟨a, -, rfl⟩ := List.mem_map.1 hx
    exact a.2
end
end Go.Proofs.YtihoohhngiomdaaGreatDoor
