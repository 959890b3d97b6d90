/- Opening a []lz.Token. No statement of the seat is proved here. -/
import Derived.Test.YtoacegccpajkoaaLz2
import Derived.Test.YtoacegccpajkoaaOpen
namespace Go.Proofs.Ytoacegccpajkoaa
open Go.ChangeShapes Go.WideShapes Go.ChangeAt Go.RowKit Go.Aq
instance : Inhabited TokD := ⟨⟨0, 0, 0⟩⟩
set_option linter.unusedVariables false in
theorem open_toks {H : Type} {enc : TypeId × Value → H} {W : World} {base : Nat} {v : Value} {d : DataW H} {ps : List MemPlace}
    (hv : Value.okWide Try.prog W .any base 51 v) (h : DataW.Trod enc Try.prog W 0 (fun _ => true) true 51 v d ps) :
    ∃ xs : List TokD, Sees W 3 v xs.length (xs.flatMap tokCells) ∧ xs.length ≤ 9223372036854775807 := by
  refine open_list tokCells 3 Try.underlying51 (by kernel_rfl) (fun _ => rfl) (by decide) ?_ hv h
  intro n cs y hlen ht
  obtain ⟨xs, n', _, _, _, hxl, hf⟩ := DataW.trod_struct Try.underlying61 ht
  match cs, hlen with
  | [c0, c1, c2], _ =>
    have f0 := hf 0 _ rfl
    have f1 := hf 1 _ rfl
    have f2 := hf 2 _ rfl
    rw [List.getElem?_eq_getElem (by rw [hxl]; decide)] at f0 f1 f2
    obtain ⟨a, e0, _, _⟩ := DataW.trod_int Try.underlying3 f0
    obtain ⟨b, e1, _, _⟩ := DataW.trod_int Try.underlying3 f1
    obtain ⟨c, e2, _, _⟩ := DataW.trod_int Try.underlying3 f2
    have k1 : Try.prog.cellsOf 3 = 1 := by kernel_rfl
    simp [k1] at e0 e1 e2
    subst e0 e1 e2
    exact ⟨⟨a, b, c⟩, rfl⟩
end Go.Proofs.Ytoacegccpajkoaa
