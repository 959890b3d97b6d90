/- What the examples of chapter 6 fix (function first of aqulaw6): it returns true. No statement of the seat is proved here. -/
import Derived.Test.YtoacegccpajkoaaLz2
import Derived.Lib.SlBytesConst
namespace Go.Proofs.Ytoacegccpajkoaa
open Go.RowKit Go.Aq Go.Maps

/-- The cells of token i. -/
theorem toks_at {w : World} {g off n : Nat} {l : List TokD} (hn : l.length = n) (h : ∀ j, j < n * 3 → w.cell? ⟨g, off + j, none⟩ = (l.flatMap tokCells)[j]?) (i : Nat) (hi : i < l.length) :
    w.cell? ⟨g, off + i * 3, none⟩ = some (.int .i64 (l[i]'hi).len) ∧ w.cell? ⟨g, off + i * 3 + 1, none⟩ = some (.int .i64 (l[i]'hi).dist) ∧ w.cell? ⟨g, off + i * 3 + 2, none⟩ = some (.int .i64 (l[i]'hi).byte) := by
  have fl : ∀ (xs : List TokD) (j : Nat), j < xs.length * 3 → (xs.flatMap tokCells)[j]? = (xs[j / 3]?).bind fun a => (tokCells a)[j % 3]? := by
    intro xs
    induction xs with
    | nil => intro j hj; simp at hj
    | cons a xs ih =>
      intro j hj
      rw [List.flatMap_cons, List.getElem?_append]
      have hl : (tokCells a).length = 3 := rfl
      split
      · rename_i hlt
        rw [hl] at hlt
        rw [Nat.div_eq_of_lt hlt, Nat.mod_eq_of_lt hlt]
        rfl
      · rename_i hge
        rw [hl] at hge ⊢
        simp only [List.length_cons, Nat.add_mul] at hj
        rw [ih (j - 3) (by omega), show j / 3 = (j - 3) / 3 + 1 by omega, show j % 3 = (j - 3) % 3 by omega]
        rfl
  have key : ∀ j, j < 3 → w.cell? ⟨g, off + i * 3 + j, none⟩ = (tokCells (l[i]'hi))[j]? := fun j hj => by
    rw [Nat.add_assoc, h (i * 3 + j) (by omega), fl l (i * 3 + j) (by omega)]
    rw [show (i * 3 + j) / 3 = i by omega, show (i * 3 + j) % 3 = j by omega, List.getElem?_eq_getElem hi]
    rfl
  exact ⟨key 0 (by decide), key 1 (by decide), key 2 (by decide)⟩

theorem toks_aaaa : toks [97, 97, 97, 97] = [⟨0, 0, 97⟩, ⟨3, 1, 0⟩] := by rfl

set_option maxHeartbeats 800000 in
theorem first6 (w : World) : Calls Try.prog 36 #[] w fun e w' => e = .returned (.bool true) ∧ Chg [] w w' := by
  have kc := fun (w : World) (C : Array Value) (n c : Nat) => Lib.run_convert_bytes_const (P := Try.prog) w 31 5 C n c Try.underlying31 Try.underlying5
  go_enter Try.func36, Try.ntmps36
  go_wp2_with fail
  refine (find_any _ _ [97, 97, 97, 97] ⟨rfl, _, _, rfl, by decide, by simp, fun ad had j u hu => ?_⟩ (by decide)).mono ?_
  · cases had
    rw [Addr.add_lit, Nat.zero_add, World.cell?_alloc_mark]
    have : Bs [97, 97, 97, 97] = [.int .u8 97, .int .u8 97, .int .u8 97, .int .u8 97] := by rfl
    rw [this] at hu
    rw [← hu]
    simp
  rintro e w1 ⟨v', rfl, ho, hc, hf⟩
  rw [toks_aaaa] at ho
  obtain ⟨g, cap, rfl, hcap⟩ := ho.pos (by decide)
  have hca := Own.cellAt ho
  have hat := fun j hj => (congrArg (w1.cell? ⟨g, ·, none⟩) (Nat.zero_add j)).trans (hca j hj)
  obtain ⟨x0, x1, x2⟩ := toks_at (off := 0) rfl hat 0 (by decide)
  obtain ⟨y0, y1, y2⟩ := toks_at (off := 0) rfl hat 1 (by decide)
  clear hca hat
  have hc' : Chg [] w w1 := (Chg.alloc (.refl _ _) _).nil hc
  generalize w.alloc _ = w0 at *
  simp only [List.length_cons, List.length_nil, Nat.zero_add, Nat.reduceAdd, Nat.reduceMul, List.getElem_cons_zero, List.getElem_cons_succ] at *
  go_wp2_with fail
  go_ret
  exact ⟨rfl, hc'⟩
end Go.Proofs.Ytoacegccpajkoaa
