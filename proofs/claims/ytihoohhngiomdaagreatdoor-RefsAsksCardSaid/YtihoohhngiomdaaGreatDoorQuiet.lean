/- A region that draws its order, walked once in the order of the text, where each operation yields one value in all worlds of a class: the calls may make memory. No statement of the seat is proved here. -/
import Derived.Test.YtihoohhngiomdaaGreatDoorBase
import Derived.Deep.QuietTactic
import Derived.BigQuiet
set_option linter.unusedVariables false
namespace Go.Aq
open Go.RowKit
section
variable {P : Program} {ops : Array Oper} {C : World → Prop} {Q : Act → Prop} {a : Act} {o : Oper} {rest : List Oper}
theorem wpQ_yes {v : Value} (hw : Region.wanted o (yielded ops a.tmps) = true) (h : ∀ w, C w → o.quietAt P a C w v) (hr : wpQuiet P ops C Q rest (a.put o.dst v)) : wpQuiet P ops C Q (o :: rest) a := by
  unfold wpQuiet; rw [if_pos hw]; exact ⟨v, h, hr⟩
theorem wpQ_ex (hw : Region.wanted o (yielded ops a.tmps) = true) (h : ∃ v, (∀ w, C w → o.quietAt P a C w v) ∧ wpQuiet P ops C Q rest (a.put o.dst v)) : wpQuiet P ops C Q (o :: rest) a := by
  obtain ⟨v, h1, h2⟩ := h; exact wpQ_yes hw h1 h2
theorem wpQ_no (hw : Region.wanted o (yielded ops a.tmps) = false) (hr : wpQuiet P ops C Q rest (a.put o.dst undef)) : wpQuiet P ops C Q (o :: rest) a := by
  unfold wpQuiet; rw [if_neg (by rw [hw]; decide)]; exact hr
theorem wp_class (C : World → Prop) {id : Nat} {Q : Exit → Act → World → Prop} {w : World} {l : List Oper} (hm : P.follows .mixedOrders = true) (hB : Region.lexB .any l.toArray = true) (hC : C w.drew)
    (h : wpQuiet P l.toArray C (fun a' => ∀ w', C w' → Q .normal a' w') l a) : (Code.region id l.toArray true).wp P Q a w :=
  wp_region_quiet (C := C) hm hB hC (by simpa using h)
/-- The same over a family of worlds (an unknown function into worlds): facts on all its worlds are rules of the walk. -/
theorem wp_fam {X : Type} (F : X → World) {id : Nat} {Q : Exit → Act → World → Prop} {w : World} {l : List Oper} (hm : P.follows .mixedOrders = true) (hB : Region.lexB .any l.toArray = true) (x0 : X) (h0 : w.drew = F x0)
    (h : wpQuiet P l.toArray (fun w' => ∃ x, w' = F x) (fun a' => ∀ w', (∃ x, w' = F x) → Q .normal a' w') l a) : (Code.region id l.toArray true).wp P Q a w :=
  wp_region_quiet (C := fun w' => ∃ x, w' = F x) hm hB ⟨x0, h0⟩ (by simpa using h)
theorem fam (C : World → Prop) (w : World) (h : C w) : ∃ (X : Type) (_ : Nonempty X) (F : X → World) (x0 : X), w = F x0 ∧ (∀ x, C (F x)) ∧ ∀ w', C w' → ∃ x, w' = F x :=
  ⟨{w // C w}, ⟨⟨w, h⟩⟩, Subtype.val, ⟨w, h⟩, rfl, fun x => x.2, fun w' h => ⟨⟨w', h⟩, rfl⟩⟩
/-- The family of all worlds in which nothing that was there has turned. -/
theorem fam0 (w : World) : ∃ (X : Type) (_ : Nonempty X) (F : X → World) (x0 : X), w.drew = F x0 ∧ (∀ x, Chg [] w (F x)) ∧ ∀ w', Chg [] w w' → ∃ x, w' = F x :=
  fam (fun w' => Chg [] w w') w.drew (Chg.refl [] w).drew
theorem fam_call {X : Type} {F : X → World} {w : World} (hF : ∀ x, Chg [] w (F x)) (hX : ∀ w', Chg [] w w' → ∃ x, w' = F x) {f : FuncId} {args : Array Value} {x : X} {v : Value}
    (h : Calls P f args (F x) fun e w' => e = .returned v ∧ Chg [] (F x) w') : Calls P f args (F x) fun e w' => e = .returned v ∧ ∃ y, w' = F y :=
  h.mono fun _ _ ⟨a, b⟩ => ⟨a, hX _ ((hF x).nil b)⟩
theorem fam_same {X : Type} {F : X → World} {f : FuncId} {args : Array Value} {x : X} {v : Value}
    (h : Calls P f args (F x) fun e w' => e = .returned v ∧ w' = F x) : Calls P f args (F x) fun e w' => e = .returned v ∧ ∃ y, w' = F y :=
  h.mono fun _ _ ⟨a, b⟩ => ⟨a, x, b⟩
end
end Go.Aq
