/- The law RefsAsks at its opened arguments. No statement of the seat is proved here. -/
import Derived.Test.YtihoohhngiomdaaGreatDoorRqI
import Derived.Test.YtihoohhngiomdaaGreatDoorOpenRefs
set_option linter.unusedVariables false
namespace Go.Proofs.YtihoohhngiomdaaGreatDoor
open Go.RowKit Go.Aq Go.Aq.Wd
theorem asks_walk (v : Value) (l : List RefD) {w : World} (s : Sees w 3 v l.length (Rfs l) ∧ l.length ≤ 9223372036854775807 ∧ ∀ x ∈ l, okRef x) (r : RefD) (hr : okRef r) (q : RefD) (hq : okRef q) (vb : Value) (nb : Nat) (b : List UInt8) (hb : Sees w 1 vb nb (Bs b) ∧ nb ≤ 9223372036854775807) (hT : Tabs w) :
    Calls Tryz.prog 3 #[v, rfV r, rfV q, vb] w fun e w' => e = .returned (.bool true) ∧ Chg [] w w' :=
  asks_any w hT v l s.1 s.2.1 s.2.2 r hr q hq vb nb b hb.1
end Go.Proofs.YtihoohhngiomdaaGreatDoor
