/- A world for the witness that holds the two listed variables; the law's walks ask for no table. No statement of the seat is proved here. -/
import Derived.Test.YtgcmgcffndbpoaaGreatDoorCards
import Derived.Test.YtgcmgcffndbpoaaGreatDoorNumA
import Derived.Lib.LaidTab
import Derived.PinnedBridge
import Derived.ProofKit
import Derived.ShapedOpen
set_option linter.unusedVariables false
namespace Go.Proofs.YtgcmgcffndbpoaaGreatDoor
open Go.ChangeShapes Go.WideShapes Go.ChangeAt Go.RowKit Go.Aq
/-- Nothing is asked of the library's variables. -/
def TabsF (w : World) : Prop := True
theorem tabsF_of {l : List (String × DataW Unit)} {W : World} (h : laidMet Tryz.prog l W) (hS : W.ShapedOpen Tryz.prog) : TabsF W := trivial
def lit1 : DataW Unit → Value
  | .lit (.int k z) => .int k z
  | _ => undef
def flat1 : DataW Unit → List Value
  | .agg l => l.map lit1
  | _ => []
def flat2 : DataW Unit → List Value
  | .agg l => l.flatMap flat1
  | _ => []
def setCells (cs : List Value) : Obj → Obj
  | .cells _ t fz => .cells cs.toArray t fz
  | o => o
noncomputable def laidWorldF (os : Os) : World :=
  { World.holding Tryz.prog os ⟨#[], #[], []⟩ with heap := ((World.holding Tryz.prog os ⟨#[], #[], []⟩).heap.modify 2 (setCells (flat2 Rows.laid_unicode_utf8_acceptRanges))).modify 1 (setCells (flat1 Rows.laid_unicode_utf8_first)) }
end Go.Proofs.YtgcmgcffndbpoaaGreatDoor
