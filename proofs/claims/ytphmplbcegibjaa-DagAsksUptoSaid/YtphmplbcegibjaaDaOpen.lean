/- The law DagAsks at what was opened. No statement of the seat is proved here. -/
import Derived.Test.YtphmplbcegibjaaDnOpen
import Derived.Test.YtphmplbcegibjaaDaA
set_option linter.unusedVariables false
namespace Go.Proofs.Ytphmplbcegibjaa
open Go.RowKit Go.Aq Go.Aq.Dg
theorem asks_walk (v : Value) (L : List (NodeD × Value)) {w : World} (h : NodesR w v L ∧ L.length ≤ 2097152 ∧ (∀ q ∈ L, q.1.key.length ≤ 1048576 ∧ q.1.parents.length ≤ 2097152 ∧ ∀ p ∈ q.1.parents, p.length ≤ 1048576) ∧ SmallG (L.map (·.1)))
    (a : List UInt8) (ha : a.length ≤ 1048576) (b : List UInt8) (hb : b.length ≤ 1048576) :
    Calls Try.prog 5 #[v, .string (str a), .string (str b)] w fun e w' => e = .returned (.bool true) ∧ Chg [] w w' :=
  asks_any w v L h.1 h.2.1 h.2.2.1 h.2.2.2 a b ha hb
end Go.Proofs.Ytphmplbcegibjaa
