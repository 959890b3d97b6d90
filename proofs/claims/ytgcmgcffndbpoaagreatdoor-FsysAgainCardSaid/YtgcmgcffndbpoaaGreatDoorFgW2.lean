/- The law FsysAgain as the row wants it. No statement of the seat is proved here. -/
import Derived.Test.YtgcmgcffndbpoaaGreatDoorFgH
import Derived.Test.YtgcmgcffndbpoaaGreatDoorFsOpen
import Derived.Test.YtgcmgcffndbpoaaGreatDoorLaidF
set_option linter.unusedVariables false
namespace Go.Proofs.YtgcmgcffndbpoaaGreatDoor
open Go.RowKit Go.Aq Go.Aq.Fy
theorem again_walk (n : Int) (bn : -9223372036854775808 ≤ n ∧ n ≤ 9223372036854775807) (r : Int) (br : -9223372036854775808 ≤ r ∧ r ≤ 9223372036854775807) (m : Int) (bm : -9223372036854775808 ≤ m ∧ m ≤ 9223372036854775807) (v : Value) (css : List (List ChangeD)) {w : World} (s : ListsC w v css) (t : Int) (bt : -9223372036854775808 ≤ t ∧ t ≤ 9223372036854775807) (hT : TabsF w) :
    Calls Tryz.prog 7 #[.int .i64 n, .int .i64 r, .int .i64 m, v, .int .i64 t] w fun e w' => e = .returned (.bool true) ∧ Chg [] w w' := again_law w n r m t v css s
end Go.Proofs.YtgcmgcffndbpoaaGreatDoor
