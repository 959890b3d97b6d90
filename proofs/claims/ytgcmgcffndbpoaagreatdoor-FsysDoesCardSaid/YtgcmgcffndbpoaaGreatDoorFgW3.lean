/- The law FsysDoes as the row wants it. No statement of the seat is proved here. -/
import Derived.Test.YtgcmgcffndbpoaaGreatDoorFgJ
import Derived.Test.YtgcmgcffndbpoaaGreatDoorFsOpen
import Derived.Test.YtgcmgcffndbpoaaGreatDoorLaidF
set_option linter.unusedVariables false
namespace Go.Proofs.YtgcmgcffndbpoaaGreatDoor
open Go.RowKit Go.Aq Go.Aq.Fy
theorem does_walk (n : Int) (bn : -9223372036854775808 ≤ n ∧ n ≤ 9223372036854775807) (r : Int) (br : -9223372036854775808 ≤ r ∧ r ≤ 9223372036854775807) (m : Int) (bm : -9223372036854775808 ≤ m ∧ m ≤ 9223372036854775807) (v : Value) (css : List (List ChangeD)) {w : World} (s : ListsC w v css) (vl : Value) (cs : List ChangeD) (sl : SeesC w vl cs) (hT : TabsF w) :
    Calls Tryz.prog 3 #[.int .i64 n, .int .i64 r, .int .i64 m, v, vl] w fun e w' => e = .returned (.bool true) ∧ Chg [] w w' := does_law w n r m v css s vl cs sl
end Go.Proofs.YtgcmgcffndbpoaaGreatDoor
