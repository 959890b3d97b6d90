/- The law FsysOther as the row wants it. No statement of the seat is proved here. -/
import Derived.Test.YtgcmgcffndbpoaaGreatDoorFgL
import Derived.Test.YtgcmgcffndbpoaaGreatDoorFsOpen
import Derived.Test.YtgcmgcffndbpoaaGreatDoorLaidF
set_option linter.unusedVariables false
namespace Go.Proofs.YtgcmgcffndbpoaaGreatDoor
open Go.RowKit Go.Aq Go.Aq.Fy
theorem other_walk (n : Int) (bn : -9223372036854775808 ≤ n ∧ n ≤ 9223372036854775807) (r : Int) (br : -9223372036854775808 ≤ r ∧ r ≤ 9223372036854775807) (m : Int) (bm : -9223372036854775808 ≤ m ∧ m ≤ 9223372036854775807) (v : Value) (css : List (List ChangeD)) {w : World} (s : ListsC w v css) (nm : List UInt8) (hnm : nm.length ≤ 9223372036854775807) (vd : Value) (nd : Nat) (dt : List UInt8) (hd : Sees w 1 vd nd (Bs dt) ∧ nd ≤ 9223372036854775807) (hT : TabsF w) :
    Calls Tryz.prog 4 #[.int .i64 n, .int .i64 r, .int .i64 m, v, .string (str nm), vd] w fun e w' => e = .returned (.bool true) ∧ Chg [] w w' :=
  other_walk0 w n r m v css s nm vd dt nd hd.1 (by have := hd.1.len; rw [Bs_length] at this; omega)
end Go.Proofs.YtgcmgcffndbpoaaGreatDoor
