/- The law FsysAtomic as the row wants it. No statement of the seat is proved here. -/
import Derived.Test.YtgcmgcffndbpoaaGreatDoorFgN
import Derived.Test.YtgcmgcffndbpoaaGreatDoorFsOpen2
import Derived.Test.YtgcmgcffndbpoaaGreatDoorLaidF
set_option linter.unusedVariables false
namespace Go.Proofs.YtgcmgcffndbpoaaGreatDoor
open Go.RowKit Go.Aq Go.Aq.Fy
theorem atomic_walk (n : Int) (bn : -9223372036854775808 ≤ n ∧ n ≤ 9223372036854775807) (r : Int) (br : -9223372036854775808 ≤ r ∧ r ≤ 9223372036854775807) (m : Int) (bm : -9223372036854775808 ≤ m ∧ m ≤ 9223372036854775807) (v : Value) (css : List (List ChangeD)) {w : World} (s : ListsC w v css) (vl : Value) (cs : List ChangeD) (sl : SeesC w vl cs) (t : Int) (bt : -9223372036854775808 ≤ t ∧ t ≤ 9223372036854775807) (vm : Value) (nm : Nat) (ms : List UInt8) (hm : Sees w 1 vm nm (Bs ms) ∧ nm ≤ 9223372036854775807) (va : Value) (zs : List Int) (ha : IntsC w va zs) (vb : Value) (L : List (List UInt8)) (hb : RowsV w [] vb L) (hT : TabsF w) :
    Calls Tryz.prog 5 #[.int .i64 n, .int .i64 r, .int .i64 m, v, vl, .int .i64 t, vm, va, vb] w fun e w' => e = .returned (.bool true) ∧ Chg [] w w' :=
  atomic_law w n r m v css s vl cs sl t vm ms nm hm.1 va zs ha.1 ha.2 vb L hb
end Go.Proofs.YtgcmgcffndbpoaaGreatDoor
