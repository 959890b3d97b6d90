/- Contract of aquref1.letter. No statement of the seat is proved here. -/
import Derived.Test.YtihoohhngiomdaaGreatDoorRLetter1
import Derived.Test.YtihoohhngiomdaaGreatDoorRLetter2
set_option linter.unusedVariables false
namespace Go.Proofs.YtihoohhngiomdaaGreatDoor
open Go.RowKit Go.Aq Go.Aq.Wd
theorem rletter_any (c : Nat) (hc : c ≤ 2000000) (w : World) :
    Calls Tryz.prog 62 #[.int .i64 c] w fun e w' => e = .returned (.bool (letter c)) ∧ w' = w := by
  by_cases g0 : c ≤ 44
  · exact rletter_0 c (by omega) g0 w
  by_cases g1 : c ≤ 45
  · exact rletter_1 c (by omega) g1 w
  by_cases g2 : c ≤ 46
  · exact rletter_2 c (by omega) g2 w
  by_cases g3 : c ≤ 47
  · exact rletter_3 c (by omega) g3 w
  by_cases g4 : c ≤ 57
  · exact rletter_4 c (by omega) g4 w
  by_cases g5 : c ≤ 64
  · exact rletter_5 c (by omega) g5 w
  by_cases g6 : c ≤ 90
  · exact rletter_6 c (by omega) g6 w
  by_cases g7 : c ≤ 94
  · exact rletter_7 c (by omega) g7 w
  by_cases g8 : c ≤ 95
  · exact rletter_8 c (by omega) g8 w
  by_cases g9 : c ≤ 96
  · exact rletter_9 c (by omega) g9 w
  by_cases g10 : c ≤ 122
  · exact rletter_10 c (by omega) g10 w
  by_cases g11 : c ≤ 191
  · exact rletter_11 c (by omega) g11 w
  by_cases g12 : c ≤ 214
  · exact rletter_12 c (by omega) g12 w
  by_cases g13 : c ≤ 215
  · exact rletter_13 c (by omega) g13 w
  by_cases g14 : c ≤ 246
  · exact rletter_14 c (by omega) g14 w
  by_cases g15 : c ≤ 247
  · exact rletter_15 c (by omega) g15 w
  by_cases g16 : c ≤ 591
  · exact rletter_16 c (by omega) g16 w
  by_cases g17 : c ≤ 879
  · exact rletter_17 c (by omega) g17 w
  by_cases g18 : c ≤ 1279
  · exact rletter_18 c (by omega) g18 w
  by_cases g19 : c ≤ 19967
  · exact rletter_19 c (by omega) g19 w
  by_cases g20 : c ≤ 40959
  · exact rletter_20 c (by omega) g20 w
  exact rletter_21 c (by omega) hc w
end Go.Proofs.YtihoohhngiomdaaGreatDoor
