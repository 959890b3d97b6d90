/- Contract of aquref1.letter. No statement of the seat is proved here. -/
import Derived.Test.YtihoohhngiomdaaGreatDoorWordAll
set_option linter.unusedVariables false
namespace Go.Proofs.YtihoohhngiomdaaGreatDoor
open Go.RowKit Go.Aq Go.Aq.Wd
theorem letter_iff2 (c : Nat) : letter c = true ↔ (((97 ≤ c ∧ c ≤ 122) ∨ (65 ≤ c ∧ c ≤ 90) ∨ (48 ≤ c ∧ c ≤ 57) ∨ c = 45 ∨ c = 95 ∨ c = 46 ∨ c = 47 ∨ (192 ≤ c ∧ c ≤ 591 ∧ c ≠ 215 ∧ c ≠ 247) ∨ (880 ≤ c ∧ c ≤ 1279) ∨ (19968 ≤ c ∧ c ≤ 40959))) := by
  simp only [letter, Bool.or_eq_true, Bool.and_eq_true, decide_eq_true_eq, beq_iff_eq, bne_iff_ne, ne_eq]; omega
theorem letter_yes2 (c : Nat) (h : (((97 ≤ c ∧ c ≤ 122) ∨ (65 ≤ c ∧ c ≤ 90) ∨ (48 ≤ c ∧ c ≤ 57) ∨ c = 45 ∨ c = 95 ∨ c = 46 ∨ c = 47 ∨ (192 ≤ c ∧ c ≤ 591 ∧ c ≠ 215 ∧ c ≠ 247) ∨ (880 ≤ c ∧ c ≤ 1279) ∨ (19968 ≤ c ∧ c ≤ 40959)))) : true = letter c := ((letter_iff2 c).2 h).symm
theorem letter_no2 (c : Nat) (h : ¬ (((97 ≤ c ∧ c ≤ 122) ∨ (65 ≤ c ∧ c ≤ 90) ∨ (48 ≤ c ∧ c ≤ 57) ∨ c = 45 ∨ c = 95 ∨ c = 46 ∨ c = 47 ∨ (192 ≤ c ∧ c ≤ 591 ∧ c ≠ 215 ∧ c ≠ 247) ∨ (880 ≤ c ∧ c ≤ 1279) ∨ (19968 ≤ c ∧ c ≤ 40959)))) : false = letter c := (Bool.eq_false_iff.2 fun h2 => h ((letter_iff2 c).1 h2)).symm
set_option maxRecDepth 100000 in
set_option maxHeartbeats 3000000 in
theorem rletter_11 (c : Nat) (h1 : 123 ≤ c) (h2 : c ≤ 191) (w : World) :
    Calls Tryz.prog 62 #[.int .i64 c] w fun e w' => e = .returned (.bool (letter c)) ∧ w' = w := by
  have HL := Lib.hid (letter_no2 c (by omega))
  have t1 : decide (97 ≤ (c : Int)) = true := by rw [decide_eq_true_eq]; omega
  have n1 : decide (97 ≤ c) = true := by rw [decide_eq_true_eq]; omega
  have t2 : decide ((c : Int) ≤ 122) = false := by rw [decide_eq_false_iff_not]; omega
  have n2 : decide (c ≤ 122) = false := by rw [decide_eq_false_iff_not]; omega
  have t3 : decide (65 ≤ (c : Int)) = true := by rw [decide_eq_true_eq]; omega
  have n3 : decide (65 ≤ c) = true := by rw [decide_eq_true_eq]; omega
  have t4 : decide ((c : Int) ≤ 90) = false := by rw [decide_eq_false_iff_not]; omega
  have n4 : decide (c ≤ 90) = false := by rw [decide_eq_false_iff_not]; omega
  have t5 : decide (48 ≤ (c : Int)) = true := by rw [decide_eq_true_eq]; omega
  have n5 : decide (48 ≤ c) = true := by rw [decide_eq_true_eq]; omega
  have t6 : decide ((c : Int) ≤ 57) = false := by rw [decide_eq_false_iff_not]; omega
  have n6 : decide (c ≤ 57) = false := by rw [decide_eq_false_iff_not]; omega
  have t7 : decide (192 ≤ (c : Int)) = false := by rw [decide_eq_false_iff_not]; omega
  have n7 : decide (192 ≤ c) = false := by rw [decide_eq_false_iff_not]; omega
  have t8 : decide ((c : Int) ≤ 591) = true := by rw [decide_eq_true_eq]; omega
  have n8 : decide (c ≤ 591) = true := by rw [decide_eq_true_eq]; omega
  have t9 : decide (880 ≤ (c : Int)) = false := by rw [decide_eq_false_iff_not]; omega
  have n9 : decide (880 ≤ c) = false := by rw [decide_eq_false_iff_not]; omega
  have t10 : decide ((c : Int) ≤ 1279) = true := by rw [decide_eq_true_eq]; omega
  have n10 : decide (c ≤ 1279) = true := by rw [decide_eq_true_eq]; omega
  have t11 : decide (19968 ≤ (c : Int)) = false := by rw [decide_eq_false_iff_not]; omega
  have n11 : decide (19968 ≤ c) = false := by rw [decide_eq_false_iff_not]; omega
  have t12 : decide ((c : Int) ≤ 40959) = true := by rw [decide_eq_true_eq]; omega
  have n12 : decide (c ≤ 40959) = true := by rw [decide_eq_true_eq]; omega
  have t13 : ((c : Int) == 45) = false := by rw [beq_eq_false_iff_ne]; omega
  have t14 : ((c : Int) == 95) = false := by rw [beq_eq_false_iff_ne]; omega
  have t15 : ((c : Int) == 46) = false := by rw [beq_eq_false_iff_ne]; omega
  have t16 : ((c : Int) == 47) = false := by rw [beq_eq_false_iff_ne]; omega
  have t17 : ((c : Int) != 215) = true := by rw [bne_iff_ne]; omega
  have t18 : ((c : Int) != 247) = true := by rw [bne_iff_ne]; omega
  clear h1 h2
  go_enter Tryz.func62, Tryz.ntmps62
  go_wp2_with fail
  all_goals go_ret
  all_goals exact ⟨rb HL.out, rfl⟩
set_option maxRecDepth 100000 in
set_option maxHeartbeats 3000000 in
theorem rletter_12 (c : Nat) (h1 : 192 ≤ c) (h2 : c ≤ 214) (w : World) :
    Calls Tryz.prog 62 #[.int .i64 c] w fun e w' => e = .returned (.bool (letter c)) ∧ w' = w := by
  have HL := Lib.hid (letter_yes2 c (by omega))
  have t1 : decide (97 ≤ (c : Int)) = true := by rw [decide_eq_true_eq]; omega
  have n1 : decide (97 ≤ c) = true := by rw [decide_eq_true_eq]; omega
  have t2 : decide ((c : Int) ≤ 122) = false := by rw [decide_eq_false_iff_not]; omega
  have n2 : decide (c ≤ 122) = false := by rw [decide_eq_false_iff_not]; omega
  have t3 : decide (65 ≤ (c : Int)) = true := by rw [decide_eq_true_eq]; omega
  have n3 : decide (65 ≤ c) = true := by rw [decide_eq_true_eq]; omega
  have t4 : decide ((c : Int) ≤ 90) = false := by rw [decide_eq_false_iff_not]; omega
  have n4 : decide (c ≤ 90) = false := by rw [decide_eq_false_iff_not]; omega
  have t5 : decide (48 ≤ (c : Int)) = true := by rw [decide_eq_true_eq]; omega
  have n5 : decide (48 ≤ c) = true := by rw [decide_eq_true_eq]; omega
  have t6 : decide ((c : Int) ≤ 57) = false := by rw [decide_eq_false_iff_not]; omega
  have n6 : decide (c ≤ 57) = false := by rw [decide_eq_false_iff_not]; omega
  have t7 : decide (192 ≤ (c : Int)) = true := by rw [decide_eq_true_eq]; omega
  have n7 : decide (192 ≤ c) = true := by rw [decide_eq_true_eq]; omega
  have t8 : decide ((c : Int) ≤ 591) = true := by rw [decide_eq_true_eq]; omega
  have n8 : decide (c ≤ 591) = true := by rw [decide_eq_true_eq]; omega
  have t9 : decide (880 ≤ (c : Int)) = false := by rw [decide_eq_false_iff_not]; omega
  have n9 : decide (880 ≤ c) = false := by rw [decide_eq_false_iff_not]; omega
  have t10 : decide ((c : Int) ≤ 1279) = true := by rw [decide_eq_true_eq]; omega
  have n10 : decide (c ≤ 1279) = true := by rw [decide_eq_true_eq]; omega
  have t11 : decide (19968 ≤ (c : Int)) = false := by rw [decide_eq_false_iff_not]; omega
  have n11 : decide (19968 ≤ c) = false := by rw [decide_eq_false_iff_not]; omega
  have t12 : decide ((c : Int) ≤ 40959) = true := by rw [decide_eq_true_eq]; omega
  have n12 : decide (c ≤ 40959) = true := by rw [decide_eq_true_eq]; omega
  have t13 : ((c : Int) == 45) = false := by rw [beq_eq_false_iff_ne]; omega
  have t14 : ((c : Int) == 95) = false := by rw [beq_eq_false_iff_ne]; omega
  have t15 : ((c : Int) == 46) = false := by rw [beq_eq_false_iff_ne]; omega
  have t16 : ((c : Int) == 47) = false := by rw [beq_eq_false_iff_ne]; omega
  have t17 : ((c : Int) != 215) = true := by rw [bne_iff_ne]; omega
  have t18 : ((c : Int) != 247) = true := by rw [bne_iff_ne]; omega
  clear h1 h2
  go_enter Tryz.func62, Tryz.ntmps62
  go_wp2_with fail
  all_goals go_ret
  all_goals exact ⟨rb HL.out, rfl⟩
set_option maxRecDepth 100000 in
set_option maxHeartbeats 3000000 in
theorem rletter_13 (c : Nat) (h1 : 215 ≤ c) (h2 : c ≤ 215) (w : World) :
    Calls Tryz.prog 62 #[.int .i64 c] w fun e w' => e = .returned (.bool (letter c)) ∧ w' = w := by
  have HL := Lib.hid (letter_no2 c (by omega))
  have t1 : decide (97 ≤ (c : Int)) = true := by rw [decide_eq_true_eq]; omega
  have n1 : decide (97 ≤ c) = true := by rw [decide_eq_true_eq]; omega
  have t2 : decide ((c : Int) ≤ 122) = false := by rw [decide_eq_false_iff_not]; omega
  have n2 : decide (c ≤ 122) = false := by rw [decide_eq_false_iff_not]; omega
  have t3 : decide (65 ≤ (c : Int)) = true := by rw [decide_eq_true_eq]; omega
  have n3 : decide (65 ≤ c) = true := by rw [decide_eq_true_eq]; omega
  have t4 : decide ((c : Int) ≤ 90) = false := by rw [decide_eq_false_iff_not]; omega
  have n4 : decide (c ≤ 90) = false := by rw [decide_eq_false_iff_not]; omega
  have t5 : decide (48 ≤ (c : Int)) = true := by rw [decide_eq_true_eq]; omega
  have n5 : decide (48 ≤ c) = true := by rw [decide_eq_true_eq]; omega
  have t6 : decide ((c : Int) ≤ 57) = false := by rw [decide_eq_false_iff_not]; omega
  have n6 : decide (c ≤ 57) = false := by rw [decide_eq_false_iff_not]; omega
  have t7 : decide (192 ≤ (c : Int)) = true := by rw [decide_eq_true_eq]; omega
  have n7 : decide (192 ≤ c) = true := by rw [decide_eq_true_eq]; omega
  have t8 : decide ((c : Int) ≤ 591) = true := by rw [decide_eq_true_eq]; omega
  have n8 : decide (c ≤ 591) = true := by rw [decide_eq_true_eq]; omega
  have t9 : decide (880 ≤ (c : Int)) = false := by rw [decide_eq_false_iff_not]; omega
  have n9 : decide (880 ≤ c) = false := by rw [decide_eq_false_iff_not]; omega
  have t10 : decide ((c : Int) ≤ 1279) = true := by rw [decide_eq_true_eq]; omega
  have n10 : decide (c ≤ 1279) = true := by rw [decide_eq_true_eq]; omega
  have t11 : decide (19968 ≤ (c : Int)) = false := by rw [decide_eq_false_iff_not]; omega
  have n11 : decide (19968 ≤ c) = false := by rw [decide_eq_false_iff_not]; omega
  have t12 : decide ((c : Int) ≤ 40959) = true := by rw [decide_eq_true_eq]; omega
  have n12 : decide (c ≤ 40959) = true := by rw [decide_eq_true_eq]; omega
  have t13 : ((c : Int) == 45) = false := by rw [beq_eq_false_iff_ne]; omega
  have t14 : ((c : Int) == 95) = false := by rw [beq_eq_false_iff_ne]; omega
  have t15 : ((c : Int) == 46) = false := by rw [beq_eq_false_iff_ne]; omega
  have t16 : ((c : Int) == 47) = false := by rw [beq_eq_false_iff_ne]; omega
  have t17 : ((c : Int) != 215) = false := by rw [bne_eq_false_iff_eq]; omega
  have t18 : ((c : Int) != 247) = true := by rw [bne_iff_ne]; omega
  clear h1 h2
  go_enter Tryz.func62, Tryz.ntmps62
  go_wp2_with fail
  all_goals go_ret
  all_goals exact ⟨rb HL.out, rfl⟩
set_option maxRecDepth 100000 in
set_option maxHeartbeats 3000000 in
theorem rletter_14 (c : Nat) (h1 : 216 ≤ c) (h2 : c ≤ 246) (w : World) :
    Calls Tryz.prog 62 #[.int .i64 c] w fun e w' => e = .returned (.bool (letter c)) ∧ w' = w := by
  have HL := Lib.hid (letter_yes2 c (by omega))
  have t1 : decide (97 ≤ (c : Int)) = true := by rw [decide_eq_true_eq]; omega
  have n1 : decide (97 ≤ c) = true := by rw [decide_eq_true_eq]; omega
  have t2 : decide ((c : Int) ≤ 122) = false := by rw [decide_eq_false_iff_not]; omega
  have n2 : decide (c ≤ 122) = false := by rw [decide_eq_false_iff_not]; omega
  have t3 : decide (65 ≤ (c : Int)) = true := by rw [decide_eq_true_eq]; omega
  have n3 : decide (65 ≤ c) = true := by rw [decide_eq_true_eq]; omega
  have t4 : decide ((c : Int) ≤ 90) = false := by rw [decide_eq_false_iff_not]; omega
  have n4 : decide (c ≤ 90) = false := by rw [decide_eq_false_iff_not]; omega
  have t5 : decide (48 ≤ (c : Int)) = true := by rw [decide_eq_true_eq]; omega
  have n5 : decide (48 ≤ c) = true := by rw [decide_eq_true_eq]; omega
  have t6 : decide ((c : Int) ≤ 57) = false := by rw [decide_eq_false_iff_not]; omega
  have n6 : decide (c ≤ 57) = false := by rw [decide_eq_false_iff_not]; omega
  have t7 : decide (192 ≤ (c : Int)) = true := by rw [decide_eq_true_eq]; omega
  have n7 : decide (192 ≤ c) = true := by rw [decide_eq_true_eq]; omega
  have t8 : decide ((c : Int) ≤ 591) = true := by rw [decide_eq_true_eq]; omega
  have n8 : decide (c ≤ 591) = true := by rw [decide_eq_true_eq]; omega
  have t9 : decide (880 ≤ (c : Int)) = false := by rw [decide_eq_false_iff_not]; omega
  have n9 : decide (880 ≤ c) = false := by rw [decide_eq_false_iff_not]; omega
  have t10 : decide ((c : Int) ≤ 1279) = true := by rw [decide_eq_true_eq]; omega
  have n10 : decide (c ≤ 1279) = true := by rw [decide_eq_true_eq]; omega
  have t11 : decide (19968 ≤ (c : Int)) = false := by rw [decide_eq_false_iff_not]; omega
  have n11 : decide (19968 ≤ c) = false := by rw [decide_eq_false_iff_not]; omega
  have t12 : decide ((c : Int) ≤ 40959) = true := by rw [decide_eq_true_eq]; omega
  have n12 : decide (c ≤ 40959) = true := by rw [decide_eq_true_eq]; omega
  have t13 : ((c : Int) == 45) = false := by rw [beq_eq_false_iff_ne]; omega
  have t14 : ((c : Int) == 95) = false := by rw [beq_eq_false_iff_ne]; omega
  have t15 : ((c : Int) == 46) = false := by rw [beq_eq_false_iff_ne]; omega
  have t16 : ((c : Int) == 47) = false := by rw [beq_eq_false_iff_ne]; omega
  have t17 : ((c : Int) != 215) = true := by rw [bne_iff_ne]; omega
  have t18 : ((c : Int) != 247) = true := by rw [bne_iff_ne]; omega
  clear h1 h2
  go_enter Tryz.func62, Tryz.ntmps62
  go_wp2_with fail
  all_goals go_ret
  all_goals exact ⟨rb HL.out, rfl⟩
set_option maxRecDepth 100000 in
set_option maxHeartbeats 3000000 in
theorem rletter_15 (c : Nat) (h1 : 247 ≤ c) (h2 : c ≤ 247) (w : World) :
    Calls Tryz.prog 62 #[.int .i64 c] w fun e w' => e = .returned (.bool (letter c)) ∧ w' = w := by
  have HL := Lib.hid (letter_no2 c (by omega))
  have t1 : decide (97 ≤ (c : Int)) = true := by rw [decide_eq_true_eq]; omega
  have n1 : decide (97 ≤ c) = true := by rw [decide_eq_true_eq]; omega
  have t2 : decide ((c : Int) ≤ 122) = false := by rw [decide_eq_false_iff_not]; omega
  have n2 : decide (c ≤ 122) = false := by rw [decide_eq_false_iff_not]; omega
  have t3 : decide (65 ≤ (c : Int)) = true := by rw [decide_eq_true_eq]; omega
  have n3 : decide (65 ≤ c) = true := by rw [decide_eq_true_eq]; omega
  have t4 : decide ((c : Int) ≤ 90) = false := by rw [decide_eq_false_iff_not]; omega
  have n4 : decide (c ≤ 90) = false := by rw [decide_eq_false_iff_not]; omega
  have t5 : decide (48 ≤ (c : Int)) = true := by rw [decide_eq_true_eq]; omega
  have n5 : decide (48 ≤ c) = true := by rw [decide_eq_true_eq]; omega
  have t6 : decide ((c : Int) ≤ 57) = false := by rw [decide_eq_false_iff_not]; omega
  have n6 : decide (c ≤ 57) = false := by rw [decide_eq_false_iff_not]; omega
  have t7 : decide (192 ≤ (c : Int)) = true := by rw [decide_eq_true_eq]; omega
  have n7 : decide (192 ≤ c) = true := by rw [decide_eq_true_eq]; omega
  have t8 : decide ((c : Int) ≤ 591) = true := by rw [decide_eq_true_eq]; omega
  have n8 : decide (c ≤ 591) = true := by rw [decide_eq_true_eq]; omega
  have t9 : decide (880 ≤ (c : Int)) = false := by rw [decide_eq_false_iff_not]; omega
  have n9 : decide (880 ≤ c) = false := by rw [decide_eq_false_iff_not]; omega
  have t10 : decide ((c : Int) ≤ 1279) = true := by rw [decide_eq_true_eq]; omega
  have n10 : decide (c ≤ 1279) = true := by rw [decide_eq_true_eq]; omega
  have t11 : decide (19968 ≤ (c : Int)) = false := by rw [decide_eq_false_iff_not]; omega
  have n11 : decide (19968 ≤ c) = false := by rw [decide_eq_false_iff_not]; omega
  have t12 : decide ((c : Int) ≤ 40959) = true := by rw [decide_eq_true_eq]; omega
  have n12 : decide (c ≤ 40959) = true := by rw [decide_eq_true_eq]; omega
  have t13 : ((c : Int) == 45) = false := by rw [beq_eq_false_iff_ne]; omega
  have t14 : ((c : Int) == 95) = false := by rw [beq_eq_false_iff_ne]; omega
  have t15 : ((c : Int) == 46) = false := by rw [beq_eq_false_iff_ne]; omega
  have t16 : ((c : Int) == 47) = false := by rw [beq_eq_false_iff_ne]; omega
  have t17 : ((c : Int) != 215) = true := by rw [bne_iff_ne]; omega
  have t18 : ((c : Int) != 247) = false := by rw [bne_eq_false_iff_eq]; omega
  clear h1 h2
  go_enter Tryz.func62, Tryz.ntmps62
  go_wp2_with fail
  all_goals go_ret
  all_goals exact ⟨rb HL.out, rfl⟩
set_option maxRecDepth 100000 in
set_option maxHeartbeats 3000000 in
theorem rletter_16 (c : Nat) (h1 : 248 ≤ c) (h2 : c ≤ 591) (w : World) :
    Calls Tryz.prog 62 #[.int .i64 c] w fun e w' => e = .returned (.bool (letter c)) ∧ w' = w := by
  have HL := Lib.hid (letter_yes2 c (by omega))
  have t1 : decide (97 ≤ (c : Int)) = true := by rw [decide_eq_true_eq]; omega
  have n1 : decide (97 ≤ c) = true := by rw [decide_eq_true_eq]; omega
  have t2 : decide ((c : Int) ≤ 122) = false := by rw [decide_eq_false_iff_not]; omega
  have n2 : decide (c ≤ 122) = false := by rw [decide_eq_false_iff_not]; omega
  have t3 : decide (65 ≤ (c : Int)) = true := by rw [decide_eq_true_eq]; omega
  have n3 : decide (65 ≤ c) = true := by rw [decide_eq_true_eq]; omega
  have t4 : decide ((c : Int) ≤ 90) = false := by rw [decide_eq_false_iff_not]; omega
  have n4 : decide (c ≤ 90) = false := by rw [decide_eq_false_iff_not]; omega
  have t5 : decide (48 ≤ (c : Int)) = true := by rw [decide_eq_true_eq]; omega
  have n5 : decide (48 ≤ c) = true := by rw [decide_eq_true_eq]; omega
  have t6 : decide ((c : Int) ≤ 57) = false := by rw [decide_eq_false_iff_not]; omega
  have n6 : decide (c ≤ 57) = false := by rw [decide_eq_false_iff_not]; omega
  have t7 : decide (192 ≤ (c : Int)) = true := by rw [decide_eq_true_eq]; omega
  have n7 : decide (192 ≤ c) = true := by rw [decide_eq_true_eq]; omega
  have t8 : decide ((c : Int) ≤ 591) = true := by rw [decide_eq_true_eq]; omega
  have n8 : decide (c ≤ 591) = true := by rw [decide_eq_true_eq]; omega
  have t9 : decide (880 ≤ (c : Int)) = false := by rw [decide_eq_false_iff_not]; omega
  have n9 : decide (880 ≤ c) = false := by rw [decide_eq_false_iff_not]; omega
  have t10 : decide ((c : Int) ≤ 1279) = true := by rw [decide_eq_true_eq]; omega
  have n10 : decide (c ≤ 1279) = true := by rw [decide_eq_true_eq]; omega
  have t11 : decide (19968 ≤ (c : Int)) = false := by rw [decide_eq_false_iff_not]; omega
  have n11 : decide (19968 ≤ c) = false := by rw [decide_eq_false_iff_not]; omega
  have t12 : decide ((c : Int) ≤ 40959) = true := by rw [decide_eq_true_eq]; omega
  have n12 : decide (c ≤ 40959) = true := by rw [decide_eq_true_eq]; omega
  have t13 : ((c : Int) == 45) = false := by rw [beq_eq_false_iff_ne]; omega
  have t14 : ((c : Int) == 95) = false := by rw [beq_eq_false_iff_ne]; omega
  have t15 : ((c : Int) == 46) = false := by rw [beq_eq_false_iff_ne]; omega
  have t16 : ((c : Int) == 47) = false := by rw [beq_eq_false_iff_ne]; omega
  have t17 : ((c : Int) != 215) = true := by rw [bne_iff_ne]; omega
  have t18 : ((c : Int) != 247) = true := by rw [bne_iff_ne]; omega
  clear h1 h2
  go_enter Tryz.func62, Tryz.ntmps62
  go_wp2_with fail
  all_goals go_ret
  all_goals exact ⟨rb HL.out, rfl⟩
set_option maxRecDepth 100000 in
set_option maxHeartbeats 3000000 in
theorem rletter_17 (c : Nat) (h1 : 592 ≤ c) (h2 : c ≤ 879) (w : World) :
    Calls Tryz.prog 62 #[.int .i64 c] w fun e w' => e = .returned (.bool (letter c)) ∧ w' = w := by
  have HL := Lib.hid (letter_no2 c (by omega))
  have t1 : decide (97 ≤ (c : Int)) = true := by rw [decide_eq_true_eq]; omega
  have n1 : decide (97 ≤ c) = true := by rw [decide_eq_true_eq]; omega
  have t2 : decide ((c : Int) ≤ 122) = false := by rw [decide_eq_false_iff_not]; omega
  have n2 : decide (c ≤ 122) = false := by rw [decide_eq_false_iff_not]; omega
  have t3 : decide (65 ≤ (c : Int)) = true := by rw [decide_eq_true_eq]; omega
  have n3 : decide (65 ≤ c) = true := by rw [decide_eq_true_eq]; omega
  have t4 : decide ((c : Int) ≤ 90) = false := by rw [decide_eq_false_iff_not]; omega
  have n4 : decide (c ≤ 90) = false := by rw [decide_eq_false_iff_not]; omega
  have t5 : decide (48 ≤ (c : Int)) = true := by rw [decide_eq_true_eq]; omega
  have n5 : decide (48 ≤ c) = true := by rw [decide_eq_true_eq]; omega
  have t6 : decide ((c : Int) ≤ 57) = false := by rw [decide_eq_false_iff_not]; omega
  have n6 : decide (c ≤ 57) = false := by rw [decide_eq_false_iff_not]; omega
  have t7 : decide (192 ≤ (c : Int)) = true := by rw [decide_eq_true_eq]; omega
  have n7 : decide (192 ≤ c) = true := by rw [decide_eq_true_eq]; omega
  have t8 : decide ((c : Int) ≤ 591) = false := by rw [decide_eq_false_iff_not]; omega
  have n8 : decide (c ≤ 591) = false := by rw [decide_eq_false_iff_not]; omega
  have t9 : decide (880 ≤ (c : Int)) = false := by rw [decide_eq_false_iff_not]; omega
  have n9 : decide (880 ≤ c) = false := by rw [decide_eq_false_iff_not]; omega
  have t10 : decide ((c : Int) ≤ 1279) = true := by rw [decide_eq_true_eq]; omega
  have n10 : decide (c ≤ 1279) = true := by rw [decide_eq_true_eq]; omega
  have t11 : decide (19968 ≤ (c : Int)) = false := by rw [decide_eq_false_iff_not]; omega
  have n11 : decide (19968 ≤ c) = false := by rw [decide_eq_false_iff_not]; omega
  have t12 : decide ((c : Int) ≤ 40959) = true := by rw [decide_eq_true_eq]; omega
  have n12 : decide (c ≤ 40959) = true := by rw [decide_eq_true_eq]; omega
  have t13 : ((c : Int) == 45) = false := by rw [beq_eq_false_iff_ne]; omega
  have t14 : ((c : Int) == 95) = false := by rw [beq_eq_false_iff_ne]; omega
  have t15 : ((c : Int) == 46) = false := by rw [beq_eq_false_iff_ne]; omega
  have t16 : ((c : Int) == 47) = false := by rw [beq_eq_false_iff_ne]; omega
  have t17 : ((c : Int) != 215) = true := by rw [bne_iff_ne]; omega
  have t18 : ((c : Int) != 247) = true := by rw [bne_iff_ne]; omega
  clear h1 h2
  go_enter Tryz.func62, Tryz.ntmps62
  go_wp2_with fail
  all_goals go_ret
  all_goals exact ⟨rb HL.out, rfl⟩
set_option maxRecDepth 100000 in
set_option maxHeartbeats 3000000 in
theorem rletter_18 (c : Nat) (h1 : 880 ≤ c) (h2 : c ≤ 1279) (w : World) :
    Calls Tryz.prog 62 #[.int .i64 c] w fun e w' => e = .returned (.bool (letter c)) ∧ w' = w := by
  have HL := Lib.hid (letter_yes2 c (by omega))
  have t1 : decide (97 ≤ (c : Int)) = true := by rw [decide_eq_true_eq]; omega
  have n1 : decide (97 ≤ c) = true := by rw [decide_eq_true_eq]; omega
  have t2 : decide ((c : Int) ≤ 122) = false := by rw [decide_eq_false_iff_not]; omega
  have n2 : decide (c ≤ 122) = false := by rw [decide_eq_false_iff_not]; omega
  have t3 : decide (65 ≤ (c : Int)) = true := by rw [decide_eq_true_eq]; omega
  have n3 : decide (65 ≤ c) = true := by rw [decide_eq_true_eq]; omega
  have t4 : decide ((c : Int) ≤ 90) = false := by rw [decide_eq_false_iff_not]; omega
  have n4 : decide (c ≤ 90) = false := by rw [decide_eq_false_iff_not]; omega
  have t5 : decide (48 ≤ (c : Int)) = true := by rw [decide_eq_true_eq]; omega
  have n5 : decide (48 ≤ c) = true := by rw [decide_eq_true_eq]; omega
  have t6 : decide ((c : Int) ≤ 57) = false := by rw [decide_eq_false_iff_not]; omega
  have n6 : decide (c ≤ 57) = false := by rw [decide_eq_false_iff_not]; omega
  have t7 : decide (192 ≤ (c : Int)) = true := by rw [decide_eq_true_eq]; omega
  have n7 : decide (192 ≤ c) = true := by rw [decide_eq_true_eq]; omega
  have t8 : decide ((c : Int) ≤ 591) = false := by rw [decide_eq_false_iff_not]; omega
  have n8 : decide (c ≤ 591) = false := by rw [decide_eq_false_iff_not]; omega
  have t9 : decide (880 ≤ (c : Int)) = true := by rw [decide_eq_true_eq]; omega
  have n9 : decide (880 ≤ c) = true := by rw [decide_eq_true_eq]; omega
  have t10 : decide ((c : Int) ≤ 1279) = true := by rw [decide_eq_true_eq]; omega
  have n10 : decide (c ≤ 1279) = true := by rw [decide_eq_true_eq]; omega
  have t11 : decide (19968 ≤ (c : Int)) = false := by rw [decide_eq_false_iff_not]; omega
  have n11 : decide (19968 ≤ c) = false := by rw [decide_eq_false_iff_not]; omega
  have t12 : decide ((c : Int) ≤ 40959) = true := by rw [decide_eq_true_eq]; omega
  have n12 : decide (c ≤ 40959) = true := by rw [decide_eq_true_eq]; omega
  have t13 : ((c : Int) == 45) = false := by rw [beq_eq_false_iff_ne]; omega
  have t14 : ((c : Int) == 95) = false := by rw [beq_eq_false_iff_ne]; omega
  have t15 : ((c : Int) == 46) = false := by rw [beq_eq_false_iff_ne]; omega
  have t16 : ((c : Int) == 47) = false := by rw [beq_eq_false_iff_ne]; omega
  have t17 : ((c : Int) != 215) = true := by rw [bne_iff_ne]; omega
  have t18 : ((c : Int) != 247) = true := by rw [bne_iff_ne]; omega
  clear h1 h2
  go_enter Tryz.func62, Tryz.ntmps62
  go_wp2_with fail
  all_goals go_ret
  all_goals exact ⟨rb HL.out, rfl⟩
set_option maxRecDepth 100000 in
set_option maxHeartbeats 3000000 in
theorem rletter_19 (c : Nat) (h1 : 1280 ≤ c) (h2 : c ≤ 19967) (w : World) :
    Calls Tryz.prog 62 #[.int .i64 c] w fun e w' => e = .returned (.bool (letter c)) ∧ w' = w := by
  have HL := Lib.hid (letter_no2 c (by omega))
  have t1 : decide (97 ≤ (c : Int)) = true := by rw [decide_eq_true_eq]; omega
  have n1 : decide (97 ≤ c) = true := by rw [decide_eq_true_eq]; omega
  have t2 : decide ((c : Int) ≤ 122) = false := by rw [decide_eq_false_iff_not]; omega
  have n2 : decide (c ≤ 122) = false := by rw [decide_eq_false_iff_not]; omega
  have t3 : decide (65 ≤ (c : Int)) = true := by rw [decide_eq_true_eq]; omega
  have n3 : decide (65 ≤ c) = true := by rw [decide_eq_true_eq]; omega
  have t4 : decide ((c : Int) ≤ 90) = false := by rw [decide_eq_false_iff_not]; omega
  have n4 : decide (c ≤ 90) = false := by rw [decide_eq_false_iff_not]; omega
  have t5 : decide (48 ≤ (c : Int)) = true := by rw [decide_eq_true_eq]; omega
  have n5 : decide (48 ≤ c) = true := by rw [decide_eq_true_eq]; omega
  have t6 : decide ((c : Int) ≤ 57) = false := by rw [decide_eq_false_iff_not]; omega
  have n6 : decide (c ≤ 57) = false := by rw [decide_eq_false_iff_not]; omega
  have t7 : decide (192 ≤ (c : Int)) = true := by rw [decide_eq_true_eq]; omega
  have n7 : decide (192 ≤ c) = true := by rw [decide_eq_true_eq]; omega
  have t8 : decide ((c : Int) ≤ 591) = false := by rw [decide_eq_false_iff_not]; omega
  have n8 : decide (c ≤ 591) = false := by rw [decide_eq_false_iff_not]; omega
  have t9 : decide (880 ≤ (c : Int)) = true := by rw [decide_eq_true_eq]; omega
  have n9 : decide (880 ≤ c) = true := by rw [decide_eq_true_eq]; omega
  have t10 : decide ((c : Int) ≤ 1279) = false := by rw [decide_eq_false_iff_not]; omega
  have n10 : decide (c ≤ 1279) = false := by rw [decide_eq_false_iff_not]; omega
  have t11 : decide (19968 ≤ (c : Int)) = false := by rw [decide_eq_false_iff_not]; omega
  have n11 : decide (19968 ≤ c) = false := by rw [decide_eq_false_iff_not]; omega
  have t12 : decide ((c : Int) ≤ 40959) = true := by rw [decide_eq_true_eq]; omega
  have n12 : decide (c ≤ 40959) = true := by rw [decide_eq_true_eq]; omega
  have t13 : ((c : Int) == 45) = false := by rw [beq_eq_false_iff_ne]; omega
  have t14 : ((c : Int) == 95) = false := by rw [beq_eq_false_iff_ne]; omega
  have t15 : ((c : Int) == 46) = false := by rw [beq_eq_false_iff_ne]; omega
  have t16 : ((c : Int) == 47) = false := by rw [beq_eq_false_iff_ne]; omega
  have t17 : ((c : Int) != 215) = true := by rw [bne_iff_ne]; omega
  have t18 : ((c : Int) != 247) = true := by rw [bne_iff_ne]; omega
  clear h1 h2
  go_enter Tryz.func62, Tryz.ntmps62
  go_wp2_with fail
  all_goals go_ret
  all_goals exact ⟨rb HL.out, rfl⟩
set_option maxRecDepth 100000 in
set_option maxHeartbeats 3000000 in
theorem rletter_20 (c : Nat) (h1 : 19968 ≤ c) (h2 : c ≤ 40959) (w : World) :
    Calls Tryz.prog 62 #[.int .i64 c] w fun e w' => e = .returned (.bool (letter c)) ∧ w' = w := by
  have HL := Lib.hid (letter_yes2 c (by omega))
  have t1 : decide (97 ≤ (c : Int)) = true := by rw [decide_eq_true_eq]; omega
  have n1 : decide (97 ≤ c) = true := by rw [decide_eq_true_eq]; omega
  have t2 : decide ((c : Int) ≤ 122) = false := by rw [decide_eq_false_iff_not]; omega
  have n2 : decide (c ≤ 122) = false := by rw [decide_eq_false_iff_not]; omega
  have t3 : decide (65 ≤ (c : Int)) = true := by rw [decide_eq_true_eq]; omega
  have n3 : decide (65 ≤ c) = true := by rw [decide_eq_true_eq]; omega
  have t4 : decide ((c : Int) ≤ 90) = false := by rw [decide_eq_false_iff_not]; omega
  have n4 : decide (c ≤ 90) = false := by rw [decide_eq_false_iff_not]; omega
  have t5 : decide (48 ≤ (c : Int)) = true := by rw [decide_eq_true_eq]; omega
  have n5 : decide (48 ≤ c) = true := by rw [decide_eq_true_eq]; omega
  have t6 : decide ((c : Int) ≤ 57) = false := by rw [decide_eq_false_iff_not]; omega
  have n6 : decide (c ≤ 57) = false := by rw [decide_eq_false_iff_not]; omega
  have t7 : decide (192 ≤ (c : Int)) = true := by rw [decide_eq_true_eq]; omega
  have n7 : decide (192 ≤ c) = true := by rw [decide_eq_true_eq]; omega
  have t8 : decide ((c : Int) ≤ 591) = false := by rw [decide_eq_false_iff_not]; omega
  have n8 : decide (c ≤ 591) = false := by rw [decide_eq_false_iff_not]; omega
  have t9 : decide (880 ≤ (c : Int)) = true := by rw [decide_eq_true_eq]; omega
  have n9 : decide (880 ≤ c) = true := by rw [decide_eq_true_eq]; omega
  have t10 : decide ((c : Int) ≤ 1279) = false := by rw [decide_eq_false_iff_not]; omega
  have n10 : decide (c ≤ 1279) = false := by rw [decide_eq_false_iff_not]; omega
  have t11 : decide (19968 ≤ (c : Int)) = true := by rw [decide_eq_true_eq]; omega
  have n11 : decide (19968 ≤ c) = true := by rw [decide_eq_true_eq]; omega
  have t12 : decide ((c : Int) ≤ 40959) = true := by rw [decide_eq_true_eq]; omega
  have n12 : decide (c ≤ 40959) = true := by rw [decide_eq_true_eq]; omega
  have t13 : ((c : Int) == 45) = false := by rw [beq_eq_false_iff_ne]; omega
  have t14 : ((c : Int) == 95) = false := by rw [beq_eq_false_iff_ne]; omega
  have t15 : ((c : Int) == 46) = false := by rw [beq_eq_false_iff_ne]; omega
  have t16 : ((c : Int) == 47) = false := by rw [beq_eq_false_iff_ne]; omega
  have t17 : ((c : Int) != 215) = true := by rw [bne_iff_ne]; omega
  have t18 : ((c : Int) != 247) = true := by rw [bne_iff_ne]; omega
  clear h1 h2
  go_enter Tryz.func62, Tryz.ntmps62
  go_wp2_with fail
  all_goals go_ret
  all_goals exact ⟨rb HL.out, rfl⟩
set_option maxRecDepth 100000 in
set_option maxHeartbeats 3000000 in
theorem rletter_21 (c : Nat) (h1 : 40960 ≤ c) (h2 : c ≤ 2000000) (w : World) :
    Calls Tryz.prog 62 #[.int .i64 c] w fun e w' => e = .returned (.bool (letter c)) ∧ w' = w := by
  have HL := Lib.hid (letter_no2 c (by omega))
  have t1 : decide (97 ≤ (c : Int)) = true := by rw [decide_eq_true_eq]; omega
  have n1 : decide (97 ≤ c) = true := by rw [decide_eq_true_eq]; omega
  have t2 : decide ((c : Int) ≤ 122) = false := by rw [decide_eq_false_iff_not]; omega
  have n2 : decide (c ≤ 122) = false := by rw [decide_eq_false_iff_not]; omega
  have t3 : decide (65 ≤ (c : Int)) = true := by rw [decide_eq_true_eq]; omega
  have n3 : decide (65 ≤ c) = true := by rw [decide_eq_true_eq]; omega
  have t4 : decide ((c : Int) ≤ 90) = false := by rw [decide_eq_false_iff_not]; omega
  have n4 : decide (c ≤ 90) = false := by rw [decide_eq_false_iff_not]; omega
  have t5 : decide (48 ≤ (c : Int)) = true := by rw [decide_eq_true_eq]; omega
  have n5 : decide (48 ≤ c) = true := by rw [decide_eq_true_eq]; omega
  have t6 : decide ((c : Int) ≤ 57) = false := by rw [decide_eq_false_iff_not]; omega
  have n6 : decide (c ≤ 57) = false := by rw [decide_eq_false_iff_not]; omega
  have t7 : decide (192 ≤ (c : Int)) = true := by rw [decide_eq_true_eq]; omega
  have n7 : decide (192 ≤ c) = true := by rw [decide_eq_true_eq]; omega
  have t8 : decide ((c : Int) ≤ 591) = false := by rw [decide_eq_false_iff_not]; omega
  have n8 : decide (c ≤ 591) = false := by rw [decide_eq_false_iff_not]; omega
  have t9 : decide (880 ≤ (c : Int)) = true := by rw [decide_eq_true_eq]; omega
  have n9 : decide (880 ≤ c) = true := by rw [decide_eq_true_eq]; omega
  have t10 : decide ((c : Int) ≤ 1279) = false := by rw [decide_eq_false_iff_not]; omega
  have n10 : decide (c ≤ 1279) = false := by rw [decide_eq_false_iff_not]; omega
  have t11 : decide (19968 ≤ (c : Int)) = true := by rw [decide_eq_true_eq]; omega
  have n11 : decide (19968 ≤ c) = true := by rw [decide_eq_true_eq]; omega
  have t12 : decide ((c : Int) ≤ 40959) = false := by rw [decide_eq_false_iff_not]; omega
  have n12 : decide (c ≤ 40959) = false := by rw [decide_eq_false_iff_not]; omega
  have t13 : ((c : Int) == 45) = false := by rw [beq_eq_false_iff_ne]; omega
  have t14 : ((c : Int) == 95) = false := by rw [beq_eq_false_iff_ne]; omega
  have t15 : ((c : Int) == 46) = false := by rw [beq_eq_false_iff_ne]; omega
  have t16 : ((c : Int) == 47) = false := by rw [beq_eq_false_iff_ne]; omega
  have t17 : ((c : Int) != 215) = true := by rw [bne_iff_ne]; omega
  have t18 : ((c : Int) != 247) = true := by rw [bne_iff_ne]; omega
  clear h1 h2
  go_enter Tryz.func62, Tryz.ntmps62
  go_wp2_with fail
  all_goals go_ret
  all_goals exact ⟨rb HL.out, rfl⟩
end Go.Proofs.YtihoohhngiomdaaGreatDoor
