/- Contract of aquref1.letter. No statement of the seat is proved here. -/
import Derived.Test.YtihoohhngiomdaaGreatDoorWordAll
set_option linter.unusedVariables false
namespace Go.Proofs.YtihoohhngiomdaaGreatDoor
open Go.RowKit Go.Aq Go.Aq.Wd
theorem letter_iff (c : Nat) : letter c = true ↔ (((97 ≤ c ∧ c ≤ 122) ∨ (65 ≤ c ∧ c ≤ 90) ∨ (48 ≤ c ∧ c ≤ 57) ∨ c = 45 ∨ c = 95 ∨ c = 46 ∨ c = 47 ∨ (192 ≤ c ∧ c ≤ 591 ∧ c ≠ 215 ∧ c ≠ 247) ∨ (880 ≤ c ∧ c ≤ 1279) ∨ (19968 ≤ c ∧ c ≤ 40959))) := by
  simp only [letter, Bool.or_eq_true, Bool.and_eq_true, decide_eq_true_eq, beq_iff_eq, bne_iff_ne, ne_eq]; omega
theorem letter_yes (c : Nat) (h : (((97 ≤ c ∧ c ≤ 122) ∨ (65 ≤ c ∧ c ≤ 90) ∨ (48 ≤ c ∧ c ≤ 57) ∨ c = 45 ∨ c = 95 ∨ c = 46 ∨ c = 47 ∨ (192 ≤ c ∧ c ≤ 591 ∧ c ≠ 215 ∧ c ≠ 247) ∨ (880 ≤ c ∧ c ≤ 1279) ∨ (19968 ≤ c ∧ c ≤ 40959)))) : true = letter c := ((letter_iff c).2 h).symm
theorem letter_no (c : Nat) (h : ¬ (((97 ≤ c ∧ c ≤ 122) ∨ (65 ≤ c ∧ c ≤ 90) ∨ (48 ≤ c ∧ c ≤ 57) ∨ c = 45 ∨ c = 95 ∨ c = 46 ∨ c = 47 ∨ (192 ≤ c ∧ c ≤ 591 ∧ c ≠ 215 ∧ c ≠ 247) ∨ (880 ≤ c ∧ c ≤ 1279) ∨ (19968 ≤ c ∧ c ≤ 40959)))) : false = letter c := (Bool.eq_false_iff.2 fun h2 => h ((letter_iff c).1 h2)).symm
set_option maxRecDepth 100000 in
set_option maxHeartbeats 3000000 in
theorem rletter_0 (c : Nat) (h1 : 0 ≤ c) (h2 : c ≤ 44) (w : World) :
    Calls Tryz.prog 62 #[.int .i64 c] w fun e w' => e = .returned (.bool (letter c)) ∧ w' = w := by
  have HL := Lib.hid (letter_no c (by omega))
  have t1 : decide (97 ≤ (c : Int)) = false := by rw [decide_eq_false_iff_not]; omega
  have n1 : decide (97 ≤ c) = false := by rw [decide_eq_false_iff_not]; omega
  have t2 : decide ((c : Int) ≤ 122) = true := by rw [decide_eq_true_eq]; omega
  have n2 : decide (c ≤ 122) = true := by rw [decide_eq_true_eq]; omega
  have t3 : decide (65 ≤ (c : Int)) = false := by rw [decide_eq_false_iff_not]; omega
  have n3 : decide (65 ≤ c) = false := by rw [decide_eq_false_iff_not]; omega
  have t4 : decide ((c : Int) ≤ 90) = true := by rw [decide_eq_true_eq]; omega
  have n4 : decide (c ≤ 90) = true := by rw [decide_eq_true_eq]; omega
  have t5 : decide (48 ≤ (c : Int)) = false := by rw [decide_eq_false_iff_not]; omega
  have n5 : decide (48 ≤ c) = false := by rw [decide_eq_false_iff_not]; omega
  have t6 : decide ((c : Int) ≤ 57) = true := by rw [decide_eq_true_eq]; omega
  have n6 : decide (c ≤ 57) = true := by rw [decide_eq_true_eq]; omega
  have t7 : decide (192 ≤ (c : Int)) = false := by rw [decide_eq_false_iff_not]; omega
  have n7 : decide (192 ≤ c) = false := by rw [decide_eq_false_iff_not]; omega
  have t8 : decide ((c : Int) ≤ 591) = true := by rw [decide_eq_true_eq]; omega
  have n8 : decide (c ≤ 591) = true := by rw [decide_eq_true_eq]; omega
  have t9 : decide (880 ≤ (c : Int)) = false := by rw [decide_eq_false_iff_not]; omega
  have n9 : decide (880 ≤ c) = false := by rw [decide_eq_false_iff_not]; omega
  have t10 : decide ((c : Int) ≤ 1279) = true := by rw [decide_eq_true_eq]; omega
  have n10 : decide (c ≤ 1279) = true := by rw [decide_eq_true_eq]; omega
  have t11 : decide (19968 ≤ (c : Int)) = false := by rw [decide_eq_false_iff_not]; omega
  have n11 : decide (19968 ≤ c) = false := by rw [decide_eq_false_iff_not]; omega
  have t12 : decide ((c : Int) ≤ 40959) = true := by rw [decide_eq_true_eq]; omega
  have n12 : decide (c ≤ 40959) = true := by rw [decide_eq_true_eq]; omega
  have t13 : ((c : Int) == 45) = false := by rw [beq_eq_false_iff_ne]; omega
  have t14 : ((c : Int) == 95) = false := by rw [beq_eq_false_iff_ne]; omega
  have t15 : ((c : Int) == 46) = false := by rw [beq_eq_false_iff_ne]; omega
  have t16 : ((c : Int) == 47) = false := by rw [beq_eq_false_iff_ne]; omega
  have t17 : ((c : Int) != 215) = true := by rw [bne_iff_ne]; omega
  have t18 : ((c : Int) != 247) = true := by rw [bne_iff_ne]; omega
  clear h1 h2
  go_enter Tryz.func62, Tryz.ntmps62
  go_wp2_with fail
  all_goals go_ret
  all_goals exact ⟨rb HL.out, rfl⟩
set_option maxRecDepth 100000 in
set_option maxHeartbeats 3000000 in
theorem rletter_1 (c : Nat) (h1 : 45 ≤ c) (h2 : c ≤ 45) (w : World) :
    Calls Tryz.prog 62 #[.int .i64 c] w fun e w' => e = .returned (.bool (letter c)) ∧ w' = w := by
  have HL := Lib.hid (letter_yes c (by omega))
  have t1 : decide (97 ≤ (c : Int)) = false := by rw [decide_eq_false_iff_not]; omega
  have n1 : decide (97 ≤ c) = false := by rw [decide_eq_false_iff_not]; omega
  have t2 : decide ((c : Int) ≤ 122) = true := by rw [decide_eq_true_eq]; omega
  have n2 : decide (c ≤ 122) = true := by rw [decide_eq_true_eq]; omega
  have t3 : decide (65 ≤ (c : Int)) = false := by rw [decide_eq_false_iff_not]; omega
  have n3 : decide (65 ≤ c) = false := by rw [decide_eq_false_iff_not]; omega
  have t4 : decide ((c : Int) ≤ 90) = true := by rw [decide_eq_true_eq]; omega
  have n4 : decide (c ≤ 90) = true := by rw [decide_eq_true_eq]; omega
  have t5 : decide (48 ≤ (c : Int)) = false := by rw [decide_eq_false_iff_not]; omega
  have n5 : decide (48 ≤ c) = false := by rw [decide_eq_false_iff_not]; omega
  have t6 : decide ((c : Int) ≤ 57) = true := by rw [decide_eq_true_eq]; omega
  have n6 : decide (c ≤ 57) = true := by rw [decide_eq_true_eq]; omega
  have t7 : decide (192 ≤ (c : Int)) = false := by rw [decide_eq_false_iff_not]; omega
  have n7 : decide (192 ≤ c) = false := by rw [decide_eq_false_iff_not]; omega
  have t8 : decide ((c : Int) ≤ 591) = true := by rw [decide_eq_true_eq]; omega
  have n8 : decide (c ≤ 591) = true := by rw [decide_eq_true_eq]; omega
  have t9 : decide (880 ≤ (c : Int)) = false := by rw [decide_eq_false_iff_not]; omega
  have n9 : decide (880 ≤ c) = false := by rw [decide_eq_false_iff_not]; omega
  have t10 : decide ((c : Int) ≤ 1279) = true := by rw [decide_eq_true_eq]; omega
  have n10 : decide (c ≤ 1279) = true := by rw [decide_eq_true_eq]; omega
  have t11 : decide (19968 ≤ (c : Int)) = false := by rw [decide_eq_false_iff_not]; omega
  have n11 : decide (19968 ≤ c) = false := by rw [decide_eq_false_iff_not]; omega
  have t12 : decide ((c : Int) ≤ 40959) = true := by rw [decide_eq_true_eq]; omega
  have n12 : decide (c ≤ 40959) = true := by rw [decide_eq_true_eq]; omega
  have t13 : ((c : Int) == 45) = true := by rw [beq_iff_eq]; omega
  have t14 : ((c : Int) == 95) = false := by rw [beq_eq_false_iff_ne]; omega
  have t15 : ((c : Int) == 46) = false := by rw [beq_eq_false_iff_ne]; omega
  have t16 : ((c : Int) == 47) = false := by rw [beq_eq_false_iff_ne]; omega
  have t17 : ((c : Int) != 215) = true := by rw [bne_iff_ne]; omega
  have t18 : ((c : Int) != 247) = true := by rw [bne_iff_ne]; omega
  clear h1 h2
  go_enter Tryz.func62, Tryz.ntmps62
  go_wp2_with fail
  all_goals go_ret
  all_goals exact ⟨rb HL.out, rfl⟩
set_option maxRecDepth 100000 in
set_option maxHeartbeats 3000000 in
theorem rletter_2 (c : Nat) (h1 : 46 ≤ c) (h2 : c ≤ 46) (w : World) :
    Calls Tryz.prog 62 #[.int .i64 c] w fun e w' => e = .returned (.bool (letter c)) ∧ w' = w := by
  have HL := Lib.hid (letter_yes c (by omega))
  have t1 : decide (97 ≤ (c : Int)) = false := by rw [decide_eq_false_iff_not]; omega
  have n1 : decide (97 ≤ c) = false := by rw [decide_eq_false_iff_not]; omega
  have t2 : decide ((c : Int) ≤ 122) = true := by rw [decide_eq_true_eq]; omega
  have n2 : decide (c ≤ 122) = true := by rw [decide_eq_true_eq]; omega
  have t3 : decide (65 ≤ (c : Int)) = false := by rw [decide_eq_false_iff_not]; omega
  have n3 : decide (65 ≤ c) = false := by rw [decide_eq_false_iff_not]; omega
  have t4 : decide ((c : Int) ≤ 90) = true := by rw [decide_eq_true_eq]; omega
  have n4 : decide (c ≤ 90) = true := by rw [decide_eq_true_eq]; omega
  have t5 : decide (48 ≤ (c : Int)) = false := by rw [decide_eq_false_iff_not]; omega
  have n5 : decide (48 ≤ c) = false := by rw [decide_eq_false_iff_not]; omega
  have t6 : decide ((c : Int) ≤ 57) = true := by rw [decide_eq_true_eq]; omega
  have n6 : decide (c ≤ 57) = true := by rw [decide_eq_true_eq]; omega
  have t7 : decide (192 ≤ (c : Int)) = false := by rw [decide_eq_false_iff_not]; omega
  have n7 : decide (192 ≤ c) = false := by rw [decide_eq_false_iff_not]; omega
  have t8 : decide ((c : Int) ≤ 591) = true := by rw [decide_eq_true_eq]; omega
  have n8 : decide (c ≤ 591) = true := by rw [decide_eq_true_eq]; omega
  have t9 : decide (880 ≤ (c : Int)) = false := by rw [decide_eq_false_iff_not]; omega
  have n9 : decide (880 ≤ c) = false := by rw [decide_eq_false_iff_not]; omega
  have t10 : decide ((c : Int) ≤ 1279) = true := by rw [decide_eq_true_eq]; omega
  have n10 : decide (c ≤ 1279) = true := by rw [decide_eq_true_eq]; omega
  have t11 : decide (19968 ≤ (c : Int)) = false := by rw [decide_eq_false_iff_not]; omega
  have n11 : decide (19968 ≤ c) = false := by rw [decide_eq_false_iff_not]; omega
  have t12 : decide ((c : Int) ≤ 40959) = true := by rw [decide_eq_true_eq]; omega
  have n12 : decide (c ≤ 40959) = true := by rw [decide_eq_true_eq]; omega
  have t13 : ((c : Int) == 45) = false := by rw [beq_eq_false_iff_ne]; omega
  have t14 : ((c : Int) == 95) = false := by rw [beq_eq_false_iff_ne]; omega
  have t15 : ((c : Int) == 46) = true := by rw [beq_iff_eq]; omega
  have t16 : ((c : Int) == 47) = false := by rw [beq_eq_false_iff_ne]; omega
  have t17 : ((c : Int) != 215) = true := by rw [bne_iff_ne]; omega
  have t18 : ((c : Int) != 247) = true := by rw [bne_iff_ne]; omega
  clear h1 h2
  go_enter Tryz.func62, Tryz.ntmps62
  go_wp2_with fail
  all_goals go_ret
  all_goals exact ⟨rb HL.out, rfl⟩
set_option maxRecDepth 100000 in
set_option maxHeartbeats 3000000 in
theorem rletter_3 (c : Nat) (h1 : 47 ≤ c) (h2 : c ≤ 47) (w : World) :
    Calls Tryz.prog 62 #[.int .i64 c] w fun e w' => e = .returned (.bool (letter c)) ∧ w' = w := by
  have HL := Lib.hid (letter_yes c (by omega))
  have t1 : decide (97 ≤ (c : Int)) = false := by rw [decide_eq_false_iff_not]; omega
  have n1 : decide (97 ≤ c) = false := by rw [decide_eq_false_iff_not]; omega
  have t2 : decide ((c : Int) ≤ 122) = true := by rw [decide_eq_true_eq]; omega
  have n2 : decide (c ≤ 122) = true := by rw [decide_eq_true_eq]; omega
  have t3 : decide (65 ≤ (c : Int)) = false := by rw [decide_eq_false_iff_not]; omega
  have n3 : decide (65 ≤ c) = false := by rw [decide_eq_false_iff_not]; omega
  have t4 : decide ((c : Int) ≤ 90) = true := by rw [decide_eq_true_eq]; omega
  have n4 : decide (c ≤ 90) = true := by rw [decide_eq_true_eq]; omega
  have t5 : decide (48 ≤ (c : Int)) = false := by rw [decide_eq_false_iff_not]; omega
  have n5 : decide (48 ≤ c) = false := by rw [decide_eq_false_iff_not]; omega
  have t6 : decide ((c : Int) ≤ 57) = true := by rw [decide_eq_true_eq]; omega
  have n6 : decide (c ≤ 57) = true := by rw [decide_eq_true_eq]; omega
  have t7 : decide (192 ≤ (c : Int)) = false := by rw [decide_eq_false_iff_not]; omega
  have n7 : decide (192 ≤ c) = false := by rw [decide_eq_false_iff_not]; omega
  have t8 : decide ((c : Int) ≤ 591) = true := by rw [decide_eq_true_eq]; omega
  have n8 : decide (c ≤ 591) = true := by rw [decide_eq_true_eq]; omega
  have t9 : decide (880 ≤ (c : Int)) = false := by rw [decide_eq_false_iff_not]; omega
  have n9 : decide (880 ≤ c) = false := by rw [decide_eq_false_iff_not]; omega
  have t10 : decide ((c : Int) ≤ 1279) = true := by rw [decide_eq_true_eq]; omega
  have n10 : decide (c ≤ 1279) = true := by rw [decide_eq_true_eq]; omega
  have t11 : decide (19968 ≤ (c : Int)) = false := by rw [decide_eq_false_iff_not]; omega
  have n11 : decide (19968 ≤ c) = false := by rw [decide_eq_false_iff_not]; omega
  have t12 : decide ((c : Int) ≤ 40959) = true := by rw [decide_eq_true_eq]; omega
  have n12 : decide (c ≤ 40959) = true := by rw [decide_eq_true_eq]; omega
  have t13 : ((c : Int) == 45) = false := by rw [beq_eq_false_iff_ne]; omega
  have t14 : ((c : Int) == 95) = false := by rw [beq_eq_false_iff_ne]; omega
  have t15 : ((c : Int) == 46) = false := by rw [beq_eq_false_iff_ne]; omega
  have t16 : ((c : Int) == 47) = true := by rw [beq_iff_eq]; omega
  have t17 : ((c : Int) != 215) = true := by rw [bne_iff_ne]; omega
  have t18 : ((c : Int) != 247) = true := by rw [bne_iff_ne]; omega
  clear h1 h2
  go_enter Tryz.func62, Tryz.ntmps62
  go_wp2_with fail
  all_goals go_ret
  all_goals exact ⟨rb HL.out, rfl⟩
set_option maxRecDepth 100000 in
set_option maxHeartbeats 3000000 in
theorem rletter_4 (c : Nat) (h1 : 48 ≤ c) (h2 : c ≤ 57) (w : World) :
    Calls Tryz.prog 62 #[.int .i64 c] w fun e w' => e = .returned (.bool (letter c)) ∧ w' = w := by
  have HL := Lib.hid (letter_yes c (by omega))
  have t1 : decide (97 ≤ (c : Int)) = false := by rw [decide_eq_false_iff_not]; omega
  have n1 : decide (97 ≤ c) = false := by rw [decide_eq_false_iff_not]; omega
  have t2 : decide ((c : Int) ≤ 122) = true := by rw [decide_eq_true_eq]; omega
  have n2 : decide (c ≤ 122) = true := by rw [decide_eq_true_eq]; omega
  have t3 : decide (65 ≤ (c : Int)) = false := by rw [decide_eq_false_iff_not]; omega
  have n3 : decide (65 ≤ c) = false := by rw [decide_eq_false_iff_not]; omega
  have t4 : decide ((c : Int) ≤ 90) = true := by rw [decide_eq_true_eq]; omega
  have n4 : decide (c ≤ 90) = true := by rw [decide_eq_true_eq]; omega
  have t5 : decide (48 ≤ (c : Int)) = true := by rw [decide_eq_true_eq]; omega
  have n5 : decide (48 ≤ c) = true := by rw [decide_eq_true_eq]; omega
  have t6 : decide ((c : Int) ≤ 57) = true := by rw [decide_eq_true_eq]; omega
  have n6 : decide (c ≤ 57) = true := by rw [decide_eq_true_eq]; omega
  have t7 : decide (192 ≤ (c : Int)) = false := by rw [decide_eq_false_iff_not]; omega
  have n7 : decide (192 ≤ c) = false := by rw [decide_eq_false_iff_not]; omega
  have t8 : decide ((c : Int) ≤ 591) = true := by rw [decide_eq_true_eq]; omega
  have n8 : decide (c ≤ 591) = true := by rw [decide_eq_true_eq]; omega
  have t9 : decide (880 ≤ (c : Int)) = false := by rw [decide_eq_false_iff_not]; omega
  have n9 : decide (880 ≤ c) = false := by rw [decide_eq_false_iff_not]; omega
  have t10 : decide ((c : Int) ≤ 1279) = true := by rw [decide_eq_true_eq]; omega
  have n10 : decide (c ≤ 1279) = true := by rw [decide_eq_true_eq]; omega
  have t11 : decide (19968 ≤ (c : Int)) = false := by rw [decide_eq_false_iff_not]; omega
  have n11 : decide (19968 ≤ c) = false := by rw [decide_eq_false_iff_not]; omega
  have t12 : decide ((c : Int) ≤ 40959) = true := by rw [decide_eq_true_eq]; omega
  have n12 : decide (c ≤ 40959) = true := by rw [decide_eq_true_eq]; omega
  have t13 : ((c : Int) == 45) = false := by rw [beq_eq_false_iff_ne]; omega
  have t14 : ((c : Int) == 95) = false := by rw [beq_eq_false_iff_ne]; omega
  have t15 : ((c : Int) == 46) = false := by rw [beq_eq_false_iff_ne]; omega
  have t16 : ((c : Int) == 47) = false := by rw [beq_eq_false_iff_ne]; omega
  have t17 : ((c : Int) != 215) = true := by rw [bne_iff_ne]; omega
  have t18 : ((c : Int) != 247) = true := by rw [bne_iff_ne]; omega
  clear h1 h2
  go_enter Tryz.func62, Tryz.ntmps62
  go_wp2_with fail
  all_goals go_ret
  all_goals exact ⟨rb HL.out, rfl⟩
set_option maxRecDepth 100000 in
set_option maxHeartbeats 3000000 in
theorem rletter_5 (c : Nat) (h1 : 58 ≤ c) (h2 : c ≤ 64) (w : World) :
    Calls Tryz.prog 62 #[.int .i64 c] w fun e w' => e = .returned (.bool (letter c)) ∧ w' = w := by
  have HL := Lib.hid (letter_no c (by omega))
  have t1 : decide (97 ≤ (c : Int)) = false := by rw [decide_eq_false_iff_not]; omega
  have n1 : decide (97 ≤ c) = false := by rw [decide_eq_false_iff_not]; omega
  have t2 : decide ((c : Int) ≤ 122) = true := by rw [decide_eq_true_eq]; omega
  have n2 : decide (c ≤ 122) = true := by rw [decide_eq_true_eq]; omega
  have t3 : decide (65 ≤ (c : Int)) = false := by rw [decide_eq_false_iff_not]; omega
  have n3 : decide (65 ≤ c) = false := by rw [decide_eq_false_iff_not]; omega
  have t4 : decide ((c : Int) ≤ 90) = true := by rw [decide_eq_true_eq]; omega
  have n4 : decide (c ≤ 90) = true := by rw [decide_eq_true_eq]; omega
  have t5 : decide (48 ≤ (c : Int)) = true := by rw [decide_eq_true_eq]; omega
  have n5 : decide (48 ≤ c) = true := by rw [decide_eq_true_eq]; omega
  have t6 : decide ((c : Int) ≤ 57) = false := by rw [decide_eq_false_iff_not]; omega
  have n6 : decide (c ≤ 57) = false := by rw [decide_eq_false_iff_not]; omega
  have t7 : decide (192 ≤ (c : Int)) = false := by rw [decide_eq_false_iff_not]; omega
  have n7 : decide (192 ≤ c) = false := by rw [decide_eq_false_iff_not]; omega
  have t8 : decide ((c : Int) ≤ 591) = true := by rw [decide_eq_true_eq]; omega
  have n8 : decide (c ≤ 591) = true := by rw [decide_eq_true_eq]; omega
  have t9 : decide (880 ≤ (c : Int)) = false := by rw [decide_eq_false_iff_not]; omega
  have n9 : decide (880 ≤ c) = false := by rw [decide_eq_false_iff_not]; omega
  have t10 : decide ((c : Int) ≤ 1279) = true := by rw [decide_eq_true_eq]; omega
  have n10 : decide (c ≤ 1279) = true := by rw [decide_eq_true_eq]; omega
  have t11 : decide (19968 ≤ (c : Int)) = false := by rw [decide_eq_false_iff_not]; omega
  have n11 : decide (19968 ≤ c) = false := by rw [decide_eq_false_iff_not]; omega
  have t12 : decide ((c : Int) ≤ 40959) = true := by rw [decide_eq_true_eq]; omega
  have n12 : decide (c ≤ 40959) = true := by rw [decide_eq_true_eq]; omega
  have t13 : ((c : Int) == 45) = false := by rw [beq_eq_false_iff_ne]; omega
  have t14 : ((c : Int) == 95) = false := by rw [beq_eq_false_iff_ne]; omega
  have t15 : ((c : Int) == 46) = false := by rw [beq_eq_false_iff_ne]; omega
  have t16 : ((c : Int) == 47) = false := by rw [beq_eq_false_iff_ne]; omega
  have t17 : ((c : Int) != 215) = true := by rw [bne_iff_ne]; omega
  have t18 : ((c : Int) != 247) = true := by rw [bne_iff_ne]; omega
  clear h1 h2
  go_enter Tryz.func62, Tryz.ntmps62
  go_wp2_with fail
  all_goals go_ret
  all_goals exact ⟨rb HL.out, rfl⟩
set_option maxRecDepth 100000 in
set_option maxHeartbeats 3000000 in
theorem rletter_6 (c : Nat) (h1 : 65 ≤ c) (h2 : c ≤ 90) (w : World) :
    Calls Tryz.prog 62 #[.int .i64 c] w fun e w' => e = .returned (.bool (letter c)) ∧ w' = w := by
  have HL := Lib.hid (letter_yes c (by omega))
  have t1 : decide (97 ≤ (c : Int)) = false := by rw [decide_eq_false_iff_not]; omega
  have n1 : decide (97 ≤ c) = false := by rw [decide_eq_false_iff_not]; omega
  have t2 : decide ((c : Int) ≤ 122) = true := by rw [decide_eq_true_eq]; omega
  have n2 : decide (c ≤ 122) = true := by rw [decide_eq_true_eq]; omega
  have t3 : decide (65 ≤ (c : Int)) = true := by rw [decide_eq_true_eq]; omega
  have n3 : decide (65 ≤ c) = true := by rw [decide_eq_true_eq]; omega
  have t4 : decide ((c : Int) ≤ 90) = true := by rw [decide_eq_true_eq]; omega
  have n4 : decide (c ≤ 90) = true := by rw [decide_eq_true_eq]; omega
  have t5 : decide (48 ≤ (c : Int)) = true := by rw [decide_eq_true_eq]; omega
  have n5 : decide (48 ≤ c) = true := by rw [decide_eq_true_eq]; omega
  have t6 : decide ((c : Int) ≤ 57) = false := by rw [decide_eq_false_iff_not]; omega
  have n6 : decide (c ≤ 57) = false := by rw [decide_eq_false_iff_not]; omega
  have t7 : decide (192 ≤ (c : Int)) = false := by rw [decide_eq_false_iff_not]; omega
  have n7 : decide (192 ≤ c) = false := by rw [decide_eq_false_iff_not]; omega
  have t8 : decide ((c : Int) ≤ 591) = true := by rw [decide_eq_true_eq]; omega
  have n8 : decide (c ≤ 591) = true := by rw [decide_eq_true_eq]; omega
  have t9 : decide (880 ≤ (c : Int)) = false := by rw [decide_eq_false_iff_not]; omega
  have n9 : decide (880 ≤ c) = false := by rw [decide_eq_false_iff_not]; omega
  have t10 : decide ((c : Int) ≤ 1279) = true := by rw [decide_eq_true_eq]; omega
  have n10 : decide (c ≤ 1279) = true := by rw [decide_eq_true_eq]; omega
  have t11 : decide (19968 ≤ (c : Int)) = false := by rw [decide_eq_false_iff_not]; omega
  have n11 : decide (19968 ≤ c) = false := by rw [decide_eq_false_iff_not]; omega
  have t12 : decide ((c : Int) ≤ 40959) = true := by rw [decide_eq_true_eq]; omega
  have n12 : decide (c ≤ 40959) = true := by rw [decide_eq_true_eq]; omega
  have t13 : ((c : Int) == 45) = false := by rw [beq_eq_false_iff_ne]; omega
  have t14 : ((c : Int) == 95) = false := by rw [beq_eq_false_iff_ne]; omega
  have t15 : ((c : Int) == 46) = false := by rw [beq_eq_false_iff_ne]; omega
  have t16 : ((c : Int) == 47) = false := by rw [beq_eq_false_iff_ne]; omega
  have t17 : ((c : Int) != 215) = true := by rw [bne_iff_ne]; omega
  have t18 : ((c : Int) != 247) = true := by rw [bne_iff_ne]; omega
  clear h1 h2
  go_enter Tryz.func62, Tryz.ntmps62
  go_wp2_with fail
  all_goals go_ret
  all_goals exact ⟨rb HL.out, rfl⟩
set_option maxRecDepth 100000 in
set_option maxHeartbeats 3000000 in
theorem rletter_7 (c : Nat) (h1 : 91 ≤ c) (h2 : c ≤ 94) (w : World) :
    Calls Tryz.prog 62 #[.int .i64 c] w fun e w' => e = .returned (.bool (letter c)) ∧ w' = w := by
  have HL := Lib.hid (letter_no c (by omega))
  have t1 : decide (97 ≤ (c : Int)) = false := by rw [decide_eq_false_iff_not]; omega
  have n1 : decide (97 ≤ c) = false := by rw [decide_eq_false_iff_not]; omega
  have t2 : decide ((c : Int) ≤ 122) = true := by rw [decide_eq_true_eq]; omega
  have n2 : decide (c ≤ 122) = true := by rw [decide_eq_true_eq]; omega
  have t3 : decide (65 ≤ (c : Int)) = true := by rw [decide_eq_true_eq]; omega
  have n3 : decide (65 ≤ c) = true := by rw [decide_eq_true_eq]; omega
  have t4 : decide ((c : Int) ≤ 90) = false := by rw [decide_eq_false_iff_not]; omega
  have n4 : decide (c ≤ 90) = false := by rw [decide_eq_false_iff_not]; omega
  have t5 : decide (48 ≤ (c : Int)) = true := by rw [decide_eq_true_eq]; omega
  have n5 : decide (48 ≤ c) = true := by rw [decide_eq_true_eq]; omega
  have t6 : decide ((c : Int) ≤ 57) = false := by rw [decide_eq_false_iff_not]; omega
  have n6 : decide (c ≤ 57) = false := by rw [decide_eq_false_iff_not]; omega
  have t7 : decide (192 ≤ (c : Int)) = false := by rw [decide_eq_false_iff_not]; omega
  have n7 : decide (192 ≤ c) = false := by rw [decide_eq_false_iff_not]; omega
  have t8 : decide ((c : Int) ≤ 591) = true := by rw [decide_eq_true_eq]; omega
  have n8 : decide (c ≤ 591) = true := by rw [decide_eq_true_eq]; omega
  have t9 : decide (880 ≤ (c : Int)) = false := by rw [decide_eq_false_iff_not]; omega
  have n9 : decide (880 ≤ c) = false := by rw [decide_eq_false_iff_not]; omega
  have t10 : decide ((c : Int) ≤ 1279) = true := by rw [decide_eq_true_eq]; omega
  have n10 : decide (c ≤ 1279) = true := by rw [decide_eq_true_eq]; omega
  have t11 : decide (19968 ≤ (c : Int)) = false := by rw [decide_eq_false_iff_not]; omega
  have n11 : decide (19968 ≤ c) = false := by rw [decide_eq_false_iff_not]; omega
  have t12 : decide ((c : Int) ≤ 40959) = true := by rw [decide_eq_true_eq]; omega
  have n12 : decide (c ≤ 40959) = true := by rw [decide_eq_true_eq]; omega
  have t13 : ((c : Int) == 45) = false := by rw [beq_eq_false_iff_ne]; omega
  have t14 : ((c : Int) == 95) = false := by rw [beq_eq_false_iff_ne]; omega
  have t15 : ((c : Int) == 46) = false := by rw [beq_eq_false_iff_ne]; omega
  have t16 : ((c : Int) == 47) = false := by rw [beq_eq_false_iff_ne]; omega
  have t17 : ((c : Int) != 215) = true := by rw [bne_iff_ne]; omega
  have t18 : ((c : Int) != 247) = true := by rw [bne_iff_ne]; omega
  clear h1 h2
  go_enter Tryz.func62, Tryz.ntmps62
  go_wp2_with fail
  all_goals go_ret
  all_goals exact ⟨rb HL.out, rfl⟩
set_option maxRecDepth 100000 in
set_option maxHeartbeats 3000000 in
theorem rletter_8 (c : Nat) (h1 : 95 ≤ c) (h2 : c ≤ 95) (w : World) :
    Calls Tryz.prog 62 #[.int .i64 c] w fun e w' => e = .returned (.bool (letter c)) ∧ w' = w := by
  have HL := Lib.hid (letter_yes c (by omega))
  have t1 : decide (97 ≤ (c : Int)) = false := by rw [decide_eq_false_iff_not]; omega
  have n1 : decide (97 ≤ c) = false := by rw [decide_eq_false_iff_not]; omega
  have t2 : decide ((c : Int) ≤ 122) = true := by rw [decide_eq_true_eq]; omega
  have n2 : decide (c ≤ 122) = true := by rw [decide_eq_true_eq]; omega
  have t3 : decide (65 ≤ (c : Int)) = true := by rw [decide_eq_true_eq]; omega
  have n3 : decide (65 ≤ c) = true := by rw [decide_eq_true_eq]; omega
  have t4 : decide ((c : Int) ≤ 90) = false := by rw [decide_eq_false_iff_not]; omega
  have n4 : decide (c ≤ 90) = false := by rw [decide_eq_false_iff_not]; omega
  have t5 : decide (48 ≤ (c : Int)) = true := by rw [decide_eq_true_eq]; omega
  have n5 : decide (48 ≤ c) = true := by rw [decide_eq_true_eq]; omega
  have t6 : decide ((c : Int) ≤ 57) = false := by rw [decide_eq_false_iff_not]; omega
  have n6 : decide (c ≤ 57) = false := by rw [decide_eq_false_iff_not]; omega
  have t7 : decide (192 ≤ (c : Int)) = false := by rw [decide_eq_false_iff_not]; omega
  have n7 : decide (192 ≤ c) = false := by rw [decide_eq_false_iff_not]; omega
  have t8 : decide ((c : Int) ≤ 591) = true := by rw [decide_eq_true_eq]; omega
  have n8 : decide (c ≤ 591) = true := by rw [decide_eq_true_eq]; omega
  have t9 : decide (880 ≤ (c : Int)) = false := by rw [decide_eq_false_iff_not]; omega
  have n9 : decide (880 ≤ c) = false := by rw [decide_eq_false_iff_not]; omega
  have t10 : decide ((c : Int) ≤ 1279) = true := by rw [decide_eq_true_eq]; omega
  have n10 : decide (c ≤ 1279) = true := by rw [decide_eq_true_eq]; omega
  have t11 : decide (19968 ≤ (c : Int)) = false := by rw [decide_eq_false_iff_not]; omega
  have n11 : decide (19968 ≤ c) = false := by rw [decide_eq_false_iff_not]; omega
  have t12 : decide ((c : Int) ≤ 40959) = true := by rw [decide_eq_true_eq]; omega
  have n12 : decide (c ≤ 40959) = true := by rw [decide_eq_true_eq]; omega
  have t13 : ((c : Int) == 45) = false := by rw [beq_eq_false_iff_ne]; omega
  have t14 : ((c : Int) == 95) = true := by rw [beq_iff_eq]; omega
  have t15 : ((c : Int) == 46) = false := by rw [beq_eq_false_iff_ne]; omega
  have t16 : ((c : Int) == 47) = false := by rw [beq_eq_false_iff_ne]; omega
  have t17 : ((c : Int) != 215) = true := by rw [bne_iff_ne]; omega
  have t18 : ((c : Int) != 247) = true := by rw [bne_iff_ne]; omega
  clear h1 h2
  go_enter Tryz.func62, Tryz.ntmps62
  go_wp2_with fail
  all_goals go_ret
  all_goals exact ⟨rb HL.out, rfl⟩
set_option maxRecDepth 100000 in
set_option maxHeartbeats 3000000 in
theorem rletter_9 (c : Nat) (h1 : 96 ≤ c) (h2 : c ≤ 96) (w : World) :
    Calls Tryz.prog 62 #[.int .i64 c] w fun e w' => e = .returned (.bool (letter c)) ∧ w' = w := by
  have HL := Lib.hid (letter_no c (by omega))
  have t1 : decide (97 ≤ (c : Int)) = false := by rw [decide_eq_false_iff_not]; omega
  have n1 : decide (97 ≤ c) = false := by rw [decide_eq_false_iff_not]; omega
  have t2 : decide ((c : Int) ≤ 122) = true := by rw [decide_eq_true_eq]; omega
  have n2 : decide (c ≤ 122) = true := by rw [decide_eq_true_eq]; omega
  have t3 : decide (65 ≤ (c : Int)) = true := by rw [decide_eq_true_eq]; omega
  have n3 : decide (65 ≤ c) = true := by rw [decide_eq_true_eq]; omega
  have t4 : decide ((c : Int) ≤ 90) = false := by rw [decide_eq_false_iff_not]; omega
  have n4 : decide (c ≤ 90) = false := by rw [decide_eq_false_iff_not]; omega
  have t5 : decide (48 ≤ (c : Int)) = true := by rw [decide_eq_true_eq]; omega
  have n5 : decide (48 ≤ c) = true := by rw [decide_eq_true_eq]; omega
  have t6 : decide ((c : Int) ≤ 57) = false := by rw [decide_eq_false_iff_not]; omega
  have n6 : decide (c ≤ 57) = false := by rw [decide_eq_false_iff_not]; omega
  have t7 : decide (192 ≤ (c : Int)) = false := by rw [decide_eq_false_iff_not]; omega
  have n7 : decide (192 ≤ c) = false := by rw [decide_eq_false_iff_not]; omega
  have t8 : decide ((c : Int) ≤ 591) = true := by rw [decide_eq_true_eq]; omega
  have n8 : decide (c ≤ 591) = true := by rw [decide_eq_true_eq]; omega
  have t9 : decide (880 ≤ (c : Int)) = false := by rw [decide_eq_false_iff_not]; omega
  have n9 : decide (880 ≤ c) = false := by rw [decide_eq_false_iff_not]; omega
  have t10 : decide ((c : Int) ≤ 1279) = true := by rw [decide_eq_true_eq]; omega
  have n10 : decide (c ≤ 1279) = true := by rw [decide_eq_true_eq]; omega
  have t11 : decide (19968 ≤ (c : Int)) = false := by rw [decide_eq_false_iff_not]; omega
  have n11 : decide (19968 ≤ c) = false := by rw [decide_eq_false_iff_not]; omega
  have t12 : decide ((c : Int) ≤ 40959) = true := by rw [decide_eq_true_eq]; omega
  have n12 : decide (c ≤ 40959) = true := by rw [decide_eq_true_eq]; omega
  have t13 : ((c : Int) == 45) = false := by rw [beq_eq_false_iff_ne]; omega
  have t14 : ((c : Int) == 95) = false := by rw [beq_eq_false_iff_ne]; omega
  have t15 : ((c : Int) == 46) = false := by rw [beq_eq_false_iff_ne]; omega
  have t16 : ((c : Int) == 47) = false := by rw [beq_eq_false_iff_ne]; omega
  have t17 : ((c : Int) != 215) = true := by rw [bne_iff_ne]; omega
  have t18 : ((c : Int) != 247) = true := by rw [bne_iff_ne]; omega
  clear h1 h2
  go_enter Tryz.func62, Tryz.ntmps62
  go_wp2_with fail
  all_goals go_ret
  all_goals exact ⟨rb HL.out, rfl⟩
set_option maxRecDepth 100000 in
set_option maxHeartbeats 3000000 in
theorem rletter_10 (c : Nat) (h1 : 97 ≤ c) (h2 : c ≤ 122) (w : World) :
    Calls Tryz.prog 62 #[.int .i64 c] w fun e w' => e = .returned (.bool (letter c)) ∧ w' = w := by
  have HL := Lib.hid (letter_yes c (by omega))
  have t1 : decide (97 ≤ (c : Int)) = true := by rw [decide_eq_true_eq]; omega
  have n1 : decide (97 ≤ c) = true := by rw [decide_eq_true_eq]; omega
  have t2 : decide ((c : Int) ≤ 122) = true := by rw [decide_eq_true_eq]; omega
  have n2 : decide (c ≤ 122) = true := by rw [decide_eq_true_eq]; omega
  have t3 : decide (65 ≤ (c : Int)) = true := by rw [decide_eq_true_eq]; omega
  have n3 : decide (65 ≤ c) = true := by rw [decide_eq_true_eq]; omega
  have t4 : decide ((c : Int) ≤ 90) = false := by rw [decide_eq_false_iff_not]; omega
  have n4 : decide (c ≤ 90) = false := by rw [decide_eq_false_iff_not]; omega
  have t5 : decide (48 ≤ (c : Int)) = true := by rw [decide_eq_true_eq]; omega
  have n5 : decide (48 ≤ c) = true := by rw [decide_eq_true_eq]; omega
  have t6 : decide ((c : Int) ≤ 57) = false := by rw [decide_eq_false_iff_not]; omega
  have n6 : decide (c ≤ 57) = false := by rw [decide_eq_false_iff_not]; omega
  have t7 : decide (192 ≤ (c : Int)) = false := by rw [decide_eq_false_iff_not]; omega
  have n7 : decide (192 ≤ c) = false := by rw [decide_eq_false_iff_not]; omega
  have t8 : decide ((c : Int) ≤ 591) = true := by rw [decide_eq_true_eq]; omega
  have n8 : decide (c ≤ 591) = true := by rw [decide_eq_true_eq]; omega
  have t9 : decide (880 ≤ (c : Int)) = false := by rw [decide_eq_false_iff_not]; omega
  have n9 : decide (880 ≤ c) = false := by rw [decide_eq_false_iff_not]; omega
  have t10 : decide ((c : Int) ≤ 1279) = true := by rw [decide_eq_true_eq]; omega
  have n10 : decide (c ≤ 1279) = true := by rw [decide_eq_true_eq]; omega
  have t11 : decide (19968 ≤ (c : Int)) = false := by rw [decide_eq_false_iff_not]; omega
  have n11 : decide (19968 ≤ c) = false := by rw [decide_eq_false_iff_not]; omega
  have t12 : decide ((c : Int) ≤ 40959) = true := by rw [decide_eq_true_eq]; omega
  have n12 : decide (c ≤ 40959) = true := by rw [decide_eq_true_eq]; omega
  have t13 : ((c : Int) == 45) = false := by rw [beq_eq_false_iff_ne]; omega
  have t14 : ((c : Int) == 95) = false := by rw [beq_eq_false_iff_ne]; omega
  have t15 : ((c : Int) == 46) = false := by rw [beq_eq_false_iff_ne]; omega
  have t16 : ((c : Int) == 47) = false := by rw [beq_eq_false_iff_ne]; omega
  have t17 : ((c : Int) != 215) = true := by rw [bne_iff_ne]; omega
  have t18 : ((c : Int) != 247) = true := by rw [bne_iff_ne]; omega
  clear h1 h2
  go_enter Tryz.func62, Tryz.ntmps62
  go_wp2_with fail
  all_goals go_ret
  all_goals exact ⟨rb HL.out, rfl⟩
end Go.Proofs.YtihoohhngiomdaaGreatDoor
