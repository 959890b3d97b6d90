/- Contracts of sha.above, sha.root. No statement of the seat is proved here. -/
import Derived.Test.YtgjmcpmdhilkeaaShaConst
import Derived.Test.YtgjmcpmdhilkeaaShelf
import Derived.Test.YtgjmcpmdhilkeaaNumBytes
import Derived.Deep.DeepCutAuto
namespace Go.Aq.Sha
theorem above_sq (q p : Nat) : decide (p * 2 ^ 64 < q) = (decide (p < q / 18446744073709551616) || (decide (q / 18446744073709551616 = p) && decide (0 < q % 18446744073709551616))) := by
  rw [Bool.eq_iff_iff]
  simp only [decide_eq_true_eq, Bool.or_eq_true, Bool.and_eq_true]
  omega
theorem cube_parts (q x : Nat) : q * x / 18446744073709551616 = q / 18446744073709551616 * x + q % 18446744073709551616 * x / 18446744073709551616 ∧ q * x % 18446744073709551616 = q % 18446744073709551616 * x % 18446744073709551616 := by
  have e : q * x = q % 18446744073709551616 * x + 18446744073709551616 * (q / 18446744073709551616 * x) := by
    have h := Nat.mod_add_div q 18446744073709551616
    calc q * x = (q % 18446744073709551616 + 18446744073709551616 * (q / 18446744073709551616)) * x := by rw [h]
      _ = _ := by rw [Nat.add_mul, Nat.mul_assoc]
  rw [e, Nat.add_mul_div_left _ _ (by decide), Nat.add_mul_mod_self_left]
  exact ⟨Nat.add_comm _ _, rfl⟩
theorem above_sq' {x p H L : Nat} {R : Bool} (hH : x * x / 18446744073709551616 = H) (hL : x * x % 18446744073709551616 = L) (hR : aboveN x p false = R) : R = (decide (p < H) || (decide (H = p) && decide (0 < L))) := by
  have h : aboveN x p false = decide (p * 2 ^ 64 < x * x) := by unfold aboveN; rw [if_neg (by decide)]
  rw [← hR, ← hH, ← hL, h, above_sq]
theorem above_cu' {x p H L G M : Nat} {R : Bool} (hH : x * x / 18446744073709551616 = H) (hL : x * x % 18446744073709551616 = L) (hG : L * x / 18446744073709551616 = G) (hM : L * x % 18446744073709551616 = M)
    (hR : aboveN x p true = R) : R = (decide (p * 4294967296 < H * x + G) || (decide (H * x + G = p * 4294967296) && decide (0 < M))) := by
  obtain ⟨e1, e2⟩ := cube_parts (x * x) x
  rw [hH, hL, hG] at e1
  rw [hL, hM] at e2
  have h : aboveN x p true = decide (p * 4294967296 * 2 ^ 64 < x * x * x) := by
    unfold aboveN
    rw [if_pos rfl, show p * 2 ^ 96 = p * 4294967296 * 2 ^ 64 by omega]
  rw [← hR, ← e1, ← e2, h, above_sq]
theorem cube_lt {x H L G : Nat} (hx : x < 137438953472) (hH : x * x / 18446744073709551616 = H) (hL : x * x % 18446744073709551616 = L) (hG : L * x / 18446744073709551616 = G) : H * x < 140737488355328 ∧ G < 137438953472 := by
  have h1 : x * x < 137438953472 * 137438953472 := Nat.mul_lt_mul_of_lt_of_lt hx hx
  have h2 : H < 1024 := by omega
  have h0 : H * x < 1024 * 137438953472 := Nat.mul_lt_mul_of_lt_of_lt h2 hx
  refine ⟨by omega, ?_⟩
  have h3 : L < 18446744073709551616 := by omega
  have h4 : L * x ≤ 18446744073709551616 * x := Nat.mul_le_mul_right x (Nat.le_of_lt h3)
  have h5 : L * x / 18446744073709551616 ≤ 18446744073709551616 * x / 18446744073709551616 := Nat.div_le_div_right h4
  rw [Nat.mul_div_cancel_left _ (by decide)] at h5
  omega
theorem mod64_lt {q L : Nat} (h : q % 18446744073709551616 = L) : L < 18446744073709551616 := by omega
end Go.Aq.Sha
namespace Go.Proofs.Ytgjmcpmdhilkeaa
open Go.RowKit Go.Aq Go.Aq.Sha
set_option maxHeartbeats 400000 in
theorem above_sq_any (w : World) (x p : Nat) (hx : x < 137438953472) (hp : p ≤ 400) :
    Calls Try.prog 34 #[.int .u64 x, .int .i64 p, .bool false] w fun e w' => e = .returned (.bool (aboveN x p false)) ∧ w = w' := by
  obtain ⟨R, hR⟩ : ∃ R, aboveN x p false = R := ⟨_, rfl⟩
  rw [hR]
  have HR := Lib.hid hR; clear hR
  go_enter Try.func34, Try.ntmps34
  go_wp2_with fail
  refine (Try.bits_Mul64 x x (by omega) (by omega) _).mono ?_
  rintro e w1 ⟨rfl, rfl⟩
  generalize hH : x * x / 18446744073709551616 = H
  generalize hL : x * x % 18446744073709551616 = L
  have HH := Lib.hid hH; clear hH
  have HL := Lib.hid hL; clear hL
  go_wp2_with fail
  all_goals
    go_ret
    refine ⟨?_, rfl⟩
    rw [above_sq' HH.out HL.out HR.out]
    refine ret_bool ?_
    rw [Bool.eq_iff_iff]
    simp
    try omega
set_option maxHeartbeats 400000 in
theorem above_cu_any (w : World) (x p : Nat) (hx : x < 137438953472) (hp : p ≤ 400) :
    Calls Try.prog 34 #[.int .u64 x, .int .i64 p, .bool true] w fun e w' => e = .returned (.bool (aboveN x p true)) ∧ w = w' := by
  obtain ⟨R, hR⟩ : ∃ R, aboveN x p true = R := ⟨_, rfl⟩
  rw [hR]
  have HR := Lib.hid hR; clear hR
  go_enter Try.func34, Try.ntmps34
  go_wp2_with fail
  refine (Try.bits_Mul64 x x (by omega) (by omega) _).mono ?_
  rintro e w1 ⟨rfl, rfl⟩
  generalize hH : x * x / 18446744073709551616 = H
  generalize hL : x * x % 18446744073709551616 = L
  have hL64 := mod64_lt hL
  have HH := Lib.hid hH; clear hH
  have HL := Lib.hid hL; clear hL
  go_wp2_with fail
  refine (Try.bits_Mul64 L x hL64 (by omega) _).mono ?_
  rintro e w1 ⟨rfl, rfl⟩
  generalize hG : L * x / 18446744073709551616 = G
  generalize hM : L * x % 18446744073709551616 = M
  obtain ⟨hc1, hc2⟩ := cube_lt hx HH.out HL.out hG
  generalize hQ : H * x = Q at *
  have hQi : (H : Int) * (x : Int) = (Q : Int) := by rw [← hQ]; simp
  have HG := Lib.hid hG; clear hG
  have HM := Lib.hid hM; clear hM
  have HQ := Lib.hid hQ; clear hQ
  go_upto_region 7 with (fail)
  generalize hT : (p : Int) * 4294967296 = T
  generalize hS : (Q : Int) + (G : Int) = S
  have HT := Lib.hid hT; clear hT
  have HS := Lib.hid hS; clear hS
  clear hL64 hc1 hc2 hQi hx hp
  have e := above_cu' HH.out HL.out HG.out HM.out HR.out
  rw [HQ.out] at e
  have e2 : R = (decide (T < S) || ((S == T) && decide (0 < M))) := by
    rw [e, Bool.eq_iff_iff]
    have hT := HT.out
    have hS := HS.out
    simp
    omega
  have HE := Lib.hid e2
  clear e e2 HH HL HG HM HR HQ HT HS
  by_cases h1 : T < S
  · have t1 : decide (T < S) = true := by simpa using h1
    have hR : R = true := by rw [HE.out, t1]; rfl
    subst hR
    clear HE
    as_aux_lemma =>
      go_wp2_with fail
      go_ret
      exact ⟨rfl, rfl⟩
  · have t1 : decide (T < S) = false := by simpa using h1
    by_cases h2 : S = T
    · have t2 : (S == T) = true := by simpa using h2
      have hR : R = decide (0 < M) := by rw [HE.out, t1, t2]; rfl
      subst hR
      clear HE h1 h2
      as_aux_lemma =>
        go_wp2_with fail
        go_ret
        exact ⟨rfl, rfl⟩
    · have t2 : (S == T) = false := by simpa using h2
      have hR : R = false := by rw [HE.out, t1, t2]; rfl
      subst hR
      clear HE h1 h2
      as_aux_lemma =>
        go_wp2_with fail
        go_ret
        exact ⟨rfl, rfl⟩
end Go.Proofs.Ytgjmcpmdhilkeaa
