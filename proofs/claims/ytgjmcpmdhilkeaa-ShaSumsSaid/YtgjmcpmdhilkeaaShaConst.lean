/- Contracts of sha.prime. No statement of the seat is proved here. -/
import Derived.Test.YtgjmcpmdhilkeaaSame
import Derived.Test.YtgjmcpmdhilkeaaShaPlain
import Derived.Lib.Hide
import Derived.Deep.LoopGhost
namespace Go.Aq.Sha
/-- No divisor from d on whose square is at most n (f steps at most). -/
def noDiv (n : Nat) : Nat → Nat → Bool
  | 0, _ => true
  | f + 1, d => if d * d ≤ n then (if n % d = 0 then false else noDiv n f (d + 1)) else true
def prime (n : Nat) : Bool := noDiv n n 2
/-- Is a number's power above p times 2 to the 32 times that? -/
def aboveN (x p : Nat) (cube : Bool) : Bool := if cube then decide (p * 2 ^ 96 < x * x * x) else decide (p * 2 ^ 64 < x * x)
def rootF (p : Nat) (cube : Bool) : Nat → Nat → Nat
  | 0, x => x
  | n + 1, x => rootF p cube n (if aboveN (x ||| 2 ^ n) p cube then x else x ||| 2 ^ n)
def rootN (p : Nat) (cube : Bool) : Nat := rootF p cube 37 0 % 4294967296
/-- The primes below 312: 64 of them. -/
def primes : List Nat := ((List.range 310).map (· + 2)).filter prime
theorem primes_len : primes.length = 64 := by decide +kernel
theorem K_root : K = primes.map (rootN · true) := by decide +kernel
theorem H0_root : H0 = (primes.take 8).map (rootN · false) := by decide +kernel
end Go.Aq.Sha
namespace Go.Proofs.Ytgjmcpmdhilkeaa
open Go.RowKit Go.Aq Go.Aq.Sha

set_option maxHeartbeats 400000 in
theorem prime_any (w : World) (n : Nat) (h2 : 2 ≤ n) (hn : n ≤ 400) :
    Calls Try.prog 25 #[.int .i64 n] w fun e w' => e = .returned (.bool (prime n)) ∧ w = w' := by
  obtain ⟨R, hR⟩ : ∃ R, prime n = R := ⟨_, rfl⟩
  rw [hR]
  have HR := Lib.hid hR; clear hR
  go_enter Try.func25, Try.ntmps25
  go_wp2
  go_loopg [3] (n - 1) (fun f vd wr => ∃ (d : Nat), vd = .int .i64 d ∧ 2 ≤ d ∧ d + f = n + 1 ∧ d ≤ 21 ∧ noDiv n (f + 1) d = R ∧ wr = w)
  case atStart => exact ⟨2, rfl, by omega, by omega, by omega, by rw [Nat.sub_add_cancel (by omega)]; exact HR.out, rfl⟩
  case round =>
    obtain ⟨d, rfl, hd2, hdf, hd21, hR, rfl⟩ := hrel
    have HF := Lib.hid hdf; clear hdf
    have HND := Lib.hid hR; clear hR
    have hdd : d * d ≤ 441 := Nat.mul_le_mul hd21 hd21
    obtain ⟨D, hD⟩ : ∃ D, d * d = D := ⟨_, rfl⟩
    have hDi : ((d : Int) * (d : Int)) = (D : Int) := by rw [← hD]; simp
    rw [hD] at hdd
    have e := HND.out
    unfold noDiv at e
    rw [hD] at e
    have HE := Lib.hid e; clear e
    by_cases h1 : D ≤ n
    · have t1 : decide ((D : Int) ≤ (n : Int)) = true := by simp; omega
      have hd20 : d ≤ 20 := by
        rcases Nat.lt_or_ge 20 d with h | h
        · have : 21 * 21 ≤ d * d := Nat.mul_le_mul h h
          omega
        · exact h
      have e := HE.out
      rw [if_pos h1] at e
      have HE2 := Lib.hid e; clear e HE
      by_cases h3 : n % d = 0
      · have e := HE2.out
        rw [if_pos h3] at e
        have HE3 := Lib.hid e; clear e HE2
        have t2 : (((n : Int) % (d : Int)) == 0) = true := by simp; omega
        go_wp2
        go_ret
        refine ⟨?_, rfl⟩
        rw [← HE3.out]
        rfl
      · have e := HE2.out
        rw [if_neg h3] at e
        have HE3 := Lib.hid e; clear e HE2
        have hdn : d ≤ n := by have : d * 1 ≤ d * d := Nat.mul_le_mul_left d (by omega); omega
        have t2 : (((n : Int) % (d : Int)) == 0) = false := by simp; omega
        go_wp2
        go_roundg (gk - 1)
        case measure => have := HF.out; omega
        case rel => exact ⟨d + 1, by go_num, by omega, by have := HF.out; omega, by omega, by rw [Nat.sub_add_cancel (by have := HF.out; omega)]; exact HE3.out, rfl⟩
    · have t1 : decide ((D : Int) ≤ (n : Int)) = false := by simp; omega
      have e := HE.out
      rw [if_neg h1] at e
      have HE2 := Lib.hid e; clear e HE
      have t9 : decide (2 ≤ (n : Int)) = true := by simp; omega
      go_wp2
      go_ret
      refine ⟨?_, rfl⟩
      rw [← HE2.out]
      first | rfl | (simp; omega)
end Go.Proofs.Ytgjmcpmdhilkeaa
