/- Bit operations on int at numbers that are not negative. No statement of the seat is proved here. -/
import Derived.Test.YtihoohhngiomdaaGreatDoorNum
import Derived.IntWalk
namespace Go.Aq
open Go.RowKit
theorem bits_i64 (a b : Nat) (ha : a < 9223372036854775808) (hb : b < 9223372036854775808) : bits .and .i64 a b = ((a &&& b : Nat) : Int) ∧ bits .or .i64 a b = ((a ||| b : Nat) : Int) ∧ bits .xor .i64 a b = ((a ^^^ b : Nat) : Int) := by
  have hp : (9223372036854775808 : Nat) = 2 ^ 63 := by decide
  have ha' : a % 2 ^ IntKind.i64.bits = a := Nat.mod_eq_of_lt (by simp only [IntKind.bits]; omega)
  have hb' : b % 2 ^ IntKind.i64.bits = b := Nat.mod_eq_of_lt (by simp only [IntKind.bits]; omega)
  have hk : ∀ n : Nat, n < 9223372036854775808 → IntKind.i64.wrap (n : Int) = n := fun n h => IntWalk.i64_in _ (by omega)
  have h1 : a &&& b < 9223372036854775808 := by rw [hp] at hb ⊢; exact Nat.and_lt_two_pow a hb
  have h2 : a ||| b < 9223372036854775808 := by rw [hp] at ha hb ⊢; exact Nat.or_lt_two_pow ha hb
  have h3 : a ^^^ b < 9223372036854775808 := by rw [hp] at ha hb ⊢; exact Nat.xor_lt_two_pow ha hb
  refine ⟨?_, ?_, ?_⟩
  · simp only [bits, BitVec.ofInt_natCast, BitVec.toNat_and, BitVec.toNat_ofNat, ha', hb']
    exact hk _ h1
  · simp only [bits, BitVec.ofInt_natCast, BitVec.toNat_or, BitVec.toNat_ofNat, ha', hb']
    exact hk _ h2
  · simp only [bits, BitVec.ofInt_natCast, BitVec.toNat_xor, BitVec.toNat_ofNat, ha', hb']
    exact hk _ h3
theorem or_byte (n x : Nat) (hn : n < 1099511627776) (hx : x < 256) : bits .or .i64 ((n : Int) * 256) (x : Int) = ((n * 256 + x : Nat) : Int) := by
  have h := (bits_i64 (n * 256) x (by omega) (by omega)).2.1
  have e : n * 256 ||| x = n * 256 + x := by
    rw [Nat.or_comm]
    have := or_shift x n 8 hx
    rw [show (2 : Nat) ^ 8 = 256 by decide] at this
    rw [this]
    omega
  rw [e] at h
  rw [← h]
  rfl
theorem i64mask (x m k : Nat) (hx : x < 9223372036854775808) (hm : m + 1 = 2 ^ k) (hk : k ≤ 62) : bits .and .i64 (x : Int) (m : Int) = ((x % 2 ^ k : Nat) : Int) := by
  have h2 : 2 ^ k ≤ 2 ^ 62 := Nat.pow_le_pow_right (by decide) hk
  have h := (bits_i64 x m hx (by have : (2:Nat) ^ 62 = 4611686018427387904 := by decide
                                 omega)).1
  rw [h, show m = 2 ^ k - 1 by omega, Nat.and_two_pow_sub_one_eq_mod]
theorem i64orl (n x k : Nat) (hn : n * 2 ^ k < 9223372036854775808) (hx : x < 2 ^ k) (hk : k ≤ 62) : bits .or .i64 ((n : Int) * ((2 ^ k : Nat) : Int)) (x : Int) = ((n * 2 ^ k + x : Nat) : Int) := by
  have h2 : 2 ^ k ≤ 2 ^ 62 := Nat.pow_le_pow_right (by decide) hk
  have h := (bits_i64 (n * 2 ^ k) x hn (by have : (2:Nat) ^ 62 = 4611686018427387904 := by decide
                                           omega)).2.1
  have e : n * 2 ^ k ||| x = n * 2 ^ k + x := by
    rw [Nat.or_comm, or_shift x n k hx, Nat.add_comm, Nat.mul_comm]
  rw [e] at h
  rw [← h, Int.natCast_mul]
end Go.Aq
