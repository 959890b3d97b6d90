/- Contract of num.Hex, digits of 16 read. No statement of the seat is proved here. -/
import Derived.Test.YtihoohhngiomdaaDoorNumBytes
import Derived.Test.YtihoohhngiomdaaDoorRHex
import Derived.Test.YtihoohhngiomdaaDoorShelf
set_option linter.unusedVariables false
namespace Go.Aq
open Go.RowKit
def unD (c : UInt8) : Int := if 48 ≤ c.toNat ∧ c.toNat ≤ 57 then (c.toNat : Int) - 48 else if 97 ≤ c.toNat ∧ c.toNat ≤ 102 then (c.toNat : Int) - 87 else -1
theorem unD_index (c : UInt8) : Lib.indexByte digitsS.data.toList c = unD c := by
  have h : ∀ n, n < 256 → Lib.indexByte digitsS.data.toList (UInt8.ofNat n) = unD (UInt8.ofNat n) := by decide +kernel
  have := h c.toNat c.toNat_lt
  simpa using this
theorem unD_range (c : UInt8) : -1 ≤ unD c ∧ unD c ≤ 15 := by
  unfold unD
  split
  · omega
  · split <;> omega
def unhexL : List UInt8 → Option (List UInt8)
  | [] => some []
  | [_] => none
  | a :: b :: t => if unD a < 0 ∨ unD b < 0 then none else (unhexL t).map fun r => UInt8.ofNat (16 * (unD a).toNat + (unD b).toNat) :: r
theorem unhexL_odd : ∀ (l : List UInt8), l.length % 2 ≠ 0 → unhexL l = none
  | [], h => by simp at h
  | [_], _ => rfl
  | a :: b :: t, h => by
    simp only [unhexL]
    rw [unhexL_odd t (by simp only [List.length_cons] at h; omega)]
    simp
theorem unhexL_length : ∀ (l r : List UInt8), unhexL l = some r → l.length = 2 * r.length
  | [], r, h => by simp [unhexL] at h; subst h; rfl
  | [_], r, h => by simp [unhexL] at h
  | a :: b :: t, r, h => by
    simp only [unhexL] at h
    split at h
    · simp at h
    · obtain ⟨r', h1, rfl⟩ := Option.map_eq_some_iff.1 h
      have := unhexL_length t r' h1
      simp only [List.length_cons]
      omega
end Go.Aq
namespace Go.Proofs.YtihoohhngiomdaaDoor
open Go.RowKit Go.Aq
end Go.Proofs.YtihoohhngiomdaaDoor
