/- Plain facts on bits of numbers and on bytes as cells, for the walks of this seat. No statement of the seat is proved here. -/
import Derived.Test.YtihoohhngiomdaaGreatDoorBase
import Derived.Laws.BitsLemmas
namespace Go.Aq
open Go.RowKit

/-- A byte as a cell. -/
def Bc (c : UInt8) : Value := .int .u8 c.toNat
def Bs (l : List UInt8) : List Value := l.map Bc
theorem Bs_length (l : List UInt8) : (Bs l).length = l.length := by simp [Bs]
theorem Bs_append (l m : List UInt8) : Bs (l ++ m) = Bs l ++ Bs m := by simp [Bs]
theorem Bs_get (l : List UInt8) (j : Nat) (h : j < l.length) : (Bs l)[j]? = some (.int .u8 ((l[j]'h).toNat : Int)) := by simp [Bs, Bc, h]
theorem Bs_set (l : List UInt8) (j : Nat) (c : UInt8) : (Bs l).set j (.int .u8 (c.toNat : Int)) = Bs (l.set j c) := by simp [Bs, Bc, List.map_set]
theorem Bs_one (l : List UInt8) : ∀ u ∈ Bs l, u.oneCell' = true := by
  intro u hu; obtain ⟨_, _, rfl⟩ := List.mem_map.1 hu; rfl

theorem bits_nat_full (k : IntKind) (hk : ∀ n : Nat, n < 2 ^ k.bits → k.wrap n = n) (a b : Nat) (ha : a < 2 ^ k.bits) (hb : b < 2 ^ k.bits) :
    bits .and k a b = ((a &&& b : Nat) : Int) ∧ bits .or k a b = ((a ||| b : Nat) : Int) ∧ bits .xor k a b = ((a ^^^ b : Nat) : Int) := by
  have ha' : a % 2 ^ k.bits = a := Nat.mod_eq_of_lt ha
  have hb' : b % 2 ^ k.bits = b := Nat.mod_eq_of_lt hb
  refine ⟨?_, ?_, ?_⟩
  · simp only [bits, BitVec.ofInt_natCast, BitVec.toNat_and, BitVec.toNat_ofNat, ha', hb']
    exact hk _ (Nat.and_lt_two_pow _ hb)
  · simp only [bits, BitVec.ofInt_natCast, BitVec.toNat_or, BitVec.toNat_ofNat, ha', hb']
    exact hk _ (Nat.or_lt_two_pow ha hb)
  · simp only [bits, BitVec.ofInt_natCast, BitVec.toNat_xor, BitVec.toNat_ofNat, ha', hb']
    exact hk _ (Nat.xor_lt_two_pow ha hb)
theorem bits_u8 (a b : Nat) (ha : a < 256) (hb : b < 256) : bits .and .u8 a b = ((a &&& b : Nat) : Int) ∧ bits .or .u8 a b = ((a ||| b : Nat) : Int) ∧ bits .xor .u8 a b = ((a ^^^ b : Nat) : Int) :=
  bits_nat_full .u8 (fun n h => by rw [IntKind.wrap_u8]; simp only [IntKind.bits] at h; omega) a b ha hb
theorem bits_u32 (a b : Nat) (ha : a < 4294967296) (hb : b < 4294967296) : bits .and .u32 a b = ((a &&& b : Nat) : Int) ∧ bits .or .u32 a b = ((a ||| b : Nat) : Int) ∧ bits .xor .u32 a b = ((a ^^^ b : Nat) : Int) :=
  bits_nat_full .u32 (fun n h => by rw [IntKind.wrap_u32]; simp only [IntKind.bits] at h; omega) a b ha hb
theorem u32and1N (a : Nat) (ha : a < 4294967296) : bits .and .u32 a 1 = ((a % 2 : Nat) : Int) := by
  have := (bits_u32 a 1 ha (by decide)).1
  rw [Nat.and_one_is_mod] at this; exact this
theorem u8and1N (a : Nat) (ha : a < 256) : bits .and .u8 a 1 = ((a % 2 : Nat) : Int) := by
  have := (bits_u8 a 1 ha (by decide)).1
  rw [Nat.and_one_is_mod] at this; exact this
theorem u8orN (a b : Nat) (ha : a < 256) (hb : b < 256) : bits .or .u8 a b = ((a ||| b : Nat) : Int) := (bits_u8 a b ha hb).2.1
theorem u32orN (a b : Nat) (ha : a < 4294967296) (hb : b < 4294967296) : bits .or .u32 a b = ((a ||| b : Nat) : Int) := (bits_u32 a b ha hb).2.1
theorem u32andN (a b : Nat) (ha : a < 4294967296) (hb : b < 4294967296) : bits .and .u32 a b = ((a &&& b : Nat) : Int) := (bits_u32 a b ha hb).1

/-- Bits as a number, the least first. -/
def bval : List Bool → Nat
  | [] => 0
  | b :: l => b.toNat + 2 * bval l
theorem bval_lt : ∀ l : List Bool, bval l < 2 ^ l.length
  | [] => by simp [bval]
  | b :: l => by
    have := bval_lt l
    simp only [bval, List.length_cons, Nat.pow_succ]
    have hb : b.toNat ≤ 1 := by cases b <;> simp
    omega
theorem bval_append : ∀ l m : List Bool, bval (l ++ m) = bval l + 2 ^ l.length * bval m
  | [], m => by simp [bval]
  | b :: l, m => by
    have := bval_append l m
    simp only [List.cons_append, bval, this, List.length_cons, Nat.pow_succ]
    have h : 2 ^ l.length * 2 * bval m = 2 * (2 ^ l.length * bval m) := by rw [Nat.mul_comm (2 ^ l.length) 2, Nat.mul_assoc]
    rw [h]; omega
theorem bval_testBit : ∀ (l : List Bool) (i : Nat), (bval l).testBit i = l.getD i false
  | [], i => by simp [bval]
  | b :: l, 0 => by
    simp only [bval, Nat.testBit_zero, List.getD_cons_zero]
    cases b <;> simp <;> omega
  | b :: l, i + 1 => by
    have := bval_testBit l i
    rw [Nat.testBit_succ]
    have h : (bval (b :: l)) / 2 = bval l := by
      simp only [bval]; cases b <;> simp <;> omega
    rw [h, this]; simp
theorem bval_lt8 (l : List Bool) (h : l.length ≤ 8) : bval l < 256 := by
  have := bval_lt l
  exact Nat.lt_of_lt_of_le this (Nat.pow_le_pow_right (by decide) h)

/-- Bits as bytes, the least bit of a byte first, the last byte filled up with nought. -/
def pack (l : List Bool) : List UInt8 := (List.range ((l.length + 7) / 8)).map fun j => UInt8.ofNat (bval ((l.drop (8 * j)).take 8))
theorem pack_length (l : List Bool) : (pack l).length = (l.length + 7) / 8 := by simp [pack]
theorem pack_nil : pack [] = [] := rfl
theorem take8_append (l m : List Bool) (j : Nat) (h : 8 * j + 8 ≤ l.length) : ((l ++ m).drop (8 * j)).take 8 = (l.drop (8 * j)).take 8 := by
  rw [List.drop_append_of_le_length (by omega), List.take_append_of_le_length (by simp; omega)]
theorem pack_snoc_whole (l : List Bool) (b : Bool) (h : l.length % 8 = 0) : pack (l ++ [b]) = pack l ++ [UInt8.ofNat b.toNat] := by
  unfold pack
  have e1 : ((l ++ [b]).length + 7) / 8 = (l.length + 7) / 8 + 1 := by simp; omega
  rw [e1, List.range_succ, List.map_append]
  congr 1
  · refine List.map_congr_left fun j hj => ?_
    rw [take8_append _ _ _ (by simp at hj; omega)]
  · have e2 : 8 * ((l.length + 7) / 8) = l.length := by omega
    simp [e2, bval]
theorem pack_snoc_part (l : List Bool) (b : Bool) (h : l.length % 8 ≠ 0) :
    pack (l ++ [b]) = (pack l).set (l.length / 8) (UInt8.ofNat (bval (l.drop (8 * (l.length / 8))) + 2 ^ (l.length % 8) * b.toNat)) := by
  unfold pack
  have e1 : ((l ++ [b]).length + 7) / 8 = l.length / 8 + 1 := by simp; omega
  have e2 : (l.length + 7) / 8 = l.length / 8 + 1 := by omega
  rw [e1, e2, List.range_succ, List.map_append, List.map_append, List.set_append_right _ _ (by simp)]
  congr 1
  · refine List.map_congr_left fun j hj => ?_
    rw [take8_append _ _ _ (by simp at hj; omega)]
  · simp only [List.map_cons, List.map_nil, List.length_map, List.length_range, Nat.sub_self, List.set_cons_zero]
    congr 2
    rw [List.drop_append_of_le_length (by omega), List.take_of_length_le (by simp; omega), bval_append]
    congr 1
    have : (l.drop (8 * (l.length / 8))).length = l.length % 8 := by simp; omega
    rw [this]; simp [bval]
theorem pack_last (l : List Bool) (h : l.length % 8 ≠ 0) : (pack l)[l.length / 8]? = some (UInt8.ofNat (bval (l.drop (8 * (l.length / 8))))) := by
  unfold pack
  rw [List.getElem?_map, List.getElem?_range (by omega)]
  simp only [Option.map_some]
  rw [List.take_of_length_le (by simp; omega)]
theorem or_shift (a b k : Nat) (ha : a < 2 ^ k) : a ||| b * 2 ^ k = a + 2 ^ k * b := by
  rw [Nat.or_comm, Nat.mul_comm, Nat.add_comm]
  exact (Nat.two_pow_add_eq_or_of_lt ha b).symm

/-- So many bytes of bits. -/
def packN (m : Nat) (l : List Bool) : List UInt8 := (List.range m).map fun j => UInt8.ofNat (bval ((l.drop (8 * j)).take 8))
theorem pack_eq (l : List Bool) : pack l = packN ((l.length + 7) / 8) l := rfl
theorem packN_length (m : Nat) (l : List Bool) : (packN m l).length = m := by simp [packN]
theorem packN_nil (m : Nat) : packN m [] = List.replicate m 0 := by
  apply List.ext_getElem
  · simp [packN]
  · intro i h1 h2; simp [packN, bval]
theorem packN_get (m : Nat) (l : List Bool) (h : l.length / 8 < m) : (packN m l)[l.length / 8]'(by rw [packN_length]; exact h) = UInt8.ofNat (bval (l.drop (8 * (l.length / 8)))) := by
  simp only [packN, List.getElem_map, List.getElem_range]
  rw [List.take_of_length_le (by simp; omega)]
theorem packN_snoc (m : Nat) (l : List Bool) (b : Bool) :
    packN m (l ++ [b]) = (packN m l).set (l.length / 8) (UInt8.ofNat (bval (l.drop (8 * (l.length / 8))) + 2 ^ (l.length % 8) * b.toNat)) := by
  apply List.ext_getElem
  · simp [packN]
  · intro j h1 h2
    rw [List.getElem_set]
    simp only [packN, List.getElem_map, List.getElem_range]
    split
    · rename_i hj
      subst hj
      congr 1
      rw [List.drop_append_of_le_length (by omega), List.take_of_length_le (by simp; omega), bval_append]
      have : (l.drop (8 * (l.length / 8))).length = l.length % 8 := by simp; omega
      rw [this]; simp [bval]
    · rename_i hj
      congr 2
      by_cases h8 : 8 * j + 8 ≤ l.length
      · rw [take8_append _ _ _ h8]
      · rw [List.drop_eq_nil_of_le (by simp; omega), List.drop_eq_nil_of_le (by omega)]
end Go.Aq
