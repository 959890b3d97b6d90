/- Plain facts for BitsBack: bits that are packed stand in the bytes where they were put; a number is made again of its bits. No statement of the seat is proved here. -/
import Derived.Test.YtoacegccpajkoaaOps
import Derived.Test.YtoacegccpajkoaaRead
namespace Go.Proofs.Ytoacegccpajkoaa
open Go.RowKit Go.Aq

theorem bitAt_pack (l : List Bool) (i : Nat) (h : i < l.length) : bitAt (pack l) i = l.getD i false := by
  unfold bitAt pack
  have h8 : i / 8 < (l.length + 7) / 8 := by omega
  simp only [List.getD, List.getElem?_map, List.getElem?_range h8, Option.map_some, Option.getD_some]
  rw [UInt8.toNat_ofNat', Nat.mod_eq_of_lt (bval_lt8 _ (by simp; omega)), bval_testBit]
  simp only [List.getD, List.getElem?_take, List.getElem?_drop]
  rw [if_pos (by omega), show 8 * (i / 8) + i % 8 = i by omega]
theorem bitsFrom_pack (l : List Bool) (p c : Nat) (h : p + c ≤ l.length) : bitsFrom (pack l) p c = (l.drop p).take c := by
  apply List.ext_getElem
  · simp [bitsFrom]; omega
  · intro i h1 h2
    simp [bitsFrom] at h1
    simp only [bitsFrom, List.getElem_map, List.getElem_range, List.getElem_take, List.getElem_drop]
    rw [bitAt_pack l (p + i) (by omega)]
    simp [List.getD, show p + i < l.length by omega]
theorem bval_lowBits (n c : Nat) (h : n < 2 ^ c) : bval (lowBits n c) = n := by
  apply Nat.eq_of_testBit_eq
  intro i
  rw [bval_testBit]
  unfold lowBits
  by_cases hi : i < c
  · simp [List.getD, hi]
  · simp only [List.getD]
    rw [List.getElem?_eq_none (by simp; omega)]
    simp only [Option.getD_none]
    exact (Nat.testBit_lt_two_pow (Nat.lt_of_lt_of_le h (Nat.pow_le_pow_right (by decide) (by omega)))).symm
/-- What an op puts. -/
def enc (o : OpD) : List Bool := if o.kind = 0 then lowBits o.n o.count.toNat else highBits o.n o.count.toNat
/-- Ops that were put. -/
def good (o : OpD) : Prop := (o.kind = 0 ∨ o.kind = 1) ∧ wrongB o.n o.count = false
theorem enc_length (o : OpD) : (enc o).length = o.count.toNat := by unfold enc; split <;> simp [highBits, lowBits_length]
theorem good_range {o : OpD} (h : good o) : 0 ≤ o.count ∧ o.count ≤ 24 ∧ o.n < 2 ^ o.count.toNat := by
  have h1 := wrongB_range h.2
  refine ⟨h1.1, h1.2, ?_⟩
  have h2 := h.2
  simp only [wrongB, decide_eq_false_iff_not] at h2
  have : o.n / 2 ^ o.count.toNat = 0 := by
    generalize o.n / 2 ^ o.count.toNat = q at h2
    omega
  exact Nat.lt_of_div_eq_zero (Nat.two_pow_pos _) this
/-- Where op i's bits begin. -/
def pos (D : List OpD) (i : Nat) : Nat := ((D.take i).flatMap enc).length
theorem pos_zero (D : List OpD) : pos D 0 = 0 := rfl
theorem pos_succ (D : List OpD) (i : Nat) (h : i < D.length) : pos D (i + 1) = pos D i + (D[i]'h).count.toNat := by
  unfold pos
  rw [List.take_succ_eq_append_getElem h, List.flatMap_append]
  simp [enc_length]
theorem pos_all (D : List OpD) : pos D D.length = (D.flatMap enc).length := by unfold pos; rw [List.take_length]
theorem pos_le (D : List OpD) (i : Nat) (h : i < D.length) : pos D i + (D[i]'h).count.toNat ≤ (D.flatMap enc).length := by
  rw [← pos_succ D i h]
  unfold pos
  conv => rhs; rw [← List.take_append_drop (i + 1) D, List.flatMap_append, List.length_append]
  omega
theorem drop_pos (D : List OpD) (i : Nat) (h : i < D.length) : ((D.flatMap enc).drop (pos D i)).take (D[i]'h).count.toNat = enc (D[i]'h) := by
  unfold pos
  conv => lhs; arg 2; arg 2; rw [← List.take_append_drop i D, List.flatMap_append]
  rw [List.drop_left, List.drop_eq_getElem_cons h, List.flatMap_cons, ← enc_length, List.take_left]
theorem flatMap_enc_le (D : List OpD) (h : ∀ o ∈ D, good o) : (D.flatMap enc).length ≤ 24 * D.length := by
  induction D with
  | nil => simp
  | cons o D ih =>
    have h1 := ih fun x hx => h x (List.mem_cons_of_mem _ hx)
    have h2 := good_range (h o (List.mem_cons_self))
    simp only [List.flatMap_cons, List.length_append, enc_length, List.length_cons]
    omega
/-- The number that the first k bits of a code make. -/
theorem code_step (n c k : Nat) (h : k < c) (hc : c ≤ 24) (hb : n < 2 ^ c) :
    bits BinOp.or IntKind.u32 (((n / 2 ^ (c - k) : Nat) : Int) * 2 % 4294967296) (((n.testBit (c - 1 - k)).toNat : Nat) : Int) = ((n / 2 ^ (c - (k + 1)) : Nat) : Int) := by
  have h1 : n / 2 ^ (c - k) < 2 ^ k := by
    rw [Nat.div_lt_iff_lt_mul (Nat.two_pow_pos _), ← Nat.pow_add, show k + (c - k) = c by omega]; exact hb
  have h2 : 2 ^ k ≤ 2 ^ 23 := Nat.pow_le_pow_right (by decide) (by omega)
  have e1 : ((((n / 2 ^ (c - k) : Nat) : Int) * 2) % 4294967296) = ((n / 2 ^ (c - k) * 2 : Nat) : Int) := by omega
  have hb1 : (n.testBit (c - 1 - k)).toNat ≤ 1 := by cases n.testBit (c - 1 - k) <;> simp
  rw [e1, u32orN _ _ (by omega) (by omega)]
  have e2 : c - k = (c - (k + 1)) + 1 := by omega
  have e3 : c - 1 - k = c - (k + 1) := by omega
  rw [e2, e3]
  generalize c - (k + 1) = m
  have h3 : n / 2 ^ (m + 1) = n / 2 ^ m / 2 := by rw [Nat.pow_succ, Nat.div_div_eq_div_mul]
  have h4 : (n.testBit m).toNat = n / 2 ^ m % 2 := by rw [← Nat.shiftRight_eq_div_pow, Nat.toNat_testBit, Nat.shiftRight_eq_div_pow]
  rw [h3, h4]
  generalize n / 2 ^ m = q
  congr 1
  have := or_shift (q % 2) (q / 2) 1 (by omega)
  rw [Nat.or_comm] at this
  rw [Nat.pow_one] at this
  omega
theorem high_get (n c k : Nat) (h : k < c) : ((highBits n c).drop k).take 1 = [n.testBit (c - 1 - k)] := by
  rw [← codeBits_all]
  have hl : k < (codeBits n c c).length := by rw [codeBits_length]; exact h
  rw [List.drop_eq_getElem_cons hl]
  simp [codeBits]
theorem take_drop_one {α : Type} (l : List α) (c k : Nat) (h : k < c) : ((l.take c).drop k).take 1 = (l.drop k).take 1 := by
  rw [List.drop_take, List.take_take, Nat.min_eq_left (by omega)]
end Go.Proofs.Ytoacegccpajkoaa
