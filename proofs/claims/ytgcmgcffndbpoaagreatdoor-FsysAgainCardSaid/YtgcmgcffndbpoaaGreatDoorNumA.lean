/- Num, Str, I64, Same, NumBytes in one text. No statement of the seat is proved here. -/
import Derived.Test.YtgcmgcffndbpoaaGreatDoorBase
import Derived.Laws.BitsLemmas
import Derived.Test.YtgcmgcffndbpoaaGreatDoorChecked
import Derived.Outline
import Derived.WalkSpells
import Derived.Laws.BytesArg
import Derived.IntWalk
import Derived.Lib.Hide
import Derived.Deep.LoopGhost
import Derived.Deep.DeepCutAuto
import Derived.BigQuiet
import Derived.Deep.QuietTactic
set_option linter.unusedVariables false
/- Plain facts on bits of numbers and on bytes as cells, for the walks of this seat. No statement of the seat is proved here. -/
namespace Go.Aq
open Go.RowKit

/-- A byte as a cell. -/
def Bc (c : UInt8) : Value := .int .u8 c.toNat
def Bs (l : List UInt8) : List Value := l.map Bc
theorem Bs_length (l : List UInt8) : (Bs l).length = l.length := by simp [Bs]
theorem Bs_append (l m : List UInt8) : Bs (l ++ m) = Bs l ++ Bs m := by simp [Bs]
theorem Bs_get (l : List UInt8) (j : Nat) (h : j < l.length) : (Bs l)[j]? = some (.int .u8 ((l[j]'h).toNat : Int)) := by simp [Bs, Bc, h]
theorem Bs_set (l : List UInt8) (j : Nat) (c : UInt8) : (Bs l).set j (.int .u8 (c.toNat : Int)) = Bs (l.set j c) := by simp [Bs, Bc, List.map_set]
theorem Bs_one (l : List UInt8) : ∀ u ∈ Bs l, u.oneCell' = true := by
  intro u hu; obtain ⟨_, _, rfl⟩ := List.mem_map.1 hu; rfl

theorem bits_nat_full (k : IntKind) (hk : ∀ n : Nat, n < 2 ^ k.bits → k.wrap n = n) (a b : Nat) (ha : a < 2 ^ k.bits) (hb : b < 2 ^ k.bits) :
    bits .and k a b = ((a &&& b : Nat) : Int) ∧ bits .or k a b = ((a ||| b : Nat) : Int) ∧ bits .xor k a b = ((a ^^^ b : Nat) : Int) := by
  have ha' : a % 2 ^ k.bits = a := Nat.mod_eq_of_lt ha
  have hb' : b % 2 ^ k.bits = b := Nat.mod_eq_of_lt hb
  refine ⟨?_, ?_, ?_⟩
  · simp only [bits, BitVec.ofInt_natCast, BitVec.toNat_and, BitVec.toNat_ofNat, ha', hb']
    exact hk _ (Nat.and_lt_two_pow _ hb)
  · simp only [bits, BitVec.ofInt_natCast, BitVec.toNat_or, BitVec.toNat_ofNat, ha', hb']
    exact hk _ (Nat.or_lt_two_pow ha hb)
  · simp only [bits, BitVec.ofInt_natCast, BitVec.toNat_xor, BitVec.toNat_ofNat, ha', hb']
    exact hk _ (Nat.xor_lt_two_pow ha hb)
theorem bits_u8 (a b : Nat) (ha : a < 256) (hb : b < 256) : bits .and .u8 a b = ((a &&& b : Nat) : Int) ∧ bits .or .u8 a b = ((a ||| b : Nat) : Int) ∧ bits .xor .u8 a b = ((a ^^^ b : Nat) : Int) :=
  bits_nat_full .u8 (fun n h => by rw [IntKind.wrap_u8]; simp only [IntKind.bits] at h; omega) a b ha hb
theorem bits_u32 (a b : Nat) (ha : a < 4294967296) (hb : b < 4294967296) : bits .and .u32 a b = ((a &&& b : Nat) : Int) ∧ bits .or .u32 a b = ((a ||| b : Nat) : Int) ∧ bits .xor .u32 a b = ((a ^^^ b : Nat) : Int) :=
  bits_nat_full .u32 (fun n h => by rw [IntKind.wrap_u32]; simp only [IntKind.bits] at h; omega) a b ha hb
theorem u32and1N (a : Nat) (ha : a < 4294967296) : bits .and .u32 a 1 = ((a % 2 : Nat) : Int) := by
  have := (bits_u32 a 1 ha (by decide)).1
  rw [Nat.and_one_is_mod] at this; exact this
theorem u8and1N (a : Nat) (ha : a < 256) : bits .and .u8 a 1 = ((a % 2 : Nat) : Int) := by
  have := (bits_u8 a 1 ha (by decide)).1
  rw [Nat.and_one_is_mod] at this; exact this
theorem u8orN (a b : Nat) (ha : a < 256) (hb : b < 256) : bits .or .u8 a b = ((a ||| b : Nat) : Int) := (bits_u8 a b ha hb).2.1
theorem u32orN (a b : Nat) (ha : a < 4294967296) (hb : b < 4294967296) : bits .or .u32 a b = ((a ||| b : Nat) : Int) := (bits_u32 a b ha hb).2.1
theorem u32andN (a b : Nat) (ha : a < 4294967296) (hb : b < 4294967296) : bits .and .u32 a b = ((a &&& b : Nat) : Int) := (bits_u32 a b ha hb).1

/-- Bits as a number, the least first. -/
def bval : List Bool → Nat
  | [] => 0
  | b :: l => b.toNat + 2 * bval l
theorem bval_lt : ∀ l : List Bool, bval l < 2 ^ l.length
  | [] => by simp [bval]
  | b :: l => by
    have := bval_lt l
    simp only [bval, List.length_cons, Nat.pow_succ]
    have hb : b.toNat ≤ 1 := by cases b <;> simp
    omega
theorem bval_append : ∀ l m : List Bool, bval (l ++ m) = bval l + 2 ^ l.length * bval m
  | [], m => by simp [bval]
  | b :: l, m => by
    have := bval_append l m
    simp only [List.cons_append, bval, this, List.length_cons, Nat.pow_succ]
    have h : 2 ^ l.length * 2 * bval m = 2 * (2 ^ l.length * bval m) := by rw [Nat.mul_comm (2 ^ l.length) 2, Nat.mul_assoc]
    rw [h]; omega
theorem bval_testBit : ∀ (l : List Bool) (i : Nat), (bval l).testBit i = l.getD i false
  | [], i => by simp [bval]
  | b :: l, 0 => by
    simp only [bval, Nat.testBit_zero, List.getD_cons_zero]
    cases b <;> simp <;> omega
  | b :: l, i + 1 => by
    have := bval_testBit l i
    rw [Nat.testBit_succ]
    have h : (bval (b :: l)) / 2 = bval l := by
      simp only [bval]; cases b <;> simp <;> omega
    rw [h, this]; simp
theorem bval_lt8 (l : List Bool) (h : l.length ≤ 8) : bval l < 256 := by
  have := bval_lt l
  exact Nat.lt_of_lt_of_le this (Nat.pow_le_pow_right (by decide) h)

/-- Bits as bytes, the least bit of a byte first, the last byte filled up with nought. -/
def pack (l : List Bool) : List UInt8 := (List.range ((l.length + 7) / 8)).map fun j => UInt8.ofNat (bval ((l.drop (8 * j)).take 8))
theorem pack_length (l : List Bool) : (pack l).length = (l.length + 7) / 8 := by simp [pack]
theorem pack_nil : pack [] = [] := rfl
theorem take8_append (l m : List Bool) (j : Nat) (h : 8 * j + 8 ≤ l.length) : ((l ++ m).drop (8 * j)).take 8 = (l.drop (8 * j)).take 8 := by
  rw [List.drop_append_of_le_length (by omega), List.take_append_of_le_length (by simp; omega)]
theorem pack_snoc_whole (l : List Bool) (b : Bool) (h : l.length % 8 = 0) : pack (l ++ [b]) = pack l ++ [UInt8.ofNat b.toNat] := by
  unfold pack
  have e1 : ((l ++ [b]).length + 7) / 8 = (l.length + 7) / 8 + 1 := by simp; omega
  rw [e1, List.range_succ, List.map_append]
  congr 1
  · refine List.map_congr_left fun j hj => ?_
    rw [take8_append _ _ _ (by simp at hj; omega)]
  · have e2 : 8 * ((l.length + 7) / 8) = l.length := by omega
    simp [e2, bval]
theorem pack_snoc_part (l : List Bool) (b : Bool) (h : l.length % 8 ≠ 0) :
    pack (l ++ [b]) = (pack l).set (l.length / 8) (UInt8.ofNat (bval (l.drop (8 * (l.length / 8))) + 2 ^ (l.length % 8) * b.toNat)) := by
  unfold pack
  have e1 : ((l ++ [b]).length + 7) / 8 = l.length / 8 + 1 := by simp; omega
  have e2 : (l.length + 7) / 8 = l.length / 8 + 1 := by omega
  rw [e1, e2, List.range_succ, List.map_append, List.map_append, List.set_append_right _ _ (by simp)]
  congr 1
  · refine List.map_congr_left fun j hj => ?_
    rw [take8_append _ _ _ (by simp at hj; omega)]
  · simp only [List.map_cons, List.map_nil, List.length_map, List.length_range, Nat.sub_self, List.set_cons_zero]
    congr 2
    rw [List.drop_append_of_le_length (by omega), List.take_of_length_le (by simp; omega), bval_append]
    congr 1
    have : (l.drop (8 * (l.length / 8))).length = l.length % 8 := by simp; omega
    rw [this]; simp [bval]
theorem pack_last (l : List Bool) (h : l.length % 8 ≠ 0) : (pack l)[l.length / 8]? = some (UInt8.ofNat (bval (l.drop (8 * (l.length / 8))))) := by
  unfold pack
  rw [List.getElem?_map, List.getElem?_range (by omega)]
  simp only [Option.map_some]
  rw [List.take_of_length_le (by simp; omega)]
theorem or_shift (a b k : Nat) (ha : a < 2 ^ k) : a ||| b * 2 ^ k = a + 2 ^ k * b := by
  rw [Nat.or_comm, Nat.mul_comm, Nat.add_comm]
  exact (Nat.two_pow_add_eq_or_of_lt ha b).symm

/-- So many bytes of bits. -/
def packN (m : Nat) (l : List Bool) : List UInt8 := (List.range m).map fun j => UInt8.ofNat (bval ((l.drop (8 * j)).take 8))
theorem pack_eq (l : List Bool) : pack l = packN ((l.length + 7) / 8) l := rfl
theorem packN_length (m : Nat) (l : List Bool) : (packN m l).length = m := by simp [packN]
theorem packN_nil (m : Nat) : packN m [] = List.replicate m 0 := by
  apply List.ext_getElem
  · simp [packN]
  · intro i h1 h2; simp [packN, bval]
theorem packN_get (m : Nat) (l : List Bool) (h : l.length / 8 < m) : (packN m l)[l.length / 8]'(by rw [packN_length]; exact h) = UInt8.ofNat (bval (l.drop (8 * (l.length / 8)))) := by
  simp only [packN, List.getElem_map, List.getElem_range]
  rw [List.take_of_length_le (by simp; omega)]
theorem packN_snoc (m : Nat) (l : List Bool) (b : Bool) :
    packN m (l ++ [b]) = (packN m l).set (l.length / 8) (UInt8.ofNat (bval (l.drop (8 * (l.length / 8))) + 2 ^ (l.length % 8) * b.toNat)) := by
  apply List.ext_getElem
  · simp [packN]
  · intro j h1 h2
    rw [List.getElem_set]
    simp only [packN, List.getElem_map, List.getElem_range]
    split
    · rename_i hj
      subst hj
      congr 1
      rw [List.drop_append_of_le_length (by omega), List.take_of_length_le (by simp; omega), bval_append]
      have : (l.drop (8 * (l.length / 8))).length = l.length % 8 := by simp; omega
      rw [this]; simp [bval]
    · rename_i hj
      congr 2
      by_cases h8 : 8 * j + 8 ≤ l.length
      · rw [take8_append _ _ _ h8]
      · rw [List.drop_eq_nil_of_le (by simp; omega), List.drop_eq_nil_of_le (by omega)]
end Go.Aq

/- Bytes as a text. No statement of the seat is proved here. -/
namespace Go.Aq
open Go.RowKit
/-- Bytes as a text. -/
def str (l : List UInt8) : ByteArray := ⟨l.toArray⟩
theorem str_inj {l m : List UInt8} (h : str l = str m) : l = m := by
  have := congrArg (fun b : ByteArray => b.data.toList) h
  simpa [str] using this
theorem str_toList (l : List UInt8) : (str l).toList = l := ByteArray.toList_mk l
theorem str_size (l : List UInt8) : (str l).size = l.length := by simp [str, ByteArray.size]
theorem str_eq (a b : List UInt8) : ((str a).toList == (str b).toList) = decide (a = b) := by rw [str_toList, str_toList]; exact (Bool.eq_iff_iff.2 (by simp))
theorem run_str {P : Program} {w : World} {v : Value} {n : Nat} {bs : List UInt8} (h : Sees w 1 v n (Bs bs)) (src dst e : TypeId) (hs : P.underlying src = some (.slice e)) (he : P.underlying e = some (.int .u8)) (hd : P.underlying dst = some .string) :
    (convert src dst v).run P w = .ok (.string (str bs)) w := by
  obtain ⟨hl, ao, cap, rfl, hc, hno, hcells⟩ := h
  rw [run_convert_bytes_string w src dst e ao n cap hs he hd]
  cases ao with
  | none =>
    obtain ⟨rfl, rfl⟩ := hno rfl
    have : bs = [] := List.eq_nil_of_length_eq_zero (by simpa [Bs] using hl)
    subst this
    rfl
  | some ad =>
    have h1 := run_loadCells_list (P := P) (w := w) ad (Bs bs) (hcells ad rfl)
    have h2 : (Bs bs) = (bs.map fun c => (c.toNat : Int)).map (Value.int .u8) := by simp [Bs, Bc]
    rw [hl, Nat.mul_one, h2] at h1
    rw [run_bytesToString w ad n cap _ h1, foldl_push_bytes]
    simp [str, Function.comp_def]
end Go.Aq
namespace Go.Proofs.YtgcmgcffndbpoaaGreatDoor
open Go.RowKit Go.Aq

theorem run_str8 {w : World} {v : Value} {n : Nat} {bs : List UInt8} (h : Sees w 1 v n (Bs bs)) : (convert 38 9 v).run Tryz.prog w = .ok (.string (str bs)) w :=
  run_str h _ _ _ Tryz.underlying38 Tryz.underlying5 Tryz.underlying9

end Go.Proofs.YtgcmgcffndbpoaaGreatDoor

/- Bit operations on int at numbers that are not negative. No statement of the seat is proved here. -/
namespace Go.Aq
open Go.RowKit
theorem bits_i64 (a b : Nat) (ha : a < 9223372036854775808) (hb : b < 9223372036854775808) : bits .and .i64 a b = ((a &&& b : Nat) : Int) ∧ bits .or .i64 a b = ((a ||| b : Nat) : Int) ∧ bits .xor .i64 a b = ((a ^^^ b : Nat) : Int) := by
  have hp : (9223372036854775808 : Nat) = 2 ^ 63 := by decide
  have ha' : a % 2 ^ IntKind.i64.bits = a := Nat.mod_eq_of_lt (by simp only [IntKind.bits]; omega)
  have hb' : b % 2 ^ IntKind.i64.bits = b := Nat.mod_eq_of_lt (by simp only [IntKind.bits]; omega)
  have hk : ∀ n : Nat, n < 9223372036854775808 → IntKind.i64.wrap (n : Int) = n := fun n h => IntWalk.i64_in _ (by omega)
  have h1 : a &&& b < 9223372036854775808 := by rw [hp] at hb ⊢; exact Nat.and_lt_two_pow a hb
  have h2 : a ||| b < 9223372036854775808 := by rw [hp] at ha hb ⊢; exact Nat.or_lt_two_pow ha hb
  have h3 : a ^^^ b < 9223372036854775808 := by rw [hp] at ha hb ⊢; exact Nat.xor_lt_two_pow ha hb
  refine ⟨?_, ?_, ?_⟩
  · simp only [bits, BitVec.ofInt_natCast, BitVec.toNat_and, BitVec.toNat_ofNat, ha', hb']
    exact hk _ h1
  · simp only [bits, BitVec.ofInt_natCast, BitVec.toNat_or, BitVec.toNat_ofNat, ha', hb']
    exact hk _ h2
  · simp only [bits, BitVec.ofInt_natCast, BitVec.toNat_xor, BitVec.toNat_ofNat, ha', hb']
    exact hk _ h3
theorem or_byte (n x : Nat) (hn : n < 1099511627776) (hx : x < 256) : bits .or .i64 ((n : Int) * 256) (x : Int) = ((n * 256 + x : Nat) : Int) := by
  have h := (bits_i64 (n * 256) x (by omega) (by omega)).2.1
  have e : n * 256 ||| x = n * 256 + x := by
    rw [Nat.or_comm]
    have := or_shift x n 8 hx
    rw [show (2 : Nat) ^ 8 = 256 by decide] at this
    rw [this]
    omega
  rw [e] at h
  rw [← h]
  rfl
theorem i64mask (x m k : Nat) (hx : x < 9223372036854775808) (hm : m + 1 = 2 ^ k) (hk : k ≤ 62) : bits .and .i64 (x : Int) (m : Int) = ((x % 2 ^ k : Nat) : Int) := by
  have h2 : 2 ^ k ≤ 2 ^ 62 := Nat.pow_le_pow_right (by decide) hk
  have h := (bits_i64 x m hx (by have : (2:Nat) ^ 62 = 4611686018427387904 := by decide
                                 omega)).1
  rw [h, show m = 2 ^ k - 1 by omega, Nat.and_two_pow_sub_one_eq_mod]
theorem i64orl (n x k : Nat) (hn : n * 2 ^ k < 9223372036854775808) (hx : x < 2 ^ k) (hk : k ≤ 62) : bits .or .i64 ((n : Int) * ((2 ^ k : Nat) : Int)) (x : Int) = ((n * 2 ^ k + x : Nat) : Int) := by
  have h2 : 2 ^ k ≤ 2 ^ 62 := Nat.pow_le_pow_right (by decide) hk
  have h := (bits_i64 (n * 2 ^ k) x hn (by have : (2:Nat) ^ 62 = 4611686018427387904 := by decide
                                           omega)).2.1
  have e : n * 2 ^ k ||| x = n * 2 ^ k + x := by
    rw [Nat.or_comm, or_shift x n k hx, Nat.add_comm, Nat.mul_comm]
  rw [e] at h
  rw [← h, Int.natCast_mul]
end Go.Aq

/- Contracts of aquref.Bytes and aquref.CopyBytes. No statement of the seat is proved here. -/
namespace Go.Proofs.YtgcmgcffndbpoaaGreatDoor
open Go.RowKit Go.Aq
set_option maxHeartbeats 400000 in
theorem same_any (w : World) (v v' : Value) (n n' : Nat) (a b : List UInt8) (h1 : Sees w 1 v n (Bs a)) (h2 : Sees w 1 v' n' (Bs b)) :
    Calls Tryz.prog 17 #[v, v'] w fun e w' => e = .returned (.bool (decide (a = b))) ∧ w = w' := by
  have r1 := run_str8 h1
  have r2 := run_str8 h2
  obtain ⟨ao, cap, rfl, -⟩ := h1.shape
  obtain ⟨ao', cap', rfl, -⟩ := h2.shape
  go_enter Tryz.func17, Tryz.ntmps17
  go_wp2
  go_ret
  refine ⟨?_, rfl⟩
  rw [← str_eq]
  rfl
theorem same_yes (w : World) (v v' : Value) (n n' : Nat) (a b : List UInt8) (h1 : Sees w 1 v n (Bs a)) (h2 : Sees w 1 v' n' (Bs b)) (h : a = b) :
    Calls Tryz.prog 17 #[v, v'] w fun e w' => e = .returned (.bool true) ∧ w = w' := by
  have := same_any w v v' n n' a b h1 h2
  simpa [h] using this

end Go.Proofs.YtgcmgcffndbpoaaGreatDoor

/- Contracts of package num: there, ReadBig, Little, Big. No statement of the seat is proved here. -/
namespace Go.Aq
open Go.RowKit
theorem ret_bool {a b : Bool} (h : a = b) : Ending.returned (.bool a) = .returned (.bool b) := by rw [h]
theorem ret_int {k : IntKind} {a b : Int} (h : a = b) : Ending.returned (.int k a) = .returned (.int k b) := by rw [h]
/-- A part of a slice. -/
theorem Sees.part {w : World} {v : Value} {n : Nat} {xs : List Value} (h : Sees w 1 v n xs) (at_ wd : Nat) (hw : 0 < wd) (hn : at_ + wd ≤ n) :
    ∃ g off cap, v = .slice (some ⟨g, off, none⟩) n cap ∧ n ≤ cap ∧ Sees w 1 (.slice (some ⟨g, off + at_, none⟩) wd (cap - at_)) wd ((xs.drop at_).take wd) := by
  obtain ⟨g, off, cap, rfl, hc, hcell⟩ := h.at1 (by omega)
  have hl := h.len
  refine ⟨g, off, cap, rfl, hc, ⟨by simp; omega, _, _, rfl, by omega, by simp, fun ad had j u hu => ?_⟩⟩
  cases had
  have hj : j < wd := by
    have := (List.getElem?_eq_some_iff.1 hu).1
    simp at this; omega
  rw [Addr.add_lit, Nat.add_assoc, hcell (at_ + j) (by omega), ← hu, List.getElem?_take_of_lt hj, List.getElem?_drop]
/-- Bytes as a number, the greatest first. -/
def beVal (l : List UInt8) : Nat := l.foldl (fun n x => n * 256 + x.toNat) 0
theorem beVal_snoc (l : List UInt8) (x : UInt8) : beVal (l ++ [x]) = beVal l * 256 + x.toNat := by simp [beVal]
theorem beVal_lt (l : List UInt8) : beVal l < 256 ^ l.length := by
  induction h : l.length generalizing l with
  | zero => have := List.eq_nil_of_length_eq_zero h; subst this; simp [beVal]
  | succ k ih =>
    have hne : l ≠ [] := by intro e; subst e; simp at h
    rw [← List.dropLast_concat_getLast hne, beVal_snoc]
    have := ih l.dropLast (by simp; omega)
    have hx := (l.getLast hne).toNat_lt
    rw [Nat.pow_succ]
    omega
theorem Bs_take (l : List UInt8) (n : Nat) : Bs (l.take n) = (Bs l).take n := by simp [Bs, List.map_take]
theorem Bs_drop (l : List UInt8) (n : Nat) : Bs (l.drop n) = (Bs l).drop n := by simp [Bs, List.map_drop]
/-- A number's bytes, the least first. -/
def leB (n k : Nat) : List UInt8 := (List.range k).map fun i => UInt8.ofNat (n / 2 ^ (8 * i))
def beB (n k : Nat) : List UInt8 := (leB n k).reverse
theorem leB_length (n k : Nat) : (leB n k).length = k := by simp [leB]
theorem beB_length (n k : Nat) : (beB n k).length = k := by simp [beB, leB]
/-- A list turned round at its first and last i places. -/
def revAt (l : List UInt8) (i : Nat) : List UInt8 := (List.range l.length).map fun j => if j < i ∨ l.length ≤ j + i then l.getD (l.length - 1 - j) 0 else l.getD j 0
theorem revAt_length (l : List UInt8) (i : Nat) : (revAt l i).length = l.length := by simp [revAt]
theorem revAt_zero (l : List UInt8) : revAt l 0 = l := by
  apply List.ext_getElem
  · simp [revAt]
  · intro i h1 h2
    simp only [revAt, List.getElem_map, List.getElem_range]
    rw [if_neg (by omega)]
    simp [h2]
theorem revAt_end (l : List UInt8) (i : Nat) (h : l.length ≤ 2 * i + 1) : revAt l i = l.reverse := by
  apply List.ext_getElem
  · simp [revAt]
  · intro j h1 h2
    simp only [revAt_length] at h1
    simp only [revAt, List.getElem_map, List.getElem_range, List.getElem_reverse]
    by_cases hj : j < i ∨ l.length ≤ j + i
    · rw [if_pos hj, List.getD_eq_getElem?_getD, List.getElem?_eq_getElem (by omega)]; rfl
    · rw [if_neg hj, List.getD_eq_getElem?_getD, List.getElem?_eq_getElem (by omega)]
      simp only [Option.getD_some]
      congr 1
      omega
theorem revAt_lo (l : List UInt8) (i j : Nat) (h : i + j + 1 = l.length) (hij : i < j) : (revAt l i)[i]'(by rw [revAt_length]; omega) = l[i]'(by omega) := by
  simp only [revAt, List.getElem_map, List.getElem_range]
  rw [if_neg (by omega), List.getD_eq_getElem?_getD, List.getElem?_eq_getElem (by omega)]; rfl
theorem revAt_hi (l : List UInt8) (i j : Nat) (h : i + j + 1 = l.length) (hij : i < j) : (revAt l i)[j]'(by rw [revAt_length]; omega) = l[j]'(by omega) := by
  simp only [revAt, List.getElem_map, List.getElem_range]
  rw [if_neg (by omega), List.getD_eq_getElem?_getD, List.getElem?_eq_getElem (by omega)]; rfl
theorem revAt_step (l : List UInt8) (i j : Nat) (h : i + j + 1 = l.length) (hij : i < j) : ((revAt l i).set i (l[j]'(by omega))).set j (l[i]'(by omega)) = revAt l (i + 1) := by
  apply List.ext_getElem
  · simp [revAt]
  · intro k h1 h2
    simp only [revAt_length] at h2
    simp only [List.getElem_set, revAt, List.getElem_map, List.getElem_range]
    by_cases hkj : j = k
    · subst hkj
      rw [if_pos rfl, if_pos (by omega), List.getD_eq_getElem?_getD, List.getElem?_eq_getElem (by omega)]
      simp only [Option.getD_some]
      congr 1
      omega
    · rw [if_neg hkj]
      by_cases hki : i = k
      · subst hki
        rw [if_pos rfl, if_pos (by omega), List.getD_eq_getElem?_getD, List.getElem?_eq_getElem (by omega)]
        simp only [Option.getD_some]
        congr 1
        omega
      · rw [if_neg hki]
        by_cases hk : k < i ∨ l.length ≤ k + i
        · rw [if_pos hk, if_pos (by omega)]
        · rw [if_neg hk, if_neg (by omega)]
end Go.Aq
namespace Go.Proofs.YtgcmgcffndbpoaaGreatDoor
open Go.RowKit Go.Aq
set_option maxHeartbeats 400000 in
theorem there_ok (w : World) (v : Value) (n at_ wd : Nat) (b : List UInt8) (hv : Sees w 1 v n (Bs b)) (h1 : 1 ≤ wd) (h6 : wd ≤ 6) (ha : at_ + wd ≤ n) (hn : n ≤ 4611686018427387904) :
    Calls Tryz.prog 78 #[v, .int .i64 at_, .int .i64 wd] w fun e w' => ∃ v', e = .returned (.tuple #[v', .int .i64 0]) ∧ Sees w 1 v' wd (Bs ((b.drop at_).take wd)) ∧ w = w' := by
  obtain ⟨g, off, cap, rfl, hc, hs⟩ := hv.part at_ wd (by omega) ha
  have t1 : decide ((wd : Int) < 1) = false := by simp; omega
  have t2 : decide ((6 : Int) < (wd : Int)) = false := by simp; omega
  have t3 : decide ((at_ : Int) < 0) = false := by simp
  have t4 : decide ((n : Int) < (at_ : Int)) = false := by simp; omega
  have t5 : decide ((n : Int) - (at_ : Int) < (wd : Int)) = false := by simp; omega
  have t4' : decide (n < at_) = false := by simp; omega
  go_enter Tryz.func78, Tryz.ntmps78
  go_wp2
  go_ret2
  rw [Nat.add_sub_cancel_left]
  refine ⟨_, rfl, ?_, rfl⟩
  rw [Bs_take, Bs_drop]
  exact hs
set_option maxHeartbeats 400000 in
theorem readBig_ok (w : World) (v : Value) (n at_ wd : Nat) (b : List UInt8) (hv : Sees w 1 v n (Bs b)) (h1 : 1 ≤ wd) (h6 : wd ≤ 6) (ha : at_ + wd ≤ n) (hn : n ≤ 4611686018427387904) :
    Calls Tryz.prog 49 #[v, .int .i64 at_, .int .i64 wd] w fun e w' => e = .returned (.tuple #[.int .i64 (beVal ((b.drop at_).take wd) : Nat), .int .i64 0]) ∧ w = w' := by
  obtain ⟨R, hR⟩ : ∃ R, beVal ((b.drop at_).take wd) = R := ⟨_, rfl⟩
  rw [hR]
  have HR := Lib.hid hR; clear hR
  go_enter Tryz.func49, Tryz.ntmps49
  go_wp2_with fail
  refine (there_ok w v n at_ wd b hv h1 h6 ha hn).mono ?_
  rintro e w1 ⟨v', rfl, hs, rfl⟩
  have hbl : ((b.drop at_).take wd).length = wd := by have := hs.len; rw [Bs_length] at this; omega
  generalize (b.drop at_).take wd = l at *
  clear hv ha hn
  obtain ⟨g, off, cap, rfl, hc, hcell⟩ := hs.at1 (by omega)
  have HL := Lib.hid hbl; clear hbl
  have HC := Lib.hid hcell; clear hcell
  go_wp2_with fail
  go_loopg [10, 12, 22] wd (fun k vn _ vi wr => ∃ (i m : Nat), vn = .int .i64 m ∧ vi = .int .i64 i ∧ i + k = wd ∧ m = beVal (l.take i) ∧ wr = w)
  case atStart => exact ⟨0, 0, rfl, rfl, by omega, rfl, rfl⟩
  case round =>
    obtain ⟨i, m, rfl, rfl, hik, hm, rfl⟩ := hrel
    have hmb : m < 1099511627776 ∨ i = wd := by
      by_cases hi : i < wd
      · left
        have h := beVal_lt (l.take i)
        rw [List.length_take, Nat.min_eq_left (by have := HL.out; omega), ← hm] at h
        have h2 : (256 : Nat) ^ i ≤ 256 ^ 5 := Nat.pow_le_pow_right (by decide) (by omega)
        have h3 : (256 : Nat) ^ 5 = 1099511627776 := by decide
        omega
      · right; omega
    have HM := Lib.hid hm; clear hm
    have HIK := Lib.hid hik; clear hik
    by_cases hlt : i < wd
    · have hmb' : m < 1099511627776 := by omega
      clear hmb
      have hll : i < l.length := by have := HL.out; omega
      have x0 : wr.cell? ⟨g, off + i, none⟩ = some (.int .u8 ((l[i]'hll).toNat : Int)) := by
        rw [HC.out i (by omega), Bs_get _ _ hll]
      have hb := (l[i]'hll).toNat_lt
      have HT := Lib.hid (show beVal (l.take (i + 1)) = beVal (l.take i) * 256 + (l[i]'hll).toNat by rw [List.take_succ_eq_append_getElem hll, beVal_snoc])
      have hor := or_byte m (l[i]'hll).toNat hmb' hb
      generalize (l[i]'hll).toNat = x at *
      go_wp2
      go_roundg (gk - 1)
      case measure => have := HIK.out; omega
      case rel => exact ⟨i + 1, m * 256 + x, by go_num, by go_num, by have := HIK.out; omega, by rw [HT.out, ← HM.out], rfl⟩
    · have hi : i = wd := by have := HIK.out; omega
      subst hi
      go_wp2
      go_ret2
      have e := HM.out
      rw [List.take_of_length_le (by have := HL.out; omega), HR.out] at e
      rw [e]
      exact ⟨rfl, rfl⟩
set_option maxHeartbeats 400000 in
theorem reverse_any (w : World) (g n cap : Nat) (l : List UInt8) (hv : Own w 5 1 (.slice (some ⟨g, 0, none⟩) n cap) n (Bs l)) (h1 : 1 ≤ n) (hn : n ≤ 4611686018427387904) :
    Calls Tryz.prog 118 #[.slice (some ⟨g, 0, none⟩) n cap] w fun e w' => e = .returned (.tuple #[]) ∧ Own w' 5 1 (.slice (some ⟨g, 0, none⟩) n cap) n (Bs l.reverse) ∧ Chg [g] w w' := by
  have hl : l.length = n := by have := hv.len; rw [Bs_length] at this; omega
  have HL := Lib.hid hl; clear hl
  go_enter Tryz.func118, Tryz.ntmps118
  go_wp2
  go_loopg [2, 3] n (fun k vi vj wr => ∃ (i j : Nat) (b : Int), vi = .int .i64 i ∧ vj = .int .i64 b ∧ (b = j ∨ (n ≤ 2 * i ∧ b + 1 = j)) ∧ i + k = n ∧ i ≤ n ∧ b + i + 1 = n ∧ Own wr 5 1 (.slice (some ⟨g, 0, none⟩) n cap) n (Bs (revAt l i)) ∧ Chg [g] w wr)
  case atStart => exact ⟨0, n - 1, (n : Int) - 1, rfl, by rfl, by omega, by omega, by omega, by omega, by rw [revAt_zero]; exact hv, Chg.refl _ _⟩
  case round =>
    obtain ⟨i, j, b, rfl, rfl, hbj, hik, hi, hbi, ho, hc⟩ := hrel
    have HIK := Lib.hid hik; clear hik
    by_cases hlt : (i : Int) < b
    · obtain ⟨j', hj'⟩ : ∃ j' : Nat, b = j' := ⟨b.toNat, by omega⟩
      have hij : i < j' := by omega
      have hsum : i + j' + 1 = n := by omega
      subst hj'
      have hsl : i + j' + 1 = l.length := by rw [HL.out]; exact hsum
      have t1 : decide ((i : Int) < (j' : Int)) = true := by simpa using hlt
      have t1' : decide (i < j') = true := by simpa using hij
      obtain ⟨c, hcc⟩ : ∃ c, l[i]'(by omega) = c := ⟨_, rfl⟩
      obtain ⟨d, hdd⟩ : ∃ d, l[j']'(by omega) = d := ⟨_, rfl⟩
      have x0 : wr.cell? ⟨g, i, none⟩ = some (.int .u8 (c.toNat : Int)) := by
        rw [ho.cellAt i (by omega), Bs_get _ _ (by rw [revAt_length]; omega), revAt_lo l i j' hsl hij, hcc]
      have x1 : wr.cell? ⟨g, j', none⟩ = some (.int .u8 (d.toNat : Int)) := by
        rw [ho.cellAt j' (by omega), Bs_get _ _ (by rw [revAt_length]; omega), revAt_hi l i j' hsl hij, hdd]
      have f0 := ho.frozenAt i
      have f1 := ho.frozenAt j'
      have hst := revAt_step l i j' hsl hij
      rw [hcc, hdd] at hst
      have ho2 := (ho.set i (.int .u8 (d.toNat : Int))).set j' (.int .u8 (c.toNat : Int))
      rw [Bs_set, Bs_set, hst] at ho2
      have hc2 := (hc.setCell (p := ⟨g, i, none⟩) (by simp) (.int .u8 (d.toNat : Int))).setCell (p := ⟨g, j', none⟩) (by simp) (.int .u8 (c.toNat : Int))
      have HS := Lib.hid hsum; clear hsum hbj hbi hst hcc hdd
      generalize c.toNat = c at *
      generalize d.toNat = d at *
      have hne : (j' = i) = False := by simp; omega
      have hne' : (i = j') = False := by simp; omega
      have i1 : (i : Int) < n := by have := HS.out; omega
      have i2 : (j' : Int) < n := by have := HS.out; omega
      have ho3 : Own ((wr.setCell ⟨g, i, none⟩ (.int .u8 (d : Int))).setCell ⟨g, j', none⟩ (.int .u8 (c : Int))).drew 5 1 (.slice (some ⟨g, 0, none⟩) n cap) n (Bs (revAt l (i + 1))) := ho2
      have hc3 := hc2.drew
      clear ho2 hc2
      go_wp2
      go_region
      generalize ((wr.setCell ⟨g, i, none⟩ (.int .u8 (d : Int))).setCell ⟨g, j', none⟩ (.int .u8 (c : Int))).drew = w3 at *
      go_wp2
      go_roundg (gk - 1)
      case measure => have := HIK.out; have := HS.out; omega
      case rel => exact ⟨i + 1, j' - 1, (j' : Int) - 1, by go_num, rfl, by omega, by have := HIK.out; have := HS.out; omega, by have := HS.out; omega, by have := HS.out; omega, ho3, hc3⟩
    · have t1 : decide ((i : Int) < b) = false := by simpa using hlt
      go_wp2
      go_end0
      refine ⟨rfl, ?_, hc⟩
      rw [revAt_end l i (by rw [HL.out]; omega)] at ho
      exact ho
set_option maxHeartbeats 400000 in
theorem little_ok (w : World) (n wd : Nat) (h1 : 1 ≤ wd) (h6 : wd ≤ 6) (hn : n < 2 ^ (8 * wd)) (sl_u8 : SliceTy Tryz.prog 38 5 (.int .u8 0) 1 1) :
    Calls Tryz.prog 117 #[.int .i64 n, .int .i64 wd] w fun e w' => ∃ g, e = .returned (.tuple #[.slice (some ⟨g, 0, none⟩) wd wd, .int .i64 0]) ∧ Own w' 5 1 (.slice (some ⟨g, 0, none⟩) wd wd) wd (Bs (leB n wd)) ∧ Chg [] w w' ∧ w.heap.size ≤ g := by
  have t1 : decide ((wd : Int) < 1) = false := by simp; omega
  have t2 : decide ((6 : Int) < (wd : Int)) = false := by simp; omega
  have t3 : decide ((n : Int) < 0) = false := by simp
  have hq : (n : Int) / 2 ^ (8 * wd) = 0 := by
    have : ((n / 2 ^ (8 * wd) : Nat) : Int) = 0 := by rw [Nat.div_eq_of_lt hn]; rfl
    simpa using this
  have HN := Lib.hid hn; clear hn
  go_enter Tryz.func117, Tryz.ntmps117
  go_wp2_with (at_make; refine wpList_mk rfl _ _ 38 rfl sl_u8 rfl .i64 .i64 wd rfl rfl (by omega) (by omega) (by omega) (by omega) ?_; intro w1 ho1 hc1 hs1)
  obtain ⟨B, hB⟩ : ∃ B, B = w.heap.size := ⟨_, rfl⟩
  rw [← hB] at ho1 ⊢
  have HB := Lib.hid hB; clear hB
  have hr0 : List.replicate wd (Value.int IntKind.u8 0) = Bs (leB n 0 ++ List.replicate (wd - 0) 0) := by simp [Bs, Bc, leB]
  rw [hr0] at ho1
  clear hr0 hs1
  go_wp2
  go_loopg [7, 29] wd (fun k _ vi wr => ∃ (i : Nat), vi = .int .i64 i ∧ i + k = wd ∧ Own wr 5 1 (.slice (some ⟨B, 0, none⟩) wd wd) wd (Bs (leB n i ++ List.replicate (wd - i) 0)) ∧ Chg [] w wr)
  case atStart => exact ⟨0, rfl, by omega, ho1, hc1⟩
  case round =>
    clear ho1 hc1
    obtain ⟨i, rfl, hik, ho, hc⟩ := hrel
    have HIK := Lib.hid hik
    by_cases hlt : i < wd
    · clear hik
      have f0 := ho.frozenAt i
      have x0 : ∃ u, wr.cell? ⟨B, i, none⟩ = some u := by
        rw [ho.cellAt i (by omega)]
        exact ⟨_, List.getElem?_eq_getElem (by have := ho.len; omega)⟩
      obtain ⟨u, x0⟩ := x0
      have hst : (leB n i ++ List.replicate (wd - i) 0).set i (UInt8.ofNat (n / 2 ^ (8 * i))) = leB n (i + 1) ++ List.replicate (wd - (i + 1)) 0 := by
        rw [List.set_append_right _ _ (by rw [leB_length]; exact Nat.le_refl _), leB_length, Nat.sub_self, show wd - i = (wd - (i + 1)) + 1 by omega, List.replicate_succ, List.set_cons_zero]
        simp only [leB, List.range_succ, List.map_append, List.map_cons, List.map_nil, List.append_assoc, List.cons_append, List.nil_append]
      have ho2 := ho.set i (.int .u8 ((UInt8.ofNat (n / 2 ^ (8 * i))).toNat : Int))
      rw [Bs_set, hst] at ho2
      have hc2 := hc.setCell (p := ⟨B, i, none⟩) (by right; have := HB.out; simp; omega) (.int .u8 ((UInt8.ofNat (n / 2 ^ (8 * i))).toNat : Int))
      have ev : ((UInt8.ofNat (n / 2 ^ (8 * i))).toNat : Int) = (n : Int) / 2 ^ (8 * i) % 256 := by
        rw [UInt8.toNat_ofNat']
        simp
      rw [ev] at ho2 hc2
      clear hst ev
      go_wp2
      go_roundg (gk - 1)
      case measure => have := HIK.out; omega
      case rel =>
        refine ⟨i + 1, by go_num, by have := HIK.out; omega, ?_, ?_⟩
        · exact ho2
        · exact hc2
    · have hi : i = wd := by omega
      subst hi
      rw [Nat.sub_self, List.replicate_zero, List.append_nil] at ho
      go_wp2
      go_ret2
      exact ⟨B, rfl, ho, hc, by have := HB.out; omega⟩
theorem big_ok (w : World) (n wd : Nat) (h1 : 1 ≤ wd) (h6 : wd ≤ 6) (hn : n < 2 ^ (8 * wd)) (sl_u8 : SliceTy Tryz.prog 38 5 (.int .u8 0) 1 1) :
    Calls Tryz.prog 99 #[.int .i64 n, .int .i64 wd] w fun e w' => ∃ g, e = .returned (.tuple #[.slice (some ⟨g, 0, none⟩) wd wd, .int .i64 0]) ∧ Own w' 5 1 (.slice (some ⟨g, 0, none⟩) wd wd) wd (Bs (beB n wd)) ∧ Chg [] w w' ∧ w.heap.size ≤ g := by
  go_enter Tryz.func99, Tryz.ntmps99
  go_wp2_with fail
  refine (little_ok w n wd h1 h6 hn sl_u8).mono ?_
  rintro e w1 ⟨g, rfl, ho, hc, hg⟩
  clear hn
  go_wp2_with fail
  refine (reverse_any w1 g wd wd (leB n wd) ho h1 (by omega)).mono ?_
  rintro e w2 ⟨rfl, ho2, hc2⟩
  go_wp2_with fail
  go_ret2
  exact ⟨g, rfl, ho2, hc.trans hc2 (by simp; omega), hg⟩
end Go.Proofs.YtgcmgcffndbpoaaGreatDoor

