/- Texts, Names, Signs, Quotes, RefSign, RSign, RWordA, RWordB, RWordD, RWordE, RWordF, RWordG in one text. No statement of the seat is proved here. -/
import Derived.Test.YtgbbjbldlfpbcaaGreatDoorWordK
import Derived.Test.YtgbbjbldlfpbcaaGreatDoorWordLaws
import Derived.Test.YtgbbjbldlfpbcaaGreatDoorI64
import Derived.Test.YtgbbjbldlfpbcaaGreatDoorRHex
set_option linter.unusedVariables false
/- Contracts of aquref.Texts and of the law package's own check of the chapter's examples. No statement of the seat is proved here. -/
namespace Go.Proofs.YtgbbjbldlfpbcaaGreatDoor
open Go.RowKit Go.Aq Go.Aq.Wd
theorem Ss_get (l : List (List UInt8)) (j : Nat) (h : j < l.length) : (Ss l)[j]? = some (.string (str (l[j]'h))) := by
  simp [Ss, h]
theorem ex_count : countL [103, 114, 195, 182, 195, 159, 101] = (5, 0) := by decide +kernel
theorem ex_words : wordsL [97, 32, 34, 98, 32, 99, 34, 32, 92, 117, 123, 101, 57, 125] = ([[97], [98, 32, 99], [92, 117, 123, 101, 57, 125]], 0, 0) := by decide +kernel
theorem ex_name : nameL [109, 97, 105, 110, 47, 195, 164] = true := by decide +kernel
end Go.Proofs.YtgbbjbldlfpbcaaGreatDoor

/- The walk of the law WordNames. No statement of the seat is proved here. -/
namespace Go.Aq
theorem str_app (a b : List UInt8) : str a ++ str b = str (a ++ b) := by
  apply ByteArray.ext
  show (str a ++ str b).data = _
  rw [ByteArray.data_append]
  simp [str]
theorem str_appL (a b : List UInt8) : str a ++ ⟨b.toArray⟩ = str (a ++ b) := str_app a b
theorem str_appR (a b : List UInt8) : (⟨a.toArray⟩ : ByteArray) ++ str b = str (a ++ b) := str_app a b
namespace Wd
theorem encL_ge : ∀ rs : List Nat, rs.length ≤ (encL rs).length
  | [] => by simp [encL]
  | c :: t => by
    have := enc1_len c
    have := encL_ge t
    rw [encL_cons, List.length_append, List.length_cons]; omega
theorem countL_le (l : List UInt8) : (countL l).1 ≤ l.length := by
  unfold countL
  split
  · rename_i rs hs
    rw [(sigs_enc hs).1]; exact encL_ge rs
  · simp
end Wd
end Go.Aq
namespace Go.Proofs.YtgbbjbldlfpbcaaGreatDoor
open Go.RowKit Go.Aq Go.Aq.Wd
end Go.Proofs.YtgbbjbldlfpbcaaGreatDoor

/- The walk of the law WordSigns. No statement of the seat is proved here. -/
namespace Go.Proofs.YtgbbjbldlfpbcaaGreatDoor
open Go.RowKit Go.Aq Go.Aq.Wd
end Go.Proofs.YtgbbjbldlfpbcaaGreatDoor

/- The walk of the law WordQuotes. No statement of the seat is proved here. -/
namespace Go.Proofs.YtgbbjbldlfpbcaaGreatDoor
open Go.RowKit Go.Aq Go.Aq.Wd
theorem writ_le (c : Nat) : (writ c).length ≤ 6 := by
  have := enc1_len c
  unfold writ hexC
  repeat' split
  all_goals simp
  omega
theorem quoteR_le (rs : List Nat) : (quoteR rs).length ≤ 2 + 6 * rs.length := by
  have : (rs.flatMap writ).length ≤ 6 * rs.length := by
    induction rs with
    | nil => simp
    | cons c t ih => have := writ_le c; simp only [List.flatMap_cons, List.length_append, List.length_cons]; omega
  simp only [quoteR, List.length_append, List.length_cons, List.length_nil]; omega
theorem special_cases (c : Nat) : (special c = true ∧ (c < 32 ∨ (127 ≤ c ∧ c ≤ 159) ∨ c = 34 ∨ c = 92)) ∨ (special c = false ∧ 32 ≤ c ∧ (c < 127 ∨ 159 < c) ∧ c ≠ 34 ∧ c ≠ 92) := by
  cases h : special c with
  | true => left; simp only [special, low, Bool.or_eq_true, Bool.and_eq_true, beq_iff_eq, decide_eq_true_eq] at h; exact ⟨rfl, by omega⟩
  | false => right; simp only [special, low, Bool.or_eq_false_iff, Bool.and_eq_false_iff, beq_eq_false_iff_ne, decide_eq_false_iff_not] at h; exact ⟨rfl, by omega⟩
end Go.Proofs.YtgbbjbldlfpbcaaGreatDoor

/- The document's way to read a sign is the plain one. No statement of the seat is proved here. -/
namespace Go.Aq.Wd
def contF : Nat → Nat → List UInt8 → Option Nat
  | 0, c, _ => some c
  | _ + 1, _, [] => none
  | k + 1, c, b :: t => if b.toNat / 64 = 2 then contF k (c * 64 + b.toNat % 64) t else none
def finS (n lo : Nat) (o : Option Nat) : Option (Nat × Nat) := match o with
  | none => none
  | some c => if c < lo ∨ 1114111 < c ∨ (55296 ≤ c ∧ c ≤ 57343) then none else some (c, n + 1)
def refSign (r : List UInt8) : Option (Nat × Nat) := match r with
  | [] => none
  | x :: t => if x.toNat < 128 then some (x.toNat, 1) else if 192 ≤ x.toNat ∧ x.toNat ≤ 223 then finS 1 128 (contF 1 (x.toNat % 32) t) else if 224 ≤ x.toNat ∧ x.toNat ≤ 239 then finS 2 2048 (contF 2 (x.toNat % 16) t)
    else if 240 ≤ x.toNat ∧ x.toNat ≤ 247 then finS 3 65536 (contF 3 (x.toNat % 8) t) else none
def goodO (d : Nat × Nat) : Option (Nat × Nat) := if bad d then none else some d
theorem goodO_bad : goodO (65533, 1) = none := rfl
theorem goodO_ok (c n : Nat) (h : ¬ (c = 65533 ∧ n = 1)) : goodO (c, n) = some (c, n) := by unfold goodO; rw [not_bad c n h]; rfl
theorem finS_none (n lo : Nat) : finS n lo none = none := rfl
theorem refSign_eq (r : List UInt8) (h : r ≠ []) : refSign r = goodO (dec r) := by
  obtain ⟨x, t, rfl⟩ : ∃ x t, r = x :: t := by cases r; (exact absurd rfl h); exact ⟨_, _, rfl⟩
  have b0 := x.toNat_lt
  unfold refSign dec
  simp only [List.getD_cons_zero, List.getD_cons_succ, List.length_cons]
  unfold Lib.decodeN
  by_cases h1 : x.toNat < 128
  · simp only [if_pos h1]
    rw [goodO_ok _ _ (by omega)]
  · simp only [if_neg h1]
    by_cases h2 : 192 ≤ x.toNat ∧ x.toNat ≤ 223
    · rw [if_pos h2]
      cases t with
      | nil =>
        rw [if_neg (by simp), if_neg (by simp), if_neg (by simp)]
        simp [contF, finS, goodO_bad]
      | cons y t =>
        have b1 := y.toNat_lt
        simp only [List.getD_cons_zero, List.length_cons, contF]
        by_cases hy : y.toNat / 64 = 2
        · rw [if_pos hy, if_pos (by omega)]
          simp only [finS, ge_iff_le]
          by_cases hc : 128 ≤ x.toNat % 32 * 64 + y.toNat % 64
          · rw [if_pos hc, if_neg (by omega), goodO_ok _ _ (by omega)]
          · rw [if_neg hc, if_pos (by omega), goodO_bad]
        · rw [if_neg hy, if_neg (by omega), if_neg (by omega), if_neg (by omega)]
          simp [finS, goodO_bad]
    · rw [if_neg h2]
      by_cases h3 : 224 ≤ x.toNat ∧ x.toNat ≤ 239
      · rw [if_pos h3, if_neg (by omega)]
        match t with
        | [] =>
          rw [if_neg (by simp), if_neg (by simp)]
          simp [contF, finS, goodO_bad]
        | [y] =>
          rw [if_neg (by simp), if_neg (by simp)]
          by_cases hy : y.toNat / 64 = 2 <;> simp [contF, finS, goodO_bad, hy]
        | y :: z :: t =>
          have b1 := y.toNat_lt
          have b2 := z.toNat_lt
          simp only [List.getD_cons_zero, List.getD_cons_succ, List.length_cons, contF]
          by_cases hy : y.toNat / 64 = 2
          · rw [if_pos hy]
            by_cases hz : z.toNat / 64 = 2
            · rw [if_pos hz, if_pos (by omega)]
              simp only [finS, ge_iff_le]
              have e : (x.toNat % 16 * 64 + y.toNat % 64) * 64 + z.toNat % 64 = x.toNat % 16 * 4096 + y.toNat % 64 * 64 + z.toNat % 64 := by omega
              rw [e]
              split
              · rename_i hc
                rw [if_neg (by omega), goodO_bad]
              · rename_i hc
                rw [if_pos (by omega), goodO_ok _ _ (by omega)]
            · rw [if_neg hz, if_neg (by omega), if_neg (by omega)]
              simp [finS, goodO_bad]
          · rw [if_neg hy, if_neg (by omega), if_neg (by omega)]
            simp [finS, goodO_bad]
      · rw [if_neg h3]
        by_cases h4 : 240 ≤ x.toNat ∧ x.toNat ≤ 247
        · rw [if_pos h4, if_neg (by omega), if_neg (by omega)]
          match t with
          | [] =>
            rw [if_neg (by simp)]
            simp [contF, finS, goodO_bad]
          | [y] =>
            rw [if_neg (by simp)]
            by_cases hy : y.toNat / 64 = 2 <;> simp [contF, finS, goodO_bad, hy]
          | [y, z] =>
            rw [if_neg (by simp)]
            by_cases hy : y.toNat / 64 = 2 <;> by_cases hz : z.toNat / 64 = 2 <;> simp [contF, finS, goodO_bad, hy, hz]
          | y :: z :: u :: t =>
            have b1 := y.toNat_lt
            have b2 := z.toNat_lt
            have b3 := u.toNat_lt
            simp only [List.getD_cons_zero, List.getD_cons_succ, List.length_cons, contF]
            by_cases hy : y.toNat / 64 = 2
            · rw [if_pos hy]
              by_cases hz : z.toNat / 64 = 2
              · rw [if_pos hz]
                by_cases hu : u.toNat / 64 = 2
                · rw [if_pos hu, if_pos (by omega)]
                  simp only [finS, ge_iff_le]
                  have e : ((x.toNat % 8 * 64 + y.toNat % 64) * 64 + z.toNat % 64) * 64 + u.toNat % 64 = x.toNat % 8 * 262144 + y.toNat % 64 * 4096 + z.toNat % 64 * 64 + u.toNat % 64 := by omega
                  rw [e]
                  split
                  · rename_i hc
                    rw [if_neg (by omega), goodO_bad]
                  · rename_i hc
                    rw [if_pos (by omega), goodO_ok _ _ (by omega)]
                · rw [if_neg hu, if_neg (by omega)]
                  simp [finS, goodO_bad]
              · rw [if_neg hz, if_neg (by omega)]
                simp [finS, goodO_bad]
            · rw [if_neg hy, if_neg (by omega)]
              simp [finS, goodO_bad]
        · rw [if_neg h4, if_neg (by omega), if_neg (by omega), if_neg (by omega)]
          rw [goodO_bad]
end Go.Aq.Wd

/- The document's way to read a sign (aquref1.sign). No statement of the seat is proved here. -/
namespace Go.Proofs.YtgbbjbldlfpbcaaGreatDoor
open Go.RowKit Go.Aq Go.Aq.Wd
/-- What sign answers. -/
def sgV (o : Option (Nat × Nat)) : Value := match o with
  | none => .tuple #[.int .i64 0, .int .i64 0, .bool false]
  | some (c, n) => .tuple #[.int .i64 (c : Nat), .int .i64 (n : Nat), .bool true]
theorem rsign_0 (l : List UInt8) (p : Nat) (w : World) (hp : p < l.length) (hl : l.length ≤ 1000000000) (h1 : (l[p]'hp).toNat < 128) :
    Calls Tryz.prog 47 #[.string (str l), .int .i64 p] w fun e w' => e = .returned (sgV (refSign (l.drop p))) ∧ w' = w := by
  have hsz := str_size l
  have ix := fun w' => idxS w' l p hp
  have hd : l.drop p = l[p] :: l.drop (p + 1) := List.drop_eq_getElem_cons hp
  have hr : refSign (l.drop p) = some ((l[p]'hp).toNat, 1) := by
    rw [hd]; unfold refSign
    simp only
    rw [if_pos h1]
  rw [hr]
  clear hr hd
  generalize (l[p]'hp).toNat = x at *
  have t1 : decide ((x : Int) < 128) = true := by simp; omega
  have t1' : decide (x < 128) = true := by simp; omega
  go_enter Tryz.func47, Tryz.ntmps47
  go_wp2_with fail
  go_ret3
  exact ⟨rfl, rfl⟩
set_option maxRecDepth 100000 in
set_option maxHeartbeats 1000000 in
theorem rsign_n (l : List UInt8) (p : Nat) (w : World) (hp : p < l.length) (hl : l.length ≤ 1000000000) (h1 : 128 ≤ (l[p]'hp).toNat) (h2 : (l[p]'hp).toNat < 192 ∨ 247 < (l[p]'hp).toNat) :
    Calls Tryz.prog 47 #[.string (str l), .int .i64 p] w fun e w' => e = .returned (sgV (refSign (l.drop p))) ∧ w' = w := by
  have hsz := str_size l
  have ix := fun w' => idxS w' l p hp
  have hd : l.drop p = l[p] :: l.drop (p + 1) := List.drop_eq_getElem_cons hp
  have hr : refSign (l.drop p) = none := by
    rw [hd]; unfold refSign
    simp only
    rw [if_neg (by omega), if_neg (by omega), if_neg (by omega), if_neg (by omega)]
  rw [hr]
  clear hr hd
  have hx := (l[p]'hp).toNat_lt
  generalize (l[p]'hp).toNat = x at *
  have hh : (decide ((x : Int) < 128) = false ∧ decide (x < 128) = false ∧ decide (192 ≤ (x : Int)) = false ∧ decide (192 ≤ x) = false ∧ decide (224 ≤ (x : Int)) = false ∧ decide (224 ≤ x) = false ∧ decide (240 ≤ (x : Int)) = false ∧ decide (240 ≤ x) = false) ∨
      (decide ((x : Int) < 128) = false ∧ decide (x < 128) = false ∧ decide (192 ≤ (x : Int)) = true ∧ decide (192 ≤ x) = true ∧ decide ((x : Int) ≤ 223) = false ∧ decide (x ≤ 223) = false ∧ decide (224 ≤ (x : Int)) = true ∧ decide (224 ≤ x) = true ∧ decide ((x : Int) ≤ 239) = false ∧ decide (x ≤ 239) = false ∧ decide (240 ≤ (x : Int)) = true ∧ decide (240 ≤ x) = true ∧ decide ((x : Int) ≤ 247) = false ∧ decide (x ≤ 247) = false) := by
    simp only [decide_eq_true_eq, decide_eq_false_iff_not]; omega
  have hxb : (x : Int) ≤ 255 := by omega
  clear h1 h2 hx
  rcases hh with ⟨a1, a2, a3, a4, a5, a6, a7, a8⟩ | ⟨a1, a2, a3, a4, a5, a6, a7, a8, a9, a10, a11, a12, a13, a14⟩
  all_goals
    go_enter Tryz.func47, Tryz.ntmps47
    go_wp2_with fail
    go_ret3
    exact ⟨rfl, rfl⟩

set_option maxRecDepth 100000 in
set_option maxHeartbeats 4000000 in
theorem rsign_1 (l : List UInt8) (p : Nat) (w : World) (hp : p < l.length) (hl : l.length ≤ 1000000000) (h1 : 192 ≤ (l[p]'hp).toNat) (h2 : (l[p]'hp).toNat ≤ 223) :
    Calls Tryz.prog 47 #[.string (str l), .int .i64 p] w fun e w' => e = .returned (sgV (refSign (l.drop p))) ∧ w' = w := by
  have hsz := str_size l
  have ix := fun w' => idxS w' l p hp
  have hd : l.drop p = l[p] :: l.drop (p + 1) := List.drop_eq_getElem_cons hp
  have hx := (l[p]'hp).toNat_lt
  have hr : refSign (l.drop p) = finS 1 128 (contF 1 ((l[p]'hp).toNat % 32) (l.drop (p + 1))) := by
    rw [hd]; unfold refSign
    simp only
    rw [if_neg (by omega), if_pos (by omega)]
  generalize (l[p]'hp).toNat = x at *
  have hm := i64mask x 31 5 (by omega) (by decide) (by decide)
  rw [show (2:Nat) ^ 5 = 32 by decide] at hm
  have hmi : bits .and .i64 (x : Int) 31 = ((x % 32 : Nat) : Int) := hm
  clear hm hd
  obtain ⟨c0, hc0⟩ : ∃ c0, c0 = x % 32 := ⟨_, rfl⟩
  have hcb : c0 < 32 := by omega
  rw [← hc0] at hmi hr
  have HR := Lib.hid hr
  have HC := Lib.hid hc0
  have t1 : decide ((x : Int) < 128) = false := by simp; omega
  have t1' : decide (x < 128) = false := by simp; omega
  have t2 : decide (192 ≤ (x : Int)) = true := by simp; omega
  have t2' : decide (192 ≤ x) = true := by simp; omega
  have t3 : decide ((x : Int) ≤ 223) = true := by simp; omega
  have t3' : decide (x ≤ 223) = true := by simp; omega
  have hxb : (x : Int) ≤ 255 := by omega
  clear hr hc0 h1 h2 hx
  go_enter Tryz.func47, Tryz.ntmps47
  go_wp2_with fail
  go_loopg [9, 11] 1 (fun k vc vi wr => ∃ (i c : Nat), vi = .int .i64 i ∧ vc = .int .i64 c ∧ 1 ≤ i ∧ i + k = 1 + 1 ∧ wr = w ∧ Hid (contF 1 c0 (l.drop (p + 1)) = contF (1 + 1 - i) c (l.drop (p + i))) ∧ Hid ((i = 1 → c < 32) ∧ (i = 2 → c < 2048) ∧ (i = 3 → c < 131072) ∧ (i = 4 → c < 8388608)))
  case atStart => exact ⟨1, c0, rfl, rfl, by omega, by omega, rfl, rfl, ⟨by omega, by omega, by omega, by omega⟩⟩
  case round =>
    obtain ⟨i, c, rfl, rfl, hi1, hik, rfl, HI, HB⟩ := hrel
    clear ix t1 t1' t2 t2' t3 t3' hmi
    by_cases hi : i ≤ 1
    · have r1 : decide ((i : Int) ≤ 1) = true := by simp; omega
      have r1' : decide (i ≤ 1) = true := by simp; omega
      have HP := Lib.hid (And.intro hi1 (And.intro hik hi))
      have hcb2 : c < 131072 := by have := HB.out; omega
      obtain ⟨f, hf⟩ : ∃ f, 1 + 1 - i = f + 1 := ⟨1 - i, by omega⟩
      have hf2 : 1 + 1 - (i + 1) = f := by omega
      have hi4 : (i : Int) ≤ 4 := by omega
      by_cases hb : p + i < l.length
      · have r2 : decide ((l.length : Int) ≤ (p : Int) + (i : Int)) = false := by simp; omega
        have r2' : decide (l.length ≤ p + i) = false := by simp; omega
        have ix : ∀ w', (Instr.index 9 (.string (str l)) (.int .i64 ((p : Int) + (i : Int)))).run Tryz.prog w' = .ok (.int .u8 ((l[p + i]'hb).toNat : Int)) w' := fun w' => idxS w' l (p + i) hb
        have hy := (l[p + i]'hb).toNat_lt
        have hd2 : l.drop (p + i) = l[p + i] :: l.drop (p + (i + 1)) := List.drop_eq_getElem_cons hb
        have hst : contF 1 c0 (l.drop (p + 1)) = if (l[p + i]'hb).toNat / 64 = 2 then contF f (c * 64 + (l[p + i]'hb).toNat % 64) (l.drop (p + (i + 1))) else none := by
          rw [HI.out, hf, hd2]; rfl
        generalize (l[p + i]'hb).toNat = y at *
        have hdv : (y : Int) / 64 = ((y / 64 : Nat) : Int) := by simp
        have hand : bits .and .u8 (y : Int) 63 = ((y % 64 : Nat) : Int) := by
          have := (bits_u8 y 63 hy (by decide)).1
          rw [show y &&& 63 = y % 64 from Nat.and_two_pow_sub_one_eq_mod y 6] at this
          exact this
        have hor : bits .or .i64 ((c : Int) * 64) ((y % 64 : Nat) : Int) = ((c * 64 + y % 64 : Nat) : Int) := i64orl c (y % 64) 6 (by omega) (by omega) (by decide)
        clear hd2 hi1 hik hi
        by_cases h2 : y / 64 = 2
        · rw [if_pos h2] at hst
          have hst2 : Hid (contF 1 c0 (l.drop (p + 1)) = contF (1 + 1 - (i + 1)) (c * 64 + y % 64) (l.drop (p + (i + 1)))) := by rw [hf2]; exact hst
          have hyb : y % 64 < 64 := Nat.mod_lt _ (by decide)
          have HB2 : Hid ((i + 1 = 1 → c * 64 + y % 64 < 32) ∧ (i + 1 = 2 → c * 64 + y % 64 < 2048) ∧ (i + 1 = 3 → c * 64 + y % 64 < 131072) ∧ (i + 1 = 4 → c * 64 + y % 64 < 8388608)) := by
            have := HB.out; have := HP.out; refine ⟨by omega, by omega, by omega, by omega⟩
          have r3 : (((y / 64 : Nat) : Int) != 2) = false := by rw [h2]; rfl
          generalize y % 64 = y2 at *
          generalize y / 64 = y3 at *
          obtain ⟨c2, hc2⟩ : ∃ c2, c * 64 + y2 = c2 := ⟨_, rfl⟩
          rw [hc2] at hor hst2 HB2
          have hc3 : (c2 : Int) ≤ 10000000 := by omega
          clear hst HI hc2 h2 HB
          go_wp2_with fail
          go_roundg (gk - 1)
          case measure => have := HP.out; omega
          case rel => exact ⟨i + 1, c2, by go_num, rfl, by omega, by have := HP.out; omega, rfl, hst2, HB2⟩
        · rw [if_neg h2] at hst
          have r3 : (((y / 64 : Nat) : Int) != 2) = true := by simp only [bne_iff_ne, ne_eq]; omega
          generalize y % 64 = y2 at *
          generalize y / 64 = y3 at *
          have HF : Hid (refSign (l.drop p) = none) := by rw [HR.out, hst]; rfl
          clear hst HI h2 HB hor hand
          go_wp2_with fail
          go_ret3
          exact ⟨by rw [HF.out]; rfl, rfl⟩
      · have r2 : decide ((l.length : Int) ≤ (p : Int) + (i : Int)) = true := by simp; omega
        have r2' : decide (l.length ≤ p + i) = true := by simp; omega
        have HF : Hid (refSign (l.drop p) = none) := by
          rw [HR.out, HI.out, hf, List.drop_eq_nil_of_le (by omega)]; rfl
        clear hi1 hik hi HI HB
        go_wp2_with fail
        go_ret3
        exact ⟨by rw [HF.out]; rfl, rfl⟩
    · have r1 : decide ((i : Int) ≤ 1) = false := by simp; omega
      have r1' : decide (i ≤ 1) = false := by simp; omega
      obtain rfl : i = 1 + 1 := by omega
      have HF : Hid (refSign (l.drop p) = if c < 128 ∨ 1114111 < c ∨ (55296 ≤ c ∧ c ≤ 57343) then none else some (c, 1 + 1)) := by rw [HR.out, HI.out]; rfl
      have hc8 : (c : Int) < 8388608 := by have := HB.out; omega
      have hh : (Hid (c < 128 ∨ 1114111 < c ∨ (55296 ≤ c ∧ c ≤ 57343)) ∧ decide ((c : Int) < 128) = true ∧ decide (c < 128) = true) ∨
          (Hid (c < 128 ∨ 1114111 < c ∨ (55296 ≤ c ∧ c ≤ 57343)) ∧ decide ((c : Int) < 128) = false ∧ decide (c < 128) = false ∧ decide (1114111 < (c : Int)) = true ∧ decide (1114111 < c) = true) ∨
          (Hid (c < 128 ∨ 1114111 < c ∨ (55296 ≤ c ∧ c ≤ 57343)) ∧ decide ((c : Int) < 128) = false ∧ decide (c < 128) = false ∧ decide (1114111 < (c : Int)) = false ∧ decide (1114111 < c) = false ∧ decide (55296 ≤ (c : Int)) = true ∧ decide (55296 ≤ c) = true ∧ decide ((c : Int) ≤ 57343) = true ∧ decide (c ≤ 57343) = true) ∨
          (Hid (¬ (c < 128 ∨ 1114111 < c ∨ (55296 ≤ c ∧ c ≤ 57343))) ∧ decide ((c : Int) < 128) = false ∧ decide (c < 128) = false ∧ decide (1114111 < (c : Int)) = false ∧ decide (1114111 < c) = false ∧ decide (55296 ≤ (c : Int)) = true ∧ decide (55296 ≤ c) = true ∧ decide ((c : Int) ≤ 57343) = false ∧ decide (c ≤ 57343) = false) ∨
          (Hid (¬ (c < 128 ∨ 1114111 < c ∨ (55296 ≤ c ∧ c ≤ 57343))) ∧ decide ((c : Int) < 128) = false ∧ decide (c < 128) = false ∧ decide (1114111 < (c : Int)) = false ∧ decide (1114111 < c) = false ∧ decide (55296 ≤ (c : Int)) = false ∧ decide (55296 ≤ c) = false) := by
        simp only [Hid, decide_eq_true_eq, decide_eq_false_iff_not]; omega
      clear HI HB hi hi1 hik
      rcases hh with ⟨HH, a1, a2⟩ | ⟨HH, a1, a2, a3, a4⟩ | ⟨HH, a1, a2, a3, a4, a5, a6, a7, a8⟩ | ⟨HH, a1, a2, a3, a4, a5, a6, a7, a8⟩ | ⟨HH, a1, a2, a3, a4, a5, a6⟩
      all_goals
        go_wp2_with fail
        go_ret3
        first
          | exact ⟨by rw [HF.out, if_pos HH.out]; rfl, rfl⟩
          | exact ⟨by rw [HF.out, if_neg HH.out]; rfl, rfl⟩
set_option maxRecDepth 100000 in
set_option maxHeartbeats 4000000 in
theorem rsign_2 (l : List UInt8) (p : Nat) (w : World) (hp : p < l.length) (hl : l.length ≤ 1000000000) (h1 : 224 ≤ (l[p]'hp).toNat) (h2 : (l[p]'hp).toNat ≤ 239) :
    Calls Tryz.prog 47 #[.string (str l), .int .i64 p] w fun e w' => e = .returned (sgV (refSign (l.drop p))) ∧ w' = w := by
  have hsz := str_size l
  have ix := fun w' => idxS w' l p hp
  have hd : l.drop p = l[p] :: l.drop (p + 1) := List.drop_eq_getElem_cons hp
  have hx := (l[p]'hp).toNat_lt
  have hr : refSign (l.drop p) = finS 2 2048 (contF 2 ((l[p]'hp).toNat % 16) (l.drop (p + 1))) := by
    rw [hd]; unfold refSign
    simp only
    rw [if_neg (by omega), if_neg (by omega), if_pos (by omega)]
  generalize (l[p]'hp).toNat = x at *
  have hm := i64mask x 15 4 (by omega) (by decide) (by decide)
  rw [show (2:Nat) ^ 4 = 16 by decide] at hm
  have hmi : bits .and .i64 (x : Int) 15 = ((x % 16 : Nat) : Int) := hm
  clear hm hd
  obtain ⟨c0, hc0⟩ : ∃ c0, c0 = x % 16 := ⟨_, rfl⟩
  have hcb : c0 < 16 := by omega
  rw [← hc0] at hmi hr
  have HR := Lib.hid hr
  have HC := Lib.hid hc0
  have t1 : decide ((x : Int) < 128) = false := by simp; omega
  have t1' : decide (x < 128) = false := by simp; omega
  have t2 : decide (192 ≤ (x : Int)) = true := by simp; omega
  have t2' : decide (192 ≤ x) = true := by simp; omega
  have t3 : decide ((x : Int) ≤ 223) = false := by simp; omega
  have t3' : decide (x ≤ 223) = false := by simp; omega
  have t4 : decide (224 ≤ (x : Int)) = true := by simp; omega
  have t4' : decide (224 ≤ x) = true := by simp; omega
  have t5 : decide ((x : Int) ≤ 239) = true := by simp; omega
  have t5' : decide (x ≤ 239) = true := by simp; omega
  have hxb : (x : Int) ≤ 255 := by omega
  clear hr hc0 h1 h2 hx
  go_enter Tryz.func47, Tryz.ntmps47
  go_wp2_with fail
  go_loopg [9, 11] 2 (fun k vc vi wr => ∃ (i c : Nat), vi = .int .i64 i ∧ vc = .int .i64 c ∧ 1 ≤ i ∧ i + k = 2 + 1 ∧ wr = w ∧ Hid (contF 2 c0 (l.drop (p + 1)) = contF (2 + 1 - i) c (l.drop (p + i))) ∧ Hid ((i = 1 → c < 32) ∧ (i = 2 → c < 2048) ∧ (i = 3 → c < 131072) ∧ (i = 4 → c < 8388608)))
  case atStart => exact ⟨1, c0, rfl, rfl, by omega, by omega, rfl, rfl, ⟨by omega, by omega, by omega, by omega⟩⟩
  case round =>
    obtain ⟨i, c, rfl, rfl, hi1, hik, rfl, HI, HB⟩ := hrel
    clear ix t1 t1' t2 t2' t3 t3' t4 t4' t5 t5' hmi
    by_cases hi : i ≤ 2
    · have r1 : decide ((i : Int) ≤ 2) = true := by simp; omega
      have r1' : decide (i ≤ 2) = true := by simp; omega
      have HP := Lib.hid (And.intro hi1 (And.intro hik hi))
      have hcb2 : c < 131072 := by have := HB.out; omega
      obtain ⟨f, hf⟩ : ∃ f, 2 + 1 - i = f + 1 := ⟨2 - i, by omega⟩
      have hf2 : 2 + 1 - (i + 1) = f := by omega
      have hi4 : (i : Int) ≤ 4 := by omega
      by_cases hb : p + i < l.length
      · have r2 : decide ((l.length : Int) ≤ (p : Int) + (i : Int)) = false := by simp; omega
        have r2' : decide (l.length ≤ p + i) = false := by simp; omega
        have ix : ∀ w', (Instr.index 9 (.string (str l)) (.int .i64 ((p : Int) + (i : Int)))).run Tryz.prog w' = .ok (.int .u8 ((l[p + i]'hb).toNat : Int)) w' := fun w' => idxS w' l (p + i) hb
        have hy := (l[p + i]'hb).toNat_lt
        have hd2 : l.drop (p + i) = l[p + i] :: l.drop (p + (i + 1)) := List.drop_eq_getElem_cons hb
        have hst : contF 2 c0 (l.drop (p + 1)) = if (l[p + i]'hb).toNat / 64 = 2 then contF f (c * 64 + (l[p + i]'hb).toNat % 64) (l.drop (p + (i + 1))) else none := by
          rw [HI.out, hf, hd2]; rfl
        generalize (l[p + i]'hb).toNat = y at *
        have hdv : (y : Int) / 64 = ((y / 64 : Nat) : Int) := by simp
        have hand : bits .and .u8 (y : Int) 63 = ((y % 64 : Nat) : Int) := by
          have := (bits_u8 y 63 hy (by decide)).1
          rw [show y &&& 63 = y % 64 from Nat.and_two_pow_sub_one_eq_mod y 6] at this
          exact this
        have hor : bits .or .i64 ((c : Int) * 64) ((y % 64 : Nat) : Int) = ((c * 64 + y % 64 : Nat) : Int) := i64orl c (y % 64) 6 (by omega) (by omega) (by decide)
        clear hd2 hi1 hik hi
        by_cases h2 : y / 64 = 2
        · rw [if_pos h2] at hst
          have hst2 : Hid (contF 2 c0 (l.drop (p + 1)) = contF (2 + 1 - (i + 1)) (c * 64 + y % 64) (l.drop (p + (i + 1)))) := by rw [hf2]; exact hst
          have hyb : y % 64 < 64 := Nat.mod_lt _ (by decide)
          have HB2 : Hid ((i + 1 = 1 → c * 64 + y % 64 < 32) ∧ (i + 1 = 2 → c * 64 + y % 64 < 2048) ∧ (i + 1 = 3 → c * 64 + y % 64 < 131072) ∧ (i + 1 = 4 → c * 64 + y % 64 < 8388608)) := by
            have := HB.out; have := HP.out; refine ⟨by omega, by omega, by omega, by omega⟩
          have r3 : (((y / 64 : Nat) : Int) != 2) = false := by rw [h2]; rfl
          generalize y % 64 = y2 at *
          generalize y / 64 = y3 at *
          obtain ⟨c2, hc2⟩ : ∃ c2, c * 64 + y2 = c2 := ⟨_, rfl⟩
          rw [hc2] at hor hst2 HB2
          have hc3 : (c2 : Int) ≤ 10000000 := by omega
          clear hst HI hc2 h2 HB
          go_wp2_with fail
          go_roundg (gk - 1)
          case measure => have := HP.out; omega
          case rel => exact ⟨i + 1, c2, by go_num, rfl, by omega, by have := HP.out; omega, rfl, hst2, HB2⟩
        · rw [if_neg h2] at hst
          have r3 : (((y / 64 : Nat) : Int) != 2) = true := by simp only [bne_iff_ne, ne_eq]; omega
          generalize y % 64 = y2 at *
          generalize y / 64 = y3 at *
          have HF : Hid (refSign (l.drop p) = none) := by rw [HR.out, hst]; rfl
          clear hst HI h2 HB hor hand
          go_wp2_with fail
          go_ret3
          exact ⟨by rw [HF.out]; rfl, rfl⟩
      · have r2 : decide ((l.length : Int) ≤ (p : Int) + (i : Int)) = true := by simp; omega
        have r2' : decide (l.length ≤ p + i) = true := by simp; omega
        have HF : Hid (refSign (l.drop p) = none) := by
          rw [HR.out, HI.out, hf, List.drop_eq_nil_of_le (by omega)]; rfl
        clear hi1 hik hi HI HB
        go_wp2_with fail
        go_ret3
        exact ⟨by rw [HF.out]; rfl, rfl⟩
    · have r1 : decide ((i : Int) ≤ 2) = false := by simp; omega
      have r1' : decide (i ≤ 2) = false := by simp; omega
      obtain rfl : i = 2 + 1 := by omega
      have HF : Hid (refSign (l.drop p) = if c < 2048 ∨ 1114111 < c ∨ (55296 ≤ c ∧ c ≤ 57343) then none else some (c, 2 + 1)) := by rw [HR.out, HI.out]; rfl
      have hc8 : (c : Int) < 8388608 := by have := HB.out; omega
      have hh : (Hid (c < 2048 ∨ 1114111 < c ∨ (55296 ≤ c ∧ c ≤ 57343)) ∧ decide ((c : Int) < 2048) = true ∧ decide (c < 2048) = true) ∨
          (Hid (c < 2048 ∨ 1114111 < c ∨ (55296 ≤ c ∧ c ≤ 57343)) ∧ decide ((c : Int) < 2048) = false ∧ decide (c < 2048) = false ∧ decide (1114111 < (c : Int)) = true ∧ decide (1114111 < c) = true) ∨
          (Hid (c < 2048 ∨ 1114111 < c ∨ (55296 ≤ c ∧ c ≤ 57343)) ∧ decide ((c : Int) < 2048) = false ∧ decide (c < 2048) = false ∧ decide (1114111 < (c : Int)) = false ∧ decide (1114111 < c) = false ∧ decide (55296 ≤ (c : Int)) = true ∧ decide (55296 ≤ c) = true ∧ decide ((c : Int) ≤ 57343) = true ∧ decide (c ≤ 57343) = true) ∨
          (Hid (¬ (c < 2048 ∨ 1114111 < c ∨ (55296 ≤ c ∧ c ≤ 57343))) ∧ decide ((c : Int) < 2048) = false ∧ decide (c < 2048) = false ∧ decide (1114111 < (c : Int)) = false ∧ decide (1114111 < c) = false ∧ decide (55296 ≤ (c : Int)) = true ∧ decide (55296 ≤ c) = true ∧ decide ((c : Int) ≤ 57343) = false ∧ decide (c ≤ 57343) = false) ∨
          (Hid (¬ (c < 2048 ∨ 1114111 < c ∨ (55296 ≤ c ∧ c ≤ 57343))) ∧ decide ((c : Int) < 2048) = false ∧ decide (c < 2048) = false ∧ decide (1114111 < (c : Int)) = false ∧ decide (1114111 < c) = false ∧ decide (55296 ≤ (c : Int)) = false ∧ decide (55296 ≤ c) = false) := by
        simp only [Hid, decide_eq_true_eq, decide_eq_false_iff_not]; omega
      clear HI HB hi hi1 hik
      rcases hh with ⟨HH, a1, a2⟩ | ⟨HH, a1, a2, a3, a4⟩ | ⟨HH, a1, a2, a3, a4, a5, a6, a7, a8⟩ | ⟨HH, a1, a2, a3, a4, a5, a6, a7, a8⟩ | ⟨HH, a1, a2, a3, a4, a5, a6⟩
      all_goals
        go_wp2_with fail
        go_ret3
        first
          | exact ⟨by rw [HF.out, if_pos HH.out]; rfl, rfl⟩
          | exact ⟨by rw [HF.out, if_neg HH.out]; rfl, rfl⟩
set_option maxRecDepth 100000 in
set_option maxHeartbeats 4000000 in
theorem rsign_3 (l : List UInt8) (p : Nat) (w : World) (hp : p < l.length) (hl : l.length ≤ 1000000000) (h1 : 240 ≤ (l[p]'hp).toNat) (h2 : (l[p]'hp).toNat ≤ 247) :
    Calls Tryz.prog 47 #[.string (str l), .int .i64 p] w fun e w' => e = .returned (sgV (refSign (l.drop p))) ∧ w' = w := by
  have hsz := str_size l
  have ix := fun w' => idxS w' l p hp
  have hd : l.drop p = l[p] :: l.drop (p + 1) := List.drop_eq_getElem_cons hp
  have hx := (l[p]'hp).toNat_lt
  have hr : refSign (l.drop p) = finS 3 65536 (contF 3 ((l[p]'hp).toNat % 8) (l.drop (p + 1))) := by
    rw [hd]; unfold refSign
    simp only
    rw [if_neg (by omega), if_neg (by omega), if_neg (by omega), if_pos (by omega)]
  generalize (l[p]'hp).toNat = x at *
  have hm := i64mask x 7 3 (by omega) (by decide) (by decide)
  rw [show (2:Nat) ^ 3 = 8 by decide] at hm
  have hmi : bits .and .i64 (x : Int) 7 = ((x % 8 : Nat) : Int) := hm
  clear hm hd
  obtain ⟨c0, hc0⟩ : ∃ c0, c0 = x % 8 := ⟨_, rfl⟩
  have hcb : c0 < 8 := by omega
  rw [← hc0] at hmi hr
  have HR := Lib.hid hr
  have HC := Lib.hid hc0
  have t1 : decide ((x : Int) < 128) = false := by simp; omega
  have t1' : decide (x < 128) = false := by simp; omega
  have t2 : decide (192 ≤ (x : Int)) = true := by simp; omega
  have t2' : decide (192 ≤ x) = true := by simp; omega
  have t3 : decide ((x : Int) ≤ 223) = false := by simp; omega
  have t3' : decide (x ≤ 223) = false := by simp; omega
  have t4 : decide (224 ≤ (x : Int)) = true := by simp; omega
  have t4' : decide (224 ≤ x) = true := by simp; omega
  have t5 : decide ((x : Int) ≤ 239) = false := by simp; omega
  have t5' : decide (x ≤ 239) = false := by simp; omega
  have t6 : decide (240 ≤ (x : Int)) = true := by simp; omega
  have t6' : decide (240 ≤ x) = true := by simp; omega
  have t7 : decide ((x : Int) ≤ 247) = true := by simp; omega
  have t7' : decide (x ≤ 247) = true := by simp; omega
  have hxb : (x : Int) ≤ 255 := by omega
  clear hr hc0 h1 h2 hx
  go_enter Tryz.func47, Tryz.ntmps47
  go_wp2_with fail
  go_loopg [9, 11] 3 (fun k vc vi wr => ∃ (i c : Nat), vi = .int .i64 i ∧ vc = .int .i64 c ∧ 1 ≤ i ∧ i + k = 3 + 1 ∧ wr = w ∧ Hid (contF 3 c0 (l.drop (p + 1)) = contF (3 + 1 - i) c (l.drop (p + i))) ∧ Hid ((i = 1 → c < 32) ∧ (i = 2 → c < 2048) ∧ (i = 3 → c < 131072) ∧ (i = 4 → c < 8388608)))
  case atStart => exact ⟨1, c0, rfl, rfl, by omega, by omega, rfl, rfl, ⟨by omega, by omega, by omega, by omega⟩⟩
  case round =>
    obtain ⟨i, c, rfl, rfl, hi1, hik, rfl, HI, HB⟩ := hrel
    clear ix t1 t1' t2 t2' t3 t3' t4 t4' t5 t5' t6 t6' t7 t7' hmi
    by_cases hi : i ≤ 3
    · have r1 : decide ((i : Int) ≤ 3) = true := by simp; omega
      have r1' : decide (i ≤ 3) = true := by simp; omega
      have HP := Lib.hid (And.intro hi1 (And.intro hik hi))
      have hcb2 : c < 131072 := by have := HB.out; omega
      obtain ⟨f, hf⟩ : ∃ f, 3 + 1 - i = f + 1 := ⟨3 - i, by omega⟩
      have hf2 : 3 + 1 - (i + 1) = f := by omega
      have hi4 : (i : Int) ≤ 4 := by omega
      by_cases hb : p + i < l.length
      · have r2 : decide ((l.length : Int) ≤ (p : Int) + (i : Int)) = false := by simp; omega
        have r2' : decide (l.length ≤ p + i) = false := by simp; omega
        have ix : ∀ w', (Instr.index 9 (.string (str l)) (.int .i64 ((p : Int) + (i : Int)))).run Tryz.prog w' = .ok (.int .u8 ((l[p + i]'hb).toNat : Int)) w' := fun w' => idxS w' l (p + i) hb
        have hy := (l[p + i]'hb).toNat_lt
        have hd2 : l.drop (p + i) = l[p + i] :: l.drop (p + (i + 1)) := List.drop_eq_getElem_cons hb
        have hst : contF 3 c0 (l.drop (p + 1)) = if (l[p + i]'hb).toNat / 64 = 2 then contF f (c * 64 + (l[p + i]'hb).toNat % 64) (l.drop (p + (i + 1))) else none := by
          rw [HI.out, hf, hd2]; rfl
        generalize (l[p + i]'hb).toNat = y at *
        have hdv : (y : Int) / 64 = ((y / 64 : Nat) : Int) := by simp
        have hand : bits .and .u8 (y : Int) 63 = ((y % 64 : Nat) : Int) := by
          have := (bits_u8 y 63 hy (by decide)).1
          rw [show y &&& 63 = y % 64 from Nat.and_two_pow_sub_one_eq_mod y 6] at this
          exact this
        have hor : bits .or .i64 ((c : Int) * 64) ((y % 64 : Nat) : Int) = ((c * 64 + y % 64 : Nat) : Int) := i64orl c (y % 64) 6 (by omega) (by omega) (by decide)
        clear hd2 hi1 hik hi
        by_cases h2 : y / 64 = 2
        · rw [if_pos h2] at hst
          have hst2 : Hid (contF 3 c0 (l.drop (p + 1)) = contF (3 + 1 - (i + 1)) (c * 64 + y % 64) (l.drop (p + (i + 1)))) := by rw [hf2]; exact hst
          have hyb : y % 64 < 64 := Nat.mod_lt _ (by decide)
          have HB2 : Hid ((i + 1 = 1 → c * 64 + y % 64 < 32) ∧ (i + 1 = 2 → c * 64 + y % 64 < 2048) ∧ (i + 1 = 3 → c * 64 + y % 64 < 131072) ∧ (i + 1 = 4 → c * 64 + y % 64 < 8388608)) := by
            have := HB.out; have := HP.out; refine ⟨by omega, by omega, by omega, by omega⟩
          have r3 : (((y / 64 : Nat) : Int) != 2) = false := by rw [h2]; rfl
          generalize y % 64 = y2 at *
          generalize y / 64 = y3 at *
          obtain ⟨c2, hc2⟩ : ∃ c2, c * 64 + y2 = c2 := ⟨_, rfl⟩
          rw [hc2] at hor hst2 HB2
          have hc3 : (c2 : Int) ≤ 10000000 := by omega
          clear hst HI hc2 h2 HB
          go_wp2_with fail
          go_roundg (gk - 1)
          case measure => have := HP.out; omega
          case rel => exact ⟨i + 1, c2, by go_num, rfl, by omega, by have := HP.out; omega, rfl, hst2, HB2⟩
        · rw [if_neg h2] at hst
          have r3 : (((y / 64 : Nat) : Int) != 2) = true := by simp only [bne_iff_ne, ne_eq]; omega
          generalize y % 64 = y2 at *
          generalize y / 64 = y3 at *
          have HF : Hid (refSign (l.drop p) = none) := by rw [HR.out, hst]; rfl
          clear hst HI h2 HB hor hand
          go_wp2_with fail
          go_ret3
          exact ⟨by rw [HF.out]; rfl, rfl⟩
      · have r2 : decide ((l.length : Int) ≤ (p : Int) + (i : Int)) = true := by simp; omega
        have r2' : decide (l.length ≤ p + i) = true := by simp; omega
        have HF : Hid (refSign (l.drop p) = none) := by
          rw [HR.out, HI.out, hf, List.drop_eq_nil_of_le (by omega)]; rfl
        clear hi1 hik hi HI HB
        go_wp2_with fail
        go_ret3
        exact ⟨by rw [HF.out]; rfl, rfl⟩
    · have r1 : decide ((i : Int) ≤ 3) = false := by simp; omega
      have r1' : decide (i ≤ 3) = false := by simp; omega
      obtain rfl : i = 3 + 1 := by omega
      have HF : Hid (refSign (l.drop p) = if c < 65536 ∨ 1114111 < c ∨ (55296 ≤ c ∧ c ≤ 57343) then none else some (c, 3 + 1)) := by rw [HR.out, HI.out]; rfl
      have hc8 : (c : Int) < 8388608 := by have := HB.out; omega
      have hh : (Hid (c < 65536 ∨ 1114111 < c ∨ (55296 ≤ c ∧ c ≤ 57343)) ∧ decide ((c : Int) < 65536) = true ∧ decide (c < 65536) = true) ∨
          (Hid (c < 65536 ∨ 1114111 < c ∨ (55296 ≤ c ∧ c ≤ 57343)) ∧ decide ((c : Int) < 65536) = false ∧ decide (c < 65536) = false ∧ decide (1114111 < (c : Int)) = true ∧ decide (1114111 < c) = true) ∨
          (Hid (c < 65536 ∨ 1114111 < c ∨ (55296 ≤ c ∧ c ≤ 57343)) ∧ decide ((c : Int) < 65536) = false ∧ decide (c < 65536) = false ∧ decide (1114111 < (c : Int)) = false ∧ decide (1114111 < c) = false ∧ decide (55296 ≤ (c : Int)) = true ∧ decide (55296 ≤ c) = true ∧ decide ((c : Int) ≤ 57343) = true ∧ decide (c ≤ 57343) = true) ∨
          (Hid (¬ (c < 65536 ∨ 1114111 < c ∨ (55296 ≤ c ∧ c ≤ 57343))) ∧ decide ((c : Int) < 65536) = false ∧ decide (c < 65536) = false ∧ decide (1114111 < (c : Int)) = false ∧ decide (1114111 < c) = false ∧ decide (55296 ≤ (c : Int)) = true ∧ decide (55296 ≤ c) = true ∧ decide ((c : Int) ≤ 57343) = false ∧ decide (c ≤ 57343) = false) ∨
          (Hid (¬ (c < 65536 ∨ 1114111 < c ∨ (55296 ≤ c ∧ c ≤ 57343))) ∧ decide ((c : Int) < 65536) = false ∧ decide (c < 65536) = false ∧ decide (1114111 < (c : Int)) = false ∧ decide (1114111 < c) = false ∧ decide (55296 ≤ (c : Int)) = false ∧ decide (55296 ≤ c) = false) := by
        simp only [Hid, decide_eq_true_eq, decide_eq_false_iff_not]; omega
      clear HI HB hi hi1 hik
      rcases hh with ⟨HH, a1, a2⟩ | ⟨HH, a1, a2, a3, a4⟩ | ⟨HH, a1, a2, a3, a4, a5, a6, a7, a8⟩ | ⟨HH, a1, a2, a3, a4, a5, a6, a7, a8⟩ | ⟨HH, a1, a2, a3, a4, a5, a6⟩
      all_goals
        go_wp2_with fail
        go_ret3
        first
          | exact ⟨by rw [HF.out, if_pos HH.out]; rfl, rfl⟩
          | exact ⟨by rw [HF.out, if_neg HH.out]; rfl, rfl⟩
theorem rsign_any (l : List UInt8) (p : Nat) (w : World) (hp : p < l.length) (hl : l.length ≤ 1000000000) :
    Calls Tryz.prog 47 #[.string (str l), .int .i64 p] w fun e w' => e = .returned (sgV (goodO (dec (l.drop p)))) ∧ w' = w := by
  rw [← refSign_eq _ (drop_ne l p hp)]
  by_cases h1 : (l[p]'hp).toNat < 128
  · exact rsign_0 l p w hp hl h1
  · by_cases h2 : (l[p]'hp).toNat < 192 ∨ 247 < (l[p]'hp).toNat
    · exact rsign_n l p w hp hl (by omega) h2
    · by_cases h3 : (l[p]'hp).toNat ≤ 223
      · exact rsign_1 l p w hp hl (by omega) h3
      · by_cases h4 : (l[p]'hp).toNat ≤ 239
        · exact rsign_2 l p w hp hl (by omega) h4
        · exact rsign_3 l p w hp hl (by omega) (by omega)
end Go.Proofs.YtgbbjbldlfpbcaaGreatDoor

/- Contracts of the document's answer to chapter 2: letter, control, signs, Count, Clip. No statement of the seat is proved here. -/
namespace Go.Aq.Wd
def Is (l : List Nat) : List Value := l.map fun c => Value.int .i64 (c : Nat)
theorem Is_append (a b : List Nat) : Is (a ++ b) = Is a ++ Is b := by simp [Is]
theorem Is_get (l : List Nat) (j : Nat) (h : j < l.length) : (Is l)[j]? = some (.int .i64 ((l[j]'h : Nat) : Int)) := by simp [Is, h]
end Go.Aq.Wd
namespace Go.Proofs.YtgbbjbldlfpbcaaGreatDoor
open Go.RowKit Go.Aq Go.Aq.Wd
theorem sl_int /- 46 -/ : SliceTy Tryz.prog 80 3 (.int .i64 0) 1 8 := ⟨Tryz.underlying80, by kernel_rfl, rfl, by decide⟩
set_option maxHeartbeats 400000 in
theorem rcontrol_any (c : Nat) (hc : c ≤ 2000000) (w : World) :
    Calls Tryz.prog 65 #[.int .i64 c] w fun e w' => e = .returned (.bool (low c)) ∧ w' = w := by
  go_enter Tryz.func65, Tryz.ntmps65
  go_wp2_with fail
  all_goals go_ret
  all_goals refine ⟨rb ?_, rfl⟩
  all_goals (rw [Bool.eq_iff_iff]; simp [low]; omega)
/-- What signs answers. -/
def SgR (w w' : World) (e : Ending) : Option (List Nat) → Prop
  | none => e = .returned (.tuple #[.slice none 0 0, .bool false]) ∧ Chg [] w w'
  | some rs => ∃ v, e = .returned (.tuple #[v, .bool true]) ∧ Fresh w w' 3 1 v rs.length (Is rs)
set_option maxHeartbeats 2000000 in
theorem rsigns_any (l : List UInt8) (w : World) (hl : l.length ≤ 1000000000) :
    Calls Tryz.prog 46 #[.string (str l)] w fun e w' => SgR w w' e (sigs l) := by
  have hsz := str_size l
  go_enter Tryz.func46, Tryz.ntmps46
  go_wp2_with fail
  go_loopg [4, 5] l.length (fun k vo vi wr => ∃ (pos : Nat) (pre : List Nat), vi = .int .i64 pos ∧ pos + k = l.length ∧ pre.length ≤ pos ∧ Fresh w wr 3 1 vo pre.length (Is pre) ∧ Pre l pos pre)
  case atStart => exact ⟨0, [], rfl, by omega, by simp, Fresh.nil w _ _, Pre.zero l⟩
  case round =>
    obtain ⟨pos, pre, rfl, hpk, hpl, hf, hpre⟩ := hrel
    obtain ⟨ao, cap, hu4, hcap⟩ := hf.shape
    subst hu4
    by_cases hp : pos < l.length
    · have r1 : decide ((pos : Int) < (l.length : Int)) = true := by simp; omega
      have r1' : decide (pos < l.length) = true := by simp; omega
      have hsg := rsign_any l pos wr hp hl
      have hfit := dec_fits l pos hp
      have hdp := dec_pos (l.drop pos)
      have hd1 := dec_fst (l.drop pos)
      have hst := hpre.step hp
      have hbd := hpre.bad hp
      generalize dec (l.drop pos) = d at *
      obtain ⟨c, n⟩ := d
      simp only at *
      have HST := Lib.hid hst
      have HBD := Lib.hid hbd
      have HP := Lib.hid (And.intro hpk hpl)
      have hpb : pre.length ≤ 1000000000 := by omega
      clear hst hbd hpre hpk hpl
      cases hb : Wd.bad (c, n) with
      | true =>
        have hs := HBD.out hb
        have HS := Lib.hid hs
        rw [show goodO (c, n) = none by unfold goodO; rw [hb]; rfl] at hsg
        clear hb HST HBD hs
        go_wp2_with fail
        refine hsg.mono ?_
        rintro e w1 ⟨rfl, rfl⟩
        unfold sgV
        go_wp2_with fail
        go_ret2
        rw [HS.out]
        exact ⟨rfl, hf.chg⟩
      | false =>
        have hs := HST.out hb
        rw [show goodO (c, n) = some (c, n) by unfold goodO; rw [hb]; rfl] at hsg
        have HS := Lib.hid hs
        clear hb HST HBD hs
        go_wp2_with fail
        refine hsg.mono ?_
        rintro e w1 ⟨rfl, rfl⟩
        unfold sgV
        clear hsg
        go_wp2_with (at_builtin; refine wpList_appF (w0 := w) rfl _ _ 80 rfl sl_int (by exact hf.to ((Chg.refl [] w1).alloc (.cells #[.int .i64 (c : Nat)] 3))) rfl (Sees.row (cs := #[.int .i64 (c : Nat)]) (by exact Blk.new w1 _ 3) (m := 1) rfl) rfl (by simp [Value.oneCell']) (by omega) (by omega) ?_; intro v4 w4 hF4 c4)
        go_roundg (gk - n)
        case measure => have := HP.out; omega
        case rel => exact ⟨pos + n, pre ++ [c], by go_num, by have := HP.out; omega, by have := HP.out; simp; omega, by rw [Is_append]; simpa [Is] using hF4, HS.out⟩
    · have r1 : decide ((pos : Int) < (l.length : Int)) = false := by simp; omega
      have r1' : decide (pos < l.length) = false := by simp; omega
      have hs := hpre.all hp
      have HS := Lib.hid hs
      clear hs hpre hpk hpl
      go_wp2_with fail
      go_ret2
      rw [HS.out]
      exact ⟨_, rfl, hf⟩
end Go.Proofs.YtgbbjbldlfpbcaaGreatDoor

/- Contracts of the document's answer to chapter 2: written, Text, Name, Quote. No statement of the seat is proved here. -/
namespace Go.Aq.Wd
/-- What the document's written says: nothing where a sign stands for itself. -/
def rwrit (c : Nat) : List UInt8 := if special c then writ c else []
theorem hex_strip : ∀ c, c < 160 → (if (hexL [UInt8.ofNat c]).headD 0 = 48 then (hexL [UInt8.ofNat c]).drop 1 else hexL [UInt8.ofNat c]) = hexC c := by decide +kernel
theorem hex_first : ∀ c, c < 160 → ((hexL [UInt8.ofNat c]).headD 0 = 48 ↔ c < 16) := by decide +kernel
theorem Bc_ofNat (c : Nat) (h : c < 256) : Value.int .u8 (c : Nat) = Bc (UInt8.ofNat c) := by
  unfold Bc; rw [u8n c h]
end Go.Aq.Wd
namespace Go.Proofs.YtgbbjbldlfpbcaaGreatDoor
open Go.RowKit Go.Aq Go.Aq.Wd
set_option maxHeartbeats 1000000 in
theorem rwritten_any (c : Nat) (hc : c ≤ 2000000) (w : World) :
    Calls Tryz.prog 48 #[.int .i64 c] w fun e w' => e = .returned (.string (str (rwrit c))) ∧ Chg [] w w' := by
  by_cases h34 : c = 34
  · subst h34
    have r1 : ∀ w : World, (convert 24 9 (.slice (some ⟨w.heap.size, 0, none⟩) 2 2)).run Tryz.prog (w.alloc (.cells #[.int .u8 92, .int .u8 34] 5)) = .ok (.string (str [92, 34])) (w.alloc (.cells #[.int .u8 92, .int .u8 34] 5)) := fun w => run_str8 (Sees.row (cs := #[.int .u8 92, .int .u8 34]) (by exact Blk.new _ _ _) rfl)
    have e1 : rwrit 34 = [92, 34] := by decide
    rw [e1]
    go_enter Tryz.func48, Tryz.ntmps48
    go_wp2_with fail
    go_ret
    exact ⟨rfl, (Chg.refl _ _).alloc _⟩
  · by_cases h92 : c = 92
    · subst h92
      have r1 : ∀ w : World, (convert 24 9 (.slice (some ⟨w.heap.size, 0, none⟩) 2 2)).run Tryz.prog (w.alloc (.cells #[.int .u8 92, .int .u8 92] 5)) = .ok (.string (str [92, 92])) (w.alloc (.cells #[.int .u8 92, .int .u8 92] 5)) := fun w => run_str8 (Sees.row (cs := #[.int .u8 92, .int .u8 92]) (by exact Blk.new _ _ _) rfl)
      have e1 : rwrit 92 = [92, 92] := by decide
      rw [e1]
      go_enter Tryz.func48, Tryz.ntmps48
      go_wp2_with fail
      go_ret
      exact ⟨rfl, (Chg.refl _ _).alloc _⟩
    · have t1 : ((c : Int) == 34) = false := by rw [beq_eq_false_iff_ne]; omega
      have t2 : ((c : Int) == 92) = false := by rw [beq_eq_false_iff_ne]; omega
      by_cases h10 : c = 10
      · subst h10
        have e1 : rwrit 10 = [92, 110] := by decide
        rw [e1]
        clear t1 t2
        go_enter Tryz.func48, Tryz.ntmps48
        go_wp2_with fail
        go_ret
        exact ⟨rfl, Chg.refl _ _⟩
      · have t3 : ((c : Int) == 10) = false := by rw [beq_eq_false_iff_ne]; omega
        have hct := rcontrol_any c hc
        cases hlow : low c with
        | false =>
          have e1 : rwrit c = [] := by simp [rwrit, special, hlow, h34, h92]
          rw [e1]
          rw [hlow] at hct
          clear h34 h92 h10 hlow e1
          go_enter Tryz.func48, Tryz.ntmps48
          go_wp2_with fail
          refine (hct _).mono ?_
          rintro e w1 ⟨rfl, rfl⟩
          go_wp2_with fail
          go_ret
          exact ⟨rfl, Chg.refl _ _⟩
        | true =>
          have h160 : c < 160 := by simp only [low, Bool.or_eq_true, Bool.and_eq_true, decide_eq_true_eq] at hlow; omega
          have e1 : rwrit c = [92, 117, 123] ++ hexC c ++ [125] := by
            have : special c = true := by simp [special, hlow]
            rw [rwrit, this, if_pos rfl, writ, if_neg (by omega), if_neg h10, hlow, if_pos rfl]
          rw [hlow] at hct
          rw [e1]
          have hhx := fun (w : World) => refHex_any (w.alloc (.cells #[Bc (UInt8.ofNat c)] 5)) (.slice (some ⟨w.heap.size, 0, none⟩) 1 1) 1 [UInt8.ofNat c] (Sees.row (cs := #[Bc (UInt8.ofNat c)]) (by exact Blk.new _ _ _) rfl) (by decide)
          have hstrip := hex_strip c h160
          have hfirst := hex_first c h160
          have hlen := hexL_length [UInt8.ofNat c]
          have eb := Bc_ofNat c (by omega)
          rw [← eb] at hhx
          have hch : (hexL [UInt8.ofNat c]).length = 2 := hlen
          clear hlow e1 h34 h92 h10 eb
          generalize hexL [UInt8.ofNat c] = H at *
          have hpos : 0 < H.length := by omega
          have hdH : H.headD 0 = H[0] := by cases H; (simp at hch); rfl
          have ix : ∀ w', (Instr.index 9 (.string (str H)) (.int .i64 0)).run Tryz.prog w' = .ok (.int .u8 ((H[0]).toNat : Int)) w' := fun w' => idxS w' H 0 hpos
          have hyl := (H[0]).toNat_lt
          have hH48 : H[0] = 48 ↔ (H[0]).toNat = 48 := by
            constructor
            · intro h; rw [h]; rfl
            · intro h; have := u8e _ _ h; rw [← this]; rfl
          rw [hdH] at hfirst hstrip
          have hsH := str_size H
          rw [hch] at hsH
          by_cases h0 : H[0] = 48
          · rw [if_pos h0] at hstrip
            have hn := hH48.1 h0
            rw [hn] at ix
            have e3 := str_from H 1
            rw [hch, hstrip] at e3
            have e4 : (⟨#[92, 117, 123]⟩ : ByteArray) ++ str (hexC c) = str ([92, 117, 123] ++ hexC c) := str_appR _ _
            have e5 : str ([92, 117, 123] ++ hexC c) ++ ⟨#[125]⟩ = str ([92, 117, 123] ++ hexC c ++ [125]) := str_appL _ _
            have hcl : (hexC c).length ≤ 2 := by unfold hexC; split <;> simp
            have s1 := str_size (hexC c)
            have s2 : (str ([92, 117, 123] ++ hexC c)).size ≤ 6 := by rw [str_size]; simp; omega
            clear hstrip hfirst hdH hH48 h0 hlen hch
            generalize [92, 117, 123] ++ hexC c = X at *
            generalize hexC c = Y at *
            go_enter Tryz.func48, Tryz.ntmps48
            go_wp2_with fail
            refine (hct _).mono ?_
            rintro e w1 ⟨rfl, rfl⟩
            go_wp2_with fail
            refine (hhx _).mono ?_
            rintro e w2 ⟨rfl, c2⟩
            have c3 := ((Chg.refl [] w1).alloc (.cells #[.int .u8 (c : Nat)] 5)).nil c2
            clear hhx hct
            go_wp2_with fail
            go_ret
            exact ⟨rfl, c3⟩
          · rw [if_neg h0] at hstrip
            have hn : ((H[0]).toNat : Int) ≠ 48 := fun h => h0 (hH48.2 (by omega))
            have t5 : (((H[0]).toNat : Int) == 48) = false := by rw [beq_eq_false_iff_ne]; exact hn
            have e4 : (⟨#[92, 117, 123]⟩ : ByteArray) ++ str H = str ([92, 117, 123] ++ H) := str_appR _ _
            have e5 : str ([92, 117, 123] ++ H) ++ ⟨#[125]⟩ = str ([92, 117, 123] ++ H ++ [125]) := str_appL _ _
            have s2 : (str ([92, 117, 123] ++ H)).size ≤ 6 := by rw [str_size]; simp; omega
            rw [← hstrip]
            clear hstrip hfirst hdH hH48 h0 hlen hch hn
            generalize (H[0]).toNat = y at *
            generalize [92, 117, 123] ++ H = X at *
            go_enter Tryz.func48, Tryz.ntmps48
            go_wp2_with fail
            refine (hct _).mono ?_
            rintro e w1 ⟨rfl, rfl⟩
            go_wp2_with fail
            refine (hhx _).mono ?_
            rintro e w2 ⟨rfl, c2⟩
            have c3 := ((Chg.refl [] w1).alloc (.cells #[.int .u8 (c : Nat)] 5)).nil c2
            clear hhx hct
            go_wp2_with fail
            go_ret
            exact ⟨rfl, c3⟩
end Go.Proofs.YtgbbjbldlfpbcaaGreatDoor

/- Contracts of the document's answer to chapter 2: escape, text, plain. No statement of the seat is proved here. -/
namespace Go.Aq.Wd
/-- What the document's escape says. -/
def rescL (r : List UInt8) : Nat × Nat × Nat := match escO r with
  | some k => (k, (writ k).length, 0)
  | none => if escShort r then (0, 0, 2) else (0, 0, 4)
/-- Which of the first signs that are written by a backslash would need more bytes. -/
def shF (r : List UInt8) (i : Nat) : Bool := (List.range i).any fun c => special c && decide (r.length < (writ c).length) && r.isPrefixOf (writ c)
theorem shF_zero (r : List UInt8) : shF r 0 = false := rfl
theorem shF_succ (r : List UInt8) (i : Nat) : shF r (i + 1) = (shF r i || (special i && decide (r.length < (writ i).length) && r.isPrefixOf (writ i))) := by
  unfold shF
  rw [List.range_succ, List.any_append]
  simp
theorem special_lt (c : Nat) (h : special c = true) : c < 160 := by
  simp only [special, low, Bool.or_eq_true, Bool.and_eq_true, beq_iff_eq, decide_eq_true_eq] at h
  omega
theorem resc_none (r : List UInt8) (h : ∀ c, c < 160 → special c = true → (writ c).isPrefixOf r = false) : rescL r = if shF r 160 then (0, 0, 2) else (0, 0, 4) := by
  have hn : escO r = none := (escO_none r).2 fun c hc => by
    have hs := (mem_escs c).1 hc
    exact h c (special_lt c hs) hs
  have he : escShort r = shF r 160 := by
    unfold escShort shF
    rw [Bool.eq_iff_iff, List.any_eq_true, List.any_eq_true]
    constructor
    · rintro ⟨c, hc, hp⟩
      have hs := (mem_escs c).1 hc
      refine ⟨c, List.mem_range.2 (special_lt c hs), ?_⟩
      have hp' := List.isPrefixOf_iff_prefix.1 hp
      have hle := hp'.length_le
      have hne : r.length ≠ (writ c).length := fun e => by
        have := hp'.eq_of_length e
        have h2 := h c (special_lt c hs) hs
        rw [this] at h2
        rw [List.isPrefixOf_iff_prefix.2 (List.prefix_refl _)] at h2
        simp at h2
      rw [hs, hp, decide_eq_true (by omega)]; rfl
    · rintro ⟨c, hc, hp⟩
      simp only [Bool.and_eq_true, decide_eq_true_eq] at hp
      exact ⟨c, (mem_escs c).2 hp.1.1, hp.2⟩
  unfold rescL
  rw [hn, he]
theorem resc_some (r : List UInt8) (c : Nat) (hs : special c = true) (h : (writ c).isPrefixOf r = true) : rescL r = (c, (writ c).length, 0) := by
  unfold rescL
  rw [escO_is r c ((mem_escs c).2 hs) h]
theorem take_prefix (r W : List UInt8) (h : W.length ≤ r.length) : ((str (r.take W.length)).toList == (str W).toList) = W.isPrefixOf r := by
  rw [str_toList, str_toList, Bool.eq_iff_iff, beq_iff_eq, List.isPrefixOf_iff_prefix]
  constructor
  · intro e; rw [← e]; exact List.take_prefix _ _
  · intro e; exact (List.prefix_iff_eq_take.1 e).symm
theorem text_or : ∀ k, k < 160 → (192 ||| k / 64) = 192 + k / 64 ∧ (128 ||| k % 64) = 128 + k % 64 := by decide +kernel
theorem enc1_160 (k : Nat) (h1 : 128 ≤ k) (h2 : k < 160) : enc1 k = [UInt8.ofNat (192 + k / 64), UInt8.ofNat (128 + k % 64)] := by
  unfold enc1; rw [if_neg (by omega), if_pos (by omega)]
end Go.Aq.Wd
namespace Go.Proofs.YtgbbjbldlfpbcaaGreatDoor
open Go.RowKit Go.Aq Go.Aq.Wd
set_option maxHeartbeats 1000000 in
theorem rtextc_any (k : Nat) (hk : k < 160) (w : World) :
    Calls Tryz.prog 67 #[.int .i64 k] w fun e w' => e = .returned (.string (str (enc1 k))) ∧ Chg [] w w' := by
  by_cases h : k < 128
  · have t1 : decide ((k : Int) < 128) = true := by simp; omega
    have t1' : decide (k < 128) = true := by simp; omega
    rw [enc1_low k h]
    have eb := Bc_ofNat k (by omega)
    have r1 : ∀ w : World, (convert 24 9 (.slice (some ⟨w.heap.size, 0, none⟩) 1 1)).run Tryz.prog (w.alloc (.cells #[.int .u8 (k : Nat)] 5)) = .ok (.string (str [UInt8.ofNat k])) (w.alloc (.cells #[.int .u8 (k : Nat)] 5)) := fun w => by
      rw [eb]; exact run_str8 (Sees.row (cs := #[Bc (UInt8.ofNat k)]) (by exact Blk.new _ _ _) rfl)
    have hkb : (k : Int) < 160 := by omega
    clear eb h
    go_enter Tryz.func67, Tryz.ntmps67
    go_wp2_with fail
    go_ret
    exact ⟨rfl, (Chg.refl _ _).alloc _⟩
  · have t1 : decide ((k : Int) < 128) = false := by simp; omega
    have t1' : decide (k < 128) = false := by simp; omega
    rw [enc1_160 k (by omega) hk]
    have eb := Bc_ofNat (192 + k / 64) (by omega)
    have ec := Bc_ofNat (128 + k % 64) (by omega)
    obtain ⟨o1, o2⟩ := text_or k hk
    have b1 : bits .or .i64 192 ((k / 64 : Nat) : Int) = ((192 + k / 64 : Nat) : Int) := by rw [← o1]; exact (bits_i64 192 (k / 64) (by omega) (by omega)).2.1
    have b2 : bits .or .i64 128 ((k % 64 : Nat) : Int) = ((128 + k % 64 : Nat) : Int) := by rw [← o2]; exact (bits_i64 128 (k % 64) (by omega) (by omega)).2.1
    have b3 : bits .and .i64 (k : Int) 63 = ((k % 64 : Nat) : Int) := i64mask k 63 6 (by omega) (by decide) (by decide)
    have dv : (k : Int) / 64 = ((k / 64 : Nat) : Int) := by simp
    have q1 : 192 + k / 64 < 256 := by omega
    have q2 : 128 + k % 64 < 256 := by omega
    generalize 192 + k / 64 = x1 at *
    generalize 128 + k % 64 = x2 at *
    generalize k / 64 = y1 at *
    generalize k % 64 = y2 at *
    have r1 : ∀ w : World, (convert 24 9 (.slice (some ⟨w.heap.size, 0, none⟩) 2 2)).run Tryz.prog (w.alloc (.cells #[.int .u8 (x1 : Nat), .int .u8 (x2 : Nat)] 5)) = .ok (.string (str [UInt8.ofNat x1, UInt8.ofNat x2])) (w.alloc (.cells #[.int .u8 (x1 : Nat), .int .u8 (x2 : Nat)] 5)) := fun w => by
      rw [eb, ec]; exact run_str8 (Sees.row (cs := #[Bc (UInt8.ofNat x1), Bc (UInt8.ofNat x2)]) (by exact Blk.new _ _ _) rfl)
    have hkb : (k : Int) < 160 := by omega
    have q1' : (x1 : Int) < 256 := by omega
    have q2' : (x2 : Int) < 256 := by omega
    clear eb ec o1 o2 h
    go_enter Tryz.func67, Tryz.ntmps67
    go_wp2_with fail
    go_ret
    exact ⟨rfl, (Chg.refl _ _).alloc _⟩
set_option maxRecDepth 100000 in
set_option maxHeartbeats 4000000 in
theorem rescape_any (l : List UInt8) (p : Nat) (w : World) (hp : p ≤ l.length) (hl : l.length ≤ 1000000000) :
    Calls Tryz.prog 66 #[.string (str l), .int .i64 p] w fun e w' => e = .returned (.tuple #[.int .i64 (rescL (l.drop p)).1, .int .i64 (rescL (l.drop p)).2.1, .int .i64 (rescL (l.drop p)).2.2]) ∧ Chg [] w w' := by
  have hsz := str_size l
  have hfr := str_from l p
  have hrl : (l.drop p).length = l.length - p := List.length_drop
  have hsr := str_size (l.drop p)
  have hrb : (l.drop p).length ≤ 1000000000 := by omega
  clear hrl
  generalize l.drop p = r at *
  go_enter Tryz.func66, Tryz.ntmps66
  go_wp2_with fail
  go_loopg [7, 8] 160 (fun k vs vc wr => ∃ (c : Nat), vs = .bool (shF r c) ∧ vc = .int .i64 c ∧ c + k = 160 ∧ Chg [] w wr ∧ Hid (∀ d, d < c → special d = true → (writ d).isPrefixOf r = false))
  case atStart => exact ⟨0, rfl, rfl, rfl, Chg.refl _ _, fun d h => absurd h (by omega)⟩
  case round =>
    obtain ⟨c, rfl, rfl, hck, hc, HA⟩ := hrel
    by_cases h160 : c < 160
    · have t1 : decide ((c : Int) < 160) = true := by simp; omega
      have t1' : decide (c < 160) = true := by simp; omega
      have hw := rwritten_any c (by omega)
      have hsu := shF_succ r c
      have hcb : (c : Int) ≤ 160 := by omega
      have hso := resc_some r c
      have htp := take_prefix r (writ c)
      have htq := take_prefix (writ c) r
      have hu1 := str_upto r (writ c).length
      have hu2 := str_upto (writ c) r.length
      have hsw := str_size (writ c)
      have hw6 := writ_le c
      have hrw : rwrit c = if special c then writ c else [] := rfl
      have hwn := writ_ne c
      cases hsp : special c with
      | false =>
        rw [hsp] at hsu hrw
        simp only [Bool.false_and, Bool.or_false] at hsu
        have e1 : (str (rwrit c)).toList.isEmpty = true := by rw [str_toList, hrw]; rfl
        have HSU := Lib.hid hsu
        have HB : Hid (∀ d, d < c + 1 → special d = true → (writ d).isPrefixOf r = false) := fun d hd hs => by
          by_cases h : d < c
          · exact HA.out d h hs
          · obtain rfl : d = c := by omega
            rw [hsp] at hs; simp at hs
        have HP := Lib.hid (And.intro hck h160)
        clear hsu hrw hck hsp hso htp htq hu1 hu2 hsw hwn hw6
        generalize rwrit c = W0 at *
        go_wp2_with fail
        refine (hw wr).mono ?_
        rintro e w3 ⟨rfl, c3⟩
        clear hw
        go_wp2_with fail
        go_roundg (gk - 1)
        case measure => have := HP.out; omega
        case rel => exact ⟨c + 1, by rw [HSU.out], by go_num, by have := HP.out; omega, hc.nil c3, HB⟩
      | true =>
        rw [hsp] at hsu hrw
        rw [if_pos rfl] at hrw
        simp only [Bool.true_and] at hsu
        rw [hrw] at hw
        have e1 : (str (writ c)).toList.isEmpty = false := by
          rw [str_toList]
          cases hx : writ c with
          | nil => exact absurd hx hwn
          | cons a t => rfl
        have hso := hso hsp
        have HP := Lib.hid (And.intro hck h160)
        by_cases hle : (writ c).length ≤ r.length
        · have t2 : decide (((writ c).length : Int) ≤ (r.length : Int)) = true := by simp; omega
          have t2' : decide ((writ c).length ≤ r.length) = true := by simp; omega
          have hcmp := htp hle
          cases hpre : (writ c).isPrefixOf r with
          | true =>
            have HS := Lib.hid (hso hpre)
            rw [hpre] at hcmp
            clear hsu hck hsp hso htp htq hwn hrw hpre hu2 h160
            generalize writ c = W at *
            go_wp2_with fail
            refine (hw wr).mono ?_
            rintro e w3 ⟨rfl, c3⟩
            clear hw
            go_wp2_with fail
            go_ret3
            exact ⟨by rw [HS.out]; rfl, hc.nil c3⟩
          | false =>
            rw [hpre] at hcmp
            have t3 : decide ((r.length : Int) < ((writ c).length : Int)) = false := by simp; omega
            have t3' : decide (r.length < (writ c).length) = false := by simp; omega
            rw [t3'] at hsu
            simp only [Bool.false_and, Bool.or_false] at hsu
            have HSU := Lib.hid hsu
            have HB : Hid (∀ d, d < c + 1 → special d = true → (writ d).isPrefixOf r = false) := fun d hd hs => by
              by_cases h : d < c
              · exact HA.out d h hs
              · obtain rfl : d = c := by omega
                exact hpre
            clear hsu hck hsp hso htp htq hwn hrw hpre hu2 h160
            generalize writ c = W at *
            generalize hsh : shF r c = sh at *
            cases sh with
            | true =>
              have HSH := Lib.hid hsh
              clear hsh
              go_wp2_with fail
              refine (hw wr).mono ?_
              rintro e w3 ⟨rfl, c3⟩
              clear hw
              go_wp2_with fail
              go_roundg (gk - 1)
              case measure => have := HP.out; omega
              case rel => exact ⟨c + 1, by rw [HSU.out], by go_num, by have := HP.out; omega, hc.nil c3, HB⟩
            | false =>
              have HSH := Lib.hid hsh
              clear hsh
              go_wp2_with fail
              refine (hw wr).mono ?_
              rintro e w3 ⟨rfl, c3⟩
              clear hw
              go_wp2_with fail
              go_roundg (gk - 1)
              case measure => have := HP.out; omega
              case rel => exact ⟨c + 1, by rw [HSU.out], by go_num, by have := HP.out; omega, hc.nil c3, HB⟩
        · have t2 : decide (((writ c).length : Int) ≤ (r.length : Int)) = false := by simp; omega
          have t2' : decide ((writ c).length ≤ r.length) = false := by simp; omega
          have t3 : decide ((r.length : Int) < ((writ c).length : Int)) = true := by simp; omega
          have t3' : decide (r.length < (writ c).length) = true := by simp; omega
          have hcmp := htq (by omega)
          rw [t3'] at hsu
          simp only [Bool.true_and] at hsu
          have HSU := Lib.hid hsu
          have hpf : (writ c).isPrefixOf r = false := by
            rw [Bool.eq_false_iff]; intro h; exact hle ((List.isPrefixOf_iff_prefix.1 h).length_le)
          have HB : Hid (∀ d, d < c + 1 → special d = true → (writ d).isPrefixOf r = false) := fun d hd hs => by
            by_cases h : d < c
            · exact HA.out d h hs
            · obtain rfl : d = c := by omega
              exact hpf
          have hrw6 : r.length ≤ (writ c).length := by omega
          clear hsu hck hsp hso htp htq hwn hrw hu1 h160 hpf hle
          generalize r.isPrefixOf (writ c) = pf at *
          generalize writ c = W at *
          generalize shF r c = sh at *
          cases sh with
          | true =>
            go_wp2_with fail
            refine (hw wr).mono ?_
            rintro e w3 ⟨rfl, c3⟩
            clear hw
            go_wp2_with fail
            go_roundg (gk - 1)
            case measure => have := HP.out; omega
            case rel => exact ⟨c + 1, by rw [HSU.out]; rfl, by go_num, by have := HP.out; omega, hc.nil c3, HB⟩
          | false =>
            go_wp2_with fail
            refine (hw wr).mono ?_
            rintro e w3 ⟨rfl, c3⟩
            clear hw
            go_wp2_with fail
            go_roundg (gk - 1)
            case measure => have := HP.out; omega
            case rel => exact ⟨c + 1, by rw [HSU.out]; rfl, by go_num, by have := HP.out; omega, hc.nil c3, HB⟩
    · have t1 : decide ((c : Int) < 160) = false := by simp; omega
      have t1' : decide (c < 160) = false := by simp; omega
      obtain rfl : c = 160 := by omega
      have HN := Lib.hid (resc_none r HA.out)
      generalize hsh : shF r 160 = sh at *
      have HSH := Lib.hid hsh
      clear hsh h160 t1 t1'
      cases sh with
      | true =>
        go_wp2_with fail
        go_ret3
        exact ⟨by rw [HN.out]; rfl, hc⟩
      | false =>
        go_wp2_with fail
        go_ret3
        exact ⟨by rw [HN.out]; rfl, hc⟩
end Go.Proofs.YtgbbjbldlfpbcaaGreatDoor

/- Contracts of the document's answer to chapter 2: plain, quoted. No statement of the seat is proved here. -/
namespace Go.Aq.Wd
theorem cut_take (l : List UInt8) (p q : Nat) : (l.take q).drop p = (l.drop p).take (q - p) := by
  rw [List.drop_take]
end Go.Aq.Wd
namespace Go.Proofs.YtgbbjbldlfpbcaaGreatDoor
open Go.RowKit Go.Aq Go.Aq.Wd
/-- What plain and quoted answer: the text where there is no error, the place, the error. -/
def wdV (t : List UInt8) (at_ e : Nat) : Value := .tuple #[.string (str (if e = 0 then t else [])), .int .i64 (at_ : Nat), .int .i64 (e : Nat)]
def plV (l : List UInt8) (p : Nat) : Value := wdV ((l.drop p).take (plainW (l.drop p)).1) (p + (plainW (l.drop p)).1) (if (plainW (l.drop p)).2 then 0 else 4)
theorem plV_true {l : List UInt8} {p q : Nat} (h : plainW (l.drop p) = (q - p, true)) (hpq : p ≤ q) : plV l p = .tuple #[.string (str ((l.drop p).take (q - p))), .int .i64 (q : Nat), .int .i64 0] := by
  have e1 : p + (q - p) = q := by omega
  simp only [plV, wdV, h, e1, if_true]; rfl
theorem plV_false {l : List UInt8} {p q : Nat} (h : plainW (l.drop p) = (q - p, false)) (hpq : p ≤ q) : plV l p = .tuple #[.string (str []), .int .i64 (q : Nat), .int .i64 4] := by
  have e1 : p + (q - p) = q := by omega
  simp only [plV, wdV, h, e1, Bool.false_eq_true, if_false]; rfl
set_option maxRecDepth 100000 in
set_option maxHeartbeats 4000000 in
theorem rplain_any (l : List UInt8) (p : Nat) (w : World) (hp : p ≤ l.length) (hl : l.length ≤ 1000000000) :
    Calls Tryz.prog 36 #[.string (str l), .int .i64 p] w fun e w' => e = .returned (plV l p) ∧ w' = w := by
  have hsz := str_size l
  have hpb : (p : Int) ≤ 1000000000 := by omega
  go_enter Tryz.func36, Tryz.ntmps36
  go_wp2_with fail
  go_loopg [7] l.length (fun k vq wr => ∃ (q : Nat), vq = .int .i64 q ∧ q + k = p + l.length ∧ p ≤ q ∧ q ≤ l.length ∧ wr = w ∧ Hid (plainW (l.drop p) = (q - p + (plainW (l.drop q)).1, (plainW (l.drop q)).2)))
  case atStart => exact ⟨p, rfl, by omega, by omega, hp, rfl, by show _ = _; rw [Nat.sub_self, Nat.zero_add]⟩
  case round =>
    obtain ⟨q, rfl, hqk, hpq, hql, rfl, HI⟩ := hrel
    have hqb : (q : Int) ≤ 1000000000 := by omega
    by_cases hq : q < l.length
    · have r1 : decide ((q : Int) < (l.length : Int)) = true := by simp; omega
      have r1' : decide (q < l.length) = true := by simp; omega
      have hr := drop_ne l q hq
      have ix := fun w' => idxS w' l q hq
      have hst := plainW_step _ hr
      have h32 := head32 _ hr
      have hhd : (l.drop q).headD 0 = l[q] := by rw [List.drop_eq_getElem_cons hq]; rfl
      have hx32 : l[q] = 32 ↔ (l[q]).toNat = 32 := ⟨fun h => by rw [h]; rfl, fun h => by rw [← u8e _ _ h]; rfl⟩
      rw [hhd, hx32] at h32
      have hsg := rsign_any l q wr hq hl
      have hfit := dec_fits l q hq
      have hdp := dec_pos (l.drop q)
      have hd1 := dec_fst (l.drop q)
      have hdd : (l.drop q).drop (dec (l.drop q)).2 = l.drop (q + (dec (l.drop q)).2) := by rw [List.drop_drop]
      rw [hdd] at hst
      clear hdd hhd hx32 hr
      have hdec32 := dec_ascii 32
      by_cases hx : (l[q]).toNat = 32
      · have hc32 := h32.2 hx
        have hbad : (bad (dec (l.drop q)) || low (dec (l.drop q)).1) = false := by
          rw [hc32, show dec (l.drop q) = ((dec (l.drop q)).1, (dec (l.drop q)).2) from rfl, hc32, not_bad 32 _ (by omega)]; rfl
        rw [hbad, hc32] at hst
        simp only [Bool.false_eq_true, if_false, if_true] at hst
        rw [hx] at ix
        have HS : Hid (plainW (l.drop p) = (q - p, true)) := by show _ = _; rw [HI.out, hst]; simp
        have hex : (str l).extract p q = str ((l.drop p).take (q - p)) := by rw [str_extract, cut_take]
        clear hst h32 hx hsg hfit hdp hd1 hc32 hbad hdec32 HI
        go_wp2_with fail
        go_ret3
        exact ⟨by rw [plV_true HS.out (by assumption)]; rfl, rfl⟩
      · have t32 : (((l[q]).toNat : Int) != 32) = true := by rw [bne_iff_ne]; omega
        have hc32 : (dec (l.drop q)).1 ≠ 32 := fun h => hx (h32.1 h)
        rw [if_neg hc32] at hst
        clear h32 hx hdec32 hc32
        generalize (l[q]).toNat = x at *
        generalize dec (l.drop q) = d at *
        obtain ⟨c, n⟩ := d
        simp only at hst hfit hdp hd1
        cases hb : bad (c, n) with
        | true =>
          rw [show goodO (c, n) = none by unfold goodO; rw [hb]; rfl] at hsg
          rw [hb] at hst
          simp only [Bool.true_or, if_true] at hst
          have HS : Hid (plainW (l.drop p) = (q - p, false)) := by show _ = _; rw [HI.out, hst]; simp
          clear hst hb hfit hdp hd1 HI
          go_wp2_with fail
          refine hsg.mono ?_
          rintro e w2 ⟨rfl, rfl⟩
          unfold sgV
          go_wp2_with fail
          go_ret3
          exact ⟨by rw [plV_false HS.out (by assumption)]; rfl, rfl⟩
        | false =>
          rw [show goodO (c, n) = some (c, n) by unfold goodO; rw [hb]; rfl] at hsg
          rw [hb] at hst
          simp only [Bool.false_or] at hst
          have hct := rcontrol_any c hd1
          cases hlow : low c with
          | true =>
            rw [hlow, if_pos rfl] at hst
            rw [hlow] at hct
            have HS : Hid (plainW (l.drop p) = (q - p, false)) := by show _ = _; rw [HI.out, hst]; simp
            clear hst hb hfit hdp HI hlow
            go_wp2_with fail
            refine hsg.mono ?_
            rintro e w2 ⟨rfl, rfl⟩
            unfold sgV
            go_wp2_with fail
            refine (hct _).mono ?_
            rintro e w3 ⟨rfl, rfl⟩
            go_wp2_with fail
            go_ret3
            exact ⟨by rw [plV_false HS.out (by assumption)]; rfl, rfl⟩
          | false =>
            rw [hlow] at hst hct
            simp only [Bool.false_eq_true, if_false] at hst
            by_cases h34 : c = 34
            · subst h34
              rw [if_pos rfl] at hst
              have HS : Hid (plainW (l.drop p) = (q - p, false)) := by show _ = _; rw [HI.out, hst]; simp
              clear hst hb hfit hdp HI hlow
              go_wp2_with fail
              refine hsg.mono ?_
              rintro e w2 ⟨rfl, rfl⟩
              unfold sgV
              go_wp2_with fail
              refine (hct _).mono ?_
              rintro e w3 ⟨rfl, rfl⟩
              go_wp2_with fail
              go_ret3
              exact ⟨by rw [plV_false HS.out (by assumption)]; rfl, rfl⟩
            · have t34 : ((c : Int) == 34) = false := by rw [beq_eq_false_iff_ne]; omega
              rw [if_neg h34] at hst
              have HS : Hid (plainW (l.drop p) = (q + n - p + (plainW (l.drop (q + n))).1, (plainW (l.drop (q + n))).2)) := by
                show _ = _
                rw [HI.out, hst]
                simp only [Prod.mk.injEq, and_true]; omega
              have HP := Lib.hid (And.intro hqk (And.intro hdp (And.intro hfit hpq)))
              have hn4 : (n : Int) ≤ 1000000000 := by omega
              clear hst hb hfit hdp HI hlow h34 hqk
              go_wp2_with fail
              refine hsg.mono ?_
              rintro e w2 ⟨rfl, rfl⟩
              unfold sgV
              go_wp2_with fail
              refine (hct _).mono ?_
              rintro e w3 ⟨rfl, rfl⟩
              go_wp2_with fail
              go_roundg (gk - n)
              case measure => have := HP.out; omega
              case rel => exact ⟨q + n, by go_num, by have := HP.out; omega, by have := HP.out; omega, by have := HP.out; omega, rfl, HS⟩
    · have r1 : decide ((q : Int) < (l.length : Int)) = false := by simp; omega
      have r1' : decide (q < l.length) = false := by simp; omega
      obtain rfl : q = l.length := by omega
      have HS : Hid (plainW (l.drop p) = (l.length - p, true)) := by show _ = _; rw [HI.out, List.drop_length, plainW_nil]; rfl
      have hex : (str l).extract p l.length = str ((l.drop p).take (l.length - p)) := by rw [str_extract, cut_take]
      clear HI hq
      go_wp2_with fail
      go_ret3
      exact ⟨by rw [plV_true HS.out (by assumption)]; rfl, rfl⟩
end Go.Proofs.YtgbbjbldlfpbcaaGreatDoor

/- Contracts of the document's answer to chapter 2: quoted. No statement of the seat is proved here. -/
namespace Go.Proofs.YtgbbjbldlfpbcaaGreatDoor
open Go.RowKit Go.Aq Go.Aq.Wd
def qtV (l : List UInt8) (p : Nat) : Value := wdV (quotW (l.drop (p + 1))).1 (p + 1 + (quotW (l.drop (p + 1))).2.1) (quotW (l.drop (p + 1))).2.2
theorem qtV_ok {l : List UInt8} {p q : Nat} {t : List UInt8} (h : quotW (l.drop (p + 1)) = (t, q - (p + 1), 0)) (hpq : p + 1 ≤ q) : qtV l p = .tuple #[.string (str t), .int .i64 (q : Nat), .int .i64 0] := by
  have e1 : p + 1 + (q - (p + 1)) = q := by omega
  simp only [qtV, wdV, h, e1, if_true]; rfl
theorem qtV_err {l : List UInt8} {p q e : Nat} (h : (quotW (l.drop (p + 1))).2 = (q - (p + 1), e)) (he : e ≠ 0) (hpq : p + 1 ≤ q) : qtV l p = .tuple #[.string (str []), .int .i64 (q : Nat), .int .i64 (e : Nat)] := by
  have e1 : p + 1 + (q - (p + 1)) = q := by omega
  simp only [qtV, wdV, h, e1, if_neg he]
set_option maxRecDepth 100000 in
set_option maxHeartbeats 8000000 in
theorem rquoted_any (l : List UInt8) (p : Nat) (w : World) (hp : p < l.length) (hl : l.length ≤ 1000000000) :
    Calls Tryz.prog 35 #[.string (str l), .int .i64 p] w fun e w' => e = .returned (qtV l p) ∧ Chg [] w w' := by
  have hsz := str_size l
  have hpb : (p : Int) ≤ 1000000000 := by omega
  go_enter Tryz.func35, Tryz.ntmps35
  go_wp2_with fail
  go_loopg [7, 8] l.length (fun k vo vq wr => ∃ (q : Nat) (acc : List UInt8), vo = .string (str acc) ∧ vq = .int .i64 q ∧ q + k = p + 1 + l.length ∧ p + 1 ≤ q ∧ q ≤ l.length ∧ acc.length ≤ 4 * q ∧ Chg [] w wr ∧
    Hid (quotW (l.drop (p + 1)) = (acc ++ (quotW (l.drop q)).1, q - (p + 1) + (quotW (l.drop q)).2.1, (quotW (l.drop q)).2.2)))
  case atStart => exact ⟨p + 1, [], rfl, by go_num, by omega, by omega, by omega, by simp, Chg.refl _ _, by show _ = _; simp⟩
  case round =>
    obtain ⟨q, acc, rfl, rfl, hqk, hpq, hql, hacc, hc, HI⟩ := hrel
    have hqb : (q : Int) ≤ 1000000000 := by omega
    have hsa := str_size acc
    by_cases hq : q < l.length
    · have r1 : decide ((q : Int) < (l.length : Int)) = true := by simp; omega
      have r1' : decide (q < l.length) = true := by simp; omega
      have hr := drop_ne l q hq
      have hst := quotW_step _ hr
      have hsg := rsign_any l q wr hq hl
      have hfit := dec_fits l q hq
      have hdp := dec_pos (l.drop q)
      have hd1 := dec_fst (l.drop q)
      have hgood := dec_good _ hr
      have hdd : ∀ m, (l.drop q).drop m = l.drop (q + m) := fun m => by rw [List.drop_drop]
      have hrl : (l.drop q).length = l.length - q := List.length_drop
      simp only [hdd] at hst
      clear hr
      cases hb : bad (dec (l.drop q)) with
      | true =>
        rw [show goodO (dec (l.drop q)) = none by unfold goodO; rw [hb]; rfl] at hsg
        rw [hb] at hst
        simp only [Bool.true_or, if_true] at hst
        have HS : Hid ((quotW (l.drop (p + 1))).2 = (q - (p + 1), 4)) := by show _ = _; rw [HI.out, hst]; simp
        clear hst hb hfit hdp HI hd1 hgood hdd hrl
        go_wp2_with fail
        refine hsg.mono ?_
        rintro e w2 ⟨rfl, rfl⟩
        unfold sgV
        go_wp2_with fail
        go_ret3
        exact ⟨by rw [qtV_err HS.out (by decide) (by assumption)]; rfl, hc⟩
      | false =>
        obtain ⟨hokc, hn, hlq⟩ := hgood hb
        rw [show goodO (dec (l.drop q)) = some (dec (l.drop q)) by unfold goodO; rw [hb]; rfl] at hsg
        rw [hb] at hst
        simp only [Bool.false_or] at hst
        have hcut : (l.take (q + (dec (l.drop q)).2)).drop q = enc1 (dec (l.drop q)).1 := by
          rw [cut_take, Nat.add_sub_cancel_left, hlq.trans rfl]
          have : (enc1 (dec (l.drop q)).1 ++ List.drop (dec (l.drop q)).2 (l.drop q)).take (dec (l.drop q)).2 = enc1 (dec (l.drop q)).1 := by
            conv => lhs; arg 1; rw [hn]
            exact List.take_left
          rw [← hlq]; rw [← hlq] at this; exact this
        generalize dec (l.drop q) = d at *
        obtain ⟨c, n⟩ := d
        simp only at hst hfit hdp hd1 hokc hcut
        have hct := rcontrol_any c hd1
        have hex := str_extract l q (q + n)
        rw [hcut] at hex
        clear hgood hb hn hlq hcut
        cases hlow : low c with
        | true =>
          rw [hlow, if_pos rfl] at hst
          rw [hlow] at hct
          have HS : Hid ((quotW (l.drop (p + 1))).2 = (q - (p + 1), 4)) := by show _ = _; rw [HI.out, hst]; simp
          clear hst hfit hdp HI hlow hdd hrl hokc hex
          go_wp2_with fail
          refine hsg.mono ?_
          rintro e w2 ⟨rfl, rfl⟩
          unfold sgV
          go_wp2_with fail
          refine (hct _).mono ?_
          rintro e w3 ⟨rfl, rfl⟩
          go_wp2_with fail
          go_ret3
          exact ⟨by rw [qtV_err HS.out (by decide) (by assumption)]; rfl, hc⟩
        | false =>
          rw [hlow] at hst hct
          simp only [Bool.false_eq_true, if_false] at hst
          by_cases h34 : c = 34
          · subst h34
            rw [if_pos rfl] at hst
            have HS : Hid (quotW (l.drop (p + 1)) = (acc, q + 1 - (p + 1), 0)) := by
              show _ = _; rw [HI.out, hst]; simp only [List.append_nil, Prod.mk.injEq, true_and, and_true]; omega
            clear hst hfit hdp HI hlow hdd hrl hokc hex
            have hpq2 : p + 1 ≤ q + 1 := by omega
            go_wp2_with fail
            refine hsg.mono ?_
            rintro e w2 ⟨rfl, rfl⟩
            unfold sgV
            go_wp2_with fail
            refine (hct _).mono ?_
            rintro e w3 ⟨rfl, rfl⟩
            go_wp2_with fail
            go_ret3
            exact ⟨by rw [qtV_ok HS.out hpq2]; rfl, hc⟩
          · have t34 : ((c : Int) == 34) = false := by rw [beq_eq_false_iff_ne]; omega
            rw [if_neg h34] at hst
            by_cases h92 : c = 92
            · subst h92
              rw [if_pos rfl] at hst
              have hes := fun w' => rescape_any l q w' hql hl
              have hso := escO_some (l.drop q)
              have hrs : rescL (l.drop q) = match escO (l.drop q) with | some k => (k, (writ k).length, 0) | none => if escShort (l.drop q) then (0, 0, 2) else (0, 0, 4) := rfl
              cases ho : escO (l.drop q) with
              | some k =>
                rw [ho] at hst hrs
                simp only at hst hrs
                obtain ⟨hk1, hk2⟩ := hso k ho
                have hk160 := special_lt k ((mem_escs k).1 hk1)
                have hwl := (List.isPrefixOf_iff_prefix.1 hk2).length_le
                have hw1 : 1 ≤ (writ k).length := List.length_pos_iff.2 (writ_ne k)
                have hw6 := writ_le k
                rw [hrl] at hwl
                rw [hrs] at hes
                have htx := fun w' => rtextc_any k hk160 w'
                have hap : str acc ++ str (enc1 k) = str (acc ++ enc1 k) := str_app _ _
                have hek := enc1_len k
                have hse := str_size (enc1 k)
                have HS : Hid (quotW (l.drop (p + 1)) = (acc ++ enc1 k ++ (quotW (l.drop (q + (writ k).length))).1, q + (writ k).length - (p + 1) + (quotW (l.drop (q + (writ k).length))).2.1, (quotW (l.drop (q + (writ k).length))).2.2)) := by
                  show _ = _; rw [HI.out, hst]; simp only [List.append_assoc, Prod.mk.injEq, and_true, true_and]; omega
                have hacc2 : (acc ++ enc1 k).length ≤ 4 * (q + (writ k).length) := by rw [List.length_append]; omega
                have HP := Lib.hid (And.intro hqk (And.intro hw1 (And.intro hwl (And.intro hpq hacc2))))
                have hk2b : (k : Int) < 160 := by omega
                have hse2 : (str (enc1 k)).size ≤ 4 := by omega
                clear hst hfit hdp HI hlow hdd hrl hokc hex h34 hso ho hk1 hk2 hwl hw1 hqk hrs hek hse hacc2
                generalize (writ k).length = m at *
                generalize enc1 k = E at *
                generalize acc ++ E = acc2 at *
                go_wp2_with fail
                refine hsg.mono ?_
                rintro e w2 ⟨rfl, rfl⟩
                unfold sgV
                go_wp2_with fail
                refine (hct _).mono ?_
                rintro e w3 ⟨rfl, rfl⟩
                clear hsg hct
                go_wp2_with fail
                refine (hes _).mono ?_
                rintro e w4 ⟨rfl, c4⟩
                clear hes
                go_wp2_with fail
                refine (htx _).mono ?_
                rintro e w5 ⟨rfl, c5⟩
                clear htx
                go_wp2_with fail
                go_roundg (gk - m)
                case measure => have := HP.out; omega
                case rel => exact ⟨q + m, acc2, rfl, by go_num, by have := HP.out; omega, by have := HP.out; omega, by have := HP.out; omega, by have := HP.out; omega, (hc.nil c4).nil c5, HS⟩
              | none =>
                rw [ho] at hst hrs
                simp only at hst hrs
                cases hsh : escShort (l.drop q) with
                | true =>
                  rw [hsh, if_pos rfl] at hst hrs
                  rw [hrs] at hes
                  have HS : Hid ((quotW (l.drop (p + 1))).2 = (l.length - (p + 1), 2)) := by
                    show _ = _; rw [HI.out, hst]; simp only [Prod.mk.injEq, and_true]; omega
                  have hpl : p + 1 ≤ l.length := by omega
                  clear hst hfit hdp HI hlow hdd hrl hokc hex h34 hso ho hsh hqk hrs
                  go_wp2_with fail
                  refine hsg.mono ?_
                  rintro e w2 ⟨rfl, rfl⟩
                  unfold sgV
                  go_wp2_with fail
                  refine (hct _).mono ?_
                  rintro e w3 ⟨rfl, rfl⟩
                  clear hsg hct
                  go_wp2_with fail
                  refine (hes _).mono ?_
                  rintro e w4 ⟨rfl, c4⟩
                  clear hes
                  go_wp2_with fail
                  go_ret3
                  exact ⟨by rw [qtV_err HS.out (by decide) hpl]; rfl, hc.nil c4⟩
                | false =>
                  rw [hsh] at hst hrs
                  simp only [Bool.false_eq_true, if_false] at hst hrs
                  rw [hrs] at hes
                  have HS : Hid ((quotW (l.drop (p + 1))).2 = (q - (p + 1), 4)) := by show _ = _; rw [HI.out, hst]; simp
                  clear hst hfit hdp HI hlow hdd hrl hokc hex h34 hso ho hsh hqk hrs
                  go_wp2_with fail
                  refine hsg.mono ?_
                  rintro e w2 ⟨rfl, rfl⟩
                  unfold sgV
                  go_wp2_with fail
                  refine (hct _).mono ?_
                  rintro e w3 ⟨rfl, rfl⟩
                  clear hsg hct
                  go_wp2_with fail
                  refine (hes _).mono ?_
                  rintro e w4 ⟨rfl, c4⟩
                  clear hes
                  go_wp2_with fail
                  go_ret3
                  exact ⟨by rw [qtV_err HS.out (by decide) (by assumption)]; rfl, hc.nil c4⟩
            · have t92 : ((c : Int) == 92) = false := by rw [beq_eq_false_iff_ne]; omega
              rw [if_neg h92] at hst
              have hap : str acc ++ str (enc1 c) = str (acc ++ enc1 c) := str_app _ _
              have hek := enc1_len c
              have hse : (str (enc1 c)).size ≤ 4 := by rw [str_size]; omega
              have HS : Hid (quotW (l.drop (p + 1)) = (acc ++ enc1 c ++ (quotW (l.drop (q + n))).1, q + n - (p + 1) + (quotW (l.drop (q + n))).2.1, (quotW (l.drop (q + n))).2.2)) := by
                show _ = _; rw [HI.out, hst]; simp only [List.append_assoc, Prod.mk.injEq, and_true, true_and]; omega
              have hacc2 : (acc ++ enc1 c).length ≤ 4 * (q + n) := by rw [List.length_append]; omega
              have HP := Lib.hid (And.intro hqk (And.intro hdp (And.intro hfit (And.intro hpq hacc2))))
              have hpn : q + n ≤ l.length := hfit
              clear hst hdp HI hlow hdd hrl hokc h34 h92 hqk hek hacc2 hfit
              generalize enc1 c = E at *
              generalize acc ++ E = acc2 at *
              go_wp2_with fail
              refine hsg.mono ?_
              rintro e w2 ⟨rfl, rfl⟩
              unfold sgV
              go_wp2_with fail
              refine (hct _).mono ?_
              rintro e w3 ⟨rfl, rfl⟩
              clear hsg hct
              go_wp2_with fail
              go_roundg (gk - n)
              case measure => have := HP.out; omega
              case rel => exact ⟨q + n, acc2, rfl, by go_num, by have := HP.out; omega, by have := HP.out; omega, by have := HP.out; omega, by have := HP.out; omega, hc, HS⟩
    · have r1 : decide ((q : Int) < (l.length : Int)) = false := by simp; omega
      have r1' : decide (q < l.length) = false := by simp; omega
      obtain rfl : q = l.length := by omega
      have HS : Hid ((quotW (l.drop (p + 1))).2 = (l.length - (p + 1), 2)) := by show _ = _; rw [HI.out, List.drop_length, quotW_nil]; rfl
      clear HI hq
      go_wp2_with fail
      go_ret3
      exact ⟨by rw [qtV_err HS.out (by decide) (by assumption)]; rfl, hc⟩
end Go.Proofs.YtgbbjbldlfpbcaaGreatDoor

/- Contract of aquref1.Words and the walk of the law WordLines. No statement of the seat is proved here. -/
namespace Go.Aq.Wd
theorem wordsF_fit (n : Nat) : ∀ (f : Nat) (r : List UInt8) (acc : List (List UInt8)), acc.length ≤ 50 → (wordsF n f r acc).1.length ≤ 50
  | 0, _, acc, h => h
  | f + 1, r, acc, h => by
    rw [wordsF]
    split
    · exact h
    · split
      · simp
      · split
        · simp
        · exact wordsF_fit n f _ _ (by simp; omega)
theorem words_fit (l : List UInt8) : (wordsL l).1.length ≤ 50 := wordsF_fit _ _ _ _ (by simp)
end Go.Aq.Wd
namespace Go.Proofs.YtgbbjbldlfpbcaaGreatDoor
open Go.RowKit Go.Aq Go.Aq.Wd
set_option maxRecDepth 100000 in
set_option maxHeartbeats 8000000 in
theorem rwords_any (l : List UInt8) (w : World) (hl : l.length ≤ 1000000000) :
    Calls Tryz.prog 13 #[.string (str l)] w fun e w' => ∃ v, e = .returned (.tuple #[v, .int .i64 (wordsL l).2.1, .int .i64 (wordsL l).2.2]) ∧ Fresh w w' 9 1 v (wordsL l).1.length (Ss (wordsL l).1) := by
  have hsz := str_size l
  have hW : wordsL l = wordsF l.length (l.length + 1) (l.drop 0) [] := rfl
  have HW := Lib.hid hW
  clear hW
  go_enter Tryz.func13, Tryz.ntmps13
  go_wp2_with fail
  go_loopg [5, 6] (l.length + 1) (fun k vl vq wr => ∃ (q f : Nat) (acc : List (List UInt8)), vq = .int .i64 q ∧ q + k = l.length + 1 ∧ q ≤ l.length ∧ l.length < q + f ∧ acc.length ≤ 50 ∧ Fresh w wr 9 1 vl acc.length (Ss acc) ∧ Hid (wordsL l = wordsF l.length f (l.drop q) acc))
  case atStart => exact ⟨0, l.length + 1, [], rfl, by omega, by omega, by omega, by simp, Fresh.nil w _ _, HW.out⟩
  case round =>
    obtain ⟨q, f, acc, rfl, hqk, hql, hqf, ha50, hf, hw⟩ := hrel
    obtain ⟨GK, hGK⟩ : ∃ G, G = gk := ⟨_, rfl⟩
    obtain ⟨wo, hwo⟩ : ∃ wo : World, wo = wr := ⟨_, rfl⟩
    rw [← hwo] at hf
    rw [← hGK] at hqk
    subst hwo
    have hqb : (q : Int) ≤ 1000000000 := by omega
    go_wp2_with fail
    go_loopg [6] (l.length - q) (fun k vq wr => ∃ (q1 : Nat), vq = .int .i64 q1 ∧ q1 + k = l.length ∧ q ≤ q1 ∧ q1 ≤ l.length ∧ wr = wo ∧ q1 + blanks (l.drop q1) = q + blanks (l.drop q))
    case atStart => exact ⟨q, rfl, by omega, by omega, hql, rfl, rfl⟩
    case round =>
      obtain ⟨q1, rfl, hk1, hqq, hq1l, rfl, hbl⟩ := hrel
      have hq1b : (q1 : Int) ≤ 1000000000 := by omega
      have hbs := blanks_step (l.drop q1)
      by_cases h1 : q1 < l.length ∧ (l.drop q1).headD 0 = 32
      · obtain ⟨hlt, h32⟩ := h1
        have t1 : decide ((q1 : Int) < (l.length : Int)) = true := by simp; omega
        have t1' : decide (q1 < l.length) = true := by simp; omega
        have hhd : (l.drop q1).headD 0 = l[q1] := by rw [List.drop_eq_getElem_cons hlt]; rfl
        rw [hhd] at h32
        have ix := fun w' => idxS w' l q1 hlt
        rw [h32] at ix
        have hx32 : ((32 : UInt8).toNat : Int) = 32 := rfl
        rw [hx32] at ix
        rw [if_pos ⟨by rw [hhd]; exact h32, drop_ne l q1 hlt⟩, List.drop_drop] at hbs
        have HB := Lib.hid (And.intro hbl (And.intro hbs hk1))
        clear hbl hbs hk1 hhd h32 hx32
        go_wp2_with fail
        go_roundg (gk - 1)
        case measure => have := HB.out; omega
        case rel => exact ⟨q1 + 1, by go_num, by have := HB.out; omega, by omega, by omega, rfl, by have := HB.out; omega⟩
      · have hb0 : blanks (l.drop q1) = 0 := by rw [hbs, if_neg (fun hh => h1 ⟨by
          by_cases hlt : q1 < l.length
          · exact hlt
          · exact absurd (List.drop_eq_nil_of_le (by omega)) hh.2, hh.1⟩)]
        obtain ⟨f', rfl⟩ : ∃ f', f = f' + 1 := ⟨f - 1, by omega⟩
        have hdd : (l.drop q).drop (blanks (l.drop q)) = l.drop q1 := by rw [List.drop_drop]; congr 1; omega
        have hw := hw.out
        rw [wordsF] at hw
        simp only [hdd] at hw
        rw [List.length_drop] at hw
        by_cases hend : l.drop q1 = []
        · rw [if_pos hend] at hw
          have hq1e : q1 = l.length := by have := congrArg List.length hend; simp at this; omega
          subst hq1e
          have t1 : decide ((l.length : Int) < (l.length : Int)) = false := by simp
          have t2 : ((l.length : Int) == (l.length : Int)) = true := by simp
          have HWW := Lib.hid hw
          clear hw hend hbs hb0 hbl hdd h1
          go_wp2_with fail
          go_ret3
          exact ⟨_, by rw [HWW.out]; rfl, by rw [HWW.out]; exact hf⟩
        · rw [if_neg hend] at hw
          have hlt : q1 < l.length := by
            by_cases hlt : q1 < l.length
            · exact hlt
            · exact absurd (List.drop_eq_nil_of_le (by omega)) hend
          have hhd : (l.drop q1).headD 0 = l[q1] := by rw [List.drop_eq_getElem_cons hlt]; rfl
          have hn32 : (l.drop q1).headD 0 ≠ 32 := fun e => h1 ⟨hlt, e⟩
          have hx32 : (l[q1]).toNat ≠ 32 := fun e => hn32 (by rw [hhd, ← u8e _ _ e]; rfl)
          have hx34 : l[q1] = 34 ↔ (l[q1]).toNat = 34 := ⟨fun h => by rw [h]; rfl, fun h => by rw [← u8e _ _ h]; rfl⟩
          have ix := fun w' => idxS w' l q1 hlt
          have t1 : decide ((q1 : Int) < (l.length : Int)) = true := by simp; omega
          have t1' : decide (q1 < l.length) = true := by simp; omega
          have t2 : ((q1 : Int) == (l.length : Int)) = false := by simp; omega
          have t3 : (((l[q1]).toNat : Int) == 32) = false := by simp; omega
          have hwd : wordW (l.drop q1) = if (l[q1]).toNat = 34 then
                (if (quotW (l.drop (q1 + 1))).2.2 ≠ 0 then ([], 1 + (quotW (l.drop (q1 + 1))).2.1, (quotW (l.drop (q1 + 1))).2.2)
                 else if l.drop (q1 + (1 + (quotW (l.drop (q1 + 1))).2.1)) ≠ [] ∧ (l.drop (q1 + (1 + (quotW (l.drop (q1 + 1))).2.1))).headD 0 ≠ 32 then ([], 1 + (quotW (l.drop (q1 + 1))).2.1, 4)
                 else ((quotW (l.drop (q1 + 1))).1, 1 + (quotW (l.drop (q1 + 1))).2.1, 0))
              else ((l.drop q1).take (plainW (l.drop q1)).1, (plainW (l.drop q1)).1, if (plainW (l.drop q1)).2 then 0 else 4) := by
            unfold wordW
            simp only [hhd, hx34, List.drop_drop]
          have hpos := word_pos (l.drop q1) hend hn32
          have hwle := word_le (l.drop q1) hend
          rw [List.length_drop] at hwle
          obtain ⟨ao, cap, hu5, hcap⟩ := hf.shape
          subst hu5
          clear h1 hhd hbs hb0 hbl hdd hx32 hx34
          by_cases h50 : acc.length = 50
          · rw [if_pos h50] at hw
            have HWW := Lib.hid hw
            have t5 : ((acc.length : Int) == 50) = true := by simp; omega
            have hq1e : l.length - (l.length - q1) = q1 := by omega
            rw [hq1e] at HWW
            clear hw hq1e hwd
            generalize (l[q1]).toNat = x at *
            go_wp2_with fail
            go_ret3
            exact ⟨_, by rw [HWW.out]; rfl, by rw [HWW.out]; exact (Fresh.nil w _ _).to hf.chg⟩
          · rw [if_neg h50] at hw
            have t5 : ((acc.length : Int) == 50) = false := by simp; omega
            have h49 : acc.length ≤ 49 := by omega
            have hq1e : l.length - (l.length - q1) = q1 := by omega
            rw [hq1e, List.drop_drop] at hw
            clear hend hn32 h50 hq1e
            by_cases h34 : (l[q1]).toNat = 34
            · rw [if_pos h34] at hwd
              rw [h34] at ix
              have hqa := fun w' => rquoted_any l q1 w' hlt hl
              have hqe := quot_err _ (l.drop (q1 + 1)) (Nat.le_refl _)
              rw [List.length_drop] at hqe
              have hqv : qtV l q1 = wdV (quotW (l.drop (q1 + 1))).1 (q1 + 1 + (quotW (l.drop (q1 + 1))).2.1) (quotW (l.drop (q1 + 1))).2.2 := rfl
              rw [hqv] at hqa
              clear hqv h34 t3
              generalize quotW (l.drop (q1 + 1)) = Q at *
              obtain ⟨qt, qm, qe⟩ := Q
              simp only at hwd hqa hqe
              have e3 : q1 + (1 + qm) = q1 + 1 + qm := by omega
              rw [e3] at hwd
              obtain ⟨q2, hq2⟩ : ∃ q2, q1 + 1 + qm = q2 := ⟨_, rfl⟩
              rw [hq2] at hqa hwd
              have hq2b : (q2 : Int) ≤ 1000000000 := by omega
              have hq2l : q2 ≤ l.length := by omega
              have HQ := Lib.hid (And.intro hqk (And.intro hk1 (And.intro hqf (And.intro hGK hq2))))
              by_cases hqe0 : qe = 0
              · subst hqe0
                rw [if_neg (by simp)] at hwd
                have hqa : ∀ w', Calls Tryz.prog 35 #[.string (str l), .int .i64 q1] w' fun e w'' => e = .returned (.tuple #[.string (str qt), .int .i64 q2, .int .i64 0]) ∧ Chg [] w' w'' := hqa
                by_cases hbadw : l.drop q2 ≠ [] ∧ (l.drop q2).headD 0 ≠ 32
                · rw [if_pos hbadw] at hwd
                  rw [hwd] at hw
                  simp only at hw
                  rw [if_pos (by decide)] at hw
                  have e4 : q1 + (1 + qm) = q2 := by omega
                  rw [e4] at hw
                  have HWW := Lib.hid hw
                  have hlt2 : q2 < l.length := by
                    by_cases hlt2 : q2 < l.length
                    · exact hlt2
                    · exact absurd (List.drop_eq_nil_of_le (by omega)) hbadw.1
                  have hhd2 : (l.drop q2).headD 0 = l[q2] := by rw [List.drop_eq_getElem_cons hlt2]; rfl
                  have hx2 : (l[q2]).toNat ≠ 32 := fun e => hbadw.2 (by rw [hhd2, ← u8e _ _ e]; rfl)
                  have ix2 := fun w' => idxS w' l q2 hlt2
                  have u1 : decide ((q2 : Int) < (l.length : Int)) = true := by simp; omega
                  have u1' : decide (q2 < l.length) = true := by simp; omega
                  have u2 : (((l[q2]).toNat : Int) != 32) = true := by rw [bne_iff_ne]; omega
                  clear hw hwd hhd2 hx2 hbadw hpos hwle hqe hk1 hqk hqf hGK hq2 e3 e4
                  generalize (l[q2]).toNat = x2 at *
                  go_wp2_with fail
                  refine (hqa _).mono ?_
                  rintro e w3 ⟨rfl, c3⟩
                  clear hqa
                  go_wp2_with fail
                  go_ret3
                  exact ⟨_, by rw [HWW.out]; rfl, by rw [HWW.out]; exact (Fresh.nil w _ _).to (hf.chg.nil c3)⟩
                · rw [if_neg hbadw] at hwd
                  rw [hwd] at hw hpos
                  simp only at hw hpos
                  rw [if_neg (by simp)] at hw
                  have e4 : q1 + (1 + qm) = q2 := by omega
                  rw [e4] at hw
                  have HWW := Lib.hid hw
                  have hh : (decide ((q2 : Int) < (l.length : Int)) = false ∧ decide (q2 < l.length) = false) ∨ ∃ hlt2 : q2 < l.length, decide ((q2 : Int) < (l.length : Int)) = true ∧ decide (q2 < l.length) = true ∧ (l[q2]).toNat = 32 := by
                    by_cases hlt2 : q2 < l.length
                    · right
                      refine ⟨hlt2, by simp; omega, by simp; omega, ?_⟩
                      have hhd2 : (l.drop q2).headD 0 = l[q2] := by rw [List.drop_eq_getElem_cons hlt2]; rfl
                      rw [hhd2] at hbadw
                      by_cases h : l[q2] = 32
                      · rw [h]; rfl
                      · exact absurd ⟨drop_ne l q2 hlt2, h⟩ hbadw
                    · left; constructor <;> simp <;> omega
                  have HP := Lib.hid (show q1 + 1 ≤ q2 by omega)
                  clear hw hwd hbadw hpos hwle hqe hk1 hqk hqf hGK hq2 e3 e4
                  rcases hh with ⟨u1, u1'⟩ | ⟨hlt2, u1, u1', hx2⟩
                  · go_wp2_with fail
                    refine (hqa _).mono ?_
                    rintro e w3 ⟨rfl, c3⟩
                    have hf3 := hf.to c3
                    clear hqa
                    go_wp2_with (at_builtin; refine wpList_appF (w0 := w) rfl _ _ 43 rfl sl_str (by exact hf3.to ((Chg.refl [] w3).alloc (.cells #[.string (str qt)] 9))) rfl (Sees.row (cs := #[.string (str qt)]) (by exact Blk.new w3 _ 9) (m := 1) rfl) rfl (by simp [Value.oneCell']) (by omega) (by omega) ?_; intro v4 w4 hF4 c4)
                    go_roundg (GK - (q2 - q))
                    case measure => have := HQ.out; have := HP.out; omega
                    case rel => exact ⟨q2, f', acc ++ [qt], rfl, by have := HQ.out; have := HP.out; omega, hq2l, by have := HQ.out; have := HP.out; omega, by simp; omega, by rw [Ss_append]; simpa [Ss] using hF4, HWW.out⟩
                  · have ix2 := fun w' => idxS w' l q2 hlt2
                    rw [hx2] at ix2
                    clear hx2
                    go_wp2_with fail
                    refine (hqa _).mono ?_
                    rintro e w3 ⟨rfl, c3⟩
                    have hf3 := hf.to c3
                    clear hqa
                    go_wp2_with (at_builtin; refine wpList_appF (w0 := w) rfl _ _ 43 rfl sl_str (by exact hf3.to ((Chg.refl [] w3).alloc (.cells #[.string (str qt)] 9))) rfl (Sees.row (cs := #[.string (str qt)]) (by exact Blk.new w3 _ 9) (m := 1) rfl) rfl (by simp [Value.oneCell']) (by omega) (by omega) ?_; intro v4 w4 hF4 c4)
                    go_roundg (GK - (q2 - q))
                    case measure => have := HQ.out; have := HP.out; omega
                    case rel => exact ⟨q2, f', acc ++ [qt], rfl, by have := HQ.out; have := HP.out; omega, hq2l, by have := HQ.out; have := HP.out; omega, by simp; omega, by rw [Ss_append]; simpa [Ss] using hF4, HWW.out⟩
              · rw [if_pos hqe0] at hwd
                rw [hwd] at hw
                simp only at hw
                rw [if_pos hqe0] at hw
                have e4 : q1 + (1 + qm) = q2 := by omega
                rw [e4] at hw
                have HWW := Lib.hid hw
                have hv : wdV qt q2 qe = .tuple #[.string (str []), .int .i64 (q2 : Nat), .int .i64 (qe : Nat)] := by simp only [wdV, if_neg hqe0]
                rw [hv] at hqa
                have u1 : ((qe : Int) == 0) = false := by rw [beq_eq_false_iff_ne]; omega
                have u2 : ((qe : Int) != 0) = true := by rw [bne_iff_ne]; omega
                clear hw hwd hpos hwle hqe hk1 hqk hqf hGK hq2 e3 e4 hqe0 hv
                go_wp2_with fail
                refine (hqa _).mono ?_
                rintro e w3 ⟨rfl, c3⟩
                clear hqa
                go_wp2_with fail
                go_ret3
                exact ⟨_, by rw [HWW.out]; rfl, by rw [HWW.out]; exact (Fresh.nil w _ _).to (hf.chg.nil c3)⟩
            · rw [if_neg h34] at hwd
              have t34 : (((l[q1]).toNat : Int) == 34) = false := by rw [beq_eq_false_iff_ne]; omega
              have hpa := fun w' => rplain_any l q1 w' (by omega) hl
              have hpv : plV l q1 = wdV ((l.drop q1).take (plainW (l.drop q1)).1) (q1 + (plainW (l.drop q1)).1) (if (plainW (l.drop q1)).2 then 0 else 4) := rfl
              rw [hpv] at hpa
              have hple := plain_le _ (l.drop q1) (Nat.le_refl _)
              rw [List.length_drop] at hple
              clear hpv h34
              generalize (l[q1]).toNat = x at *
              generalize hPT : (l.drop q1).take (plainW (l.drop q1)).1 = pt at *
              clear hPT
              generalize plainW (l.drop q1) = P at *
              obtain ⟨pm, pb⟩ := P
              simp only at hwd hpa hple
              obtain ⟨q2, hq2⟩ : ∃ q2, q1 + pm = q2 := ⟨_, rfl⟩
              rw [hq2] at hpa
              have hq2b : (q2 : Int) ≤ 1000000000 := by omega
              have hq2l : q2 ≤ l.length := by omega
              rw [hwd] at hw hpos
              simp only at hw hpos
              rw [hq2] at hw
              have HQ := Lib.hid (And.intro hqk (And.intro hk1 (And.intro hqf (And.intro hGK hq2))))
              cases pb with
              | true =>
                have hpz : ∀ w', Calls Tryz.prog 36 #[.string (str l), .int .i64 q1] w' fun e w'' => e = .returned (.tuple #[.string (str pt), .int .i64 q2, .int .i64 0]) ∧ w'' = w' := hpa
                have hp1 := hpos rfl
                rw [if_neg (by simp)] at hw
                have HWW := Lib.hid hw
                have HP := Lib.hid (show q1 + 1 ≤ q2 by omega)
                clear hw hwd hpos hwle hk1 hqk hqf hGK hq2 hp1 hple hpa
                go_wp2_with fail
                refine (hpz _).mono ?_
                rintro e w3 ⟨rfl, rfl⟩
                clear hpz
                go_wp2_with (at_builtin; refine wpList_appF (w0 := w) rfl _ _ 43 rfl sl_str (by exact hf.to ((Chg.refl [] w3).alloc (.cells #[.string (str pt)] 9))) rfl (Sees.row (cs := #[.string (str pt)]) (by exact Blk.new w3 _ 9) (m := 1) rfl) rfl (by simp [Value.oneCell']) (by omega) (by omega) ?_; intro v4 w4 hF4 c4)
                go_roundg (GK - (q2 - q))
                case measure => have := HQ.out; have := HP.out; omega
                case rel => exact ⟨q2, f', acc ++ [pt], rfl, by have := HQ.out; have := HP.out; omega, hq2l, by have := HQ.out; have := HP.out; omega, by simp; omega, by rw [Ss_append]; simpa [Ss] using hF4, HWW.out⟩
              | false =>
                have hpz : ∀ w', Calls Tryz.prog 36 #[.string (str l), .int .i64 q1] w' fun e w'' => e = .returned (.tuple #[.string (str []), .int .i64 q2, .int .i64 4]) ∧ w'' = w' := hpa
                rw [if_pos (by simp)] at hw
                have HWW := Lib.hid hw
                clear hw hwd hpos hwle hk1 hqk hqf hGK hq2 hple hpa
                go_wp2_with fail
                refine (hpz _).mono ?_
                rintro e w3 ⟨rfl, rfl⟩
                clear hpz
                go_wp2_with fail
                go_ret3
                exact ⟨_, by rw [HWW.out]; rfl, by rw [HWW.out]; exact (Fresh.nil w _ _).to hf.chg⟩
end Go.Proofs.YtgbbjbldlfpbcaaGreatDoor

