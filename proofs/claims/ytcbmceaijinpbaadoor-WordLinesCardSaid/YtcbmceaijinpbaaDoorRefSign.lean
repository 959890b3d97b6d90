/- The document's way to read a sign is the plain one. No statement of the seat is proved here. -/
import Derived.Test.YtcbmceaijinpbaaDoorWordLaws
namespace Go.Aq.Wd
def contF : Nat → Nat → List UInt8 → Option Nat
  | 0, c, _ => some c
  | _ + 1, _, [] => none
  | k + 1, c, b :: t => if b.toNat / 64 = 2 then contF k (c * 64 + b.toNat % 64) t else none
def finS (n lo : Nat) (o : Option Nat) : Option (Nat × Nat) := match o with
  | none => none
  | some c => if c < lo ∨ 1114111 < c ∨ (55296 ≤ c ∧ c ≤ 57343) then none else some (c, n + 1)
def refSign (r : List UInt8) : Option (Nat × Nat) := match r with
  | [] => none
  | x :: t => if x.toNat < 128 then some (x.toNat, 1) else if 192 ≤ x.toNat ∧ x.toNat ≤ 223 then finS 1 128 (contF 1 (x.toNat % 32) t) else if 224 ≤ x.toNat ∧ x.toNat ≤ 239 then finS 2 2048 (contF 2 (x.toNat % 16) t)
    else if 240 ≤ x.toNat ∧ x.toNat ≤ 247 then finS 3 65536 (contF 3 (x.toNat % 8) t) else none
def goodO (d : Nat × Nat) : Option (Nat × Nat) := if bad d then none else some d
theorem goodO_bad : goodO (65533, 1) = none := rfl
theorem goodO_ok (c n : Nat) (h : ¬ (c = 65533 ∧ n = 1)) : goodO (c, n) = some (c, n) := by unfold goodO; rw [not_bad c n h]; rfl
theorem finS_none (n lo : Nat) : finS n lo none = none := rfl
theorem refSign_eq (r : List UInt8) (h : r ≠ []) : refSign r = goodO (dec r) := by
  obtain ⟨x, t, rfl⟩ : ∃ x t, r = x :: t := by cases r; (exact absurd rfl h); exact ⟨_, _, rfl⟩
  have b0 := x.toNat_lt
  unfold refSign dec
  simp only [List.getD_cons_zero, List.getD_cons_succ, List.length_cons]
  unfold Lib.decodeN
  by_cases h1 : x.toNat < 128
  · simp only [if_pos h1]
    rw [goodO_ok _ _ (by omega)]
  · simp only [if_neg h1]
    by_cases h2 : 192 ≤ x.toNat ∧ x.toNat ≤ 223
    · rw [if_pos h2]
      cases t with
      | nil =>
        rw [if_neg (by simp), if_neg (by simp), if_neg (by simp)]
        simp [contF, finS, goodO_bad]
      | cons y t =>
        have b1 := y.toNat_lt
        simp only [List.getD_cons_zero, List.length_cons, contF]
        by_cases hy : y.toNat / 64 = 2
        · rw [if_pos hy, if_pos (by omega)]
          simp only [finS, ge_iff_le]
          by_cases hc : 128 ≤ x.toNat % 32 * 64 + y.toNat % 64
          · rw [if_pos hc, if_neg (by omega), goodO_ok _ _ (by omega)]
          · rw [if_neg hc, if_pos (by omega), goodO_bad]
        · rw [if_neg hy, if_neg (by omega), if_neg (by omega), if_neg (by omega)]
          simp [finS, goodO_bad]
    · rw [if_neg h2]
      by_cases h3 : 224 ≤ x.toNat ∧ x.toNat ≤ 239
      · rw [if_pos h3, if_neg (by omega)]
        match t with
        | [] =>
          rw [if_neg (by simp), if_neg (by simp)]
          simp [contF, finS, goodO_bad]
        | [y] =>
          rw [if_neg (by simp), if_neg (by simp)]
          by_cases hy : y.toNat / 64 = 2 <;> simp [contF, finS, goodO_bad, hy]
        | y :: z :: t =>
          have b1 := y.toNat_lt
          have b2 := z.toNat_lt
          simp only [List.getD_cons_zero, List.getD_cons_succ, List.length_cons, contF]
          by_cases hy : y.toNat / 64 = 2
          · rw [if_pos hy]
            by_cases hz : z.toNat / 64 = 2
            · rw [if_pos hz, if_pos (by omega)]
              simp only [finS, ge_iff_le]
              have e : (x.toNat % 16 * 64 + y.toNat % 64) * 64 + z.toNat % 64 = x.toNat % 16 * 4096 + y.toNat % 64 * 64 + z.toNat % 64 := by omega
              rw [e]
              split
              · rename_i hc
                rw [if_neg (by omega), goodO_bad]
              · rename_i hc
                rw [if_pos (by omega), goodO_ok _ _ (by omega)]
            · rw [if_neg hz, if_neg (by omega), if_neg (by omega)]
              simp [finS, goodO_bad]
          · rw [if_neg hy, if_neg (by omega), if_neg (by omega)]
            simp [finS, goodO_bad]
      · rw [if_neg h3]
        by_cases h4 : 240 ≤ x.toNat ∧ x.toNat ≤ 247
        · rw [if_pos h4, if_neg (by omega), if_neg (by omega)]
          match t with
          | [] =>
            rw [if_neg (by simp)]
            simp [contF, finS, goodO_bad]
          | [y] =>
            rw [if_neg (by simp)]
            by_cases hy : y.toNat / 64 = 2 <;> simp [contF, finS, goodO_bad, hy]
          | [y, z] =>
            rw [if_neg (by simp)]
            by_cases hy : y.toNat / 64 = 2 <;> by_cases hz : z.toNat / 64 = 2 <;> simp [contF, finS, goodO_bad, hy, hz]
          | y :: z :: u :: t =>
            have b1 := y.toNat_lt
            have b2 := z.toNat_lt
            have b3 := u.toNat_lt
            simp only [List.getD_cons_zero, List.getD_cons_succ, List.length_cons, contF]
            by_cases hy : y.toNat / 64 = 2
            · rw [if_pos hy]
              by_cases hz : z.toNat / 64 = 2
              · rw [if_pos hz]
                by_cases hu : u.toNat / 64 = 2
                · rw [if_pos hu, if_pos (by omega)]
                  simp only [finS, ge_iff_le]
                  have e : ((x.toNat % 8 * 64 + y.toNat % 64) * 64 + z.toNat % 64) * 64 + u.toNat % 64 = x.toNat % 8 * 262144 + y.toNat % 64 * 4096 + z.toNat % 64 * 64 + u.toNat % 64 := by omega
                  rw [e]
                  split
                  · rename_i hc
                    rw [if_neg (by omega), goodO_bad]
                  · rename_i hc
                    rw [if_pos (by omega), goodO_ok _ _ (by omega)]
                · rw [if_neg hu, if_neg (by omega)]
                  simp [finS, goodO_bad]
              · rw [if_neg hz, if_neg (by omega)]
                simp [finS, goodO_bad]
            · rw [if_neg hy, if_neg (by omega)]
              simp [finS, goodO_bad]
        · rw [if_neg h4, if_neg (by omega), if_neg (by omega), if_neg (by omega)]
          rw [goodO_bad]
end Go.Aq.Wd
