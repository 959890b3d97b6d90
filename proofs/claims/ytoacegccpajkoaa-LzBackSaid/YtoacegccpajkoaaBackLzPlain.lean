/- Tokens that were found make the bytes again. In plain Lean. -/
import Derived.Test.YtoacegccpajkoaaExpPlain
namespace Go.Aq
theorem take_one (b : List UInt8) (k : Nat) (h : k < b.length) : b.take k ++ [b.getD k 0] = b.take (k + 1) := by
  rw [List.take_succ_eq_append_getElem h]
  simp [List.getD, h]
theorem copyN_take (b : List UInt8) (D : Nat) (hD : 1 ≤ D) : ∀ n k, D ≤ k → k + n ≤ b.length → (∀ j, j < n → b.getD (k - D + j) 0 = b.getD (k + j) 0) → copyN D n (b.take k) = b.take (k + n)
  | 0, k, _, _, _ => rfl
  | n + 1, k, h1, h2, h3 => by
    show copyN D n (b.take k ++ [(b.take k).getD ((b.take k).length - D) 0]) = _
    have hl : (b.take k).length = k := by simp; omega
    have e : (b.take k).getD ((b.take k).length - D) 0 = b.getD k 0 := by
      rw [hl]
      have := h3 0 (by omega)
      simp only [Nat.add_zero] at this
      rw [← this]
      simp only [List.getD_eq_getElem?_getD]
      rw [List.getElem?_take_of_lt (by omega)]
    rw [e, take_one b k (by omega), copyN_take b D hD n (k + 1) (by omega) (by omega) (fun j hj => by
      have := h3 (j + 1) (by omega)
      rw [show k + 1 - D + j = k - D + (j + 1) by omega, show k + 1 + j = k + (j + 1) by omega]
      exact this)]
    rw [show k + 1 + n = k + (n + 1) by omega]
theorem expand_tokF (b : List UInt8) (hb : b.length ≤ 40000) : ∀ f k, k ≤ b.length → b.length ≤ k + f → expandL (tokF b f k) (b.take k) = .ok b
  | 0, k, _, h => by
    show Except.ok (b.take k) = _
    rw [List.take_of_length_le (by omega)]
  | f + 1, k, hk, h => by
    unfold tokF
    by_cases hlt : k < b.length
    · rw [if_pos hlt]
      have hl : (b.take k).length = k := by simp; omega
      by_cases hm : (matchAt b k).1 = 0
      · rw [if_pos hm]
        have hw : wrongT ⟨0, 0, (b.getD k 0).toNat⟩ = false := by
          unfold wrongT
          generalize b.getD k 0 = y
          have := y.toNat_lt
          simp only [if_true]
          simp
          omega
        rw [expandL_ok (step_lit hw (by rw [hl]; simp) (by rw [hl]; simp only; omega) rfl)]
        have e : UInt8.ofNat (((b.getD k 0).toNat : Nat) : Int).toNat = b.getD k 0 := by simp
        simp only
        rw [e, take_one b k hlt]
        exact expand_tokF b hb f (k + 1) (by omega) (by omega)
      · rw [if_neg hm]
        rcases matchAt_ok b k hk with h0 | ⟨a1, a2, a3, a4, a5, a6, a7⟩
        · rw [h0] at hm; exact absurd rfl hm
        · generalize (matchAt b k).1 = M at *
          generalize (matchAt b k).2 = D at *
          have hw : wrongT ⟨M, D, 0⟩ = false := by
            unfold wrongT
            rw [if_neg (by simp only; omega)]
            simp
            omega
          rw [expandL_ok (step_copy hw (by rw [hl]; simp only; omega) (by rw [hl]; simp only; omega) (by simp only; omega))]
          simp only [Int.toNat_natCast]
          rw [copyN_take b D a4 M k a5 a3 a7]
          exact expand_tokF b hb f (k + M) a3 (by omega)
    · rw [if_neg hlt]
      show Except.ok (b.take k) = _
      rw [List.take_of_length_le (by omega)]
theorem expand_toks (b : List UInt8) (hb : b.length ≤ 40000) : expandL (toks b) [] = .ok b := by
  have := expand_tokF b hb b.length 0 (by omega) (by omega)
  unfold toks
  simpa using this
end Go.Aq
