/- Bytes in which no three stand twice are all told as they are. In plain Lean. -/
import Derived.Test.YtoacegccpajkoaaRunsPlain
namespace Go.Aq

/-- Did three bytes at one of the first places stand ahead already? -/
def twF (b : List UInt8) : Nat → Bool
  | 0 => false
  | j + 1 => twF b j || (match at3 b j with | some key => prevOcc b key j != 0 | none => false)
theorem twF_succ (b : List UInt8) (j : Nat) (key : UInt8 × UInt8 × UInt8) (h : at3 b j = some key) : twF b (j + 1) = (twF b j || (prevOcc b key j != 0)) := by
  show (twF b j || (match at3 b j with | some key => prevOcc b key j != 0 | none => false)) = _
  rw [h]
theorem prevOcc_of (b : List UInt8) (key : UInt8 × UInt8 × UInt8) (i : Nat) (h : at3 b i = some key) : ∀ k, i < k → prevOcc b key k ≠ 0
  | 0, hk => by omega
  | k + 1, hk => by
    rw [prevOcc_succ]
    split
    · omega
    · rename_i hne
      refine prevOcc_of b key i h k ?_
      rcases Nat.lt_or_ge i k with h' | h'
      · exact h'
      · obtain rfl : i = k := by omega
        exact absurd h hne
theorem twF_of (b : List UInt8) (k : Nat) (key : UInt8 × UInt8 × UInt8) (h : at3 b k = some key) (hp : prevOcc b key k ≠ 0) : ∀ j, k < j → twF b j = true
  | 0, hj => by omega
  | j + 1, hj => by
    show (twF b j || _) = true
    rcases Nat.lt_or_ge k j with h' | h'
    · rw [twF_of b k key h hp j h']; rfl
    · obtain rfl : k = j := by omega
      rw [h]
      simp [hp]
theorem twF_some (b : List UInt8) : ∀ j, twF b j = true → ∃ i k, i < k ∧ k < j ∧ k + 3 ≤ b.length ∧ at3 b i = at3 b k
  | 0, h => by cases h
  | j + 1, h => by
    have h' : twF b j = true ∨ (match at3 b j with | some key => prevOcc b key j != 0 | none => false) = true := by
      have : (twF b j || (match at3 b j with | some key => prevOcc b key j != 0 | none => false)) = true := h
      simpa using this
    rcases h' with h' | h'
    · obtain ⟨i, k, h1, h2, h3⟩ := twF_some b j h'
      exact ⟨i, k, h1, by omega, h3⟩
    · cases ha : at3 b j with
      | none => rw [ha] at h'; cases h'
      | some key =>
        rw [ha] at h'
        simp only [bne_iff_ne, ne_eq] at h'
        have h1 := prevOcc_at b key j h'
        have h2 := prevOcc_le b key j
        refine ⟨prevOcc b key j - 1, j, by omega, by omega, ?_, by rw [h1, ha]⟩
        unfold at3 at ha
        split at ha
        · assumption
        · cases ha
theorem scan_mono (b : List UInt8) (k : Nat) : ∀ i s r, r.1 ≤ (scan b k i s r).1
  | 0, s, r => Nat.le_refl _
  | i + 1, s, r => by
    rw [scan_succ]
    split
    · exact Nat.le_refl _
    · split
      · refine Nat.le_trans ?_ (scan_mono b k i (s - 1) (upd b k r i))
        unfold upd
        split
        · rename_i h; exact Nat.le_of_lt h
        · exact Nat.le_refl _
      · exact scan_mono b k i s r
theorem scan_hit (b : List UInt8) (k i' : Nat) (ht : three b i' k) (hd : k - i' ≤ 32768) : ∀ i s r, i' < i → 0 < s → 3 ≤ (scan b k i s r).1
  | 0, s, r, h, _ => by omega
  | i + 1, s, r, h, hs => by
    rw [scan_succ, if_neg (by omega)]
    split
    · rename_i h3
      refine Nat.le_trans ?_ (scan_mono b k i (s - 1) (upd b k r i))
      have := comm_three_ge b i k h3.1 h3.2
      unfold upd
      split
      · exact this
      · omega
    · rename_i h3
      refine scan_hit b k i' ht hd i s r ?_ hs
      rcases Nat.lt_or_ge i' i with h' | h'
      · exact h'
      · obtain rfl : i' = i := by omega
        exact absurd ht h3
theorem tokF_zero (b : List UInt8) : ∀ f k, (∀ t ∈ tokF b f k, t.len ≤ 0) → ∀ k', k ≤ k' → k' < b.length → k' < k + f → (matchAt b k').1 = 0
  | 0, k, _, k', h1, h2, h3 => by omega
  | f + 1, k, h, k', h1, h2, h3 => by
    unfold tokF at h
    rw [if_pos (by omega)] at h
    by_cases hm : (matchAt b k).1 = 0
    · rw [if_pos hm] at h
      rcases Nat.lt_or_ge k k' with h' | h'
      · exact tokF_zero b f (k + 1) (fun t ht => h t (List.mem_cons_of_mem _ ht)) k' h' h2 (by omega)
      · obtain rfl : k = k' := by omega
        exact hm
    · rw [if_neg hm] at h
      have := h _ (List.mem_cons_self)
      simp only at this
      omega
theorem tokF_plain (b : List UInt8) (h : ∀ k, k < b.length → (matchAt b k).1 = 0) : ∀ f k, (tokF b f k).length = min f (b.length - k) ∧ ∀ t ∈ tokF b f k, t.len = 0
  | 0, k => ⟨by show 0 = _; omega, by intro t ht; cases ht⟩
  | f + 1, k => by
    unfold tokF
    by_cases hk : k < b.length
    · rw [if_pos hk, if_pos (h k hk)]
      obtain ⟨h1, h2⟩ := tokF_plain b h f (k + 1)
      refine ⟨by rw [List.length_cons, h1]; omega, fun t ht => ?_⟩
      rcases List.mem_cons.1 ht with rfl | ht
      · rfl
      · exact h2 t ht
    · rw [if_neg hk]
      exact ⟨by simp; omega, by intro t ht; cases ht⟩
theorem plain_law (b : List UInt8) (hb : b.length ≤ 32768) : ((toks b).any fun t => decide (0 < t.len)) = twF b (b.length - 2) ∧ (twF b (b.length - 2) = false → (toks b).length = b.length) := by
  by_cases h : ∀ k, k < b.length → (matchAt b k).1 = 0
  · obtain ⟨h1, h2⟩ := tokF_plain b h b.length 0
    have ht : twF b (b.length - 2) = false := by
      cases hc : twF b (b.length - 2) with
      | false => rfl
      | true =>
        obtain ⟨i, k, a1, a2, a3, a4⟩ := twF_some b _ hc
        have := scan_hit b k i ⟨a3, a4⟩ (by omega) k 64 (0, 0) a1 (by omega)
        have h0 := h k (by omega)
        unfold matchAt at h0
        omega
    refine ⟨?_, fun _ => by unfold toks; rw [h1]; omega⟩
    rw [ht]
    rw [List.any_eq_false]
    intro t htm
    have := h2 t htm
    simp [this]
  · have h' : ∃ k, k < b.length ∧ (matchAt b k).1 ≠ 0 := by
      apply Classical.byContradiction
      intro hn
      exact h fun k hk => Classical.byContradiction fun h0 => hn ⟨k, hk, h0⟩
    obtain ⟨k, hk, hm⟩ := h'
    have ht : twF b (b.length - 2) = true := by
      rcases matchAt_ok b k (by omega) with h0 | ⟨a1, a2, a3, a4, a5, a6, a7⟩
      · rw [h0] at hm; exact absurd rfl hm
      · generalize (matchAt b k).2 = d at *
        have e1 : at3 b (k - d) = some (b.getD k 0, b.getD (k + 1) 0, b.getD (k + 2) 0) := by
          unfold at3
          have q0 : b.getD (k - d) 0 = b.getD k 0 := a7 0 (by omega)
          rw [if_pos (by omega), q0, a7 1 (by omega), a7 2 (by omega)]
        have e2 : at3 b k = some (b.getD k 0, b.getD (k + 1) 0, b.getD (k + 2) 0) := by unfold at3; rw [if_pos (by omega)]
        exact twF_of b k _ e2 (prevOcc_of b _ (k - d) e1 k (by omega)) _ (by omega)
    refine ⟨?_, fun hf => by rw [ht] at hf; cases hf⟩
    rw [ht]
    cases hc : (toks b).any fun t => decide (0 < t.len) with
    | true => rfl
    | false =>
      rw [List.any_eq_false] at hc
      have := tokF_zero b b.length 0 (fun t htm => by have := hc t htm; simp at this; exact this) k (by omega) hk (by omega)
      exact absurd this hm
end Go.Aq
