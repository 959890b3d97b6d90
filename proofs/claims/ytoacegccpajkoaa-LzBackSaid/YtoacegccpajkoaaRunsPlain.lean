/- One byte again and again: its tokens. In plain Lean. -/
import Derived.Test.YtoacegccpajkoaaLzPlain
namespace Go.Aq

theorem rep_getD (n : Nat) (c : UInt8) (i : Nat) (h : i < n) : (List.replicate n c).getD i 0 = c := by simp [List.getD, h]
theorem commF_rep (n : Nat) (c : UInt8) (i k : Nat) (hik : i ≤ k) : ∀ f j, k + j ≤ n → commF (List.replicate n c) i k f j = min (j + f) (n - k)
  | 0, j, h => by show j = _; omega
  | f + 1, j, h => by
    show (if k + j < (List.replicate n c).length ∧ (List.replicate n c).getD (i + j) 0 = (List.replicate n c).getD (k + j) 0 then _ else j) = _
    rw [List.length_replicate]
    by_cases hj : k + j < n
    · rw [if_pos ⟨hj, by rw [rep_getD n c _ (by omega), rep_getD n c _ (by omega)]⟩, commF_rep n c i k hik f (j + 1) (by omega)]
      omega
    · rw [if_neg (fun h => hj h.1)]
      omega
theorem comm_rep (n : Nat) (c : UInt8) (i k : Nat) (hik : i ≤ k) (h : k ≤ n) : comm (List.replicate n c) i k = min 258 (n - k) := by
  unfold comm
  rw [commF_rep n c i k hik 258 0 (by omega)]
theorem scan_rep (n : Nat) (c : UInt8) (k : Nat) (hk : k ≤ n) (r : Nat × Nat) (hr : min 258 (n - k) ≤ r.1) : ∀ i s, i ≤ k → scan (List.replicate n c) k i s r = r
  | 0, s, _ => rfl
  | i + 1, s, h => by
    rw [scan_succ]
    split
    · rfl
    · split
      · have : upd (List.replicate n c) k r i = r := by
          unfold upd
          rw [comm_rep n c i k (by omega) hk, if_neg (by omega)]
        rw [this]
        exact scan_rep n c k hk r hr i (s - 1) (by omega)
      · exact scan_rep n c k hk r hr i s (by omega)
theorem match_rep (n : Nat) (c : UInt8) (k : Nat) (h1 : 1 ≤ k) (h2 : k + 3 ≤ n) : matchAt (List.replicate n c) k = (min 258 (n - k), 1) := by
  obtain ⟨i, rfl⟩ : ∃ i, k = i + 1 := ⟨k - 1, by omega⟩
  unfold matchAt
  rw [scan_succ, if_neg (by omega)]
  have ht : three (List.replicate n c) i (i + 1) := by
    refine ⟨by simpa using h2, ?_⟩
    unfold at3
    simp only [List.length_replicate]
    rw [if_pos (by omega), if_pos (by omega)]
    repeat rw [rep_getD n c _ (by omega)]
  rw [if_pos ht]
  have hu : upd (List.replicate n c) (i + 1) (0, 0) i = (min 258 (n - (i + 1)), 1) := by
    unfold upd
    rw [comm_rep n c i (i + 1) (by omega) (by omega), if_pos (by simp; omega)]
    rw [show i + 1 - i = 1 by omega]
  rw [hu, scan_rep n c (i + 1) (by omega) _ (Nat.le_refl _) i _ (by omega)]
theorem match_rep0 (n : Nat) (c : UInt8) (k : Nat) (h : k = 0 ∨ n < k + 3) : matchAt (List.replicate n c) k = (0, 0) := by
  rcases h with rfl | h
  · rfl
  · exact scan_none _ k (by simpa using h) k 64 (0, 0)

theorem tokF_nil {b : List UInt8} {f k : Nat} (h : tokF b f k = []) (hf : b.length ≤ k + f) : b.length ≤ k := by
  cases f with
  | zero => omega
  | succ f =>
    unfold tokF at h
    split at h
    · split at h <;> cases h
    · omega
theorem tokF_length (b : List UInt8) : ∀ f k, (tokF b f k).length ≤ f
  | 0, _ => Nat.le_refl _
  | f + 1, k => by
    unfold tokF
    split
    · split
      · have := tokF_length b f (k + 1); simp; omega
      · have := tokF_length b f (k + (matchAt b k).1); simp; omega
    · simp
/-- One more token: the one at this place. -/
theorem tokF_step {b : List UInt8} {f k : Nat} {l : List TokD} {i : Nat} (hd : l.drop i = tokF b f k) (hi : i < l.length) :
    ∃ f', f = f' + 1 ∧ k < b.length ∧ ((matchAt b k).1 = 0 ∧ l[i] = ⟨0, 0, (b.getD k 0).toNat⟩ ∧ l.drop (i + 1) = tokF b f' (k + 1) ∨
      (matchAt b k).1 ≠ 0 ∧ l[i] = ⟨(matchAt b k).1, (matchAt b k).2, 0⟩ ∧ l.drop (i + 1) = tokF b f' (k + (matchAt b k).1)) := by
  rw [List.drop_eq_getElem_cons hi] at hd
  cases f with
  | zero => cases hd
  | succ f =>
    refine ⟨f, rfl, ?_⟩
    unfold tokF at hd
    split at hd
    · rename_i hk
      refine ⟨hk, ?_⟩
      split at hd
      · rename_i h0
        left
        injection hd with h1 h2
        exact ⟨h0, h1, h2⟩
      · rename_i h0
        right
        injection hd with h1 h2
        exact ⟨h0, h1, h2⟩
    · cases hd
end Go.Aq
