/- What Find computes, in plain terms: matches, chains of places, tokens. No program in sight; no statement of the seat is proved here. -/
namespace Go.Aq

/-- The three bytes at a place. -/
def at3 (b : List UInt8) (i : Nat) : Option (UInt8 × UInt8 × UInt8) := if i + 3 ≤ b.length then some (b.getD i 0, b.getD (i + 1) 0, b.getD (i + 2) 0) else none
/-- How many bytes from two places on are the same, fuel more at most. -/
def commF (b : List UInt8) (i k : Nat) : Nat → Nat → Nat
  | 0, n => n
  | f + 1, n => if k + n < b.length ∧ b.getD (i + n) 0 = b.getD (k + n) 0 then commF b i k f (n + 1) else n
def comm (b : List UInt8) (i k : Nat) : Nat := commF b i k 258 0
theorem commF_ge (b : List UInt8) (i k : Nat) : ∀ f n, n ≤ commF b i k f n
  | 0, n => Nat.le_refl _
  | f + 1, n => by
    unfold commF
    split
    · have := commF_ge b i k f (n + 1); omega
    · omega
theorem commF_le (b : List UInt8) (i k : Nat) : ∀ f n, commF b i k f n ≤ n + f
  | 0, n => Nat.le_refl _
  | f + 1, n => by
    unfold commF
    split
    · have := commF_le b i k f (n + 1); omega
    · omega
theorem commF_end (b : List UInt8) (i k : Nat) : ∀ f n, k + n ≤ b.length → k + commF b i k f n ≤ b.length
  | 0, n, h => h
  | f + 1, n, h => by
    unfold commF
    split
    · rename_i hc; exact commF_end b i k f (n + 1) (by omega)
    · exact h
theorem commF_same (b : List UInt8) (i k : Nat) : ∀ f n j, n ≤ j → j < commF b i k f n → b.getD (i + j) 0 = b.getD (k + j) 0
  | 0, n, j, h1, h2 => by unfold commF at h2; omega
  | f + 1, n, j, h1, h2 => by
    unfold commF at h2
    split at h2
    · rename_i hc
      by_cases hj : j = n
      · subst hj; exact hc.2
      · exact commF_same b i k f (n + 1) j (by omega) h2
    · omega
theorem comm_le (b : List UInt8) (i k : Nat) : comm b i k ≤ 258 := by have := commF_le b i k 258 0; unfold comm; omega
theorem comm_end (b : List UInt8) (i k : Nat) (h : k ≤ b.length) : k + comm b i k ≤ b.length := commF_end b i k 258 0 (by omega)
theorem comm_same (b : List UInt8) (i k j : Nat) (h : j < comm b i k) : b.getD (i + j) 0 = b.getD (k + j) 0 := commF_same b i k 258 0 j (Nat.zero_le _) h
/-- Where the three bytes stand at both places the count goes on from three. -/
theorem comm_three (b : List UInt8) (i k : Nat) (hk : k + 3 ≤ b.length) (h : at3 b i = at3 b k) : comm b i k = commF b i k 255 3 := by
  unfold at3 at h
  rw [if_pos hk] at h
  split at h
  · simp only [Option.some.injEq, Prod.mk.injEq] at h
    obtain ⟨h0, h1, h2⟩ := h
    unfold comm
    rw [commF, if_pos ⟨by omega, by simpa using h0⟩, commF, if_pos ⟨by omega, by simpa using h1⟩, commF, if_pos ⟨by omega, by simpa using h2⟩]
  · simp at h
theorem comm_three_ge (b : List UInt8) (i k : Nat) (hk : k + 3 ≤ b.length) (h : at3 b i = at3 b k) : 3 ≤ comm b i k := by
  rw [comm_three b i k hk h]; exact commF_ge b i k 255 3

/-- The best of two. -/
def upd (b : List UInt8) (k : Nat) (r : Nat × Nat) (i : Nat) : Nat × Nat := if r.1 < comm b i k then (comm b i k, k - i) else r
/-- Do the same three bytes stand at both places? -/
def three (b : List UInt8) (i k : Nat) : Prop := k + 3 ≤ b.length ∧ at3 b i = at3 b k
instance (b : List UInt8) (i k : Nat) : Decidable (three b i k) := by unfold three; infer_instance
/-- The places below i, from above, s of them that fit at most. -/
def scan (b : List UInt8) (k : Nat) : Nat → Nat → Nat × Nat → Nat × Nat
  | 0, _, r => r
  | i + 1, s, r => if 32768 < k - i ∨ s = 0 then r else if three b i k then scan b k i (s - 1) (upd b k r i) else scan b k i s r
/-- The match at a place. -/
def matchAt (b : List UInt8) (k : Nat) : Nat × Nat := scan b k k 64 (0, 0)
theorem scan_none (b : List UInt8) (k : Nat) (h : b.length < k + 3) : ∀ i s r, scan b k i s r = r
  | 0, s, r => rfl
  | i + 1, s, r => by
    unfold scan
    split
    · rfl
    · rw [if_neg (by unfold three; omega)]
      exact scan_none b k h i s r
theorem scan_zero (b : List UInt8) (k : Nat) : ∀ i r, scan b k i 0 r = r
  | 0, r => rfl
  | i + 1, r => by unfold scan; rw [if_pos (by simp)]
/-- The last place below i at which the three bytes stand, and 1. -/
def prevOcc (b : List UInt8) (key : UInt8 × UInt8 × UInt8) : Nat → Nat
  | 0 => 0
  | i + 1 => if at3 b i = some key then i + 1 else prevOcc b key i
theorem prevOcc_le (b : List UInt8) (key : UInt8 × UInt8 × UInt8) : ∀ i, prevOcc b key i ≤ i
  | 0 => Nat.le_refl _
  | i + 1 => by
    unfold prevOcc
    split
    · omega
    · have := prevOcc_le b key i; omega
theorem prevOcc_at (b : List UInt8) (key : UInt8 × UInt8 × UInt8) : ∀ i, prevOcc b key i ≠ 0 → at3 b (prevOcc b key i - 1) = some key
  | 0, h => by simp [prevOcc] at h
  | i + 1, h => by
    unfold prevOcc at h ⊢
    split
    · rename_i hc; simpa using hc
    · rename_i hc; rw [if_neg hc] at h; exact prevOcc_at b key i h
theorem scan_succ (b : List UInt8) (k i s : Nat) (r : Nat × Nat) : scan b k (i + 1) s r = if 32768 < k - i ∨ s = 0 then r else if three b i k then scan b k i (s - 1) (upd b k r i) else scan b k i s r := rfl
theorem prevOcc_succ (b : List UInt8) (key : UInt8 × UInt8 × UInt8) (i : Nat) : prevOcc b key (i + 1) = if at3 b i = some key then i + 1 else prevOcc b key i := rfl
/-- One step along the chain. -/
theorem scan_chain (b : List UInt8) (k : Nat) (key : UInt8 × UInt8 × UInt8) (hk : k + 3 ≤ b.length) (hkey : at3 b k = some key) : ∀ i s r, i ≤ k →
    scan b k i s r = if prevOcc b key i = 0 ∨ 32768 < k - (prevOcc b key i - 1) ∨ s = 0 then r else scan b k (prevOcc b key i - 1) (s - 1) (upd b k r (prevOcc b key i - 1))
  | 0, s, r, _ => by simp [scan, prevOcc]
  | i + 1, s, r, hi => by
    rw [scan_succ, prevOcc_succ]
    by_cases h3 : at3 b i = some key
    · rw [if_pos h3]
      have ht : three b i k := ⟨hk, by rw [h3, hkey]⟩
      rw [if_pos ht]
      simp only [Nat.add_sub_cancel, Nat.add_eq_zero_iff, Nat.one_ne_zero, and_false, false_or]
    · rw [if_neg h3]
      have ht : ¬ three b i k := fun h => h3 (by rw [h.2, hkey])
      rw [if_neg ht]
      have hle := prevOcc_le b key i
      have ih := scan_chain b k key hk hkey i s r (by omega)
      by_cases hfar : 32768 < k - i
      · rw [if_pos (.inl hfar), if_pos]
        by_cases h0 : prevOcc b key i = 0
        · exact .inl h0
        · right; left; omega
      · by_cases hs : s = 0
        · rw [if_pos (.inr hs), if_pos (.inr (.inr hs))]
        · rw [if_neg (by omega)]
          exact ih

/-- A match's facts. -/
def MatchOk (b : List UInt8) (k : Nat) (r : Nat × Nat) : Prop :=
  r = (0, 0) ∨ (3 ≤ r.1 ∧ r.1 ≤ 258 ∧ k + r.1 ≤ b.length ∧ 1 ≤ r.2 ∧ r.2 ≤ k ∧ r.2 ≤ 32768 ∧ ∀ j, j < r.1 → b.getD (k - r.2 + j) 0 = b.getD (k + j) 0)
theorem scan_ok (b : List UInt8) (k : Nat) (hk : k ≤ b.length) : ∀ i s r, i ≤ k → MatchOk b k r → MatchOk b k (scan b k i s r)
  | 0, s, r, _, h => h
  | i + 1, s, r, hi, h => by
    unfold scan
    split
    · exact h
    · rename_i hc
      split
      · rename_i ht
        refine scan_ok b k hk i (s - 1) _ (by omega) ?_
        unfold upd
        split
        · right
          have h3 := comm_three_ge b i k ht.1 ht.2
          refine ⟨h3, comm_le b i k, comm_end b i k hk, by simp; omega, by simp, by simp; omega, fun j hj => ?_⟩
          have := comm_same b i k j hj
          simp only
          rw [show k - (k - i) + j = i + j by omega]
          exact this
        · exact h
      · exact scan_ok b k hk i s r (by omega) h
theorem matchAt_ok (b : List UInt8) (k : Nat) (hk : k ≤ b.length) : MatchOk b k (matchAt b k) := scan_ok b k hk k 64 (0, 0) (Nat.le_refl _) (.inl rfl)

structure TokD where
  len : Int
  dist : Int
  byte : Int
/-- The tokens from a place on. -/
def tokF (b : List UInt8) : Nat → Nat → List TokD
  | 0, _ => []
  | f + 1, k => if k < b.length then
      (if (matchAt b k).1 = 0 then ⟨0, 0, (b.getD k 0).toNat⟩ :: tokF b f (k + 1) else ⟨(matchAt b k).1, (matchAt b k).2, 0⟩ :: tokF b f (k + (matchAt b k).1)) else []
def toks (b : List UInt8) : List TokD := tokF b b.length 0
end Go.Aq
