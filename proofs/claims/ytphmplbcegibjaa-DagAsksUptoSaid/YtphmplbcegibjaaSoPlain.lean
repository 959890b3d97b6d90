/- Sorting by stamps in plain Lean: the order, merging, what binary search finds. No statement of the seat is proved here. -/
import Derived.Test.YtphmplbcegibjaaBase
set_option linter.unusedVariables false
namespace Go.Aq.So
open List (Perm)
section
variable (st : List UInt8 → Int)
/-- The later one first; of two of one time the lesser one first. -/
def le (x y : List UInt8) : Bool := decide (st y < st x) || (decide (st x = st y) && decide (x ≤ y))
theorem le_iff (x y : List UInt8) : le st x y = true ↔ st y < st x ∨ (st x = st y ∧ x ≤ y) := by simp [le]
theorem le_refl (x : List UInt8) : le st x x = true := (le_iff st x x).2 (.inr ⟨rfl, List.le_refl x⟩)
theorem le_trans {x y z : List UInt8} (h : le st x y = true) (k : le st y z = true) : le st x z = true := by
  rw [le_iff] at h k ⊢
  rcases h with h | ⟨h1, h2⟩ <;> rcases k with k | ⟨k1, k2⟩
  · left; omega
  · left; omega
  · left; omega
  · exact .inr ⟨by omega, List.le_trans h2 k2⟩
theorem le_total (x y : List UInt8) : le st x y = true ∨ le st y x = true := by
  rw [le_iff, le_iff]
  rcases Int.lt_trichotomy (st x) (st y) with h | h | h
  · exact .inr (.inl h)
  · rcases List.le_total x y with k | k
    · exact .inl (.inr ⟨h, k⟩)
    · exact .inr (.inr ⟨h.symm, k⟩)
  · exact .inl (.inl h)
theorem le_anti {x y : List UInt8} (h : le st x y = true) (k : le st y x = true) : x = y := by
  rw [le_iff] at h k
  rcases h with h | ⟨h1, h2⟩ <;> rcases k with k | ⟨k1, k2⟩
  · omega
  · omega
  · omega
  · exact List.le_antisymm h2 k2
theorem not_le {x y : List UInt8} (h : ¬ le st x y = true) : le st y x = true := (le_total st x y).resolve_left h
/-- What the comparison asks of a right and a left element. -/
theorem later_iff {x y : List UInt8} (h : y ≤ x) : st y < st x ↔ ¬ le st y x = true := by
  rw [le_iff]
  constructor
  · rintro h1 (h2 | ⟨h2, _⟩) <;> omega
  · intro h1
    rcases Int.lt_trichotomy (st x) (st y) with k | k | k
    · exact absurd (.inl k) h1
    · exact absurd (.inr ⟨k.symm, h⟩) h1
    · exact k
abbrev Srt (l : List (List UInt8)) : Prop := l.Pairwise fun x y => le st x y = true
def sortT (l : List (List UInt8)) : List (List UInt8) := l.mergeSort (le st)
theorem sortT_perm (l : List (List UInt8)) : (sortT st l).Perm l := List.mergeSort_perm l _
theorem sortT_srt (l : List (List UInt8)) : Srt st (sortT st l) :=
  List.pairwise_mergeSort (le := le st) (fun _ _ _ h k => le_trans st h k) (fun x y => by rw [Bool.or_eq_true]; exact le_total st x y) l
theorem sortT_eq {l m : List (List UInt8)} (h : Srt st m) (p : m.Perm l) : sortT st l = m :=
  List.Perm.eq_of_pairwise (le := fun x y => le st x y = true) (fun _ _ _ _ h1 h2 => le_anti st h1 h2) (sortT_srt st l) h ((sortT_perm st l).trans p.symm)
theorem sortT_len (l : List (List UInt8)) : (sortT st l).length = l.length := (sortT_perm st l).length_eq
theorem sortT_mem (l : List (List UInt8)) (x : List UInt8) : x ∈ sortT st l ↔ x ∈ l := (sortT_perm st l).mem_iff
theorem sortT_self {l : List (List UInt8)} (h : Srt st l) : sortT st l = l := sortT_eq st h (Perm.refl _)
theorem sortT_congr {l m : List (List UInt8)} (h : l.Perm m) : sortT st l = sortT st m := sortT_eq st (sortT_srt st m) ((sortT_perm st m).trans h.symm)
/-- Two halves, each sorted by itself. -/
theorem halves {L1 L2 R1 R2 : List (List UInt8)} (h11 : ∀ x ∈ L1, ∀ y ∈ L2, le st x y = true) (h22 : ∀ x ∈ R1, ∀ y ∈ R2, le st x y = true)
    (h12 : ∀ x ∈ L1, ∀ y ∈ R2, le st x y = true) (h21 : ∀ x ∈ R1, ∀ y ∈ L2, le st x y = true) :
    sortT st (L1 ++ R1) ++ sortT st (L2 ++ R2) = sortT st ((L1 ++ L2) ++ (R1 ++ R2)) := by
  refine (sortT_eq st ?_ ?_).symm
  · refine List.pairwise_append.2 ⟨sortT_srt st _, sortT_srt st _, fun x hx y hy => ?_⟩
    rw [sortT_mem, List.mem_append] at hx hy
    rcases hx with hx | hx <;> rcases hy with hy | hy
    · exact h11 x hx y hy
    · exact h12 x hx y hy
    · exact h21 x hx y hy
    · exact h22 x hx y hy
  · refine ((sortT_perm st _).append (sortT_perm st _)).trans ?_
    rw [List.append_assoc, List.append_assoc]
    refine (List.Perm.refl L1).append ?_
    rw [← List.append_assoc, ← List.append_assoc]
    exact List.perm_append_comm.append_right R2
/-- Sorted: what stands ahead is less. -/
theorem srt_get {l : List (List UInt8)} (h : Srt st l) {i j : Nat} (hij : i ≤ j) (hj : j < l.length) : le st (l[i]'(by omega)) l[j] = true := by
  rcases Nat.lt_or_eq_of_le hij with h1 | h1
  · exact List.pairwise_iff_getElem.1 h i j (by omega) hj h1
  · subst h1; exact le_refl st _
theorem take_le {l : List (List UInt8)} (h : Srt st l) {s : Nat} {x : List UInt8} (hs : s = 0 ∨ ∃ h1 : s - 1 < l.length, le st l[s - 1] x = true) : ∀ y ∈ l.take s, le st y x = true := by
  intro y hy
  obtain ⟨i, hi, rfl⟩ := List.getElem_of_mem hy
  rw [List.length_take] at hi
  rw [List.getElem_take]
  rcases hs with rfl | ⟨h1, h2⟩
  · omega
  · exact le_trans st (srt_get st h (i := i) (j := s - 1) (by omega) h1) h2
theorem drop_le {l : List (List UInt8)} (h : Srt st l) {s : Nat} {x : List UInt8} (hs : s = l.length ∨ ∃ h1 : s < l.length, le st x l[s] = true) : ∀ y ∈ l.drop s, le st x y = true := by
  intro y hy
  obtain ⟨i, hi, rfl⟩ := List.getElem_of_mem hy
  rw [List.length_drop] at hi
  rw [List.getElem_drop]
  rcases hs with rfl | ⟨h1, h2⟩
  · omega
  · exact le_trans st h2 (srt_get st h (i := s) (j := s + i) (by omega) (by omega))
theorem td_le {l : List (List UInt8)} (h : Srt st l) (s : Nat) : ∀ x ∈ l.take s, ∀ y ∈ l.drop s, le st x y = true := by
  intro x hx y hy
  have : Srt st (l.take s ++ l.drop s) := by rw [List.take_append_drop]; exact h
  exact (List.pairwise_append.1 this).2.2 x hx y hy
/-- What the search in two sorted pieces found. -/
theorem cut_ok {L R : List (List UInt8)} (hL : Srt st L) (hR : Srt st R) {s t : Nat} (hs : s ≤ L.length) (ht : t ≤ R.length)
    (h1 : s = 0 ∨ t = R.length ∨ ∃ (p : s - 1 < L.length) (q : t < R.length), le st L[s - 1] R[t] = true)
    (h2 : s = L.length ∨ t = 0 ∨ ∃ (p : s < L.length) (q : t - 1 < R.length), le st R[t - 1] L[s] = true) :
    sortT st (L.take s ++ R.take t) ++ sortT st (L.drop s ++ R.drop t) = sortT st (L ++ R) := by
  have := halves st (L1 := L.take s) (L2 := L.drop s) (R1 := R.take t) (R2 := R.drop t) (td_le st hL s) (td_le st hR t) ?_ ?_
  · rw [List.take_append_drop, List.take_append_drop] at this; exact this
  · intro x hx y hy
    rcases h1 with rfl | rfl | ⟨p, q, h⟩
    · simp at hx
    · simp at hy
    · exact le_trans st (take_le st hL (.inr ⟨p, h⟩) x hx) (drop_le st hR (.inr ⟨q, le_refl st _⟩) y hy)
  · intro x hx y hy
    rcases h2 with rfl | rfl | ⟨p, q, h⟩
    · simp at hy
    · simp at hx
    · exact le_trans st (take_le st hR (.inr ⟨q, h⟩) x hx) (drop_le st hL (.inr ⟨p, le_refl st _⟩) y hy)
/-- One element put into a sorted list. -/
theorem ins_ok {l : List (List UInt8)} (h : Srt st l) {s : Nat} (hs : s ≤ l.length) {x : List UInt8} (h1 : ∀ y ∈ l.take s, le st y x = true) (h2 : ∀ y ∈ l.drop s, le st x y = true) {m : List (List UInt8)} (hm : m.Perm (x :: l)) :
    sortT st m = l.take s ++ x :: l.drop s := by
  refine sortT_eq st ?_ ?_
  · have hp : Srt st (l.take s ++ l.drop s) := by rw [List.take_append_drop]; exact h
    obtain ⟨p1, p2, p3⟩ := List.pairwise_append.1 hp
    refine List.pairwise_append.2 ⟨p1, List.pairwise_cons.2 ⟨h2, p2⟩, fun a ha b hb => ?_⟩
    rcases List.mem_cons.1 hb with rfl | hb
    · exact h1 a ha
    · exact p3 a ha b hb
  · refine List.perm_middle.trans ?_
    rw [List.take_append_drop]
    exact hm.symm
/-- Blocks of so many, each sorted. -/
def chunk (c : Nat) (l : List (List UInt8)) : List (List UInt8) :=
  if h : l.length ≤ c ∨ c = 0 then sortT st l else sortT st (l.take c) ++ chunk c (l.drop c)
termination_by l.length
decreasing_by simp only [List.length_drop]; omega
theorem chunk_le {c : Nat} {l : List (List UInt8)} (h : l.length ≤ c) : chunk st c l = sortT st l := by rw [chunk, dif_pos (.inl h)]
theorem sortT_nil : sortT st [] = [] := by simp [sortT]
theorem chunk_cons {c : Nat} {l : List (List UInt8)} (hc : 0 < c) (h : c ≤ l.length) : chunk st c l = sortT st (l.take c) ++ chunk st c (l.drop c) := by
  by_cases h1 : l.length = c
  · rw [chunk_le st (by omega), ← h1, List.take_length, List.drop_length, chunk_le st (by simp), sortT_nil, List.append_nil]
  · rw [chunk, dif_neg (by omega)]
theorem chunk_len (c : Nat) : ∀ (l : List (List UInt8)), (chunk st c l).length = l.length := by
  intro l
  induction hn : l.length using Nat.strongRecOn generalizing l with
  | _ n ih =>
    rw [chunk]
    split
    · rw [sortT_len]; exact hn
    · rename_i h
      rw [List.length_append, sortT_len, ih (l.drop c).length (by simp only [List.length_drop]; omega) (l.drop c) rfl]
      simp; omega
end
/-! ### places in a list -/
theorem get_mid {α : Type} (A B : List α) (x : α) {i : Nat} (h : i = A.length) : (A ++ x :: B)[i]? = some x := by subst h; simp
theorem set_mid {α : Type} (A B : List α) (x y : α) {i : Nat} (h : i = A.length) : (A ++ x :: B).set i y = A ++ y :: B := by subst h; simp
/-- Two places exchanged. -/
theorem swap_mid {α : Type} (A B C : List α) (x y : α) {i j : Nat} (hi : i = A.length) (hj : j = A.length + 1 + B.length) : ((A ++ x :: (B ++ y :: C)).set i y).set j x = A ++ y :: (B ++ x :: C) := by
  rw [set_mid A _ x y hi]
  have e : A ++ y :: (B ++ y :: C) = (A ++ y :: B) ++ y :: C := by simp
  rw [e, set_mid _ _ _ _ (by simp; omega)]
  simp
theorem swap_mid' {α : Type} (A B C : List α) (x y : α) {i j : Nat} (hi : i = A.length) (hj : j = A.length + 1 + B.length) : ((A ++ x :: (B ++ y :: C)).set j x).set i y = A ++ y :: (B ++ x :: C) := by
  have e : A ++ x :: (B ++ y :: C) = (A ++ x :: B) ++ y :: C := by simp
  rw [e, set_mid _ _ _ _ (by simp; omega)]
  have e : (A ++ x :: B) ++ x :: C = A ++ x :: (B ++ x :: C) := by simp
  rw [e, set_mid A _ x y hi]
theorem get_mid2 {α : Type} (A B C : List α) (x y : α) {j : Nat} (hj : j = A.length + 1 + B.length) : (A ++ x :: (B ++ y :: C))[j]? = some y := by
  have e : A ++ x :: (B ++ y :: C) = (A ++ x :: B) ++ y :: C := by simp
  rw [e, get_mid _ _ _ (by simp; omega)]
end Go.Aq.So
