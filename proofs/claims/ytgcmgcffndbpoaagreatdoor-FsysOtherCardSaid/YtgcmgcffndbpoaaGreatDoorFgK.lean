/- What a Put comes to; lists of numbers in rows. No statement of the seat is proved here. -/
import Derived.Test.YtgcmgcffndbpoaaGreatDoorFgJ
set_option linter.unusedVariables false
set_option linter.unusedSimpArgs false
namespace Go.Aq.Fy
open Go.Aq Go.RowKit
def putC (nm : Nm) (dt : Sec) : ChangeD := ⟨2, nm, [], dt⟩
/-- Behind a Put of these bytes under this name. -/
structure OtherF (q : Nat) (F : FsD) (nm : Nm) (dt : Sec) (R : FsD × Nat) : Prop where
  inv : FInv (q + 1) R.1
  n6 : R.2 ≠ 6
  n7 : R.2 ≠ 7
  e16 : R.2 = 16 ↔ nameOk nm = false
  err : R.2 ≠ 0 → R.1 = F
  put : R.2 = 0 → ∃ x, lookK nm R.1.files = some x ∧ bytesB R.1 x = dt
  keep : ∀ s x, lookK s F.files = some x → (s = nm → R.2 ≠ 0) → lookK s R.1.files = some x ∧ bytesB R.1 x = bytesB F x
theorem look_view (F : FsD) (s : Nm) : lookK s (viewF F) = (lookK s F.files).map fun x => bytesB F x := by
  unfold viewF viewG
  exact mapK_look _ _ _
theorem putV (v : View) (nm : Nm) (dt : Sec) : oneV v (putC nm dt) = if nameOk nm = false then (v, 16) else tellV v nm dt := by
  unfold oneV putC
  by_cases h : nameOk nm = false
  · simp [h]
  · simp [h]
theorem putW (F : FsD) (W : WorkD) (nm : Nm) (dt : Sec) : oneW F W (putC nm dt) = if nameOk nm = false then (W, 16) else tellW W nm dt := by
  unfold oneW putC
  by_cases h : nameOk nm = false
  · simp [h]
  · simp [h]
theorem put_far {F : FsD} {nm s : Nm} {dt : Sec} (hs : s ≠ nm) : lookK s (allW F ⟨F.files, []⟩ [putC nm dt]).1.fresh = none ∧ lookK s (allW F ⟨F.files, []⟩ [putC nm dt]).1.files = lookK s F.files := by
  have h1 : lookK s (oneW F ⟨F.files, []⟩ (putC nm dt)).1.fresh = none ∧ lookK s (oneW F ⟨F.files, []⟩ (putC nm dt)).1.files = lookK s F.files := by
    rw [putW]
    split
    · exact ⟨rfl, rfl⟩
    · unfold tellW
      split
      · exact ⟨rfl, rfl⟩
      · exact ⟨by rw [look_ins_ne hs]; rfl, look_ins_ne hs _ _⟩
  show lookK s (if (oneW F ⟨F.files, []⟩ (putC nm dt)).2 = 0 then ((oneW F ⟨F.files, []⟩ (putC nm dt)).1, 0) else oneW F ⟨F.files, []⟩ (putC nm dt)).1.fresh = none ∧ lookK s (if (oneW F ⟨F.files, []⟩ (putC nm dt)).2 = 0 then ((oneW F ⟨F.files, []⟩ (putC nm dt)).1, 0) else oneW F ⟨F.files, []⟩ (putC nm dt)).1.files = _
  split
  · exact h1
  · exact h1
theorem other_law {q : Nat} {F : FsD} (h : FInv q F) (hq : q < 2 ^ 47) (hf : F.disk.falls = 0) (nm : Nm) (dt : Sec) : OtherF q F nm dt (doF F [putC nm dt]) := by
  obtain ⟨a1, -, -, -, -, ⟨a6, a7, a8⟩ | ⟨a6, a7, a8, a9⟩⟩ := do_law h hq hf [putC nm dt]
  · rw [oneV_pair, putV] at a8
    have hk : (doF F [putC nm dt]).2 ≠ 6 ∧ (doF F [putC nm dt]).2 ≠ 7 ∧ ((doF F [putC nm dt]).2 = 16 ↔ nameOk nm = false) := by
      by_cases hn : nameOk nm = false
      · rw [if_pos hn] at a8
        simp only [show ((16 : Nat) = 0) = False by simp, false_and, or_false] at a8
        rw [a8]
        exact ⟨by decide, by decide, by simp [hn]⟩
      · rw [if_neg hn] at a8
        unfold tellV at a8
        split at a8
        · simp only [show ((10 : Nat) = 0) = False by simp, false_and, or_false] at a8
          rw [a8]
          exact ⟨by decide, by decide, by simp [hn]⟩
        · rcases a8 with a8 | ⟨-, a8⟩
          · exact absurd a8 a6
          · rcases a8 with a8 | a8 <;> rw [a8] <;> exact ⟨by decide, by decide, by simp [hn]⟩
    refine ⟨a1, hk.1, hk.2.1, hk.2.2, fun _ => a7, fun e => absurd e a6, fun s x hx _ => ?_⟩
    rw [a7]
    exact ⟨hx, rfl⟩
  · rw [oneV_pair, putV] at a7 a8
    have hn : ¬ nameOk nm = false := fun hn => by rw [if_pos hn] at a7; cases a7
    rw [if_neg hn] at a7 a8
    unfold tellV at a7 a8
    split at a7
    · cases a7
    · rename_i ht
      rw [if_neg ht] at a8
      simp only at a8
      refine ⟨a1, by rw [a6]; decide, by rw [a6]; decide, by rw [a6]; simp [hn], fun e => absurd a6 e, fun _ => ?_, fun s x hx hs => ?_⟩
      · have h1 := look_view (doF F [putC nm dt]).1 nm
        rw [a8, look_ins_same] at h1
        cases hx : lookK nm (doF F [putC nm dt]).1.files with
        | none => rw [hx] at h1; cases h1
        | some x =>
          rw [hx] at h1
          exact ⟨x, rfl, (Option.some.inj h1).symm⟩
      · have hne : s ≠ nm := fun e => hs e a6
        obtain ⟨p1, p2⟩ := put_far (F := F) (dt := dt) hne
        have h2 := a9 s p1
        rw [p2, hx] at h2
        refine ⟨h2, ?_⟩
        have h3 := look_view (doF F [putC nm dt]).1 s
        rw [a8, look_ins_ne hne, look_view, hx, h2] at h3
        exact (Option.some.inj h3).symm
end Go.Aq.Fy
namespace Go.Proofs.YtgcmgcffndbpoaaGreatDoor
open Go.RowKit Go.Aq Go.Aq.Fy Go.Maps
theorem sl_irows : SliceTy Tryz.prog 39 40 (.slice none 0 0) 1 24 := ⟨Tryz.underlying39, by kernel_rfl, rfl, by decide⟩
/-- The values ys are the lists of numbers L; they lie behind B. -/
def RowsI (w : World) (B : Nat) (ys : List Value) (L : List (List Nat)) : Prop := ys.length = L.length ∧ ∀ (i : Nat) (b : List Nat), L[i]? = some b → ∃ y, ys[i]? = some y ∧ Sees w 1 y b.length (ints b) ∧ ∀ k ∈ eyes y, B ≤ k ∧ k < w.heap.size
theorem RowsI.push {w : World} {B : Nat} {ys : List Value} {L : List (List Nat)} (h : RowsI w B ys L) {y : Value} {b : List Nat} (hy : Sees w 1 y b.length (ints b)) (hn : ∀ k ∈ eyes y, B ≤ k) : RowsI w B (ys ++ [y]) (L ++ [b]) := by
  refine ⟨by simp [h.1], fun i c hc => ?_⟩
  rw [List.getElem?_append] at hc ⊢
  rw [h.1]
  split at hc
  · rename_i hi
    rw [if_pos hi]
    exact h.2 i c hc
  · rename_i hi
    rw [if_neg hi]
    have : i - L.length = 0 := by
      have := (List.getElem?_eq_some_iff.1 hc).1
      simp at this
      omega
    rw [this] at hc ⊢
    simp only [List.getElem?_cons_zero, Option.some.injEq] at hc
    subst hc
    exact ⟨y, rfl, hy, fun k hk => ⟨hn k hk, hy.lt (by decide) k hk⟩⟩
theorem RowsI.chg {w w' : World} {B : Nat} {ys : List Value} {L : List (List Nat)} {T : List Nat} (h : RowsI w B ys L) (c : Chg T w w') (hT : ∀ (y : Value), y ∈ ys → Disj (eyes y) T) : RowsI w' B ys L := by
  refine ⟨h.1, fun i b hb => ?_⟩
  obtain ⟨y, e, hs, hn⟩ := h.2 i b hb
  exact ⟨y, e, hs.chg c (hT y (List.mem_of_getElem? e)), fun k hk => ⟨(hn k hk).1, Nat.lt_of_lt_of_le (hn k hk).2 c.size⟩⟩
theorem RowsI.mem {w : World} {B : Nat} {ys : List Value} {L : List (List Nat)} (h : RowsI w B ys L) {y : Value} (hy : y ∈ ys) : ∀ k ∈ eyes y, B ≤ k ∧ k < w.heap.size := by
  obtain ⟨i, hi, rfl⟩ := List.getElem_of_mem hy
  obtain ⟨y', e, -, h3⟩ := h.2 i (L[i]'(by rw [← h.1]; exact hi)) (List.getElem?_eq_getElem _)
  rw [List.getElem?_eq_getElem hi] at e
  cases e
  exact h3
/-- The slice v holds the lists of numbers L, off the blocks S. -/
def RowsVI (w : World) (S : List Nat) (v : Value) (L : List (List Nat)) : Prop := ∃ xs, Sees w 1 v L.length xs ∧ (∀ (i : Nat) (b : List Nat), L[i]? = some b → ∃ y, xs[i]? = some y ∧ Sees w 1 y b.length (ints b) ∧ Disj (eyes y) S) ∧ Disj (eyes v) S
theorem RowsVI.chg {w w' : World} {S T : List Nat} {v : Value} {L : List (List Nat)} (h : RowsVI w S v L) (c : Chg T w w') (hT : ∀ k ∈ T, k ∈ S ∨ w.heap.size ≤ k) : RowsVI w' S v L := by
  obtain ⟨xs, h1, h2, h3⟩ := h
  have far : ∀ {y : Value} {n : Nat} {ys : List Value}, Sees w 1 y n ys → Disj (eyes y) S → Sees w' 1 y n ys := fun hs hd => hs.chg c fun k hk hk' => by
    rcases hT k hk' with h4 | h4
    · exact hd k hk h4
    · have := hs.lt (by decide) k hk; omega
  refine ⟨xs, far h1 h3, fun i b hb => ?_, h3⟩
  obtain ⟨y, e, hs, hd⟩ := h2 i b hb
  exact ⟨y, e, far hs hd, hd⟩
theorem str_ne (a b : List UInt8) (h : a ≠ b) : ((str a).toList == (str b).toList) = false := by rw [str_eq]; exact decide_eq_false h
theorem str_same (a : List UInt8) : ((str a).toList == (str a).toList) = true := by simp
end Go.Proofs.YtgcmgcffndbpoaaGreatDoor
