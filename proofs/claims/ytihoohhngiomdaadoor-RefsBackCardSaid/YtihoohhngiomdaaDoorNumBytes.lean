/- Contracts of package num: there, ReadBig, Little, Big. No statement of the seat is proved here. -/
import Derived.Test.YtihoohhngiomdaaDoorI64
import Derived.Test.YtihoohhngiomdaaDoorSame
import Derived.Lib.Hide
import Derived.Deep.LoopGhost
import Derived.Deep.DeepCutAuto
import Derived.BigQuiet
import Derived.Deep.QuietTactic
set_option linter.unusedVariables false
namespace Go.Aq
open Go.RowKit
theorem ret_bool {a b : Bool} (h : a = b) : Ending.returned (.bool a) = .returned (.bool b) := by rw [h]
theorem ret_int {k : IntKind} {a b : Int} (h : a = b) : Ending.returned (.int k a) = .returned (.int k b) := by rw [h]
/-- A part of a slice. -/
theorem Sees.part {w : World} {v : Value} {n : Nat} {xs : List Value} (h : Sees w 1 v n xs) (at_ wd : Nat) (hw : 0 < wd) (hn : at_ + wd ≤ n) :
    ∃ g off cap, v = .slice (some ⟨g, off, none⟩) n cap ∧ n ≤ cap ∧ Sees w 1 (.slice (some ⟨g, off + at_, none⟩) wd (cap - at_)) wd ((xs.drop at_).take wd) := by
  obtain ⟨g, off, cap, rfl, hc, hcell⟩ := h.at1 (by omega)
  have hl := h.len
  refine ⟨g, off, cap, rfl, hc, ⟨by simp; omega, _, _, rfl, by omega, by simp, fun ad had j u hu => ?_⟩⟩
  cases had
  have hj : j < wd := by
    have := (List.getElem?_eq_some_iff.1 hu).1
    simp at this; omega
  rw [Addr.add_lit, Nat.add_assoc, hcell (at_ + j) (by omega), ← hu, List.getElem?_take_of_lt hj, List.getElem?_drop]
/-- Bytes as a number, the greatest first. -/
def beVal (l : List UInt8) : Nat := l.foldl (fun n x => n * 256 + x.toNat) 0
theorem beVal_snoc (l : List UInt8) (x : UInt8) : beVal (l ++ [x]) = beVal l * 256 + x.toNat := by simp [beVal]
theorem beVal_lt (l : List UInt8) : beVal l < 256 ^ l.length := by
  induction h : l.length generalizing l with
  | zero => have := List.eq_nil_of_length_eq_zero h; subst this; simp [beVal]
  | succ k ih =>
    have hne : l ≠ [] := by intro e; subst e; simp at h
    rw [← List.dropLast_concat_getLast hne, beVal_snoc]
    have := ih l.dropLast (by simp; omega)
    have hx := (l.getLast hne).toNat_lt
    rw [Nat.pow_succ]
    omega
theorem Bs_take (l : List UInt8) (n : Nat) : Bs (l.take n) = (Bs l).take n := by simp [Bs, List.map_take]
theorem Bs_drop (l : List UInt8) (n : Nat) : Bs (l.drop n) = (Bs l).drop n := by simp [Bs, List.map_drop]
/-- A number's bytes, the least first. -/
def leB (n k : Nat) : List UInt8 := (List.range k).map fun i => UInt8.ofNat (n / 2 ^ (8 * i))
def beB (n k : Nat) : List UInt8 := (leB n k).reverse
theorem leB_length (n k : Nat) : (leB n k).length = k := by simp [leB]
theorem beB_length (n k : Nat) : (beB n k).length = k := by simp [beB, leB]
/-- A list turned round at its first and last i places. -/
def revAt (l : List UInt8) (i : Nat) : List UInt8 := (List.range l.length).map fun j => if j < i ∨ l.length ≤ j + i then l.getD (l.length - 1 - j) 0 else l.getD j 0
theorem revAt_length (l : List UInt8) (i : Nat) : (revAt l i).length = l.length := by simp [revAt]
theorem revAt_zero (l : List UInt8) : revAt l 0 = l := by
  apply List.ext_getElem
  · simp [revAt]
  · intro i h1 h2
    simp only [revAt, List.getElem_map, List.getElem_range]
    rw [if_neg (by omega)]
    simp [h2]
theorem revAt_end (l : List UInt8) (i : Nat) (h : l.length ≤ 2 * i + 1) : revAt l i = l.reverse := by
  apply List.ext_getElem
  · simp [revAt]
  · intro j h1 h2
    simp only [revAt_length] at h1
    simp only [revAt, List.getElem_map, List.getElem_range, List.getElem_reverse]
    by_cases hj : j < i ∨ l.length ≤ j + i
    · rw [if_pos hj, List.getD_eq_getElem?_getD, List.getElem?_eq_getElem (by omega)]; rfl
    · rw [if_neg hj, List.getD_eq_getElem?_getD, List.getElem?_eq_getElem (by omega)]
      simp only [Option.getD_some]
      congr 1
      omega
theorem revAt_lo (l : List UInt8) (i j : Nat) (h : i + j + 1 = l.length) (hij : i < j) : (revAt l i)[i]'(by rw [revAt_length]; omega) = l[i]'(by omega) := by
  simp only [revAt, List.getElem_map, List.getElem_range]
  rw [if_neg (by omega), List.getD_eq_getElem?_getD, List.getElem?_eq_getElem (by omega)]; rfl
theorem revAt_hi (l : List UInt8) (i j : Nat) (h : i + j + 1 = l.length) (hij : i < j) : (revAt l i)[j]'(by rw [revAt_length]; omega) = l[j]'(by omega) := by
  simp only [revAt, List.getElem_map, List.getElem_range]
  rw [if_neg (by omega), List.getD_eq_getElem?_getD, List.getElem?_eq_getElem (by omega)]; rfl
theorem revAt_step (l : List UInt8) (i j : Nat) (h : i + j + 1 = l.length) (hij : i < j) : ((revAt l i).set i (l[j]'(by omega))).set j (l[i]'(by omega)) = revAt l (i + 1) := by
  apply List.ext_getElem
  · simp [revAt]
  · intro k h1 h2
    simp only [revAt_length] at h2
    simp only [List.getElem_set, revAt, List.getElem_map, List.getElem_range]
    by_cases hkj : j = k
    · subst hkj
      rw [if_pos rfl, if_pos (by omega), List.getD_eq_getElem?_getD, List.getElem?_eq_getElem (by omega)]
      simp only [Option.getD_some]
      congr 1
      omega
    · rw [if_neg hkj]
      by_cases hki : i = k
      · subst hki
        rw [if_pos rfl, if_pos (by omega), List.getD_eq_getElem?_getD, List.getElem?_eq_getElem (by omega)]
        simp only [Option.getD_some]
        congr 1
        omega
      · rw [if_neg hki]
        by_cases hk : k < i ∨ l.length ≤ k + i
        · rw [if_pos hk, if_pos (by omega)]
        · rw [if_neg hk, if_neg (by omega)]
end Go.Aq
namespace Go.Proofs.YtihoohhngiomdaaDoor
open Go.RowKit Go.Aq
end Go.Proofs.YtihoohhngiomdaaDoor
