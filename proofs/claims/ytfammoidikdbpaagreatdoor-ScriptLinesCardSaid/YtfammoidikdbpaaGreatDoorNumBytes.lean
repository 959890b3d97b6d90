/- Contracts of package num: there, ReadBig, Little, Big. No statement of the seat is proved here. -/
import Derived.Test.YtfammoidikdbpaaGreatDoorI64
import Derived.Test.YtfammoidikdbpaaGreatDoorSame
import Derived.Lib.Hide
import Derived.Deep.LoopGhost
import Derived.Deep.DeepCutAuto
import Derived.BigQuiet
import Derived.Deep.QuietTactic
set_option linter.unusedVariables false
namespace Go.Aq
open Go.RowKit
theorem ret_bool {a b : Bool} (h : a = b) : Ending.returned (.bool a) = .returned (.bool b) := by rw [h]
theorem ret_int {k : IntKind} {a b : Int} (h : a = b) : Ending.returned (.int k a) = .returned (.int k b) := by rw [h]
/-- A part of a slice. -/
theorem Sees.part {w : World} {v : Value} {n : Nat} {xs : List Value} (h : Sees w 1 v n xs) (at_ wd : Nat) (hw : 0 < wd) (hn : at_ + wd ≤ n) :
    ∃ g off cap, v = .slice (some ⟨g, off, none⟩) n cap ∧ n ≤ cap ∧ Sees w 1 (.slice (some ⟨g, off + at_, none⟩) wd (cap - at_)) wd ((xs.drop at_).take wd) := by
  obtain ⟨g, off, cap, rfl, hc, hcell⟩ := h.at1 (by omega)
  have hl := h.len
  refine ⟨g, off, cap, rfl, hc, ⟨by simp; omega, _, _, rfl, by omega, by simp, fun ad had j u hu => ?_⟩⟩
  cases had
  have hj : j < wd := by
    have := (List.getElem?_eq_some_iff.1 hu).1
    simp at this; omega
  rw [Addr.add_lit, Nat.add_assoc, hcell (at_ + j) (by omega), ← hu, List.getElem?_take_of_lt hj, List.getElem?_drop]
/-- Bytes as a number, the greatest first. -/
def beVal (l : List UInt8) : Nat := l.foldl (fun n x => n * 256 + x.toNat) 0
theorem beVal_snoc (l : List UInt8) (x : UInt8) : beVal (l ++ [x]) = beVal l * 256 + x.toNat := by simp [beVal]
theorem beVal_lt (l : List UInt8) : beVal l < 256 ^ l.length := by
  induction h : l.length generalizing l with
  | zero => have := List.eq_nil_of_length_eq_zero h; subst this; simp [beVal]
  | succ k ih =>
    have hne : l ≠ [] := by intro e; subst e; simp at h
    rw [← List.dropLast_concat_getLast hne, beVal_snoc]
    have := ih l.dropLast (by simp; omega)
    have hx := (l.getLast hne).toNat_lt
    rw [Nat.pow_succ]
    omega
theorem Bs_take (l : List UInt8) (n : Nat) : Bs (l.take n) = (Bs l).take n := by simp [Bs, List.map_take]
theorem Bs_drop (l : List UInt8) (n : Nat) : Bs (l.drop n) = (Bs l).drop n := by simp [Bs, List.map_drop]
/-- A number's bytes, the least first. -/
def leB (n k : Nat) : List UInt8 := (List.range k).map fun i => UInt8.ofNat (n / 2 ^ (8 * i))
def beB (n k : Nat) : List UInt8 := (leB n k).reverse
theorem leB_length (n k : Nat) : (leB n k).length = k := by simp [leB]
theorem beB_length (n k : Nat) : (beB n k).length = k := by simp [beB, leB]
/-- A list turned round at its first and last i places. -/
def revAt (l : List UInt8) (i : Nat) : List UInt8 := (List.range l.length).map fun j => if j < i ∨ l.length ≤ j + i then l.getD (l.length - 1 - j) 0 else l.getD j 0
theorem revAt_length (l : List UInt8) (i : Nat) : (revAt l i).length = l.length := by simp [revAt]
theorem revAt_zero (l : List UInt8) : revAt l 0 = l := by
  apply List.ext_getElem
  · simp [revAt]
  · intro i h1 h2
    simp only [revAt, List.getElem_map, List.getElem_range]
    rw [if_neg (by omega)]
    simp [h2]
theorem revAt_end (l : List UInt8) (i : Nat) (h : l.length ≤ 2 * i + 1) : revAt l i = l.reverse := by
  apply List.ext_getElem
  · simp [revAt]
  · intro j h1 h2
    simp only [revAt_length] at h1
    simp only [revAt, List.getElem_map, List.getElem_range, List.getElem_reverse]
    by_cases hj : j < i ∨ l.length ≤ j + i
    · rw [if_pos hj, List.getD_eq_getElem?_getD, List.getElem?_eq_getElem (by omega)]; rfl
    · rw [if_neg hj, List.getD_eq_getElem?_getD, List.getElem?_eq_getElem (by omega)]
      simp only [Option.getD_some]
      congr 1
      omega
theorem revAt_lo (l : List UInt8) (i j : Nat) (h : i + j + 1 = l.length) (hij : i < j) : (revAt l i)[i]'(by rw [revAt_length]; omega) = l[i]'(by omega) := by
  simp only [revAt, List.getElem_map, List.getElem_range]
  rw [if_neg (by omega), List.getD_eq_getElem?_getD, List.getElem?_eq_getElem (by omega)]; rfl
theorem revAt_hi (l : List UInt8) (i j : Nat) (h : i + j + 1 = l.length) (hij : i < j) : (revAt l i)[j]'(by rw [revAt_length]; omega) = l[j]'(by omega) := by
  simp only [revAt, List.getElem_map, List.getElem_range]
  rw [if_neg (by omega), List.getD_eq_getElem?_getD, List.getElem?_eq_getElem (by omega)]; rfl
theorem revAt_step (l : List UInt8) (i j : Nat) (h : i + j + 1 = l.length) (hij : i < j) : ((revAt l i).set i (l[j]'(by omega))).set j (l[i]'(by omega)) = revAt l (i + 1) := by
  apply List.ext_getElem
  · simp [revAt]
  · intro k h1 h2
    simp only [revAt_length] at h2
    simp only [List.getElem_set, revAt, List.getElem_map, List.getElem_range]
    by_cases hkj : j = k
    · subst hkj
      rw [if_pos rfl, if_pos (by omega), List.getD_eq_getElem?_getD, List.getElem?_eq_getElem (by omega)]
      simp only [Option.getD_some]
      congr 1
      omega
    · rw [if_neg hkj]
      by_cases hki : i = k
      · subst hki
        rw [if_pos rfl, if_pos (by omega), List.getD_eq_getElem?_getD, List.getElem?_eq_getElem (by omega)]
        simp only [Option.getD_some]
        congr 1
        omega
      · rw [if_neg hki]
        by_cases hk : k < i ∨ l.length ≤ k + i
        · rw [if_pos hk, if_pos (by omega)]
        · rw [if_neg hk, if_neg (by omega)]
end Go.Aq
namespace Go.Proofs.YtfammoidikdbpaaGreatDoor
open Go.RowKit Go.Aq
set_option maxHeartbeats 400000 in
theorem there_ok (w : World) (v : Value) (n at_ wd : Nat) (b : List UInt8) (hv : Sees w 1 v n (Bs b)) (h1 : 1 ≤ wd) (h6 : wd ≤ 6) (ha : at_ + wd ≤ n) (hn : n ≤ 4611686018427387904) :
    Calls Tryz.prog 80 #[v, .int .i64 at_, .int .i64 wd] w fun e w' => ∃ v', e = .returned (.tuple #[v', .int .i64 0]) ∧ Sees w 1 v' wd (Bs ((b.drop at_).take wd)) ∧ w = w' := by
  obtain ⟨g, off, cap, rfl, hc, hs⟩ := hv.part at_ wd (by omega) ha
  have t1 : decide ((wd : Int) < 1) = false := by simp; omega
  have t2 : decide ((6 : Int) < (wd : Int)) = false := by simp; omega
  have t3 : decide ((at_ : Int) < 0) = false := by simp
  have t4 : decide ((n : Int) < (at_ : Int)) = false := by simp; omega
  have t5 : decide ((n : Int) - (at_ : Int) < (wd : Int)) = false := by simp; omega
  have t4' : decide (n < at_) = false := by simp; omega
  go_enter Tryz.func80, Tryz.ntmps80
  go_wp2
  go_ret2
  rw [Nat.add_sub_cancel_left]
  refine ⟨_, rfl, ?_, rfl⟩
  rw [Bs_take, Bs_drop]
  exact hs
set_option maxHeartbeats 400000 in
theorem readBig_ok (w : World) (v : Value) (n at_ wd : Nat) (b : List UInt8) (hv : Sees w 1 v n (Bs b)) (h1 : 1 ≤ wd) (h6 : wd ≤ 6) (ha : at_ + wd ≤ n) (hn : n ≤ 4611686018427387904) :
    Calls Tryz.prog 53 #[v, .int .i64 at_, .int .i64 wd] w fun e w' => e = .returned (.tuple #[.int .i64 (beVal ((b.drop at_).take wd) : Nat), .int .i64 0]) ∧ w = w' := by
  obtain ⟨R, hR⟩ : ∃ R, beVal ((b.drop at_).take wd) = R := ⟨_, rfl⟩
  rw [hR]
  have HR := Lib.hid hR; clear hR
  go_enter Tryz.func53, Tryz.ntmps53
  go_wp2_with fail
  refine (there_ok w v n at_ wd b hv h1 h6 ha hn).mono ?_
  rintro e w1 ⟨v', rfl, hs, rfl⟩
  have hbl : ((b.drop at_).take wd).length = wd := by have := hs.len; rw [Bs_length] at this; omega
  generalize (b.drop at_).take wd = l at *
  clear hv ha hn
  obtain ⟨g, off, cap, rfl, hc, hcell⟩ := hs.at1 (by omega)
  have HL := Lib.hid hbl; clear hbl
  have HC := Lib.hid hcell; clear hcell
  go_wp2_with fail
  go_loopg [10, 12, 22] wd (fun k vn _ vi wr => ∃ (i m : Nat), vn = .int .i64 m ∧ vi = .int .i64 i ∧ i + k = wd ∧ m = beVal (l.take i) ∧ wr = w)
  case atStart => exact ⟨0, 0, rfl, rfl, by omega, rfl, rfl⟩
  case round =>
    obtain ⟨i, m, rfl, rfl, hik, hm, rfl⟩ := hrel
    have hmb : m < 1099511627776 ∨ i = wd := by
      by_cases hi : i < wd
      · left
        have h := beVal_lt (l.take i)
        rw [List.length_take, Nat.min_eq_left (by have := HL.out; omega), ← hm] at h
        have h2 : (256 : Nat) ^ i ≤ 256 ^ 5 := Nat.pow_le_pow_right (by decide) (by omega)
        have h3 : (256 : Nat) ^ 5 = 1099511627776 := by decide
        omega
      · right; omega
    have HM := Lib.hid hm; clear hm
    have HIK := Lib.hid hik; clear hik
    by_cases hlt : i < wd
    · have hmb' : m < 1099511627776 := by omega
      clear hmb
      have hll : i < l.length := by have := HL.out; omega
      have x0 : wr.cell? ⟨g, off + i, none⟩ = some (.int .u8 ((l[i]'hll).toNat : Int)) := by
        rw [HC.out i (by omega), Bs_get _ _ hll]
      have hb := (l[i]'hll).toNat_lt
      have HT := Lib.hid (show beVal (l.take (i + 1)) = beVal (l.take i) * 256 + (l[i]'hll).toNat by rw [List.take_succ_eq_append_getElem hll, beVal_snoc])
      have hor := or_byte m (l[i]'hll).toNat hmb' hb
      generalize (l[i]'hll).toNat = x at *
      go_wp2
      go_roundg (gk - 1)
      case measure => have := HIK.out; omega
      case rel => exact ⟨i + 1, m * 256 + x, by go_num, by go_num, by have := HIK.out; omega, by rw [HT.out, ← HM.out], rfl⟩
    · have hi : i = wd := by have := HIK.out; omega
      subst hi
      go_wp2
      go_ret2
      have e := HM.out
      rw [List.take_of_length_le (by have := HL.out; omega), HR.out] at e
      rw [e]
      exact ⟨rfl, rfl⟩
set_option maxHeartbeats 400000 in
theorem reverse_any (w : World) (g n cap : Nat) (l : List UInt8) (hv : Own w 5 1 (.slice (some ⟨g, 0, none⟩) n cap) n (Bs l)) (h1 : 1 ≤ n) (hn : n ≤ 4611686018427387904) :
    Calls Tryz.prog 95 #[.slice (some ⟨g, 0, none⟩) n cap] w fun e w' => e = .returned (.tuple #[]) ∧ Own w' 5 1 (.slice (some ⟨g, 0, none⟩) n cap) n (Bs l.reverse) ∧ Chg [g] w w' := by
  have hl : l.length = n := by have := hv.len; rw [Bs_length] at this; omega
  have HL := Lib.hid hl; clear hl
  go_enter Tryz.func95, Tryz.ntmps95
  go_wp2
  go_loopg [2, 3] n (fun k vi vj wr => ∃ (i j : Nat) (b : Int), vi = .int .i64 i ∧ vj = .int .i64 b ∧ (b = j ∨ (n ≤ 2 * i ∧ b + 1 = j)) ∧ i + k = n ∧ i ≤ n ∧ b + i + 1 = n ∧ Own wr 5 1 (.slice (some ⟨g, 0, none⟩) n cap) n (Bs (revAt l i)) ∧ Chg [g] w wr)
  case atStart => exact ⟨0, n - 1, (n : Int) - 1, rfl, by rfl, by omega, by omega, by omega, by omega, by rw [revAt_zero]; exact hv, Chg.refl _ _⟩
  case round =>
    obtain ⟨i, j, b, rfl, rfl, hbj, hik, hi, hbi, ho, hc⟩ := hrel
    have HIK := Lib.hid hik; clear hik
    by_cases hlt : (i : Int) < b
    · obtain ⟨j', hj'⟩ : ∃ j' : Nat, b = j' := ⟨b.toNat, by omega⟩
      have hij : i < j' := by omega
      have hsum : i + j' + 1 = n := by omega
      subst hj'
      have hsl : i + j' + 1 = l.length := by rw [HL.out]; exact hsum
      have t1 : decide ((i : Int) < (j' : Int)) = true := by simpa using hlt
      have t1' : decide (i < j') = true := by simpa using hij
      obtain ⟨c, hcc⟩ : ∃ c, l[i]'(by omega) = c := ⟨_, rfl⟩
      obtain ⟨d, hdd⟩ : ∃ d, l[j']'(by omega) = d := ⟨_, rfl⟩
      have x0 : wr.cell? ⟨g, i, none⟩ = some (.int .u8 (c.toNat : Int)) := by
        rw [ho.cellAt i (by omega), Bs_get _ _ (by rw [revAt_length]; omega), revAt_lo l i j' hsl hij, hcc]
      have x1 : wr.cell? ⟨g, j', none⟩ = some (.int .u8 (d.toNat : Int)) := by
        rw [ho.cellAt j' (by omega), Bs_get _ _ (by rw [revAt_length]; omega), revAt_hi l i j' hsl hij, hdd]
      have f0 := ho.frozenAt i
      have f1 := ho.frozenAt j'
      have hst := revAt_step l i j' hsl hij
      rw [hcc, hdd] at hst
      have ho2 := (ho.set i (.int .u8 (d.toNat : Int))).set j' (.int .u8 (c.toNat : Int))
      rw [Bs_set, Bs_set, hst] at ho2
      have hc2 := (hc.setCell (p := ⟨g, i, none⟩) (by simp) (.int .u8 (d.toNat : Int))).setCell (p := ⟨g, j', none⟩) (by simp) (.int .u8 (c.toNat : Int))
      have HS := Lib.hid hsum; clear hsum hbj hbi hst hcc hdd
      generalize c.toNat = c at *
      generalize d.toNat = d at *
      have hne : (j' = i) = False := by simp; omega
      have hne' : (i = j') = False := by simp; omega
      have i1 : (i : Int) < n := by have := HS.out; omega
      have i2 : (j' : Int) < n := by have := HS.out; omega
      have ho3 : Own ((wr.setCell ⟨g, i, none⟩ (.int .u8 (d : Int))).setCell ⟨g, j', none⟩ (.int .u8 (c : Int))).drew 5 1 (.slice (some ⟨g, 0, none⟩) n cap) n (Bs (revAt l (i + 1))) := ho2
      have hc3 := hc2.drew
      clear ho2 hc2
      go_wp2
      go_region
      generalize ((wr.setCell ⟨g, i, none⟩ (.int .u8 (d : Int))).setCell ⟨g, j', none⟩ (.int .u8 (c : Int))).drew = w3 at *
      go_wp2
      go_roundg (gk - 1)
      case measure => have := HIK.out; have := HS.out; omega
      case rel => exact ⟨i + 1, j' - 1, (j' : Int) - 1, by go_num, rfl, by omega, by have := HIK.out; have := HS.out; omega, by have := HS.out; omega, by have := HS.out; omega, ho3, hc3⟩
    · have t1 : decide ((i : Int) < b) = false := by simpa using hlt
      go_wp2
      go_end0
      refine ⟨rfl, ?_, hc⟩
      rw [revAt_end l i (by rw [HL.out]; omega)] at ho
      exact ho
set_option maxHeartbeats 400000 in
theorem little_ok (w : World) (n wd : Nat) (h1 : 1 ≤ wd) (h6 : wd ≤ 6) (hn : n < 2 ^ (8 * wd)) (sl_u8 : SliceTy Tryz.prog 24 5 (.int .u8 0) 1 1) :
    Calls Tryz.prog 94 #[.int .i64 n, .int .i64 wd] w fun e w' => ∃ g, e = .returned (.tuple #[.slice (some ⟨g, 0, none⟩) wd wd, .int .i64 0]) ∧ Own w' 5 1 (.slice (some ⟨g, 0, none⟩) wd wd) wd (Bs (leB n wd)) ∧ Chg [] w w' ∧ w.heap.size ≤ g := by
  have t1 : decide ((wd : Int) < 1) = false := by simp; omega
  have t2 : decide ((6 : Int) < (wd : Int)) = false := by simp; omega
  have t3 : decide ((n : Int) < 0) = false := by simp
  have hq : (n : Int) / 2 ^ (8 * wd) = 0 := by
    have : ((n / 2 ^ (8 * wd) : Nat) : Int) = 0 := by rw [Nat.div_eq_of_lt hn]; rfl
    simpa using this
  have HN := Lib.hid hn; clear hn
  go_enter Tryz.func94, Tryz.ntmps94
  go_wp2_with (at_make; refine wpList_mk rfl _ _ 24 rfl sl_u8 rfl .i64 .i64 wd rfl rfl (by omega) (by omega) (by omega) (by omega) ?_; intro w1 ho1 hc1 hs1)
  obtain ⟨B, hB⟩ : ∃ B, B = w.heap.size := ⟨_, rfl⟩
  rw [← hB] at ho1 ⊢
  have HB := Lib.hid hB; clear hB
  have hr0 : List.replicate wd (Value.int IntKind.u8 0) = Bs (leB n 0 ++ List.replicate (wd - 0) 0) := by simp [Bs, Bc, leB]
  rw [hr0] at ho1
  clear hr0 hs1
  go_wp2
  go_loopg [7, 29] wd (fun k _ vi wr => ∃ (i : Nat), vi = .int .i64 i ∧ i + k = wd ∧ Own wr 5 1 (.slice (some ⟨B, 0, none⟩) wd wd) wd (Bs (leB n i ++ List.replicate (wd - i) 0)) ∧ Chg [] w wr)
  case atStart => exact ⟨0, rfl, by omega, ho1, hc1⟩
  case round =>
    clear ho1 hc1
    obtain ⟨i, rfl, hik, ho, hc⟩ := hrel
    have HIK := Lib.hid hik
    by_cases hlt : i < wd
    · clear hik
      have f0 := ho.frozenAt i
      have x0 : ∃ u, wr.cell? ⟨B, i, none⟩ = some u := by
        rw [ho.cellAt i (by omega)]
        exact ⟨_, List.getElem?_eq_getElem (by have := ho.len; omega)⟩
      obtain ⟨u, x0⟩ := x0
      have hst : (leB n i ++ List.replicate (wd - i) 0).set i (UInt8.ofNat (n / 2 ^ (8 * i))) = leB n (i + 1) ++ List.replicate (wd - (i + 1)) 0 := by
        rw [List.set_append_right _ _ (by rw [leB_length]; exact Nat.le_refl _), leB_length, Nat.sub_self, show wd - i = (wd - (i + 1)) + 1 by omega, List.replicate_succ, List.set_cons_zero]
        simp only [leB, List.range_succ, List.map_append, List.map_cons, List.map_nil, List.append_assoc, List.cons_append, List.nil_append]
      have ho2 := ho.set i (.int .u8 ((UInt8.ofNat (n / 2 ^ (8 * i))).toNat : Int))
      rw [Bs_set, hst] at ho2
      have hc2 := hc.setCell (p := ⟨B, i, none⟩) (by right; have := HB.out; simp; omega) (.int .u8 ((UInt8.ofNat (n / 2 ^ (8 * i))).toNat : Int))
      have ev : ((UInt8.ofNat (n / 2 ^ (8 * i))).toNat : Int) = (n : Int) / 2 ^ (8 * i) % 256 := by
        rw [UInt8.toNat_ofNat']
        simp
      rw [ev] at ho2 hc2
      clear hst ev
      go_wp2
      go_roundg (gk - 1)
      case measure => have := HIK.out; omega
      case rel =>
        refine ⟨i + 1, by go_num, by have := HIK.out; omega, ?_, ?_⟩
        · exact ho2
        · exact hc2
    · have hi : i = wd := by omega
      subst hi
      rw [Nat.sub_self, List.replicate_zero, List.append_nil] at ho
      go_wp2
      go_ret2
      exact ⟨B, rfl, ho, hc, by have := HB.out; omega⟩
theorem big_ok (w : World) (n wd : Nat) (h1 : 1 ≤ wd) (h6 : wd ≤ 6) (hn : n < 2 ^ (8 * wd)) (sl_u8 : SliceTy Tryz.prog 24 5 (.int .u8 0) 1 1) :
    Calls Tryz.prog 70 #[.int .i64 n, .int .i64 wd] w fun e w' => ∃ g, e = .returned (.tuple #[.slice (some ⟨g, 0, none⟩) wd wd, .int .i64 0]) ∧ Own w' 5 1 (.slice (some ⟨g, 0, none⟩) wd wd) wd (Bs (beB n wd)) ∧ Chg [] w w' ∧ w.heap.size ≤ g := by
  go_enter Tryz.func70, Tryz.ntmps70
  go_wp2_with fail
  refine (little_ok w n wd h1 h6 hn sl_u8).mono ?_
  rintro e w1 ⟨g, rfl, ho, hc, hg⟩
  clear hn
  go_wp2_with fail
  refine (reverse_any w1 g wd wd (leB n wd) ho h1 (by omega)).mono ?_
  rintro e w2 ⟨rfl, ho2, hc2⟩
  go_wp2_with fail
  go_ret2
  exact ⟨g, rfl, ho2, hc.trans hc2 (by simp; omega), hg⟩
end Go.Proofs.YtfammoidikdbpaaGreatDoor
