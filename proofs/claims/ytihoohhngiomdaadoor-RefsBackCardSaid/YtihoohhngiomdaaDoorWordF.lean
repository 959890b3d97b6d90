/- Contracts of word.escapes and of the reader's first methods (fail, sign, plain). No statement of the seat is proved here. -/
import Derived.Test.YtihoohhngiomdaaDoorWordE
import Derived.Deep.RegionHeld3
set_option linter.unusedVariables false
namespace Go.Aq
open Go.RowKit
theorem own_full (w : World) (cs : Array Value) (e : TypeId) (m : Nat) (hm : cs.size = m) (hb : m ≤ 9223372036854775807) : Own (w.alloc (.cells cs e)) e 1 (.slice (some ⟨w.heap.size, 0, none⟩) m m) m cs.toList :=
  ⟨by simp [hm], .inr ⟨w.heap.size, m, cs, rfl, Nat.zero_le _, heap_alloc_new w _, Nat.le_refl _, by unfold maxLen; omega, by simp [hm], List.take_of_length_le (by simp [hm])⟩⟩
end Go.Aq
namespace Go.Aq.Wd
def Rs (l : List Nat) : List Value := l.map fun (c : Nat) => Value.int .i32 (c : Int)
theorem Rs_append (a b : List Nat) : Rs (a ++ b) = Rs a ++ Rs b := by simp [Rs]
theorem Rs_len (a : List Nat) : (Rs a).length = a.length := by simp [Rs]
end Go.Aq.Wd
namespace Go.Proofs.YtihoohhngiomdaaDoor
open Go.RowKit Go.Aq Go.Aq.Wd
theorem sl_i32 : SliceTy Tryd.prog 117 21 (.int .i32 0) 1 4 := ⟨Tryd.underlying117, by kernel_rfl, rfl, by decide⟩
set_option maxHeartbeats 1000000 in
theorem escapes_any (w : World) : Calls Tryd.prog 80 #[] w fun e w' => ∃ v, e = .returned v ∧ Fresh w w' 21 1 v 67 (Rs escs) := by
  have hf0 : Fresh w (w.alloc (.cells #[.int .i32 34, .int .i32 92] 21)) 21 1 (.slice (some ⟨w.heap.size, 0, none⟩) 2 2) 2 (Rs ([34, 92] ++ List.range 0)) :=
    ⟨own_full w #[.int .i32 34, .int .i32 92] 21 2 rfl (by decide), (Chg.refl _ _).alloc _, by simp [Value.ownBlock]⟩
  generalize hw0 : w.alloc (.cells #[.int .i32 34, .int .i32 92] 21) = w0 at *
  go_enter Tryd.func80, Tryd.ntmps80
  go_wp2_with fail
  go_loopg [1, 2] 32 (fun k vl vc wr => ∃ (j : Nat), vc = .int .i32 j ∧ j + k = 32 ∧ Fresh w wr 21 1 vl (2 + j) (Rs ([34, 92] ++ List.range j)))
  case atStart => exact ⟨0, rfl, by omega, hf0⟩
  case round =>
    clear hf0 hw0
    obtain ⟨j, rfl, hjk, hf⟩ := hrel
    by_cases hj : j < 32
    · have t1 : decide ((j : Int) < 32) = true := by simp; omega
      have HJ := Lib.hid hjk
      clear hjk
      go_wp2_with (at_builtin; refine wpList_appF (w0 := w) rfl _ _ 117 rfl sl_i32 (by exact hf.to ((Chg.refl [] wr).alloc (.cells #[.int .i32 (j : Int)] 21))) rfl (Sees.row (cs := #[.int .i32 (j : Int)]) (by exact Blk.new wr _ 21) (m := 1) rfl) rfl (by simp [Value.oneCell']) (by omega) (by omega) ?_; intro v4 w4 hF4 c4)
      go_roundg (gk - 1)
      case measure => have := HJ.out; omega
      case rel =>
        refine ⟨j + 1, by go_num, by have := HJ.out; omega, ?_⟩
        rw [List.range_succ, ← List.append_assoc, Rs_append ([34, 92] ++ List.range j)]
        exact hF4
    · have h32 : j = 32 := by omega
      subst h32
      have hf1 : Fresh w wr 21 1 u1 (34 + 0) (Rs ([34, 92] ++ List.range 32 ++ (List.range 0).map (127 + ·))) := hf
      obtain ⟨wo, hwo⟩ : ∃ wo : World, wo = wr := ⟨_, rfl⟩
      rw [← hwo] at hf1
      clear hf hjk hj
      subst hwo
      go_wp2_with fail
      go_loopg [1, 3] 33 (fun k vl vc wr => ∃ (j : Nat) (q : Int), vc = .int .i32 q ∧ q = 127 + (j : Int) ∧ j + k = 33 ∧ Fresh w wr 21 1 vl (34 + j) (Rs ([34, 92] ++ List.range 32 ++ (List.range j).map (127 + ·))))
      case atStart => exact ⟨0, 127, rfl, by omega, by omega, hf1⟩
      case round =>
        clear hf1
        obtain ⟨j, q, rfl, hq, hjk, hf⟩ := hrel
        by_cases hj : j < 33
        · have t1 : decide (q ≤ 159) = true := by simp; omega
          have hqb : q ≤ 159 := by omega
          have hqb0 : 127 ≤ q := by omega
          have HJ := Lib.hid (And.intro hq hjk)
          clear hjk hq
          go_wp2_with (at_builtin; refine wpList_appF (w0 := w) rfl _ _ 117 rfl sl_i32 (by exact hf.to ((Chg.refl [] wr).alloc (.cells #[.int .i32 q] 21))) rfl (Sees.row (cs := #[.int .i32 q]) (by exact Blk.new wr _ 21) (m := 1) rfl) rfl (by simp [Value.oneCell']) (by omega) (by omega) ?_; intro v4 w4 hF4 c4)
          go_roundg (gk - 1)
          case measure => have := HJ.out; omega
          case rel =>
            refine ⟨j + 1, _, rfl, by have := HJ.out; omega, by have := HJ.out; omega, ?_⟩
            have e : Rs [127 + j] = [.int .i32 q] := by simp [Rs]; have := HJ.out; omega
            rw [List.range_succ (n := j), List.map_append, ← List.append_assoc, Rs_append ([34, 92] ++ List.range 32 ++ _)]
            simp only [List.map_cons, List.map_nil]
            rw [e]
            exact hF4
        · have h33 : j = 33 := by omega
          subst h33
          have t1 : decide (q ≤ 159) = false := by simp; omega
          have t2 : ¬ (q ≤ 159) := by omega
          go_wp2_with fail
          go_ret
          exact ⟨_, rfl, hf⟩
/-- A reader of a line. -/
def Rd (w : World) (R : Nat) (l : List UInt8) (at_ e : Nat) : Prop := Blk w R #[.string (str l), .int .i64 (at_ : Nat), .int .i64 (e : Nat)] 89
set_option maxHeartbeats 400000 in
theorem fail_any (w : World) (R : Nat) (l : List UInt8) (p e0 e : Nat) (h : Rd w R l p e0) :
    Calls Tryd.prog 62 #[.pointer (some ⟨R, 0, none⟩), .int .i64 e] w fun x w' => x = .returned (.tuple #[]) ∧ Rd w' R l p e ∧ Chg [R] w w' := by
  have f2 := Blk.frozen h 2
  have c2 := Blk.cell h 2
  have hb := Blk.set h 2 (.int .i64 (e : Nat))
  have hc : Chg [R] w (w.setCell ⟨R, 2, none⟩ (.int .i64 (e : Nat))) := (Chg.refl [R] w).setCell (by simp) _
  simp only [List.getElem?_toArray, List.getElem?_cons_succ, List.getElem?_cons_zero] at c2
  go_enter Tryd.func62, Tryd.ntmps62
  go_wp2
  go_end0
  exact ⟨rfl, hb, hc⟩
/-- What sign tells: the sign, how many bytes; what the error is then. -/
def sgnR (r : List UInt8) (e0 : Nat) : Nat × Nat × Nat := if r = [] then (65533, 0, e0) else if bad (dec r) || low (dec r).1 then (0, 0, 4) else ((dec r).1, (dec r).2, e0)
set_option maxHeartbeats 1000000 in
theorem sign_any (w : World) (hT : Tabs w) (R : Nat) (l : List UInt8) (p e0 : Nat) (h : Rd w R l p e0) (hp : p ≤ l.length) (hl : l.length ≤ 1000000000) :
    Calls Tryd.prog 61 #[.pointer (some ⟨R, 0, none⟩)] w fun x w' => x = .returned (.tuple #[.int .i32 (sgnR (l.drop p) e0).1, .int .i64 (sgnR (l.drop p) e0).2.1]) ∧ Rd w' R l p (sgnR (l.drop p) e0).2.2 ∧ Chg [R] w w' := by
  have hsz := str_size l
  have he := str_from l p
  have c0 : w.cell? ⟨R, 0, none⟩ = some (.string (str l)) := Blk.cell h 0
  have c1 : w.cell? ⟨R, 1, none⟩ = some (.int .i64 (p : Nat)) := Blk.cell h 1
  have hpi : (p : Int) ≤ (l.length : Int) := by omega
  have hTd : Tabs w.drew := hT.chg (Chg.refl [] w).drew
  have hda := dec_any (l.drop p) w.drew hTd
  have hG : decG (l.drop p) = if l.drop p = [] then (65533, 0) else dec (l.drop p) := rfl
  have hS : sgnR (l.drop p) e0 = if l.drop p = [] then (65533, 0, e0) else if bad (dec (l.drop p)) || low (dec (l.drop p)).1 then (0, 0, 4) else ((dec (l.drop p)).1, (dec (l.drop p)).2, e0) := rfl
  have hd1 := dec_fst (l.drop p)
  have hdp := dec_pos (l.drop p)
  have hbd := bad_iff (dec (l.drop p))
  generalize l.drop p = r at *
  by_cases hr : r = []
  · rw [if_pos hr] at hG hS
    rw [hG] at hda
    rw [hS]
    clear hG hS hd1 hdp hbd hr
    go_enter Tryd.func61, Tryd.ntmps61
    go_wp2_with fail
    go_region_held3 (fun w' => w'.cell? ⟨R, 0, none⟩ = some (.string (str l)) ∧ w'.cell? ⟨R, 1, none⟩ = some (.int .i64 (p : Nat))) (first | exact ⟨c0, c1⟩ | exact ⟨m0, m1⟩)
      (first | (go_at_call 56; refine hda.mono ?_; rintro e w2 ⟨rfl, c2⟩; have m0 := c2.cell_some c0 (by simp); have m1 := c2.cell_some c1 (by simp)))
    have hR2 : Rd w2 R l p e0 := Blk.chg0 (Blk.drew h) c2
    go_wp2_with fail
    go_ret2
    exact ⟨rfl, hR2, ((Chg.refl [R] w).drew).nil c2⟩
  · rw [if_neg hr] at hG hS
    rw [hG] at hda
    generalize dec r = d at *
    obtain ⟨c, n⟩ := d
    simp only at hd1 hdp hS hda
    have t0 : ((n : Int) == 0) = false := by simp; omega
    clear hr
    by_cases hbl : (bad (c, n) || low c) = true
    · rw [if_pos hbl] at hS
      rw [hS]
      clear hG hS
      by_cases hb : bad (c, n) = true
      · have hcn := hbd.1 hb
        simp only [Prod.mk.injEq] at hcn
        obtain ⟨rfl, rfl⟩ := hcn
        clear hbd hb hbl
        go_enter Tryd.func61, Tryd.ntmps61
        go_wp2_with fail
        go_region_held3 (fun w' => w'.cell? ⟨R, 0, none⟩ = some (.string (str l)) ∧ w'.cell? ⟨R, 1, none⟩ = some (.int .i64 (p : Nat))) (first | exact ⟨c0, c1⟩ | exact ⟨m0, m1⟩)
          (first | (go_at_call 56; refine hda.mono ?_; rintro e w2 ⟨rfl, c2⟩; have m0 := c2.cell_some c0 (by simp); have m1 := c2.cell_some c1 (by simp)))
        have hR2 : Rd w2 R l p e0 := Blk.chg0 (Blk.drew h) c2
        have hc2 := ((Chg.refl [R] w).drew).nil c2
        go_wp2_with fail
        refine (fail_any w2 R l p e0 4 hR2).mono ?_
        rintro e w3 ⟨rfl, hR3, c3⟩
        go_wp2_with fail
        go_ret2
        exact ⟨rfl, hR3, hc2.tr c3⟩
      · have hbf : bad (c, n) = false := by simpa using hb
        have hlow : low c = true := by rw [hbf] at hbl; simpa using hbl
        have hnb : ¬ (c = 65533 ∧ n = 1) := fun hh => hb (by rw [hh.1, hh.2]; rfl)
        have t1 : ((c : Int) == 65533) = false := by
          have : c < 256 := by simp only [low, Bool.or_eq_true, Bool.and_eq_true, decide_eq_true_eq] at hlow; omega
          simp; omega
        clear hbd hb hbl hnb hbf
        go_enter Tryd.func61, Tryd.ntmps61
        go_wp2_with fail
        go_region_held3 (fun w' => w'.cell? ⟨R, 0, none⟩ = some (.string (str l)) ∧ w'.cell? ⟨R, 1, none⟩ = some (.int .i64 (p : Nat))) (first | exact ⟨c0, c1⟩ | exact ⟨m0, m1⟩)
          (first | (go_at_call 56; refine hda.mono ?_; rintro e w2 ⟨rfl, c2⟩; have m0 := c2.cell_some c0 (by simp); have m1 := c2.cell_some c1 (by simp)))
        have hR2 : Rd w2 R l p e0 := Blk.chg0 (Blk.drew h) c2
        have hc2 := ((Chg.refl [R] w).drew).nil c2
        go_wp2_with fail
        refine (low_any c (by omega) w2).mono ?_
        rintro e w3 ⟨rfl, rfl⟩
        rw [hlow]
        go_wp2_with fail
        refine (fail_any w3 R l p e0 4 hR2).mono ?_
        rintro e w4 ⟨rfl, hR3, c3⟩
        go_wp2_with fail
        go_ret2
        exact ⟨rfl, hR3, hc2.tr c3⟩
    · rw [if_neg hbl] at hS
      rw [hS]
      have hbf : bad (c, n) = false ∧ low c = false := by simpa using hbl
      obtain ⟨hbf, hlow⟩ := hbf
      have hnb : ¬ (c = 65533 ∧ n = 1) := fun hh => by rw [hh.1, hh.2] at hbf; simp [bad] at hbf
      clear hG hS hbd hbl hbf
      by_cases h3 : c = 65533
      · have hn1 : ((n : Int) == 1) = false := by simp; omega
        subst h3
        clear hnb
        go_enter Tryd.func61, Tryd.ntmps61
        go_wp2_with fail
        go_region_held3 (fun w' => w'.cell? ⟨R, 0, none⟩ = some (.string (str l)) ∧ w'.cell? ⟨R, 1, none⟩ = some (.int .i64 (p : Nat))) (first | exact ⟨c0, c1⟩ | exact ⟨m0, m1⟩)
          (first | (go_at_call 56; refine hda.mono ?_; rintro e w2 ⟨rfl, c2⟩; have m0 := c2.cell_some c0 (by simp); have m1 := c2.cell_some c1 (by simp)))
        have hR2 : Rd w2 R l p e0 := Blk.chg0 (Blk.drew h) c2
        have hc2 := ((Chg.refl [R] w).drew).nil c2
        go_wp2_with fail
        refine (low_any 65533 (by omega) w2).mono ?_
        rintro e w3 ⟨rfl, rfl⟩
        rw [hlow]
        go_wp2_with fail
        go_ret2
        exact ⟨rfl, hR2, hc2⟩
      · have t1 : ((c : Int) == 65533) = false := by simp; omega
        clear hnb
        go_enter Tryd.func61, Tryd.ntmps61
        go_wp2_with fail
        go_region_held3 (fun w' => w'.cell? ⟨R, 0, none⟩ = some (.string (str l)) ∧ w'.cell? ⟨R, 1, none⟩ = some (.int .i64 (p : Nat))) (first | exact ⟨c0, c1⟩ | exact ⟨m0, m1⟩)
          (first | (go_at_call 56; refine hda.mono ?_; rintro e w2 ⟨rfl, c2⟩; have m0 := c2.cell_some c0 (by simp); have m1 := c2.cell_some c1 (by simp)))
        have hR2 : Rd w2 R l p e0 := Blk.chg0 (Blk.drew h) c2
        have hc2 := ((Chg.refl [R] w).drew).nil c2
        go_wp2_with fail
        refine (low_any c (by omega) w2).mono ?_
        rintro e w3 ⟨rfl, rfl⟩
        rw [hlow]
        go_wp2_with fail
        go_ret2
        exact ⟨rfl, hR2, hc2⟩
end Go.Proofs.YtihoohhngiomdaaDoor
