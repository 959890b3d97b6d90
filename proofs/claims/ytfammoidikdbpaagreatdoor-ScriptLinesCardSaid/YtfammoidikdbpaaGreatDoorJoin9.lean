/- Contract of strings.Join at nine texts and a blank. No statement of the seat is proved here. -/
import Derived.Test.YtfammoidikdbpaaGreatDoorWordK
import Derived.Test.YtfammoidikdbpaaGreatDoorShelf
set_option linter.unusedVariables false
namespace Go.Aq.Wd
/-- Texts with a blank between any two. -/
def joinB : List (List UInt8) → List UInt8
  | [] => []
  | x :: r => x ++ r.flatMap fun y => [32] ++ y
theorem joinB_len (r : List (List UInt8)) (B : Nat) (h : ∀ y ∈ r, y.length ≤ B) : (r.flatMap fun y => [(32 : UInt8)] ++ y).length ≤ r.length * (B + 1) := by
  induction r with
  | nil => simp
  | cons x t ih =>
    simp only [List.flatMap_cons, List.length_append, List.length_cons, List.length_nil]
    have h1 := h x (by simp)
    have h2 := ih fun y hy => h y (by simp [hy])
    rw [Nat.add_mul]; omega
end Go.Aq.Wd
namespace Go.Proofs.YtfammoidikdbpaaGreatDoor
open Go.RowKit Go.Aq Go.Aq.Wd
set_option maxRecDepth 100000 in
set_option maxHeartbeats 4000000 in
theorem join9 (v : Value) (l : List (List UInt8)) (w : World) (hv : Sees w 1 v 9 (Ss l)) (hb : ∀ y ∈ l, y.length ≤ 10000000000) :
    Calls Tryz.prog 16 #[v, .string ⟨#[32]⟩] w fun e w' => e = .returned (.string (str (joinB l))) ∧ Chg [] w w' := by
  have hl9 : l.length = 9 := by have := hv.len; rw [Ss_len] at this; omega
  obtain ⟨g, off, cap, rfl, hcap, hcell⟩ := hv.at1 (by omega)
  have hlt : g < w.heap.size := by have := hv.lt (by decide) g (by simp [eyes]); exact this
  obtain ⟨K, hK⟩ : ∃ K, w.heap.size = K := ⟨_, rfl⟩
  have hget : ∀ i, i < 9 → w.cell? ⟨g, off + i, none⟩ = some (.string (str (l.getD i []))) ∧ (l.getD i []).length ≤ 10000000000 := by
    intro i hi
    rw [List.getD_eq_getElem?_getD, List.getElem?_eq_getElem (show i < l.length by omega)]
    refine ⟨?_, hb _ (List.getElem_mem _)⟩
    rw [hcell i hi]; simp [Ss, List.getElem?_eq_getElem (show i < l.length by omega)]
  have HG := Lib.hid hget
  have HL := Lib.hid hl9
  clear hcell hv hget hl9 hb
  have hcap' : (9 : Int) ≤ (cap : Int) := by omega
  go_enter Tryz.func16, Tryz.ntmps16
  go_wp2_with fail
  go_loopg [5, 41] 9 (fun k v5 v41 wr => ∃ (i s : Nat), i + k = 9 ∧ v41 = .int .i64 i ∧ v5 = .int .i64 s ∧ s ≤ 8 + i * 10000000000 ∧ w = wr)
  case atStart => exact ⟨0, 8, by omega, rfl, rfl, by omega, rfl⟩
  case round =>
    obtain ⟨i, s, hi, rfl, rfl, hs, rfl⟩ := hrel
    have hs' : s ≤ 100000000000 := by omega
    by_cases h9 : i < 9
    · have t1 : decide ((i : Int) < 9) = true := by simp; omega
      have t1' : decide (i < 9) = true := by simp; omega
      have i9 : (i : Int) < 9 := by omega
      obtain ⟨m0, hlen⟩ := HG.out i h9
      have hsz := str_size (l.getD i [])
      generalize l.getD i [] = y at *
      generalize hyl : y.length = yl at *
      have HS := Lib.hid (And.intro hs (And.intro hi h9))
      clear hs hi h9 hyl
      have t2 : decide (9223372036854775807 - (s : Int) < (yl : Int)) = false := by simp; omega
      go_wp2_with fail
      go_roundg (gk - 1)
      case measure => have := HS.out; omega
      case rel => exact ⟨i + 1, s + yl, by have := HS.out; omega, by go_num, by go_num, by have := HS.out; omega, rfl⟩
    · have t1 : decide ((i : Int) < 9) = false := by simp; omega
      have t1' : decide (i < 9) = false := by simp; omega
      clear hi h9 hs
      have hbk : (w.alloc (.cells #[.pointer none, .slice none 0 0] 69)).heap[K]? = some (.cells #[.pointer none, .slice none 0 0] 69 (0, 0)) := Blk.new_at w _ _ hK
      have hB0 : Below K w (w.alloc (.cells #[.pointer none, .slice none 0 0] 69)) := (Below.refl _ w).alloc (by omega) _
      have hB0s : K ≤ (w.alloc (.cells #[.pointer none, .slice none 0 0] 69)).heap.size := by simp; omega
      go_wp2_with fail
      refine (Tryz.Builder_Grow_fresh K K s _ (Nat.le_refl _) hbk hB0s (by omega)).mono ?_
      rintro e w2 ⟨rfl, hI2, hb2⟩
      have hI2 : Lib.IsBuilder 69 5 K K (Bs []) w2 := .inr hI2
      have hB2 := hB0.trans hb2
      have hB2s : K ≤ w2.heap.size := Nat.le_trans hB0s hb2.size
      clear hbk hB0 hB0s hb2
      generalize (w.alloc (.cells #[.pointer none, .slice none 0 0] 69)) = wz at *
      have m0 := (hB2.cell (p := ⟨g, off + 0, none⟩) (show g < K by omega)).trans (HG.out 0 (by decide)).1
      have x0 := (HG.out 0 (by decide)).2
      generalize hx : l.getD 0 [] = x at *
      have HX := Lib.hid hx
      clear hx
      rw [Nat.add_zero] at m0
      have hws := wString K K [] x w2 hI2 (by simp; omega) hB2s
      go_wp2_with fail
      refine hws.mono ?_
      rintro e w3 ⟨rfl, hI3, hb3, -⟩
      have hB3 := hB2.trans hb3
      have hB3s : K ≤ w3.heap.size := Nat.le_trans hB2s hb3.size
      clear hws hI2 hB2 hB2s hb3 m0
      rw [List.nil_append] at hI3
      go_wp2_with fail
      go_loopg [65] 8 (fun k v65 wr => ∃ (i : Nat), i + k = 8 ∧ v65 = .int .i64 i ∧ Lib.IsBuilder 69 5 K K (Bs (x ++ ((l.drop 1).take i).flatMap fun y => [32] ++ y)) wr ∧ Below K w wr ∧ K ≤ wr.heap.size)
      case atStart => exact ⟨0, by omega, rfl, by simpa using hI3, hB3, hB3s⟩
      case round =>
        clear hI3 hB3 hB3s
        obtain ⟨i2, hi, rfl, hI, hB, hBs⟩ := hrel
        have hgK : g < K := by omega
        by_cases h8 : i2 < 8
        · have t1 : decide ((i2 : Int) < 8) = true := by simp; omega
          have t1' : decide (i2 < 8) = true := by simp; omega
          have i8 : (i2 : Int) < 8 := by omega
          have hmem : ∀ y ∈ (l.drop 1).take i2, y.length ≤ 10000000000 := by
            intro y hy
            obtain ⟨q, hq, rfl⟩ := List.getElem_of_mem (List.mem_of_mem_drop (List.mem_of_mem_take hy))
            have := (HG.out q (by rw [← HL.out]; exact hq)).2
            rwa [List.getD_eq_getElem?_getD, List.getElem?_eq_getElem hq] at this
          have hlen := joinB_len _ _ hmem
          have htl : ((l.drop 1).take i2).length = i2 := by rw [List.length_take, List.length_drop, HL.out]; omega
          rw [htl] at hlen
          have hts : (l.drop 1).take (i2 + 1) = (l.drop 1).take i2 ++ [l.getD (1 + i2) []] := by
            rw [List.take_succ_eq_append_getElem (by rw [List.length_drop, HL.out]; omega)]
            congr 2
            rw [List.getElem_drop, List.getD_eq_getElem?_getD, List.getElem?_eq_getElem (by rw [HL.out]; omega)]
            rfl
          have m1 := (hB.cell (p := ⟨g, off + (1 + i2), none⟩) hgK).trans (HG.out (1 + i2) (by omega)).1
          have x1 := (HG.out (1 + i2) (by omega)).2
          have hlen2 : (x ++ ((l.drop 1).take i2).flatMap fun y => [32] ++ y).length ≤ 100000000000 := by rw [List.length_append]; omega
          generalize l.getD (1 + i2) [] = y at *
          generalize hz : (x ++ ((l.drop 1).take i2).flatMap fun y => [32] ++ y) = z at *
          rw [← Nat.add_assoc] at m1
          have HS := Lib.hid (And.intro hi (And.intro h8 (And.intro hts hz)))
          clear hi h8 hts hz hmem hlen htl
          have hw1 := wString K K z [32] wr hI (by simp; omega) hBs
          have hw2 := fun w' h1 h2 => wString K K (z ++ [32]) y w' h1 (by simp; omega) h2
          go_wp2_with fail
          refine hw1.mono ?_
          rintro e w4 ⟨rfl, hI4, hb4, -⟩
          have hB4 := hB.trans hb4
          have hB4s := Nat.le_trans hBs hb4.size
          clear hw1 hI hB hBs hb4 m1
          go_wp2_with fail
          refine (hw2 _ hI4 hB4s).mono ?_
          rintro e w5 ⟨rfl, hI5, hb5, -⟩
          have hB5 := hB4.trans hb5
          have hB5s := Nat.le_trans hB4s hb5.size
          clear hw2 hI4 hB4 hB4s hb5
          go_wp2_with fail
          go_roundg (gk - 1)
          case measure => have := HS.out; omega
          case rel =>
            obtain ⟨hi, h8, hts, hz⟩ := HS.out
            refine ⟨i2 + 1, by omega, by go_num, ?_, hB5, hB5s⟩
            rw [hts, List.flatMap_append, ← List.append_assoc, hz]
            simpa [List.append_assoc] using hI5
        · have t1 : decide ((i2 : Int) < 8) = false := by simp; omega
          have t1' : decide (i2 < 8) = false := by simp; omega
          have hz : (x ++ ((l.drop 1).take i2).flatMap fun y => [32] ++ y) = joinB l := by
            rw [List.take_of_length_le (by rw [List.length_drop, HL.out]; omega)]
            have hl := HL.out
            have hx := HX.out
            cases l with
            | nil => simp at hl
            | cons a r => simp only [List.getD_cons_zero] at hx; subst hx; rfl
          rw [hz] at hI
          clear hi h8 hz
          go_wp2_with fail
          refine (Tryz.Builder_String_any K K _ wr hI hBs).mono ?_
          rintro e w4 ⟨rfl, hb4⟩
          go_wp2_with fail
          go_ret
          exact ⟨rfl, Chg.of_below (by rw [hK]; exact hB.trans hb4)⟩
end Go.Proofs.YtfammoidikdbpaaGreatDoor
