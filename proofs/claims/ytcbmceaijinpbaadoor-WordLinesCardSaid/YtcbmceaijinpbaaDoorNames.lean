/- The walk of the law WordNames. No statement of the seat is proved here. -/
import Derived.Test.YtcbmceaijinpbaaDoorTexts
import Derived.Test.YtcbmceaijinpbaaDoorWordLaws
set_option linter.unusedVariables false
namespace Go.Aq
theorem str_app (a b : List UInt8) : str a ++ str b = str (a ++ b) := by
  apply ByteArray.ext
  show (str a ++ str b).data = _
  rw [ByteArray.data_append]
  simp [str]
theorem str_appL (a b : List UInt8) : str a ++ ⟨b.toArray⟩ = str (a ++ b) := str_app a b
theorem str_appR (a b : List UInt8) : (⟨a.toArray⟩ : ByteArray) ++ str b = str (a ++ b) := str_app a b
namespace Wd
theorem encL_ge : ∀ rs : List Nat, rs.length ≤ (encL rs).length
  | [] => by simp [encL]
  | c :: t => by
    have := enc1_len c
    have := encL_ge t
    rw [encL_cons, List.length_append, List.length_cons]; omega
theorem countL_le (l : List UInt8) : (countL l).1 ≤ l.length := by
  unfold countL
  split
  · rename_i rs hs
    rw [(sigs_enc hs).1]; exact encL_ge rs
  · simp
end Wd
end Go.Aq
namespace Go.Proofs.YtcbmceaijinpbaaDoor
open Go.RowKit Go.Aq Go.Aq.Wd
set_option maxHeartbeats 2000000 in
theorem names_walk (s : List UInt8) (b : s.length ≤ 9223372036854775807) {w : World} (hT : Tabs w) :
    Calls Tryd.prog 5 #[.string (str s)] w fun e w' => e = .returned (.bool true) ∧ Chg [] w w' := by
  have hsz := str_size s
  by_cases h : s.length ≤ 5000
  · have t1 : decide (5000 < (s.length : Int)) = false := by simp; omega
    have t1' : decide (5000 < s.length) = false := by simp; omega
    have law := names_law s
    have ha := str_appL s [97]
    have hb := str_appR [97] s
    have hc := str_appL s [32]
    have hd := str_appL s [46]
    have he := str_appL s [47, 47, 97]
    have hf := str_appR [45] s
    have hn := fun (t : List UInt8) (hl : t.length ≤ 1000000000) w' (c : Chg [] w w') => name_any t w' (hT.chg c) hl
    have hcn := fun w' h' => count_any s w' h' (by omega)
    have hcb : (countL s).1 ≤ 1000000000 := by have := countL_le s; omega
    have hS := Lib.hid h
    have hb6 : s.length ≤ 6000 := by omega
    clear h b
    generalize hcs : (countL s).1 = cnt at *
    generalize (countL s).2 = ce at *
    clear hcs
    go_enter Tryd.func5, Tryd.ntmps5
    go_wp2_with fail
    refine (first_yes w hT).mono ?_
    rintro e w1 ⟨rfl, c1⟩
    go_wp2_with fail
    refine (hcn w1 (hT.chg c1)).mono ?_
    rintro e w2 ⟨rfl, c2⟩
    have c2 := c1.nil c2
    go_wp2_with fail
    refine (hn s (by have := hS.out; omega) w2 c2).mono ?_
    rintro e w3 ⟨rfl, c3⟩
    have c3 := c2.nil c3
    by_cases hN : nameL s = true
    · obtain ⟨l1, l2, l3, l4, l5, l6⟩ := law hN
      rw [hN]
      have hx := text_any s
      have hn1 := hn (s ++ [97]) (by have := hS.out; simp; omega)
      have hn2 := hn ([97] ++ s) (by have := hS.out; simp; omega)
      have hn3 := hn (s ++ [32]) (by have := hS.out; simp; omega)
      have hn4 := hn (s ++ [46]) (by have := hS.out; simp; omega)
      have hn5 := hn (s ++ [47, 47, 97]) (by have := hS.out; simp; omega)
      have hn6 := hn ([45] ++ s) (by have := hS.out; simp; omega)
      rw [l2] at hn3
      rw [l3] at hn4
      rw [l4] at hn5
      rw [l5] at hn6
      rw [l6] at hx
      clear hN law l2 l3 l4 l5 l6 hn
      have HL := Lib.hid l1
      clear l1
      go_wp2_with fail
      refine (first_yes w3 (hT.chg c3)).mono ?_
      rintro e w4 ⟨rfl, c4⟩
      have c4 := c3.nil c4
      by_cases h40 : 40 ≤ cnt
      · have t2 : decide (40 ≤ (cnt : Int)) = true := by simp; omega
        have t2' : decide (40 ≤ cnt) = true := by simp; omega
        go_wp2_with fail
        refine (hn3 w4 c4).mono ?_
        rintro e w5 ⟨rfl, c5⟩
        have c5 := c4.nil c5
        go_wp2_with fail
        refine (hn4 w5 c5).mono ?_
        rintro e w6 ⟨rfl, c6⟩
        have c6 := c5.nil c6
        go_wp2_with fail
        refine (hn5 w6 c6).mono ?_
        rintro e w7 ⟨rfl, c7⟩
        have c7 := c6.nil c7
        go_wp2_with fail
        refine (hn6 w7 c7).mono ?_
        rintro e w8 ⟨rfl, c8⟩
        have c8 := c7.nil c8
        go_wp2_with fail
        refine (hx w8 (hT.chg c8) (by have := hS.out; omega)).mono ?_
        rintro e w9 ⟨rfl, c9⟩
        go_wp2_with fail
        go_ret
        exact ⟨rfl, c8.nil c9⟩
      · have t2 : decide (40 ≤ (cnt : Int)) = false := by simp; omega
        have t2' : decide (40 ≤ cnt) = false := by simp; omega
        obtain ⟨m1, m2⟩ := HL.out.resolve_left h40
        rw [m1] at hn1
        rw [m2] at hn2
        clear m1 m2 HL
        go_wp2_with fail
        refine (hn1 w4 c4).mono ?_
        rintro e w5 ⟨rfl, c5⟩
        have c5 := c4.nil c5
        go_wp2_with fail
        refine (hn2 w5 c5).mono ?_
        rintro e w6 ⟨rfl, c6⟩
        have c6 := c5.nil c6
        go_wp2_with fail
        refine (hn3 w6 c6).mono ?_
        rintro e w7 ⟨rfl, c7⟩
        have c7 := c6.nil c7
        go_wp2_with fail
        refine (hn4 w7 c7).mono ?_
        rintro e w8 ⟨rfl, c8⟩
        have c8 := c7.nil c8
        go_wp2_with fail
        refine (hn5 w8 c8).mono ?_
        rintro e w9 ⟨rfl, c9⟩
        have c9 := c8.nil c9
        go_wp2_with fail
        refine (hn6 w9 c9).mono ?_
        rintro e w10 ⟨rfl, c10⟩
        have c10 := c9.nil c10
        go_wp2_with fail
        refine (hx w10 (hT.chg c10) (by have := hS.out; omega)).mono ?_
        rintro e w11 ⟨rfl, c11⟩
        go_wp2_with fail
        go_ret
        exact ⟨rfl, c10.nil c11⟩
    · have hN : nameL s = false := by simpa using hN
      rw [hN]
      clear law
      go_wp2_with fail
      refine (first_yes w3 (hT.chg c3)).mono ?_
      rintro e w4 ⟨rfl, c4⟩
      go_wp2_with fail
      go_ret
      exact ⟨rfl, c3.nil c4⟩
  · have t1 : decide (5000 < (s.length : Int)) = true := by simp; omega
    have t1' : decide (5000 < s.length) = true := by simp; omega
    clear h
    go_enter Tryd.func5, Tryd.ntmps5
    go_wp2_with fail
    refine (first_yes w hT).mono ?_
    rintro e w1 ⟨rfl, c1⟩
    go_wp2_with fail
    refine (first_yes w1 (hT.chg c1)).mono ?_
    rintro e w2 ⟨rfl, c2⟩
    go_wp2_with fail
    go_ret
    exact ⟨rfl, c1.nil c2⟩
end Go.Proofs.YtcbmceaijinpbaaDoor
