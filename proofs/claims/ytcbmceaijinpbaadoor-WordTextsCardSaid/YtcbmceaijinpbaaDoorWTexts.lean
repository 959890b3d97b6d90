/- The walk of the law WordTexts. No statement of the seat is proved here. -/
import Derived.Test.YtcbmceaijinpbaaDoorRWordC
set_option linter.unusedVariables false
namespace Go.Proofs.YtcbmceaijinpbaaDoor
open Go.RowKit Go.Aq Go.Aq.Wd
set_option maxHeartbeats 4000000 in
theorem wtexts_walk (s : List UInt8) (b : s.length ≤ 9223372036854775807) (n : Int) (hn : -9223372036854775808 ≤ n ∧ n ≤ 9223372036854775807) {w : World} (hT : Tabs w) :
    Calls Tryd.prog 9 #[.string (str s), .int .i64 n] w fun e w' => e = .returned (.bool true) ∧ Chg [] w w' := by
  have hsz := str_size s
  by_cases h : s.length ≤ 5000
  · have t1 : decide (5000 < (s.length : Int)) = false := by simp; omega
    have t1' : decide (5000 < s.length) = false := by simp; omega
    have a1 := fun w' h' => count_any s w' h' (by omega)
    have a2 := fun w' => rcount_any s w' (by omega)
    have a3 := fun w' h' => quote_any s w' h' (by omega)
    have a4 := fun w' => rquote_any s w' (by omega)
    have a5 := fun w' h' => clip_any s n hn w' h' (by omega)
    have a6 := fun w' => rclip_any s n hn w' (by omega)
    have a7 := fun w' h' => name_any s w' h' (by omega)
    have a8 := fun w' => rname_any s w' (by omega)
    have a9 := fun w' h' => text_any s w' h' (by omega)
    have a0 := fun w' => rtext_any s w' (by omega)
    generalize (countL s).1 = x1 at *
    generalize (countL s).2 = x2 at *
    generalize (quoteL s).1 = x3 at *
    generalize (quoteL s).2 = x4 at *
    generalize clipL s n = x5 at *
    generalize nameL s = x6 at *
    generalize textL s = x7 at *
    have e1 : ((x1 : Int) == (x1 : Int)) = true := by simp
    have e2 : ((x2 : Int) == (x2 : Int)) = true := by simp
    have e4 : ((x4 : Int) == (x4 : Int)) = true := by simp
    have e3 : ((str x3).toList == (str x3).toList) = true := by simp
    have e5 : ((str x5).toList == (str x5).toList) = true := by simp
    have e6 : (x6 == x6) = true := by simp
    have e7 : (x7 == x7) = true := by simp
    clear h
    go_enter Tryd.func9, Tryd.ntmps9
    go_wp2_with fail
    refine (first_yes w hT).mono ?_
    rintro e w1 ⟨rfl, c⟩
    go_wp2_with fail
    refine (a1 w1 (hT.chg c)).mono ?_
    rintro e w2 ⟨rfl, c2⟩
    have c := c.nil c2
    go_wp2_with fail
    refine (a2 w2).mono ?_
    rintro e w3 ⟨rfl, c3⟩
    have c := c.nil c3
    go_wp2_with fail
    refine (a3 w3 (hT.chg c)).mono ?_
    rintro e w4 ⟨rfl, c4⟩
    have c := c.nil c4
    go_wp2_with fail
    refine (a4 w4).mono ?_
    rintro e w5 ⟨rfl, c5⟩
    have c := c.nil c5
    clear a1 a2 a3 a4 c2 c3 c4 c5
    go_wp2_with fail
    refine (first_yes w5 (hT.chg c)).mono ?_
    rintro e w6 ⟨rfl, c6⟩
    have c := c.nil c6
    go_wp2_with fail
    refine (a5 w6 (hT.chg c)).mono ?_
    rintro e w7 ⟨rfl, c7⟩
    have c := c.nil c7
    go_wp2_with fail
    refine (a6 w7).mono ?_
    rintro e w8 ⟨rfl, c8⟩
    have c := c.nil c8
    go_wp2_with fail
    refine (a7 w8 (hT.chg c)).mono ?_
    rintro e w9 ⟨rfl, c9⟩
    have c := c.nil c9
    go_wp2_with fail
    refine (a8 w9).mono ?_
    rintro e w10 ⟨rfl, c10⟩
    have c := c.nil c10
    go_wp2_with fail
    refine (a9 w10 (hT.chg c)).mono ?_
    rintro e w11 ⟨rfl, c11⟩
    have c := c.nil c11
    go_wp2_with fail
    refine (a0 w11).mono ?_
    rintro e w12 ⟨rfl, c12⟩
    have c := c.nil c12
    go_wp2_with fail
    go_ret
    exact ⟨rfl, c⟩
  · have t1 : decide (5000 < (s.length : Int)) = true := by simp; omega
    have t1' : decide (5000 < s.length) = true := by simp; omega
    clear h hn
    go_enter Tryd.func9, Tryd.ntmps9
    go_wp2_with fail
    refine (first_yes w hT).mono ?_
    rintro e w1 ⟨rfl, c1⟩
    go_wp2_with fail
    refine (first_yes w1 (hT.chg c1)).mono ?_
    rintro e w2 ⟨rfl, c2⟩
    go_wp2_with fail
    go_ret
    exact ⟨rfl, c1.nil c2⟩
end Go.Proofs.YtcbmceaijinpbaaDoor
