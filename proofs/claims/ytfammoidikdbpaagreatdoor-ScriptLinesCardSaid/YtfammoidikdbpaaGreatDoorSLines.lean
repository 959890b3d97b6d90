/- The walk of the law ScriptLines. No statement of the seat is proved here. -/
import Derived.Test.YtfammoidikdbpaaGreatDoorRParse
import Derived.Test.YtfammoidikdbpaaGreatDoorScrAll
set_option linter.unusedVariables false
set_option linter.unusedSimpArgs false
namespace Go.Proofs.YtfammoidikdbpaaGreatDoor
open Go.RowKit Go.Aq Go.Aq.Wd
/-- The document's Parse. -/
theorem rparse_any (s : List UInt8) (w : World) (hs : s.length ≤ 200000) :
    Calls Tryz.prog 10 #[.string (str s)] w fun e w' => ∃ pv mv, e = .returned (.tuple #[actV (parseL s).1 pv mv, .int .i64 (parseL s).2]) ∧ ActR w w' (parseL s).1 pv mv ∧ Chg [] w w' := by
  by_cases h : (wordsL s).2.2 = 0 ∧ (wordsL s).1.length = 9
  · exact rparse_nine s w hs h.1 h.2
  · have hb : (wordsL s).2.2 ≠ 0 ∨ (wordsL s).1.length ≠ 9 := by
      by_cases h0 : (wordsL s).2.2 = 0
      · exact .inr fun h9 => h ⟨h0, h9⟩
      · exact .inl h0
    have hz : (parseL s).1 = actZ := by
      unfold parseL
      rcases hb with hb | hb
      · rw [if_pos hb]
      · split
        · rfl
        · split
          · rfl
          · rw [if_pos (by omega)]
    refine (rparse_bad s w hs hb).mono ?_
    rintro e w' ⟨rfl, c⟩
    exact ⟨_, _, rfl, by rw [hz]; exact ⟨Sees.nil _ _, Sees.nil _ _, by simp [eyes], by simp [eyes]⟩, c⟩
set_option maxRecDepth 100000 in
set_option maxHeartbeats 8000000 in
theorem slines_main (a : ActD) (pv mv : Value) (s : List UInt8) {w : World} (hH : Handed w a pv mv) (hs : shortB a = true) (hsl : s.length ≤ 20000) (hT : Tabs2 w) :
    Calls Tryz.prog 3 #[actV a pv mv, .string (str s)] w fun e w' => e = .returned (.bool true) ∧ Chg [] w w' := by
  obtain ⟨K, hK⟩ : ∃ K, w.heap.size = K := ⟨_, rfl⟩
  obtain ⟨op, dp, rfl, -, -⟩ := hH.pix.shape
  obtain ⟨om, dm, rfl, -, -⟩ := hH.mask.shape
  have hbA : Blk (w.alloc (.cells (actL a (.slice op a.pix.length dp) (.slice om a.mask.length dm)).toArray 28)) K (actL a (.slice op a.pix.length dp) (.slice om a.mask.length dm)).toArray 28 := Blk.new_at w _ _ hK
  have hc : Chg [] w (w.alloc (.cells (actL a (.slice op a.pix.length dp) (.slice om a.mask.length dm)).toArray 28)) := (Chg.refl [] w).alloc _
  have hf := fun w' (c : Chg [] w w') => first26 w' (hT.chg c).1
  have hsh := fun w' (c : Chg [] w w') => short_any a _ _ w' (hH.chg c)
  obtain ⟨b1, b2, b3, b4, b5⟩ := shortB_parts hs
  have hpr := fun w' (c : Chg [] w w') => print_all a _ _ w' (hT.chg c) (hH.pix.chg0 c) (hH.mask.chg0 c) (by omega) (by omega) (by omega) (by omega) (by omega) hH.ints
  have hrp := fun w' (c : Chg [] w w') => rprint_all a _ _ w' (hH.pix.chg0 c) (hH.mask.chg0 c) (by omega) (by omega) (by omega) (by omega) (by omega) hH.ints
  have hpl := fun w' => actplain_any a op om a.pix.length dp a.mask.length dm w'
  have hpa := fun w' (c : Chg [] w w') => parse_any s w' (hT.chg c) (by omega)
  have hra := fun w' => rparse_any s w' (by omega)
  have hpd : (printL a (picL a).1 (picL a).2) = prL a := rfl
  rw [hpd] at hpr
  rw [hs] at hsh
  generalize (prL a).1 = p1 at *
  generalize (prL a).2 = p2 at *
  have hsz := str_size s
  have t1 : decide (20000 < (s.length : Int)) = false := by simp; omega
  have t1' : decide (20000 < s.length) = false := by simp; omega
  have aTA : ArrTy Tryz.prog 28 (actL a (.slice op a.pix.length dp) (.slice om a.mask.length dm)).toArray.size := act_ty
  have HB := Lib.hid hc
  clear hc hs b1 b2 b3 b4 b5 hpd hH hsl hT
  unfold actV at hsh hpr hrp hpl ⊢
  go_enter Tryz.func3, Tryz.ntmps3
  go_wp2_with fail
  refine (hf _ HB.out).mono ?_
  rintro e w1 ⟨rfl, c1⟩
  have cw1 := HB.out.nil c1
  have hb1 := hbA.chg0 c1
  clear hbA c1
  go_wp2_with (with_reducible refine wpList_ldA rfl 28 _ rfl hb1 aTA rfl ?_)
  refine (hsh _ cw1).mono ?_
  rintro e w2 ⟨rfl, c2⟩
  have cw2 := cw1.nil c2
  have hb2 := hb1.chg0 c2
  clear hb1 c2 cw1 hsh
  go_wp2_with (with_reducible refine wpList_ldA rfl 28 _ rfl hb2 aTA rfl ?_)
  refine (hpr _ cw2).mono ?_
  rintro e w3 ⟨rfl, c3⟩
  have cw3 := cw2.nil c3
  have hb3 := hb2.chg0 c3
  clear hb2 c3 hpr cw2 t1 t1'
  go_wp2_with (with_reducible refine wpList_ldA rfl 28 _ rfl hb3 aTA rfl ?_)
  refine (hpl _).mono ?_
  rintro e w4 ⟨rfl, c4⟩
  have cw4 := cw3.nil c4
  clear hb3 c4 hpl cw3
  go_wp2_with fail
  refine (hrp _ cw4).mono ?_
  rintro e w5 ⟨rfl, c5⟩
  have cw5 := cw4.nil c5
  clear c5 hrp cw4
  go_wp2_with fail
  refine (hpa _ cw5).mono ?_
  rintro e w6 ⟨pvb, mvb, rfl, hR6, c6⟩
  have cw6 := cw5.nil c6
  clear c6 hpa cw5
  generalize (parseL s).1 = B at *
  generalize (parseL s).2 = er at *
  obtain ⟨o1, d1, rfl, -, -⟩ := hR6.pix.shape
  obtain ⟨o2, d2, rfl, -, -⟩ := hR6.mask.shape
  unfold actV at hra ⊢
  obtain ⟨P, hP⟩ : ∃ P, w6.heap.size = P := ⟨_, rfl⟩
  have hbP : Blk (w6.alloc (.cells (actL B (.slice o1 B.pix.length d1) (.slice o2 B.mask.length d2)).toArray 28)) P (actL B (.slice o1 B.pix.length d1) (.slice o2 B.mask.length d2)).toArray 28 := Blk.new_at w6 _ _ hP
  have c67 : Chg [] w6 (w6.alloc (.cells (actL B (.slice o1 B.pix.length d1) (.slice o2 B.mask.length d2)).toArray 28)) := (Chg.refl [] w6).alloc _
  have aTB : ArrTy Tryz.prog 28 (actL B (.slice o1 B.pix.length d1) (.slice o2 B.mask.length d2)).toArray.size := act_ty
  have cw7 := cw6.nil c67
  have hp7 := hR6.pix.chg0 c67
  have hm7 := hR6.mask.chg0 c67
  have HQ := Lib.hid (And.intro hbP (And.intro cw7 (And.intro hp7 hm7)))
  clear cw6 hR6 hbP c67 cw7 hp7 hm7 aTA
  unfold actL at *
  go_upto_region 8 with (fail)
  obtain ⟨hb7, cw7, hp7, hm7⟩ := HQ.out
  generalize (w6.alloc (.cells [Value.int .i64 B.kind, .int .i64 B.n, .int .i64 B.m, .string (str B.name), .string (str B.other), .string (str B.text), .int .i64 B.key, .int .i64 B.shp.w, .int .i64 B.shp.h, .int .i64 B.shp.c, .int .i64 B.shp.d, .slice o1 B.pix.length d1, .slice o2 B.mask.length d2].toArray 28)) = w7 at *
  clear HQ hP
  go_wp2_with fail
  refine (hra _).mono ?_
  rintro e w8 ⟨pvc, mvc, rfl, hR8, c8⟩
  have cw8 := cw7.nil c8
  have hp8 := hp7.chg0 c8
  have hm8 := hm7.chg0 c8
  have hb8 := hb7.chg0 c8
  clear c8 hra cw7 hp7 hm7 hb7
  obtain ⟨o3, d3, rfl, -, -⟩ := hR8.pix.shape
  obtain ⟨o4, d4, rfl, -, -⟩ := hR8.mask.shape
  obtain ⟨R, hR⟩ : ∃ P, w8.heap.size = P := ⟨_, rfl⟩
  have hb9 : Blk (w8.alloc (.cells [Value.int .i64 B.kind, .int .i64 B.n, .int .i64 B.m, .string (str B.name), .string (str B.other), .string (str B.text), .int .i64 B.key, .int .i64 B.shp.w, .int .i64 B.shp.h, .int .i64 B.shp.c, .int .i64 B.shp.d, .slice o3 B.pix.length d3, .slice o4 B.mask.length d4].toArray 35)) R [Value.int .i64 B.kind, .int .i64 B.n, .int .i64 B.m, .string (str B.name), .string (str B.other), .string (str B.text), .int .i64 B.key, .int .i64 B.shp.w, .int .i64 B.shp.h, .int .i64 B.shp.c, .int .i64 B.shp.d, .slice o3 B.pix.length d3, .slice o4 B.mask.length d4].toArray 35 := Blk.new_at w8 _ _ hR
  have c89 : Chg [] w8 (w8.alloc (.cells [Value.int .i64 B.kind, .int .i64 B.n, .int .i64 B.m, .string (str B.name), .string (str B.other), .string (str B.text), .int .i64 B.key, .int .i64 B.shp.w, .int .i64 B.shp.h, .int .i64 B.shp.c, .int .i64 B.shp.d, .slice o3 B.pix.length d3, .slice o4 B.mask.length d4].toArray 35)) := (Chg.refl [] w8).alloc _
  have aTC : ArrTy Tryz.prog 35 ([Value.int .i64 B.kind, .int .i64 B.n, .int .i64 B.m, .string (str B.name), .string (str B.other), .string (str B.text), .int .i64 B.key, .int .i64 B.shp.w, .int .i64 B.shp.h, .int .i64 B.shp.c, .int .i64 B.shp.d, .slice o3 B.pix.length d3, .slice o4 B.mask.length d4].toArray).size := ract_ty2
  have cw9 := cw8.nil c89
  have q1 := hR8.pix.chg0 c89
  have q2 := hR8.mask.chg0 c89
  have q3 := hp8.chg0 c89
  have q4 := hm8.chg0 c89
  have hbB := hb8.chg0 c89
  have HQ := Lib.hid (And.intro hb9 (And.intro cw9 (And.intro q1 (And.intro q2 (And.intro q3 (And.intro q4 hbB))))))
  clear cw8 hR8 hp8 hm8 hb8 hb9 c89 cw9 q1 q2 q3 q4 hbB
  go_upto_region 9 with (fail)
  obtain ⟨hb9, cw9, q1, q2, q3, q4, hbB⟩ := HQ.out
  generalize (w8.alloc (.cells [Value.int .i64 B.kind, .int .i64 B.n, .int .i64 B.m, .string (str B.name), .string (str B.other), .string (str B.text), .int .i64 B.key, .int .i64 B.shp.w, .int .i64 B.shp.h, .int .i64 B.shp.c, .int .i64 B.shp.d, .slice o3 B.pix.length d3, .slice o4 B.mask.length d4].toArray 35)) = w9 at *
  clear HQ hR
  have u1 : ((str p1).toList == (str p1).toList) = true := by simp
  have u2 : (p2 == p2) = true := by simp
  have u3 : (er == er) = true := by simp
  go_wp2_with fail
  refine (hf _ cw9).mono ?_
  rintro e w10 ⟨rfl, c10⟩
  have cw10 := cw9.nil c10
  have hbB10 := hbB.chg0 c10
  have hbC10 := hb9.chg0 c10
  have hsa := fun w' (c : Chg [] w10 w') => actsame_yes B _ _ _ _ w' ((q3.chg0 c10).chg0 c) ((q4.chg0 c10).chg0 c) ((q1.chg0 c10).chg0 c) ((q2.chg0 c10).chg0 c)
  clear q1 q2 q3 q4 hbB hb9 c10 cw9 hf
  unfold actV actL at hsa
  obtain ⟨⟨x0, x1, x2, x3, x4, x5, x6⟩, x7, x8, x9, x10, x11, x12⟩ := Blk13 (a := B) hbB10
  obtain ⟨⟨y0, y1, y2, y3, y4, y5, y6⟩, y7, y8, y9, y10, y11, y12⟩ := Blk13 (a := B) hbC10
  clear hbB10 hbC10
  go_wp2_with fail
  refine (hsa _ (Chg.refl _ _)).mono ?_
  rintro e w11 ⟨rfl, c11⟩
  go_wp2_with fail
  go_ret
  exact ⟨rfl, cw10.nil c11⟩
set_option maxRecDepth 100000 in
set_option maxHeartbeats 8000000 in
theorem slines_skip (a : ActD) (pv mv : Value) (s : List UInt8) {w : World} (hH : Handed w a pv mv) (hsl : s.length ≤ 9223372036854775807) (h : ¬ (shortB a = true ∧ s.length ≤ 20000)) (hT : Tabs2 w) :
    Calls Tryz.prog 3 #[actV a pv mv, .string (str s)] w fun e w' => e = .returned (.bool true) ∧ Chg [] w w' := by
  obtain ⟨K, hK⟩ : ∃ K, w.heap.size = K := ⟨_, rfl⟩
  obtain ⟨op, dp, rfl, -, -⟩ := hH.pix.shape
  obtain ⟨om, dm, rfl, -, -⟩ := hH.mask.shape
  have hbA : Blk (w.alloc (.cells (actL a (.slice op a.pix.length dp) (.slice om a.mask.length dm)).toArray 28)) K (actL a (.slice op a.pix.length dp) (.slice om a.mask.length dm)).toArray 28 := Blk.new_at w _ _ hK
  have hc : Chg [] w (w.alloc (.cells (actL a (.slice op a.pix.length dp) (.slice om a.mask.length dm)).toArray 28)) := (Chg.refl [] w).alloc _
  have hf := fun w' (c : Chg [] w w') => first26 w' (hT.chg c).1
  have hsh := fun w' (c : Chg [] w w') => short_any a _ _ w' (hH.chg c)
  have hsz := str_size s
  have aTA : ArrTy Tryz.prog 28 (actL a (.slice op a.pix.length dp) (.slice om a.mask.length dm)).toArray.size := act_ty
  have HB := Lib.hid hc
  clear hc hT hH
  unfold actV at hsh ⊢
  cases hs : shortB a with
  | false =>
    rw [hs] at hsh
    clear hs h
    go_enter Tryz.func3, Tryz.ntmps3
    go_wp2_with fail
    refine (hf _ HB.out).mono ?_
    rintro e w1 ⟨rfl, c1⟩
    have cw1 := HB.out.nil c1
    have hb1 := hbA.chg0 c1
    clear hbA c1
    go_wp2_with (with_reducible refine wpList_ldA rfl 28 _ rfl hb1 aTA rfl ?_)
    refine (hsh _ cw1).mono ?_
    rintro e w2 ⟨rfl, c2⟩
    have cw2 := cw1.nil c2
    clear hb1 c2
    go_wp2_with fail
    refine (hf _ cw2).mono ?_
    rintro e w4 ⟨rfl, c4⟩
    go_wp2_with fail
    go_ret
    exact ⟨rfl, cw2.nil c4⟩
  | true =>
    rw [hs] at hsh
    have hl : 20000 < s.length := by
      apply Nat.lt_of_not_le
      exact fun hh => h ⟨hs, hh⟩
    have t0 : decide (20000 < (s.length : Int)) = true := by simp; omega
    have t0' : decide (20000 < s.length) = true := by simp; omega
    clear hs h hl hsl
    go_enter Tryz.func3, Tryz.ntmps3
    go_wp2_with fail
    refine (hf _ HB.out).mono ?_
    rintro e w1 ⟨rfl, c1⟩
    have cw1 := HB.out.nil c1
    have hb1 := hbA.chg0 c1
    clear hbA c1
    go_wp2_with (with_reducible refine wpList_ldA rfl 28 _ rfl hb1 aTA rfl ?_)
    refine (hsh _ cw1).mono ?_
    rintro e w2 ⟨rfl, c2⟩
    have cw2 := cw1.nil c2
    clear hb1 c2
    go_wp2_with fail
    refine (hf _ cw2).mono ?_
    rintro e w4 ⟨rfl, c4⟩
    go_wp2_with fail
    go_ret
    exact ⟨rfl, cw2.nil c4⟩
theorem slines_walk (x : ActD × Value × Value) {w : World} (hH : Handed w x.1 x.2.1 x.2.2) (s : List UInt8) (hs : s.length ≤ 9223372036854775807) (hT : Tabs2 w) :
    Calls Tryz.prog 3 #[actV x.1 x.2.1 x.2.2, .string (str s)] w fun e w' => e = .returned (.bool true) ∧ Chg [] w w' := by
  by_cases h : shortB x.1 = true ∧ s.length ≤ 20000
  · exact slines_main x.1 _ _ s hH h.1 h.2 hT
  · exact slines_skip x.1 _ _ s hH hs h hT
end Go.Proofs.YtfammoidikdbpaaGreatDoor
