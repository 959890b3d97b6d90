/- Contracts of aquref.Shape, Raster against the picture of nothing, aquref24.kinds, hexed, Print. No statement of the seat is proved here. (Printed by gen_rprint.py.) -/
import Derived.Test.YtfammoidikdbpaaGreatDoorRefAll
import Derived.Test.YtfammoidikdbpaaGreatDoorRHex
import Derived.Test.YtfammoidikdbpaaGreatDoorRWordY
import Derived.Test.YtfammoidikdbpaaGreatDoorScrAll
set_option linter.unusedVariables false
set_option linter.unusedSimpArgs false
namespace Go.Proofs.YtfammoidikdbpaaGreatDoor
open Go.RowKit Go.Aq Go.Aq.Wd
set_option maxHeartbeats 2000000 in
theorem shape_zero (s : ShpD) (w : World) : Calls Tryz.prog 48 #[shpV s, shpV shpZ] w fun e w' => e = .returned (.bool (decide (s.w = 0 ∧ s.h = 0 ∧ s.c = 0 ∧ s.d = 0))) ∧ Chg [] w w' := by
  obtain ⟨a, b, c, d⟩ := s
  unfold shpV shpZ
  have hc : ∀ o o', Chg [] w ((w.alloc o).alloc o') := fun o o' => ((Chg.refl [] w).alloc o).alloc o'
  have HC := Lib.hid hc
  clear hc
  simp only
  go_enter Tryz.func48, Tryz.ntmps48
  go_wp2_with fail
  all_goals go_ret
  all_goals refine ⟨rb ?_, HC.out _ _⟩
  all_goals (try simp only [beq_iff_eq, beq_eq_false_iff_ne, ne_eq] at *)
  all_goals (rw [Bool.eq_iff_iff]; simp only [decide_eq_true_eq, beq_iff_eq, Bool.false_eq_true, true_iff, false_iff, iff_true, iff_false]; omega)
set_option maxHeartbeats 2000000 in
theorem raster_zero (s : ShpD) (va : Value) (na : Nat) (l : List UInt8) (w : World) (ha : Sees w 1 va na (Bs l)) :
    Calls Tryz.prog 20 #[rasV s va, rasV shpZ (.slice none 0 0)] w fun e w' => e = .returned (.bool (decide ((s.w = 0 ∧ s.h = 0 ∧ s.c = 0 ∧ s.d = 0) ∧ l = []))) ∧ Chg [] w w' := by
  obtain ⟨K, hK⟩ : ∃ K, w.heap.size = K := ⟨_, rfl⟩
  have hsh := fun w' => shape_zero s w'
  unfold rasV
  unfold shpV at hsh
  unfold shpZ at hsh ⊢
  simp only at hsh ⊢
  have hbA : Blk ((w.alloc (.cells #[.int .i64 s.w, .int .i64 s.h, .int .i64 s.c, .int .i64 s.d, va] 26)).alloc (.cells #[.int .i64 0, .int .i64 0, .int .i64 0, .int .i64 0, .slice none 0 0] 26)) K #[.int .i64 s.w, .int .i64 s.h, .int .i64 s.c, .int .i64 s.d, va] 26 := (Blk.new_at w _ _ hK).alloc _
  have hbB : Blk ((w.alloc (.cells #[.int .i64 s.w, .int .i64 s.h, .int .i64 s.c, .int .i64 s.d, va] 26)).alloc (.cells #[.int .i64 0, .int .i64 0, .int .i64 0, .int .i64 0, .slice none 0 0] 26)) (K + 1) #[.int .i64 0, .int .i64 0, .int .i64 0, .int .i64 0, .slice none 0 0] 26 := Blk.new_at _ _ _ (by simp [hK])
  have hc : Chg [] w ((w.alloc (.cells #[.int .i64 s.w, .int .i64 s.h, .int .i64 s.c, .int .i64 s.d, va] 26)).alloc (.cells #[.int .i64 0, .int .i64 0, .int .i64 0, .int .i64 0, .slice none 0 0] 26)) := ((Chg.refl [] w).alloc _).alloc _
  by_cases hz : s.w = 0 ∧ s.h = 0 ∧ s.c = 0 ∧ s.d = 0
  · rw [decide_eq_true hz] at hsh
    have HZ : Hid (decide ((s.w = 0 ∧ s.h = 0 ∧ s.c = 0 ∧ s.d = 0) ∧ l = []) = decide (l = [])) := by
      show _ = _
      rw [Bool.eq_iff_iff, decide_eq_true_eq, decide_eq_true_eq]
      exact ⟨fun h => h.2, fun h => ⟨hz, h⟩⟩
    clear hz
    go_enter Tryz.func20, Tryz.ntmps20
    go_wp2_with fail
    generalize ((w.alloc (.cells #[.int .i64 s.w, .int .i64 s.h, .int .i64 s.c, .int .i64 s.d, va] 26)).alloc (.cells #[.int .i64 0, .int .i64 0, .int .i64 0, .int .i64 0, .slice none 0 0] 26)) = w1 at *
    refine (hsh _).mono ?_
    rintro e w2 ⟨rfl, c2⟩
    obtain ⟨x0, x1, x2, x3, x4⟩ := Blk5 (hbA.chg0 c2)
    obtain ⟨y0, y1, y2, y3, y4⟩ := Blk5 (hbB.chg0 c2)
    have hc2 := hc.nil c2
    have hsm := same_any w2 va (.slice none 0 0) na 0 l [] (ha.chg0 hc2) (Sees.nil _ _)
    clear hbA hbB hc c2 hsh ha
    go_wp2_with fail
    refine hsm.mono ?_
    rintro e w3 ⟨rfl, rfl⟩
    go_wp2_with fail
    go_ret
    exact ⟨by rw [HZ.out]; rfl, hc2⟩
  · rw [decide_eq_false hz] at hsh
    have HZ : Hid (decide ((s.w = 0 ∧ s.h = 0 ∧ s.c = 0 ∧ s.d = 0) ∧ l = []) = false) := decide_eq_false fun h => hz h.1
    clear hz
    go_enter Tryz.func20, Tryz.ntmps20
    go_wp2_with fail
    generalize ((w.alloc (.cells #[.int .i64 s.w, .int .i64 s.h, .int .i64 s.c, .int .i64 s.d, va] 26)).alloc (.cells #[.int .i64 0, .int .i64 0, .int .i64 0, .int .i64 0, .slice none 0 0] 26)) = w1 at *
    refine (hsh _).mono ?_
    rintro e w2 ⟨rfl, c2⟩
    have hc2 := hc.nil c2
    clear hbA hbB hc c2 hsh ha
    go_wp2_with fail
    go_ret
    exact ⟨by rw [HZ.out]; rfl, hc2⟩
theorem rkinds_any (w : World) : Calls Tryz.prog 21 #[] w fun e w' => e = .returned (.slice (some ⟨w.heap.size, 0, none⟩) 14 14) ∧ Blk w' w.heap.size (Ss kindL).toArray 9 ∧ Chg [] w w' := by
  have hb := Blk.new w (Ss kindL).toArray 9
  have hc := (Chg.refl [] w).alloc (.cells (Ss kindL).toArray 9)
  have HB := Lib.hid (And.intro hb hc)
  clear hb hc
  go_enter Tryz.func21, Tryz.ntmps21
  go_wp2_with fail
  go_ret
  exact ⟨rfl, HB.out⟩
theorem rhexed_any (w : World) (v : Value) (n : Nat) (b : List UInt8) (hv : Sees w 1 v n (Bs b)) (hn : n ≤ 1000000) :
    Calls Tryz.prog 23 #[v] w fun e w' => e = .returned (.string (str (digitsL b))) ∧ Chg [] w w' := by
  have hbl : b.length = n := by have := hv.len; rw [Bs_length] at this; omega
  have hh := refHex_any w v n b hv hn
  obtain ⟨ao, cap, rfl, hcap, hnil⟩ := hv.shape
  by_cases h0 : b = []
  · have hd : digitsL b = [45] := if_pos h0
    have hn0 : n = 0 := by rw [← hbl, h0]; rfl
    subst hn0
    rw [hd]
    clear hh hd h0 hv hbl
    go_enter Tryz.func23, Tryz.ntmps23
    go_wp2_with fail
    go_ret
    exact ⟨rfl, Chg.refl _ _⟩
  · have hd : digitsL b = hexL b := if_neg h0
    have hn0 : n ≠ 0 := fun e => h0 (List.eq_nil_of_length_eq_zero (by omega))
    have t0 : ((n : Int) == 0) = false := by simpa using hn0
    have t0' : (n == 0) = false := by simpa using hn0
    rw [hd]
    clear hd h0 hv hbl hn0
    go_enter Tryz.func23, Tryz.ntmps23
    go_wp2_with fail
    refine hh.mono ?_
    rintro e w1 ⟨rfl, c1⟩
    go_wp2_with fail
    go_ret
    exact ⟨rfl, c1⟩
set_option maxRecDepth 100000 in
set_option maxHeartbeats 4000000 in
theorem rprint_kind (a : ActD) (pv mv : Value) (w : World) (pl : List UInt8) (pe : Int) (hk : ¬ (1 ≤ a.kind ∧ a.kind ≤ 14)) :
    Calls Tryz.prog 7 #[actV a pv mv] w fun e w' => e = .returned (.tuple #[.string (str (printL a pl pe).1), .int .i64 (printL a pl pe).2]) ∧ Chg [] w w' := by
  obtain ⟨K, hK⟩ : ∃ K, w.heap.size = K := ⟨_, rfl⟩
  have hbA : Blk (w.alloc (.cells (actL a pv mv).toArray 35)) K (actL a pv mv).toArray 35 := Blk.new_at w _ _ hK
  have hc : Chg [] w (w.alloc (.cells (actL a pv mv).toArray 35)) := (Chg.refl [] w).alloc _
  obtain ⟨⟨x0, x1, x2, x3, x4, x5, x6⟩, x7, x8, x9, x10, x11, x12⟩ := Blk13 hbA
  have hpr : printL a pl pe = ([], 4) := by unfold printL; rw [if_pos hk]
  rw [hpr]
  have HC := Lib.hid hc
  clear hbA hc hpr x1 x2 x3 x4 x5 x6 x7 x8 x9 x10 x11 x12
  unfold actV
  by_cases h1 : a.kind < 1
  · have t1 : decide (a.kind < 1) = true := by simp; omega
    clear hk h1
    go_enter Tryz.func7, Tryz.ntmps7
    go_wp2_with fail
    go_ret2
    exact ⟨rfl, HC.out⟩
  · have t1 : decide (a.kind < 1) = false := by simp; omega
    have t2 : decide (14 < a.kind) = true := by simp; omega
    clear hk h1
    go_enter Tryz.func7, Tryz.ntmps7
    go_wp2_with fail
    go_ret2
    exact ⟨rfl, HC.out⟩
theorem catT {A B C : List UInt8} (h : A ++ B = C) (hb : A.length + B.length ≤ 9223372036854775807) (w : World) : (Op.stringOp .add (str A) (str B)).run Tryz.prog w = .ok (.string (str C)) w := run_catD (by rw [str_app, h]) (by rw [str_size, str_size]; exact hb) w
theorem catB {A C : List UInt8} (h : A ++ [32] = C) (hb : A.length + 1 ≤ 9223372036854775807) (w : World) : (Op.stringOp .add (str A) ⟨#[32]⟩).run Tryz.prog w = .ok (.string (str C)) w := catT h hb w
/-- What the last region puts together. -/
def JoinR (k n m c q0 q1 q2 p mk : List UInt8) : List UInt8 := k ++ [32] ++ n ++ [32] ++ m ++ [32] ++ c ++ [32] ++ q0 ++ [32] ++ q1 ++ [32] ++ q2 ++ [32] ++ p ++ [32] ++ mk
theorem joinR_eq (k n m c q0 q1 q2 p mk : List UInt8) : JoinR k n m c q0 q1 q2 p mk = joinB [k, n, m, c, q0, q1, q2, p, mk] := by
  simp [JoinR, joinB, List.append_assoc]
theorem ract_ty2 : ArrTy Tryz.prog 35 13 := ⟨⟨_, Tryz.underlying35, rfl⟩, by kernel_rfl⟩
set_option maxRecDepth 100000 in
set_option maxHeartbeats 8000000 in
theorem rprint_good (a : ActD) (pv mv : Value) (w : World) (k : Nat) (hk : k < 14) (hak : a.kind = (k : Int) + 1)
    (hp : Sees w 1 pv a.pix.length (Bs a.pix)) (hm : Sees w 1 mv a.mask.length (Bs a.mask)) (h1 : a.name.length ≤ 100000000) (h2 : a.other.length ≤ 100000000) (h3 : a.text.length ≤ 100000000) (h4 : a.pix.length ≤ 400000) (h5 : a.mask.length ≤ 1000000)
    (hr : ∀ n, n = a.n ∨ n = a.m ∨ n = a.key → -9223372036854775808 ≤ n ∧ n ≤ 9223372036854775807) :
    Calls Tryz.prog 7 #[actV a pv mv] w fun e w' => e = .returned (.tuple #[.string (str (prL a).1), .int .i64 (prL a).2]) ∧ Chg [] w w' := by
  obtain ⟨K, hK⟩ : ∃ K, w.heap.size = K := ⟨_, rfl⟩
  obtain ⟨po, pc, rfl, hpcap, -⟩ := hp.shape
  obtain ⟨mo, mc, rfl, hmcap, -⟩ := hm.shape
  have hbA : Blk (w.alloc (.cells (actL a (.slice po a.pix.length pc) (.slice mo a.mask.length mc)).toArray 35)) K (actL a (.slice po a.pix.length pc) (.slice mo a.mask.length mc)).toArray 35 := Blk.new_at w _ _ hK
  have hc : Chg [] w (w.alloc (.cells (actL a (.slice po a.pix.length pc) (.slice mo a.mask.length mc)).toArray 35)) := (Chg.refl [] w).alloc _
  obtain ⟨⟨x0, x1, x2, x3, x4, x5, x6⟩, x7, x8, x9, x10, x11, x12⟩ := Blk13 hbA
  have t1 : decide (a.kind < 1) = false := by simp; omega
  have t2 : decide (14 < a.kind) = false := by simp; omega
  have HS := Lib.hid (And.intro hp (And.intro hm (And.intro h1 (And.intro h2 (And.intro h3 (And.intro h4 (And.intro h5 (And.intro hak hr))))))))
  obtain ⟨K5, hK5⟩ : ∃ K5, (w.alloc (.cells (actL a (.slice po a.pix.length pc) (.slice mo a.mask.length mc)).toArray 35)).heap.size = K5 := ⟨_, rfl⟩
  have hb5 : Blk ((w.alloc (.cells (actL a (.slice po a.pix.length pc) (.slice mo a.mask.length mc)).toArray 35)).alloc (.cells (Ss [a.name, a.other, a.text]).toArray 9)) K5 (Ss [a.name, a.other, a.text]).toArray 9 := Blk.new_at _ _ _ hK5
  have hbA5 := hbA.alloc (.cells (Ss [a.name, a.other, a.text]).toArray 9)
  have hc5 := hc.alloc (.cells (Ss [a.name, a.other, a.text]).toArray 9)
  have hf0 : Fresh w _ 9 1 (.slice none 0 0) 0 [] := (Fresh.nil w 9 1).to hc5
  have hKK : K < K5 := by rw [← hK5]; simp [hK]
  have HW := Lib.hid (And.intro hb5 (And.intro hbA5 (And.intro hc5 (And.intro hf0 hKK))))
  clear hbA hc hp hm h1 h2 h3 h4 h5 hak hb5 hbA5 hc5 hf0 hKK x7 x8 x9 x10 x11 x12 hpcap hmcap hr
  unfold actV
  go_enter Tryz.func7, Tryz.ntmps7
  go_wp2_with fail
  clear x0 x1 x2 x3 x4 x5 x6 t1 t2
  go_loopg [4, 27] 3 (fun kk v4 v27 wr => ∃ (i : Nat), i + kk = 3 ∧ v27 = .int .i64 i ∧ Fresh w wr 9 1 v4 i (Ss (([a.name, a.other, a.text].take i).map fun x => (quoteL x).1)) ∧ (∀ x ∈ [a.name, a.other, a.text].take i, (quoteL x).2 = 0) ∧
    Blk wr K5 (Ss [a.name, a.other, a.text]).toArray 9 ∧ Blk wr K (actL a (.slice po a.pix.length pc) (.slice mo a.mask.length mc)).toArray 35 ∧ K5 ∉ v4.ownBlock.toList)
  case atStart => exact ⟨0, by omega, rfl, HW.out.2.2.2.1, by simp, HW.out.1, HW.out.2.1, by simp [Value.ownBlock]⟩
  case round =>
    obtain ⟨i, hi, rfl, hF, hq, hb5, hbA, hne⟩ := hrel
    generalize hnm : [a.name, a.other, a.text] = nm at *
    have hl3 : nm.length = 3 := by rw [← hnm]; rfl
    have hlq : ((nm.take i).map fun x => (quoteL x).1).length = i := by rw [List.length_map, List.length_take]; omega
    by_cases h3 : i < 3
    · have t1 : decide ((i : Int) < 3) = true := by simp; omega
      have t1' : decide (i < 3) = true := by simp; omega
      have hil : i < nm.length := by omega
      have hyl : (nm[i]).length ≤ 1000000000 := by
        have hm : nm[i] ∈ [a.name, a.other, a.text] := by rw [hnm]; exact List.getElem_mem hil
        obtain ⟨-, -, a1, a2, a3, -⟩ := HS.out
        rcases List.mem_cons.1 hm with h | hm
        · simp only [h]; omega
        · rcases List.mem_cons.1 hm with h | hm
          · simp only [h]; omega
          · simp only [List.mem_singleton] at hm; simp only [hm]; omega
      have m5 : wr.cell? ⟨K5, i, none⟩ = some (.string (str nm[i])) := by
        rw [hb5.cell, Array.getElem?_eq_getElem (by simpa [Ss] using hil)]
        simp [Ss]
      have hts := List.take_succ_eq_append_getElem hil
      have hmem : nm[i] ∈ nm := List.getElem_mem hil
      generalize nm[i] = y at *
      have hqa := rquote_any y wr hyl
      obtain ⟨q1, hq1⟩ : ∃ q, (quoteL y).1 = q := ⟨_, rfl⟩
      obtain ⟨ao, cap, rfl, hcap⟩ := hF.shape
      have hi3i : (i : Int) < 3 := by omega
      have HR := Lib.hid (And.intro hi (And.intro hF (And.intro hq (And.intro hb5 (And.intro hbA (And.intro hne (And.intro hts (And.intro hmem (And.intro hnm h3)))))))))
      by_cases hz : (quoteL y).2 = 0
      · rw [hz, hq1] at hqa
        have HZ := Lib.hid (And.intro hz hq1)
        have hF0 := hF
        clear hi hF hq hb5 hbA hne hts hmem hnm h3 hz hq1 hlq hil hl3 hyl
        go_wp2_with fail
        refine hqa.mono ?_
        rintro e w6 ⟨rfl, c6⟩
        have hO6 := (hF0.to c6).own
        clear hqa hF0 m5
        have hi4 : i ≤ 3 := by omega
        go_wp2_with (at_builtin; refine wpList_app (v := .slice ao i cap) rfl _ _ 43 rfl sl_str (by exact hO6.alloc (.cells #[.string (str q1)] 9)) rfl (Sees.blk (cs := #[.string (str q1)]) (by exact Blk.new w6 _ 9)) rfl (by simp [Value.oneCell']) (by omega) (by omega) ?_; intro v7 w7 hO7 c7 n7)
        go_roundg (gk - 1)
        case measure => obtain ⟨a1, -, -, -, -, -, -, -, -, a2⟩ := HR.out; omega
        case rel =>
          obtain ⟨hi, hF, hq, hb5, hbA, hne, hts, hmem, hnm, h3⟩ := HR.out
          obtain ⟨hz, hq1⟩ := HZ.out
          have c67 := c6.alloc (.cells #[.string (str q1)] 9)
          have hF7 := (hF.to c67).app hO7 c7 n7
          have hb6 := hb5.chg0 c67
          refine ⟨i + 1, by omega, by go_num, ?_, ?_, hb6.chg c7 hne, (hbA.chg0 c67).chg c7 (Own.ne (hF.to c67).own (hbA.chg0 c67) (by decide)), fun hk => ?_⟩
          · have e : Ss ((nm.take (i + 1)).map fun x => (quoteL x).1) = Ss ((nm.take i).map fun x => (quoteL x).1) ++ #[Value.string (str q1)].toList := by
              rw [hts, List.map_append, Ss_append, List.map_singleton, hq1]; rfl
            rw [e]
            exact hF7
          · intro x hx
            rw [hts] at hx
            rcases List.mem_append.1 hx with hx | hx
            · exact hq x hx
            · simp only [List.mem_singleton] at hx; rw [hx]; exact hz
          · rcases n7 _ hk with h | h
            · exact hne h
            · have := hb6.lt; omega
      · have hqe := quoteL_err y hz
        have hpr : prL a = ([], 4) := by
          have hak := HS.out.2.2.2.2.2.2.2.1
          unfold prL printL
          rw [if_neg (by omega), if_pos ⟨y, by rw [hnm]; exact hmem, hz⟩]
        have HPR := Lib.hid hpr
        rw [hqe] at hqa
        have hF0 := hF.chg
        clear hi hF hq hb5 hbA hne hts hmem hnm h3 hz hq1 hlq hil hl3 hyl hpr hqe
        go_wp2_with fail
        refine hqa.mono ?_
        rintro e w6 ⟨rfl, c6⟩
        go_wp2_with fail
        go_ret2
        rw [HPR.out]
        exact ⟨rfl, hF0.nil c6⟩
    · have t1 : decide ((i : Int) < 3) = false := by simp; omega
      have t1' : decide (i < 3) = false := by simp; omega
      have hti : nm.take i = nm := List.take_of_length_le (by omega)
      rw [hti] at hF hq
      have hi3 : i = 3 := by omega
      rw [hi3] at hF
      have hsw := hF.own.sees
      obtain ⟨gq, oq, cq, hv4, hcq, hcell⟩ := hsw.at1 (by decide)
      subst hv4
      have hnq : Ss (nm.map fun x => (quoteL x).1) = [.string (str (quoteL a.name).1), .string (str (quoteL a.other).1), .string (str (quoteL a.text).1)] := by rw [← hnm]; rfl
      rw [hnq] at hcell
      have z0 : wr.cell? ⟨gq, oq, none⟩ = some (.string (str (quoteL a.name).1)) := hcell 0 (by decide)
      have z1 : wr.cell? ⟨gq, oq + 1, none⟩ = some (.string (str (quoteL a.other).1)) := hcell 1 (by decide)
      have z2 : wr.cell? ⟨gq, oq + 2, none⟩ = some (.string (str (quoteL a.text).1)) := hcell 2 (by decide)
      have hall : ¬ ∃ x ∈ [a.name, a.other, a.text], (quoteL x).2 ≠ 0 := fun ⟨x, hx, h⟩ => h (hq x (by rw [← hnm]; exact hx))
      obtain ⟨⟨x0, x1, x2, -, -, -, x6⟩, x7, x8, x9, x10, x11, x12⟩ := Blk13 hbA
      have hrn := HS.out.2.2.2.2.2.2.2.2
      have dN := fun w' => rdec_any a.n (hrn _ (.inl rfl)) w'
      have dM := fun w' => rdec_any a.m (hrn _ (.inr (.inl rfl))) w'
      have dC := fun w' => rdec_any a.key (hrn _ (.inr (.inr rfl))) w'
      have hpx := HS.out.1.chg0 hF.chg
      have hmx := HS.out.2.1.chg0 hF.chg
      have hen := rencode_pix a.shp _ a.pix wr hpx (by have := HS.out.2.2.2.2.2.1; omega)
      have hak := HS.out.2.2.2.2.2.2.2.1
      have k3 : a.kind - 1 = (k : Int) := by omega
      have k14 : (k : Int) < 14 := by omega
      have hkn : ¬ ¬ (1 ≤ a.kind ∧ a.kind ≤ 14) := by omega
      have bk : -9223372036854775808 ≤ (k : Int) ∧ (k : Int) ≤ 9223372036854775807 := by omega
      have hel : (encPL a.shp a.pix).1.length ≤ 400007 := by
        have := HS.out.2.2.2.2.2.1
        unfold encPL; split
        · rw [encP_len]; omega
        · simp
      have hml := HS.out.2.2.2.2.2.2.1
      -- the texts, put together
      obtain ⟨kd, hkd⟩ : ∃ kd, kindL.getD k [] = kd := ⟨_, rfl⟩
      have lk : kd.length ≤ 8 := by rw [← hkd]; exact kind_len k
      have l1 := Lib.itoa_length_le a.n (hrn _ (.inl rfl)).1 (hrn _ (.inl rfl)).2
      have l2 := Lib.itoa_length_le a.m (hrn _ (.inr (.inl rfl))).1 (hrn _ (.inr (.inl rfl))).2
      have l3 := Lib.itoa_length_le a.key (hrn _ (.inr (.inr rfl))).1 (hrn _ (.inr (.inr rfl))).2
      have l4 := quoteL_len a.name
      have l5 := quoteL_len a.other
      have l6 := quoteL_len a.text
      have b4 := HS.out.2.2.1
      have b5 := HS.out.2.2.2.1
      have b6 := HS.out.2.2.2.2.1
      have dg : ∀ b : List UInt8, b.length ≤ 1000000 → (digitsL b).length ≤ 2000001 := by
        intro b hb
        unfold digitsL
        split
        · simp
        · rw [hexL_length]; omega
      have l7 := dg (encPL a.shp a.pix).1 (by omega)
      have l8 := dg a.mask hml
      have HG : ∀ (E : List UInt8), (digitsL E).length ≤ 2000001 → (∀ x ∈ [a.name, a.other, a.text], (quoteL x).2 = 0) → picL a = (digitsL E, 0) → prL a = (JoinR kd (Lib.itoa a.n) (Lib.itoa a.m) (Lib.itoa a.key) (quoteL a.name).1 (quoteL a.other).1 (quoteL a.text).1 (digitsL E) (digitsL a.mask), 0) := by
        intro E _ hq' hpe
        rw [joinR_eq]
        unfold prL printL
        rw [if_neg hkn, if_neg hall, hpe, if_neg (by simp), k3]
        simp only [Int.toNat_natCast, hkd]
        rfl
      have hq3 : ∀ x ∈ [a.name, a.other, a.text], (quoteL x).2 = 0 := fun x hx => hq x (by rw [← hnm]; exact hx)
      have HGG := Lib.hid (And.intro HG hq3)
      have hpz : picL a = if a.shp.w = 0 ∧ a.shp.h = 0 ∧ a.shp.c = 0 ∧ a.shp.d = 0 ∧ a.pix.length = 0 then ([45], 0) else (digitsL (encPL a.shp a.pix).1, (encPL a.shp a.pix).2) := rfl
      have hp4 : (encPL a.shp a.pix).2 ≠ 0 → encPL a.shp a.pix = ([], 4) := by
        unfold encPL
        split
        · intro h; exact absurd rfl h
        · intro _; rfl
      have hz0 : a.shp.w = 0 ∧ a.shp.h = 0 ∧ a.shp.c = 0 ∧ a.shp.d = 0 ∧ a.pix.length = 0 → (encPL a.shp a.pix).2 ≠ 0 := by
        rintro ⟨e1, -⟩ h
        unfold encPL mayPix maySh at h
        split at h
        · rename_i hm
          simp only [Bool.and_eq_true] at hm
          have := (numsB_iff a.shp).1 hm.1.1
          omega
        · exact absurd h (by decide)
      have hpr4 : picL a = ([], 4) ∨ (picL a).2 = 4 → prL a = ([], 4) := by
        intro h
        have h4 : (picL a).2 = 4 := by rcases h with h | h; rw [h]; exact h
        unfold prL printL
        rw [if_neg hkn, if_neg hall, h4, if_pos (by decide)]
      have HPZ := Lib.hid (And.intro hpz (And.intro hp4 (And.intro hz0 hpr4)))
      have hFc := hF.chg
      have hzr := fun w' (c : Chg [] wr w') => raster_zero a.shp _ _ a.pix w' (hpx.chg0 c)
      have hmxx := fun w' (c : Chg [] wr w') => rhexed_any w' _ _ a.mask (hmx.chg0 c) hml
      have L1' := Lib.hid (And.intro l1 (And.intro l2 (And.intro l3 (And.intro l4 (And.intro l5 (And.intro l6 (And.intro l8 (And.intro b4 (And.intro b5 (And.intro b6 lk))))))))))
      have HL7 := Lib.hid (And.intro l7 hel)
      have k1 : IntKind.i64.wrap (a.kind - 1) = (k : Int) := by rw [hak, Int.add_sub_cancel]; exact wrapI _ bk
      have k2 : wrap64 (a.kind - 1) = (k : Int) := by rw [hak, Int.add_sub_cancel]; exact w64 _ bk
      have k4 : IntKind.i64.wrap (k : Int) = (k : Int) := wrapI _ bk
      have k5 : wrap64 (k : Int) = (k : Int) := w64 _ bk
      clear hkn bk hi hF hq hb5 hne hnm h3 hlq hl3 hti hall hrn hpx hmx hak hel hml lk l1 l2 l3 l4 l5 l6 l7 l8 b4 b5 b6 dg HG hq3 hpz hp4 hz0 hpr4 hsw hcell hnq hi3 hcq
      generalize Lib.itoa a.n = tN at *
      generalize Lib.itoa a.m = tM at *
      generalize Lib.itoa a.key = tC at *
      generalize (quoteL a.name).1 = q0 at *
      generalize (quoteL a.other).1 = q1 at *
      generalize (quoteL a.text).1 = q2 at *
      have HBA := Lib.hid hbA
      clear hbA
      unfold rasV at hen hzr
      by_cases he : (encPL a.shp a.pix).2 = 0
      · rw [he] at hen
        have hpl : picL a = (digitsL (encPL a.shp a.pix).1, 0) := by
          rw [HPZ.out.1, if_neg (fun h => HPZ.out.2.2.1 h he), he]
        have hPR := HGG.out.1 _ HL7.out.1 HGG.out.2 hpl
        have l7 := HL7.out.1
        have hel := HL7.out.2
        generalize (encPL a.shp a.pix).1 = E at *
        clear hpl he hzr
        go_wp2_with fail
        refine hen.mono ?_
        rintro e w6 ⟨v6, rfl, hs6, -, c6⟩
        obtain ⟨eo, ec, rfl, -, -⟩ := hs6.shape
        have z0 := c6.cell_some z0 (by simp)
        have z1 := c6.cell_some z1 (by simp)
        have z2 := c6.cell_some z2 (by simp)
        have x0 := c6.cell_some x0 (by simp)
        have x1 := c6.cell_some x1 (by simp)
        have x2 := c6.cell_some x2 (by simp)
        have x6 := c6.cell_some x6 (by simp)
        have x12 := c6.cell_some x12 (by simp)
        have hxP := fun w' (c : Chg [] w6 w') => rhexed_any w' _ _ E (hs6.chg0 c) (by omega)
        have hxM := fun w' (c : Chg [] w6 w') => hmxx w' (c6.nil c)
        have cw6 := hFc.nil c6
        have HP0 := Lib.hid hPR
        clear hen hs6 c6 x7 x8 x9 x10 x11 hPR hel hmxx
        go_upto_region 15 with (fail)
        obtain ⟨dP, hdP⟩ : ∃ d, digitsL E = d := ⟨_, rfl⟩
        obtain ⟨dK, hdK⟩ : ∃ d, digitsL a.mask = d := ⟨_, rfl⟩
        obtain ⟨i1, i2, i3, i4, i5, i6, i8, b4, b5, b6, i0⟩ := L1'.out
        rw [hdK] at i8 hxM
        rw [hdP] at l7 hxP
        have jl : kd.length ≤ 3000000000 := by omega
        have g0 : kd.length ≤ 100 := by omega
        obtain ⟨T1, e1⟩ : ∃ T, kd ++ [32] = T := ⟨_, rfl⟩
        have g1 : T1.length = kd.length + 1 := by rw [← e1, List.length_append]; rfl
        have C1 := Lib.hid (fun w => catB e1 (by omega) w)
        obtain ⟨T2, e2⟩ : ∃ T, T1 ++ tN = T := ⟨_, rfl⟩
        have g2 : T2.length = T1.length + tN.length := by rw [← e2, List.length_append]
        have C2 := Lib.hid (fun w => catT e2 (by omega) w)
        obtain ⟨T3, e3⟩ : ∃ T, T2 ++ [32] = T := ⟨_, rfl⟩
        have g3 : T3.length = T2.length + 1 := by rw [← e3, List.length_append]; rfl
        have C3 := Lib.hid (fun w => catB e3 (by omega) w)
        obtain ⟨T4, e4⟩ : ∃ T, T3 ++ tM = T := ⟨_, rfl⟩
        have g4 : T4.length = T3.length + tM.length := by rw [← e4, List.length_append]
        have C4 := Lib.hid (fun w => catT e4 (by omega) w)
        obtain ⟨T5, e5⟩ : ∃ T, T4 ++ [32] = T := ⟨_, rfl⟩
        have g5 : T5.length = T4.length + 1 := by rw [← e5, List.length_append]; rfl
        have C5 := Lib.hid (fun w => catB e5 (by omega) w)
        obtain ⟨T6, e6⟩ : ∃ T, T5 ++ tC = T := ⟨_, rfl⟩
        have g6 : T6.length = T5.length + tC.length := by rw [← e6, List.length_append]
        have C6 := Lib.hid (fun w => catT e6 (by omega) w)
        obtain ⟨T7, e7⟩ : ∃ T, T6 ++ [32] = T := ⟨_, rfl⟩
        have g7 : T7.length = T6.length + 1 := by rw [← e7, List.length_append]; rfl
        have C7 := Lib.hid (fun w => catB e7 (by omega) w)
        obtain ⟨T8, e8⟩ : ∃ T, T7 ++ q0 = T := ⟨_, rfl⟩
        have g8 : T8.length = T7.length + q0.length := by rw [← e8, List.length_append]
        have C8 := Lib.hid (fun w => catT e8 (by omega) w)
        obtain ⟨T9, e9⟩ : ∃ T, T8 ++ [32] = T := ⟨_, rfl⟩
        have g9 : T9.length = T8.length + 1 := by rw [← e9, List.length_append]; rfl
        have C9 := Lib.hid (fun w => catB e9 (by omega) w)
        obtain ⟨T10, e10⟩ : ∃ T, T9 ++ q1 = T := ⟨_, rfl⟩
        have g10 : T10.length = T9.length + q1.length := by rw [← e10, List.length_append]
        have C10 := Lib.hid (fun w => catT e10 (by omega) w)
        obtain ⟨T11, e11⟩ : ∃ T, T10 ++ [32] = T := ⟨_, rfl⟩
        have g11 : T11.length = T10.length + 1 := by rw [← e11, List.length_append]; rfl
        have C11 := Lib.hid (fun w => catB e11 (by omega) w)
        obtain ⟨T12, e12⟩ : ∃ T, T11 ++ q2 = T := ⟨_, rfl⟩
        have g12 : T12.length = T11.length + q2.length := by rw [← e12, List.length_append]
        have C12 := Lib.hid (fun w => catT e12 (by omega) w)
        obtain ⟨T13, e13⟩ : ∃ T, T12 ++ [32] = T := ⟨_, rfl⟩
        have g13 : T13.length = T12.length + 1 := by rw [← e13, List.length_append]; rfl
        have C13 := Lib.hid (fun w => catB e13 (by omega) w)
        obtain ⟨T14, e14⟩ : ∃ T, T13 ++ dP = T := ⟨_, rfl⟩
        have g14 : T14.length = T13.length + dP.length := by rw [← e14, List.length_append]
        have C14 := Lib.hid (fun w => catT e14 (by omega) w)
        obtain ⟨T15, e15⟩ : ∃ T, T14 ++ [32] = T := ⟨_, rfl⟩
        have g15 : T15.length = T14.length + 1 := by rw [← e15, List.length_append]; rfl
        have C15 := Lib.hid (fun w => catB e15 (by omega) w)
        obtain ⟨T16, e16⟩ : ∃ T, T15 ++ dK = T := ⟨_, rfl⟩
        have g16 : T16.length = T15.length + dK.length := by rw [← e16, List.length_append]
        have C16 := Lib.hid (fun w => catT e16 (by omega) w)
        have hT : JoinR kd tN tM tC q0 q1 q2 dP dK = T16 := by unfold JoinR; rw [e1, e2, e3, e4, e5, e6, e7, e8, e9, e10, e11, e12, e13, e14, e15, e16]
        have HT := Lib.hid hT
        have HDD := Lib.hid (And.intro hdP hdK)
        clear e1 g1 e2 g2 e3 g3 e4 g4 e5 g5 e6 g6 e7 g7 e8 g8 e9 g9 e10 g10 e11 g11 e12 g12 e13 g13 e14 g14 e15 g15 e16 g16 hT jl g0 i0 i1 i2 i3 i4 i5 i6 i8 l7 b4 b5 b6 hdP hdK
        refine wp_region_T (by kernel_rfl) ?_
        refine wpAnyT_take 1 (v := (.pointer (some ⟨K, 0, none⟩))) rfl (by kernel_rfl) (by kernel_rfl) (by kernel_rfl) (fun _ _ _ h => h) (by rfl) (fun w4 c4 => ?_) ?_
        · go_simp
        try simp only [Act.put, List.getElem_toArray, List.getElem_cons_succ, List.getElem_cons_zero, List.setIfInBounds_toArray, List.set_cons_zero, List.set_cons_succ]
        refine wpAnyT_take 2 (v := (.int .i64 a.kind)) rfl (by kernel_rfl) (by kernel_rfl) (by kernel_rfl) (fun _ _ _ h => h) (by rfl) (fun w4 c4 => ?_) ?_
        · have zz := c4.cell_some x0 (by simp)
          go_simp
        try simp only [Act.put, List.getElem_toArray, List.getElem_cons_succ, List.getElem_cons_zero, List.setIfInBounds_toArray, List.set_cons_zero, List.set_cons_succ]
        refine wpAnyT_take 3 (v := (.int .i64 (k : Int))) rfl (by kernel_rfl) (by kernel_rfl) (by kernel_rfl) (fun _ _ _ h => h) (by rfl) (fun w4 c4 => ?_) ?_
        · go_simp
        try simp only [Act.put, List.getElem_toArray, List.getElem_cons_succ, List.getElem_cons_zero, List.setIfInBounds_toArray, List.set_cons_zero, List.set_cons_succ]
        refine wpAnyT_take 7 (v := (.pointer (some ⟨K, 1, none⟩))) rfl (by kernel_rfl) (by kernel_rfl) (by kernel_rfl) (fun _ _ _ h => h) (by rfl) (fun w4 c4 => ?_) ?_
        · go_simp
        try simp only [Act.put, List.getElem_toArray, List.getElem_cons_succ, List.getElem_cons_zero, List.setIfInBounds_toArray, List.set_cons_zero, List.set_cons_succ]
        refine wpAnyT_take 8 (v := (.int .i64 a.n)) rfl (by kernel_rfl) (by kernel_rfl) (by kernel_rfl) (fun _ _ _ h => h) (by rfl) (fun w4 c4 => ?_) ?_
        · have zz := c4.cell_some x1 (by simp)
          go_simp
        try simp only [Act.put, List.getElem_toArray, List.getElem_cons_succ, List.getElem_cons_zero, List.setIfInBounds_toArray, List.set_cons_zero, List.set_cons_succ]
        refine wpAnyT_take 12 (v := (.pointer (some ⟨K, 2, none⟩))) rfl (by kernel_rfl) (by kernel_rfl) (by kernel_rfl) (fun _ _ _ h => h) (by rfl) (fun w4 c4 => ?_) ?_
        · go_simp
        try simp only [Act.put, List.getElem_toArray, List.getElem_cons_succ, List.getElem_cons_zero, List.setIfInBounds_toArray, List.set_cons_zero, List.set_cons_succ]
        refine wpAnyT_take 13 (v := (.int .i64 a.m)) rfl (by kernel_rfl) (by kernel_rfl) (by kernel_rfl) (fun _ _ _ h => h) (by rfl) (fun w4 c4 => ?_) ?_
        · have zz := c4.cell_some x2 (by simp)
          go_simp
        try simp only [Act.put, List.getElem_toArray, List.getElem_cons_succ, List.getElem_cons_zero, List.setIfInBounds_toArray, List.set_cons_zero, List.set_cons_succ]
        refine wpAnyT_take 17 (v := (.pointer (some ⟨K, 6, none⟩))) rfl (by kernel_rfl) (by kernel_rfl) (by kernel_rfl) (fun _ _ _ h => h) (by rfl) (fun w4 c4 => ?_) ?_
        · go_simp
        try simp only [Act.put, List.getElem_toArray, List.getElem_cons_succ, List.getElem_cons_zero, List.setIfInBounds_toArray, List.set_cons_zero, List.set_cons_succ]
        refine wpAnyT_take 18 (v := (.int .i64 a.key)) rfl (by kernel_rfl) (by kernel_rfl) (by kernel_rfl) (fun _ _ _ h => h) (by rfl) (fun w4 c4 => ?_) ?_
        · have zz := c4.cell_some x6 (by simp)
          go_simp
        try simp only [Act.put, List.getElem_toArray, List.getElem_cons_succ, List.getElem_cons_zero, List.setIfInBounds_toArray, List.set_cons_zero, List.set_cons_succ]
        refine wpAnyT_take 22 (v := (.slice (some ⟨gq, oq, none⟩) 3 cq)) rfl (by kernel_rfl) (by kernel_rfl) (by kernel_rfl) (fun _ _ _ h => h) (by rfl) (fun w4 c4 => ?_) ?_
        · go_simp
        try simp only [Act.put, List.getElem_toArray, List.getElem_cons_succ, List.getElem_cons_zero, List.setIfInBounds_toArray, List.set_cons_zero, List.set_cons_succ]
        refine wpAnyT_take 23 (v := (.pointer (some ⟨gq, oq, none⟩))) rfl (by kernel_rfl) (by kernel_rfl) (by kernel_rfl) (fun _ _ _ h => h) (by rfl) (fun w4 c4 => ?_) ?_
        · go_simp
        try simp only [Act.put, List.getElem_toArray, List.getElem_cons_succ, List.getElem_cons_zero, List.setIfInBounds_toArray, List.set_cons_zero, List.set_cons_succ]
        refine wpAnyT_take 24 (v := (.string (str q0))) rfl (by kernel_rfl) (by kernel_rfl) (by kernel_rfl) (fun _ _ _ h => h) (by rfl) (fun w4 c4 => ?_) ?_
        · have zz := c4.cell_some z0 (by simp)
          go_simp
        try simp only [Act.put, List.getElem_toArray, List.getElem_cons_succ, List.getElem_cons_zero, List.setIfInBounds_toArray, List.set_cons_zero, List.set_cons_succ]
        refine wpAnyT_take 27 (v := (.slice (some ⟨gq, oq, none⟩) 3 cq)) rfl (by kernel_rfl) (by kernel_rfl) (by kernel_rfl) (fun _ _ _ h => h) (by rfl) (fun w4 c4 => ?_) ?_
        · go_simp
        try simp only [Act.put, List.getElem_toArray, List.getElem_cons_succ, List.getElem_cons_zero, List.setIfInBounds_toArray, List.set_cons_zero, List.set_cons_succ]
        refine wpAnyT_take 28 (v := (.pointer (some ⟨gq, oq + 1, none⟩))) rfl (by kernel_rfl) (by kernel_rfl) (by kernel_rfl) (fun _ _ _ h => h) (by rfl) (fun w4 c4 => ?_) ?_
        · go_simp
        try simp only [Act.put, List.getElem_toArray, List.getElem_cons_succ, List.getElem_cons_zero, List.setIfInBounds_toArray, List.set_cons_zero, List.set_cons_succ]
        refine wpAnyT_take 29 (v := (.string (str q1))) rfl (by kernel_rfl) (by kernel_rfl) (by kernel_rfl) (fun _ _ _ h => h) (by rfl) (fun w4 c4 => ?_) ?_
        · have zz := c4.cell_some z1 (by simp)
          go_simp
        try simp only [Act.put, List.getElem_toArray, List.getElem_cons_succ, List.getElem_cons_zero, List.setIfInBounds_toArray, List.set_cons_zero, List.set_cons_succ]
        refine wpAnyT_take 32 (v := (.slice (some ⟨gq, oq, none⟩) 3 cq)) rfl (by kernel_rfl) (by kernel_rfl) (by kernel_rfl) (fun _ _ _ h => h) (by rfl) (fun w4 c4 => ?_) ?_
        · go_simp
        try simp only [Act.put, List.getElem_toArray, List.getElem_cons_succ, List.getElem_cons_zero, List.setIfInBounds_toArray, List.set_cons_zero, List.set_cons_succ]
        refine wpAnyT_take 33 (v := (.pointer (some ⟨gq, oq + 2, none⟩))) rfl (by kernel_rfl) (by kernel_rfl) (by kernel_rfl) (fun _ _ _ h => h) (by rfl) (fun w4 c4 => ?_) ?_
        · go_simp
        try simp only [Act.put, List.getElem_toArray, List.getElem_cons_succ, List.getElem_cons_zero, List.setIfInBounds_toArray, List.set_cons_zero, List.set_cons_succ]
        refine wpAnyT_take 34 (v := (.string (str q2))) rfl (by kernel_rfl) (by kernel_rfl) (by kernel_rfl) (fun _ _ _ h => h) (by rfl) (fun w4 c4 => ?_) ?_
        · have zz := c4.cell_some z2 (by simp)
          go_simp
        try simp only [Act.put, List.getElem_toArray, List.getElem_cons_succ, List.getElem_cons_zero, List.setIfInBounds_toArray, List.set_cons_zero, List.set_cons_succ]
        refine wpAnyT_take 37 (v := (.slice eo E.length ec)) rfl (by kernel_rfl) (by kernel_rfl) (by kernel_rfl) (fun _ _ _ h => h) (by rfl) (fun w4 c4 => ?_) ?_
        · go_simp
        try simp only [Act.put, List.getElem_toArray, List.getElem_cons_succ, List.getElem_cons_zero, List.setIfInBounds_toArray, List.set_cons_zero, List.set_cons_succ]
        refine wpAnyT_take 41 (v := (.pointer (some ⟨K, 12, none⟩))) rfl (by kernel_rfl) (by kernel_rfl) (by kernel_rfl) (fun _ _ _ h => h) (by rfl) (fun w4 c4 => ?_) ?_
        · go_simp
        try simp only [Act.put, List.getElem_toArray, List.getElem_cons_succ, List.getElem_cons_zero, List.setIfInBounds_toArray, List.set_cons_zero, List.set_cons_succ]
        refine wpAnyT_take 42 (v := (.slice mo a.mask.length mc)) rfl (by kernel_rfl) (by kernel_rfl) (by kernel_rfl) (fun _ _ _ h => h) (by rfl) (fun w4 c4 => ?_) ?_
        · have zz := c4.cell_some x12 (by simp)
          go_simp
        try simp only [Act.put, List.getElem_toArray, List.getElem_cons_succ, List.getElem_cons_zero, List.setIfInBounds_toArray, List.set_cons_zero, List.set_cons_succ]
        refine wpAnyT_only 0 rfl (by kernel_rfl) (by rfl) (fun w2 c2 => ?_)
        go_simp
        refine (rkinds_any _).mono ?_
        rintro e w3 ⟨rfl, hbk, c3⟩
        obtain ⟨K3, hK3⟩ : ∃ K3, w2.heap.size = K3 := ⟨_, rfl⟩
        rw [hK3] at hbk
        rw [hK3]
        have c23 := c2.nil c3
        have kc : w3.cell? ⟨K3, k, none⟩ = some (.string (str kd)) := by
          rw [hbk.cell]
          have : k < (Ss kindL).toArray.size := hk
          rw [Array.getElem?_eq_getElem this]
          simp only [Ss, List.getElem_toArray, List.getElem_map]
          rw [← hkd, List.getD_eq_getElem?_getD, List.getElem?_eq_getElem (show k < kindL.length from hk)]
          rfl
        refine ⟨c3, ?_⟩
        try simp only [Act.put, List.getElem_toArray, List.getElem_cons_succ, List.getElem_cons_zero, List.setIfInBounds_toArray, List.set_cons_zero, List.set_cons_succ]
        refine wpAnyT_take 4 (v := (.pointer (some ⟨K3, k, none⟩))) rfl (by kernel_rfl) (by kernel_rfl) (by kernel_rfl) (fun _ _ _ h => h) (by rfl) (fun w4 c4 => ?_) ?_
        · go_simp
        try simp only [Act.put, List.getElem_toArray, List.getElem_cons_succ, List.getElem_cons_zero, List.setIfInBounds_toArray, List.set_cons_zero, List.set_cons_succ]
        refine wpAnyT_take 5 (v := (.string (str kd))) rfl (by kernel_rfl) (by kernel_rfl) (by kernel_rfl) (fun _ _ _ h => h) (by rfl) (fun w4 c4 => ?_) ?_
        · have zz := c4.cell_some kc (by simp)
          go_simp
        try simp only [Act.put, List.getElem_toArray, List.getElem_cons_succ, List.getElem_cons_zero, List.setIfInBounds_toArray, List.set_cons_zero, List.set_cons_succ]
        refine wpAnyT_take 6 (v := (.string (str T1))) rfl (by kernel_rfl) (by kernel_rfl) (by kernel_rfl) (fun _ _ _ h => h) (by rfl) (fun w4 c4 => ?_) ?_
        · have hca := C1.out w4
          go_simp
        try simp only [Act.put, List.getElem_toArray, List.getElem_cons_succ, List.getElem_cons_zero, List.setIfInBounds_toArray, List.set_cons_zero, List.set_cons_succ]
        refine wpAnyT_call 9 (f := 22) (args := #[.int .i64 a.n]) (v := .string (str tN)) rfl (by kernel_rfl) (by kernel_rfl) (by kernel_rfl) (fun _ _ _ h => h) (by rfl) (fun w4 c4 => by go_simp) (fun w4 c4 => dN w4) ?_
        try simp only [Act.put, List.getElem_toArray, List.getElem_cons_succ, List.getElem_cons_zero, List.setIfInBounds_toArray, List.set_cons_zero, List.set_cons_succ]
        refine wpAnyT_take 10 (v := (.string (str T2))) rfl (by kernel_rfl) (by kernel_rfl) (by kernel_rfl) (fun _ _ _ h => h) (by rfl) (fun w4 c4 => ?_) ?_
        · have hca := C2.out w4
          go_simp
        try simp only [Act.put, List.getElem_toArray, List.getElem_cons_succ, List.getElem_cons_zero, List.setIfInBounds_toArray, List.set_cons_zero, List.set_cons_succ]
        refine wpAnyT_take 11 (v := (.string (str T3))) rfl (by kernel_rfl) (by kernel_rfl) (by kernel_rfl) (fun _ _ _ h => h) (by rfl) (fun w4 c4 => ?_) ?_
        · have hca := C3.out w4
          go_simp
        try simp only [Act.put, List.getElem_toArray, List.getElem_cons_succ, List.getElem_cons_zero, List.setIfInBounds_toArray, List.set_cons_zero, List.set_cons_succ]
        refine wpAnyT_call 14 (f := 22) (args := #[.int .i64 a.m]) (v := .string (str tM)) rfl (by kernel_rfl) (by kernel_rfl) (by kernel_rfl) (fun _ _ _ h => h) (by rfl) (fun w4 c4 => by go_simp) (fun w4 c4 => dM w4) ?_
        try simp only [Act.put, List.getElem_toArray, List.getElem_cons_succ, List.getElem_cons_zero, List.setIfInBounds_toArray, List.set_cons_zero, List.set_cons_succ]
        refine wpAnyT_take 15 (v := (.string (str T4))) rfl (by kernel_rfl) (by kernel_rfl) (by kernel_rfl) (fun _ _ _ h => h) (by rfl) (fun w4 c4 => ?_) ?_
        · have hca := C4.out w4
          go_simp
        try simp only [Act.put, List.getElem_toArray, List.getElem_cons_succ, List.getElem_cons_zero, List.setIfInBounds_toArray, List.set_cons_zero, List.set_cons_succ]
        refine wpAnyT_take 16 (v := (.string (str T5))) rfl (by kernel_rfl) (by kernel_rfl) (by kernel_rfl) (fun _ _ _ h => h) (by rfl) (fun w4 c4 => ?_) ?_
        · have hca := C5.out w4
          go_simp
        try simp only [Act.put, List.getElem_toArray, List.getElem_cons_succ, List.getElem_cons_zero, List.setIfInBounds_toArray, List.set_cons_zero, List.set_cons_succ]
        refine wpAnyT_call 19 (f := 22) (args := #[.int .i64 a.key]) (v := .string (str tC)) rfl (by kernel_rfl) (by kernel_rfl) (by kernel_rfl) (fun _ _ _ h => h) (by rfl) (fun w4 c4 => by go_simp) (fun w4 c4 => dC w4) ?_
        try simp only [Act.put, List.getElem_toArray, List.getElem_cons_succ, List.getElem_cons_zero, List.setIfInBounds_toArray, List.set_cons_zero, List.set_cons_succ]
        refine wpAnyT_take 20 (v := (.string (str T6))) rfl (by kernel_rfl) (by kernel_rfl) (by kernel_rfl) (fun _ _ _ h => h) (by rfl) (fun w4 c4 => ?_) ?_
        · have hca := C6.out w4
          go_simp
        try simp only [Act.put, List.getElem_toArray, List.getElem_cons_succ, List.getElem_cons_zero, List.setIfInBounds_toArray, List.set_cons_zero, List.set_cons_succ]
        refine wpAnyT_take 21 (v := (.string (str T7))) rfl (by kernel_rfl) (by kernel_rfl) (by kernel_rfl) (fun _ _ _ h => h) (by rfl) (fun w4 c4 => ?_) ?_
        · have hca := C7.out w4
          go_simp
        try simp only [Act.put, List.getElem_toArray, List.getElem_cons_succ, List.getElem_cons_zero, List.setIfInBounds_toArray, List.set_cons_zero, List.set_cons_succ]
        refine wpAnyT_take 25 (v := (.string (str T8))) rfl (by kernel_rfl) (by kernel_rfl) (by kernel_rfl) (fun _ _ _ h => h) (by rfl) (fun w4 c4 => ?_) ?_
        · have hca := C8.out w4
          go_simp
        try simp only [Act.put, List.getElem_toArray, List.getElem_cons_succ, List.getElem_cons_zero, List.setIfInBounds_toArray, List.set_cons_zero, List.set_cons_succ]
        refine wpAnyT_take 26 (v := (.string (str T9))) rfl (by kernel_rfl) (by kernel_rfl) (by kernel_rfl) (fun _ _ _ h => h) (by rfl) (fun w4 c4 => ?_) ?_
        · have hca := C9.out w4
          go_simp
        try simp only [Act.put, List.getElem_toArray, List.getElem_cons_succ, List.getElem_cons_zero, List.setIfInBounds_toArray, List.set_cons_zero, List.set_cons_succ]
        refine wpAnyT_take 30 (v := (.string (str T10))) rfl (by kernel_rfl) (by kernel_rfl) (by kernel_rfl) (fun _ _ _ h => h) (by rfl) (fun w4 c4 => ?_) ?_
        · have hca := C10.out w4
          go_simp
        try simp only [Act.put, List.getElem_toArray, List.getElem_cons_succ, List.getElem_cons_zero, List.setIfInBounds_toArray, List.set_cons_zero, List.set_cons_succ]
        refine wpAnyT_take 31 (v := (.string (str T11))) rfl (by kernel_rfl) (by kernel_rfl) (by kernel_rfl) (fun _ _ _ h => h) (by rfl) (fun w4 c4 => ?_) ?_
        · have hca := C11.out w4
          go_simp
        try simp only [Act.put, List.getElem_toArray, List.getElem_cons_succ, List.getElem_cons_zero, List.setIfInBounds_toArray, List.set_cons_zero, List.set_cons_succ]
        refine wpAnyT_take 35 (v := (.string (str T12))) rfl (by kernel_rfl) (by kernel_rfl) (by kernel_rfl) (fun _ _ _ h => h) (by rfl) (fun w4 c4 => ?_) ?_
        · have hca := C12.out w4
          go_simp
        try simp only [Act.put, List.getElem_toArray, List.getElem_cons_succ, List.getElem_cons_zero, List.setIfInBounds_toArray, List.set_cons_zero, List.set_cons_succ]
        refine wpAnyT_take 36 (v := (.string (str T13))) rfl (by kernel_rfl) (by kernel_rfl) (by kernel_rfl) (fun _ _ _ h => h) (by rfl) (fun w4 c4 => ?_) ?_
        · have hca := C13.out w4
          go_simp
        try simp only [Act.put, List.getElem_toArray, List.getElem_cons_succ, List.getElem_cons_zero, List.setIfInBounds_toArray, List.set_cons_zero, List.set_cons_succ]
        refine wpAnyT_call 38 (f := 23) (args := #[.slice eo E.length ec]) (v := .string (str dP)) rfl (by kernel_rfl) (by kernel_rfl) (by kernel_rfl) (fun _ _ _ h => h) (by rfl) (fun w4 c4 => by go_simp) (fun w4 c4 => hxP w4 (c23.nil c4)) ?_
        try simp only [Act.put, List.getElem_toArray, List.getElem_cons_succ, List.getElem_cons_zero, List.setIfInBounds_toArray, List.set_cons_zero, List.set_cons_succ]
        refine wpAnyT_take 39 (v := (.string (str T14))) rfl (by kernel_rfl) (by kernel_rfl) (by kernel_rfl) (fun _ _ _ h => h) (by rfl) (fun w4 c4 => ?_) ?_
        · have hca := C14.out w4
          go_simp
        try simp only [Act.put, List.getElem_toArray, List.getElem_cons_succ, List.getElem_cons_zero, List.setIfInBounds_toArray, List.set_cons_zero, List.set_cons_succ]
        refine wpAnyT_take 40 (v := (.string (str T15))) rfl (by kernel_rfl) (by kernel_rfl) (by kernel_rfl) (fun _ _ _ h => h) (by rfl) (fun w4 c4 => ?_) ?_
        · have hca := C15.out w4
          go_simp
        try simp only [Act.put, List.getElem_toArray, List.getElem_cons_succ, List.getElem_cons_zero, List.setIfInBounds_toArray, List.set_cons_zero, List.set_cons_succ]
        refine wpAnyT_call 43 (f := 23) (args := #[.slice mo a.mask.length mc]) (v := .string (str dK)) rfl (by kernel_rfl) (by kernel_rfl) (by kernel_rfl) (fun _ _ _ h => h) (by rfl) (fun w4 c4 => by go_simp) (fun w4 c4 => hxM w4 (c23.nil c4)) ?_
        try simp only [Act.put, List.getElem_toArray, List.getElem_cons_succ, List.getElem_cons_zero, List.setIfInBounds_toArray, List.set_cons_zero, List.set_cons_succ]
        refine wpAnyT_take 44 (v := (.string (str T16))) rfl (by kernel_rfl) (by kernel_rfl) (by kernel_rfl) (fun _ _ _ h => h) (by rfl) (fun w4 c4 => ?_) ?_
        · have hca := C16.out w4
          go_simp
        try simp only [Act.put, List.getElem_toArray, List.getElem_cons_succ, List.getElem_cons_zero, List.setIfInBounds_toArray, List.set_cons_zero, List.set_cons_succ]
        refine wpAnyT_take 45 (v := (.string (str T16))) rfl (by kernel_rfl) (by kernel_rfl) (by kernel_rfl) (fun _ _ _ h => h) (by rfl) (fun w4 c4 => ?_) ?_
        · go_simp
        try simp only [Act.put, List.getElem_toArray, List.getElem_cons_succ, List.getElem_cons_zero, List.setIfInBounds_toArray, List.set_cons_zero, List.set_cons_succ]
        refine wpAnyT_take 46 (v := (.int .i64 0)) rfl (by kernel_rfl) (by kernel_rfl) (by kernel_rfl) (fun _ _ _ h => h) (by rfl) (fun w4 c4 => ?_) ?_
        · go_simp
        try simp only [Act.put, List.getElem_toArray, List.getElem_cons_succ, List.getElem_cons_zero, List.setIfInBounds_toArray, List.set_cons_zero, List.set_cons_succ]
        refine wpAnyT_done (by kernel_rfl) (fun w5 c5 => ?_) _
        have hEnd : Chg [] w w5 := (cw6.nil c23).nil c5
        go_wp2_with fail
        go_ret2
        refine ⟨?_, hEnd⟩
        have hh := HP0.out
        rw [HDD.out.1, HDD.out.2, HT.out] at hh
        rw [hh]
        rfl
      · have h4 := HPZ.out.2.1 he
        rw [h4] at hen
        clear he
        by_cases hzz : a.shp.w = 0 ∧ a.shp.h = 0 ∧ a.shp.c = 0 ∧ a.shp.d = 0 ∧ a.pix.length = 0
        · obtain ⟨E, hE⟩ : ∃ E : List UInt8, E = [] := ⟨[], rfl⟩
          have hpl : picL a = (digitsL E, 0) := by rw [HPZ.out.1, if_pos hzz, hE]; rfl
          have l7 : (digitsL E).length ≤ 2000001 := by rw [hE]; decide
          have hPR := HGG.out.1 E l7 HGG.out.2 hpl
          have hzt : decide ((a.shp.w = 0 ∧ a.shp.h = 0 ∧ a.shp.c = 0 ∧ a.shp.d = 0) ∧ a.pix = []) = true := decide_eq_true ⟨⟨hzz.1, hzz.2.1, hzz.2.2.1, hzz.2.2.2.1⟩, List.eq_nil_of_length_eq_zero hzz.2.2.2.2⟩
          rw [hzt] at hzr
          unfold shpZ at hzr
          simp only at hzr
          have HE := Lib.hid hE
          clear hpl hzz hzt h4 hE
          go_wp2_with fail
          refine hen.mono ?_
          rintro e w5 ⟨v5, rfl, hs5', -, c5⟩
          have hs5 : Sees w5 1 v5 E.length (Bs E) := by rw [HE.out]; exact hs5'
          obtain ⟨eo, ec, rfl, -, -⟩ := hs5.shape
          clear hs5'
          have x7 := c5.cell_some x7 (by simp)
          have x8 := c5.cell_some x8 (by simp)
          have x9 := c5.cell_some x9 (by simp)
          have x10 := c5.cell_some x10 (by simp)
          have x11 := c5.cell_some x11 (by simp)
          clear hen
          go_wp2_with fail
          refine (hzr _ c5).mono ?_
          rintro e w6 ⟨rfl, c56⟩
          have c6 := c5.nil c56
          have z0 := c6.cell_some z0 (by simp)
          have z1 := c6.cell_some z1 (by simp)
          have z2 := c6.cell_some z2 (by simp)
          have x0 := c6.cell_some x0 (by simp)
          have x1 := c6.cell_some x1 (by simp)
          have x2 := c6.cell_some x2 (by simp)
          have x6 := c6.cell_some x6 (by simp)
          have x12 := c6.cell_some x12 (by simp)
          have hxP := fun w' (c : Chg [] w6 w') => rhexed_any w' _ _ E ((hs5.chg0 c56).chg0 c) (by rw [HE.out]; decide)
          have hxM := fun w' (c : Chg [] w6 w') => hmxx w' (c6.nil c)
          have cw6 := hFc.nil c6
          have HP0 := Lib.hid hPR
          clear hs5 c5 c56 c6 x7 x8 x9 x10 x11 hPR hmxx hzr
          go_upto_region 15 with (fail)
          obtain ⟨dP, hdP⟩ : ∃ d, digitsL E = d := ⟨_, rfl⟩
          obtain ⟨dK, hdK⟩ : ∃ d, digitsL a.mask = d := ⟨_, rfl⟩
          obtain ⟨i1, i2, i3, i4, i5, i6, i8, b4, b5, b6, i0⟩ := L1'.out
          rw [hdK] at i8 hxM
          rw [hdP] at l7 hxP
          have jl : kd.length ≤ 3000000000 := by omega
          have g0 : kd.length ≤ 100 := by omega
          obtain ⟨T1, e1⟩ : ∃ T, kd ++ [32] = T := ⟨_, rfl⟩
          have g1 : T1.length = kd.length + 1 := by rw [← e1, List.length_append]; rfl
          have C1 := Lib.hid (fun w => catB e1 (by omega) w)
          obtain ⟨T2, e2⟩ : ∃ T, T1 ++ tN = T := ⟨_, rfl⟩
          have g2 : T2.length = T1.length + tN.length := by rw [← e2, List.length_append]
          have C2 := Lib.hid (fun w => catT e2 (by omega) w)
          obtain ⟨T3, e3⟩ : ∃ T, T2 ++ [32] = T := ⟨_, rfl⟩
          have g3 : T3.length = T2.length + 1 := by rw [← e3, List.length_append]; rfl
          have C3 := Lib.hid (fun w => catB e3 (by omega) w)
          obtain ⟨T4, e4⟩ : ∃ T, T3 ++ tM = T := ⟨_, rfl⟩
          have g4 : T4.length = T3.length + tM.length := by rw [← e4, List.length_append]
          have C4 := Lib.hid (fun w => catT e4 (by omega) w)
          obtain ⟨T5, e5⟩ : ∃ T, T4 ++ [32] = T := ⟨_, rfl⟩
          have g5 : T5.length = T4.length + 1 := by rw [← e5, List.length_append]; rfl
          have C5 := Lib.hid (fun w => catB e5 (by omega) w)
          obtain ⟨T6, e6⟩ : ∃ T, T5 ++ tC = T := ⟨_, rfl⟩
          have g6 : T6.length = T5.length + tC.length := by rw [← e6, List.length_append]
          have C6 := Lib.hid (fun w => catT e6 (by omega) w)
          obtain ⟨T7, e7⟩ : ∃ T, T6 ++ [32] = T := ⟨_, rfl⟩
          have g7 : T7.length = T6.length + 1 := by rw [← e7, List.length_append]; rfl
          have C7 := Lib.hid (fun w => catB e7 (by omega) w)
          obtain ⟨T8, e8⟩ : ∃ T, T7 ++ q0 = T := ⟨_, rfl⟩
          have g8 : T8.length = T7.length + q0.length := by rw [← e8, List.length_append]
          have C8 := Lib.hid (fun w => catT e8 (by omega) w)
          obtain ⟨T9, e9⟩ : ∃ T, T8 ++ [32] = T := ⟨_, rfl⟩
          have g9 : T9.length = T8.length + 1 := by rw [← e9, List.length_append]; rfl
          have C9 := Lib.hid (fun w => catB e9 (by omega) w)
          obtain ⟨T10, e10⟩ : ∃ T, T9 ++ q1 = T := ⟨_, rfl⟩
          have g10 : T10.length = T9.length + q1.length := by rw [← e10, List.length_append]
          have C10 := Lib.hid (fun w => catT e10 (by omega) w)
          obtain ⟨T11, e11⟩ : ∃ T, T10 ++ [32] = T := ⟨_, rfl⟩
          have g11 : T11.length = T10.length + 1 := by rw [← e11, List.length_append]; rfl
          have C11 := Lib.hid (fun w => catB e11 (by omega) w)
          obtain ⟨T12, e12⟩ : ∃ T, T11 ++ q2 = T := ⟨_, rfl⟩
          have g12 : T12.length = T11.length + q2.length := by rw [← e12, List.length_append]
          have C12 := Lib.hid (fun w => catT e12 (by omega) w)
          obtain ⟨T13, e13⟩ : ∃ T, T12 ++ [32] = T := ⟨_, rfl⟩
          have g13 : T13.length = T12.length + 1 := by rw [← e13, List.length_append]; rfl
          have C13 := Lib.hid (fun w => catB e13 (by omega) w)
          obtain ⟨T14, e14⟩ : ∃ T, T13 ++ dP = T := ⟨_, rfl⟩
          have g14 : T14.length = T13.length + dP.length := by rw [← e14, List.length_append]
          have C14 := Lib.hid (fun w => catT e14 (by omega) w)
          obtain ⟨T15, e15⟩ : ∃ T, T14 ++ [32] = T := ⟨_, rfl⟩
          have g15 : T15.length = T14.length + 1 := by rw [← e15, List.length_append]; rfl
          have C15 := Lib.hid (fun w => catB e15 (by omega) w)
          obtain ⟨T16, e16⟩ : ∃ T, T15 ++ dK = T := ⟨_, rfl⟩
          have g16 : T16.length = T15.length + dK.length := by rw [← e16, List.length_append]
          have C16 := Lib.hid (fun w => catT e16 (by omega) w)
          have hT : JoinR kd tN tM tC q0 q1 q2 dP dK = T16 := by unfold JoinR; rw [e1, e2, e3, e4, e5, e6, e7, e8, e9, e10, e11, e12, e13, e14, e15, e16]
          have HT := Lib.hid hT
          have HDD := Lib.hid (And.intro hdP hdK)
          clear e1 g1 e2 g2 e3 g3 e4 g4 e5 g5 e6 g6 e7 g7 e8 g8 e9 g9 e10 g10 e11 g11 e12 g12 e13 g13 e14 g14 e15 g15 e16 g16 hT jl g0 i0 i1 i2 i3 i4 i5 i6 i8 l7 b4 b5 b6 hdP hdK
          refine wp_region_T (by kernel_rfl) ?_
          refine wpAnyT_take 1 (v := (.pointer (some ⟨K, 0, none⟩))) rfl (by kernel_rfl) (by kernel_rfl) (by kernel_rfl) (fun _ _ _ h => h) (by rfl) (fun w4 c4 => ?_) ?_
          · go_simp
          try simp only [Act.put, List.getElem_toArray, List.getElem_cons_succ, List.getElem_cons_zero, List.setIfInBounds_toArray, List.set_cons_zero, List.set_cons_succ]
          refine wpAnyT_take 2 (v := (.int .i64 a.kind)) rfl (by kernel_rfl) (by kernel_rfl) (by kernel_rfl) (fun _ _ _ h => h) (by rfl) (fun w4 c4 => ?_) ?_
          · have zz := c4.cell_some x0 (by simp)
            go_simp
          try simp only [Act.put, List.getElem_toArray, List.getElem_cons_succ, List.getElem_cons_zero, List.setIfInBounds_toArray, List.set_cons_zero, List.set_cons_succ]
          refine wpAnyT_take 3 (v := (.int .i64 (k : Int))) rfl (by kernel_rfl) (by kernel_rfl) (by kernel_rfl) (fun _ _ _ h => h) (by rfl) (fun w4 c4 => ?_) ?_
          · go_simp
          try simp only [Act.put, List.getElem_toArray, List.getElem_cons_succ, List.getElem_cons_zero, List.setIfInBounds_toArray, List.set_cons_zero, List.set_cons_succ]
          refine wpAnyT_take 7 (v := (.pointer (some ⟨K, 1, none⟩))) rfl (by kernel_rfl) (by kernel_rfl) (by kernel_rfl) (fun _ _ _ h => h) (by rfl) (fun w4 c4 => ?_) ?_
          · go_simp
          try simp only [Act.put, List.getElem_toArray, List.getElem_cons_succ, List.getElem_cons_zero, List.setIfInBounds_toArray, List.set_cons_zero, List.set_cons_succ]
          refine wpAnyT_take 8 (v := (.int .i64 a.n)) rfl (by kernel_rfl) (by kernel_rfl) (by kernel_rfl) (fun _ _ _ h => h) (by rfl) (fun w4 c4 => ?_) ?_
          · have zz := c4.cell_some x1 (by simp)
            go_simp
          try simp only [Act.put, List.getElem_toArray, List.getElem_cons_succ, List.getElem_cons_zero, List.setIfInBounds_toArray, List.set_cons_zero, List.set_cons_succ]
          refine wpAnyT_take 12 (v := (.pointer (some ⟨K, 2, none⟩))) rfl (by kernel_rfl) (by kernel_rfl) (by kernel_rfl) (fun _ _ _ h => h) (by rfl) (fun w4 c4 => ?_) ?_
          · go_simp
          try simp only [Act.put, List.getElem_toArray, List.getElem_cons_succ, List.getElem_cons_zero, List.setIfInBounds_toArray, List.set_cons_zero, List.set_cons_succ]
          refine wpAnyT_take 13 (v := (.int .i64 a.m)) rfl (by kernel_rfl) (by kernel_rfl) (by kernel_rfl) (fun _ _ _ h => h) (by rfl) (fun w4 c4 => ?_) ?_
          · have zz := c4.cell_some x2 (by simp)
            go_simp
          try simp only [Act.put, List.getElem_toArray, List.getElem_cons_succ, List.getElem_cons_zero, List.setIfInBounds_toArray, List.set_cons_zero, List.set_cons_succ]
          refine wpAnyT_take 17 (v := (.pointer (some ⟨K, 6, none⟩))) rfl (by kernel_rfl) (by kernel_rfl) (by kernel_rfl) (fun _ _ _ h => h) (by rfl) (fun w4 c4 => ?_) ?_
          · go_simp
          try simp only [Act.put, List.getElem_toArray, List.getElem_cons_succ, List.getElem_cons_zero, List.setIfInBounds_toArray, List.set_cons_zero, List.set_cons_succ]
          refine wpAnyT_take 18 (v := (.int .i64 a.key)) rfl (by kernel_rfl) (by kernel_rfl) (by kernel_rfl) (fun _ _ _ h => h) (by rfl) (fun w4 c4 => ?_) ?_
          · have zz := c4.cell_some x6 (by simp)
            go_simp
          try simp only [Act.put, List.getElem_toArray, List.getElem_cons_succ, List.getElem_cons_zero, List.setIfInBounds_toArray, List.set_cons_zero, List.set_cons_succ]
          refine wpAnyT_take 22 (v := (.slice (some ⟨gq, oq, none⟩) 3 cq)) rfl (by kernel_rfl) (by kernel_rfl) (by kernel_rfl) (fun _ _ _ h => h) (by rfl) (fun w4 c4 => ?_) ?_
          · go_simp
          try simp only [Act.put, List.getElem_toArray, List.getElem_cons_succ, List.getElem_cons_zero, List.setIfInBounds_toArray, List.set_cons_zero, List.set_cons_succ]
          refine wpAnyT_take 23 (v := (.pointer (some ⟨gq, oq, none⟩))) rfl (by kernel_rfl) (by kernel_rfl) (by kernel_rfl) (fun _ _ _ h => h) (by rfl) (fun w4 c4 => ?_) ?_
          · go_simp
          try simp only [Act.put, List.getElem_toArray, List.getElem_cons_succ, List.getElem_cons_zero, List.setIfInBounds_toArray, List.set_cons_zero, List.set_cons_succ]
          refine wpAnyT_take 24 (v := (.string (str q0))) rfl (by kernel_rfl) (by kernel_rfl) (by kernel_rfl) (fun _ _ _ h => h) (by rfl) (fun w4 c4 => ?_) ?_
          · have zz := c4.cell_some z0 (by simp)
            go_simp
          try simp only [Act.put, List.getElem_toArray, List.getElem_cons_succ, List.getElem_cons_zero, List.setIfInBounds_toArray, List.set_cons_zero, List.set_cons_succ]
          refine wpAnyT_take 27 (v := (.slice (some ⟨gq, oq, none⟩) 3 cq)) rfl (by kernel_rfl) (by kernel_rfl) (by kernel_rfl) (fun _ _ _ h => h) (by rfl) (fun w4 c4 => ?_) ?_
          · go_simp
          try simp only [Act.put, List.getElem_toArray, List.getElem_cons_succ, List.getElem_cons_zero, List.setIfInBounds_toArray, List.set_cons_zero, List.set_cons_succ]
          refine wpAnyT_take 28 (v := (.pointer (some ⟨gq, oq + 1, none⟩))) rfl (by kernel_rfl) (by kernel_rfl) (by kernel_rfl) (fun _ _ _ h => h) (by rfl) (fun w4 c4 => ?_) ?_
          · go_simp
          try simp only [Act.put, List.getElem_toArray, List.getElem_cons_succ, List.getElem_cons_zero, List.setIfInBounds_toArray, List.set_cons_zero, List.set_cons_succ]
          refine wpAnyT_take 29 (v := (.string (str q1))) rfl (by kernel_rfl) (by kernel_rfl) (by kernel_rfl) (fun _ _ _ h => h) (by rfl) (fun w4 c4 => ?_) ?_
          · have zz := c4.cell_some z1 (by simp)
            go_simp
          try simp only [Act.put, List.getElem_toArray, List.getElem_cons_succ, List.getElem_cons_zero, List.setIfInBounds_toArray, List.set_cons_zero, List.set_cons_succ]
          refine wpAnyT_take 32 (v := (.slice (some ⟨gq, oq, none⟩) 3 cq)) rfl (by kernel_rfl) (by kernel_rfl) (by kernel_rfl) (fun _ _ _ h => h) (by rfl) (fun w4 c4 => ?_) ?_
          · go_simp
          try simp only [Act.put, List.getElem_toArray, List.getElem_cons_succ, List.getElem_cons_zero, List.setIfInBounds_toArray, List.set_cons_zero, List.set_cons_succ]
          refine wpAnyT_take 33 (v := (.pointer (some ⟨gq, oq + 2, none⟩))) rfl (by kernel_rfl) (by kernel_rfl) (by kernel_rfl) (fun _ _ _ h => h) (by rfl) (fun w4 c4 => ?_) ?_
          · go_simp
          try simp only [Act.put, List.getElem_toArray, List.getElem_cons_succ, List.getElem_cons_zero, List.setIfInBounds_toArray, List.set_cons_zero, List.set_cons_succ]
          refine wpAnyT_take 34 (v := (.string (str q2))) rfl (by kernel_rfl) (by kernel_rfl) (by kernel_rfl) (fun _ _ _ h => h) (by rfl) (fun w4 c4 => ?_) ?_
          · have zz := c4.cell_some z2 (by simp)
            go_simp
          try simp only [Act.put, List.getElem_toArray, List.getElem_cons_succ, List.getElem_cons_zero, List.setIfInBounds_toArray, List.set_cons_zero, List.set_cons_succ]
          refine wpAnyT_take 37 (v := (.slice eo E.length ec)) rfl (by kernel_rfl) (by kernel_rfl) (by kernel_rfl) (fun _ _ _ h => h) (by rfl) (fun w4 c4 => ?_) ?_
          · go_simp
          try simp only [Act.put, List.getElem_toArray, List.getElem_cons_succ, List.getElem_cons_zero, List.setIfInBounds_toArray, List.set_cons_zero, List.set_cons_succ]
          refine wpAnyT_take 41 (v := (.pointer (some ⟨K, 12, none⟩))) rfl (by kernel_rfl) (by kernel_rfl) (by kernel_rfl) (fun _ _ _ h => h) (by rfl) (fun w4 c4 => ?_) ?_
          · go_simp
          try simp only [Act.put, List.getElem_toArray, List.getElem_cons_succ, List.getElem_cons_zero, List.setIfInBounds_toArray, List.set_cons_zero, List.set_cons_succ]
          refine wpAnyT_take 42 (v := (.slice mo a.mask.length mc)) rfl (by kernel_rfl) (by kernel_rfl) (by kernel_rfl) (fun _ _ _ h => h) (by rfl) (fun w4 c4 => ?_) ?_
          · have zz := c4.cell_some x12 (by simp)
            go_simp
          try simp only [Act.put, List.getElem_toArray, List.getElem_cons_succ, List.getElem_cons_zero, List.setIfInBounds_toArray, List.set_cons_zero, List.set_cons_succ]
          refine wpAnyT_only 0 rfl (by kernel_rfl) (by rfl) (fun w2 c2 => ?_)
          go_simp
          refine (rkinds_any _).mono ?_
          rintro e w3 ⟨rfl, hbk, c3⟩
          obtain ⟨K3, hK3⟩ : ∃ K3, w2.heap.size = K3 := ⟨_, rfl⟩
          rw [hK3] at hbk
          rw [hK3]
          have c23 := c2.nil c3
          have kc : w3.cell? ⟨K3, k, none⟩ = some (.string (str kd)) := by
            rw [hbk.cell]
            have : k < (Ss kindL).toArray.size := hk
            rw [Array.getElem?_eq_getElem this]
            simp only [Ss, List.getElem_toArray, List.getElem_map]
            rw [← hkd, List.getD_eq_getElem?_getD, List.getElem?_eq_getElem (show k < kindL.length from hk)]
            rfl
          refine ⟨c3, ?_⟩
          try simp only [Act.put, List.getElem_toArray, List.getElem_cons_succ, List.getElem_cons_zero, List.setIfInBounds_toArray, List.set_cons_zero, List.set_cons_succ]
          refine wpAnyT_take 4 (v := (.pointer (some ⟨K3, k, none⟩))) rfl (by kernel_rfl) (by kernel_rfl) (by kernel_rfl) (fun _ _ _ h => h) (by rfl) (fun w4 c4 => ?_) ?_
          · go_simp
          try simp only [Act.put, List.getElem_toArray, List.getElem_cons_succ, List.getElem_cons_zero, List.setIfInBounds_toArray, List.set_cons_zero, List.set_cons_succ]
          refine wpAnyT_take 5 (v := (.string (str kd))) rfl (by kernel_rfl) (by kernel_rfl) (by kernel_rfl) (fun _ _ _ h => h) (by rfl) (fun w4 c4 => ?_) ?_
          · have zz := c4.cell_some kc (by simp)
            go_simp
          try simp only [Act.put, List.getElem_toArray, List.getElem_cons_succ, List.getElem_cons_zero, List.setIfInBounds_toArray, List.set_cons_zero, List.set_cons_succ]
          refine wpAnyT_take 6 (v := (.string (str T1))) rfl (by kernel_rfl) (by kernel_rfl) (by kernel_rfl) (fun _ _ _ h => h) (by rfl) (fun w4 c4 => ?_) ?_
          · have hca := C1.out w4
            go_simp
          try simp only [Act.put, List.getElem_toArray, List.getElem_cons_succ, List.getElem_cons_zero, List.setIfInBounds_toArray, List.set_cons_zero, List.set_cons_succ]
          refine wpAnyT_call 9 (f := 22) (args := #[.int .i64 a.n]) (v := .string (str tN)) rfl (by kernel_rfl) (by kernel_rfl) (by kernel_rfl) (fun _ _ _ h => h) (by rfl) (fun w4 c4 => by go_simp) (fun w4 c4 => dN w4) ?_
          try simp only [Act.put, List.getElem_toArray, List.getElem_cons_succ, List.getElem_cons_zero, List.setIfInBounds_toArray, List.set_cons_zero, List.set_cons_succ]
          refine wpAnyT_take 10 (v := (.string (str T2))) rfl (by kernel_rfl) (by kernel_rfl) (by kernel_rfl) (fun _ _ _ h => h) (by rfl) (fun w4 c4 => ?_) ?_
          · have hca := C2.out w4
            go_simp
          try simp only [Act.put, List.getElem_toArray, List.getElem_cons_succ, List.getElem_cons_zero, List.setIfInBounds_toArray, List.set_cons_zero, List.set_cons_succ]
          refine wpAnyT_take 11 (v := (.string (str T3))) rfl (by kernel_rfl) (by kernel_rfl) (by kernel_rfl) (fun _ _ _ h => h) (by rfl) (fun w4 c4 => ?_) ?_
          · have hca := C3.out w4
            go_simp
          try simp only [Act.put, List.getElem_toArray, List.getElem_cons_succ, List.getElem_cons_zero, List.setIfInBounds_toArray, List.set_cons_zero, List.set_cons_succ]
          refine wpAnyT_call 14 (f := 22) (args := #[.int .i64 a.m]) (v := .string (str tM)) rfl (by kernel_rfl) (by kernel_rfl) (by kernel_rfl) (fun _ _ _ h => h) (by rfl) (fun w4 c4 => by go_simp) (fun w4 c4 => dM w4) ?_
          try simp only [Act.put, List.getElem_toArray, List.getElem_cons_succ, List.getElem_cons_zero, List.setIfInBounds_toArray, List.set_cons_zero, List.set_cons_succ]
          refine wpAnyT_take 15 (v := (.string (str T4))) rfl (by kernel_rfl) (by kernel_rfl) (by kernel_rfl) (fun _ _ _ h => h) (by rfl) (fun w4 c4 => ?_) ?_
          · have hca := C4.out w4
            go_simp
          try simp only [Act.put, List.getElem_toArray, List.getElem_cons_succ, List.getElem_cons_zero, List.setIfInBounds_toArray, List.set_cons_zero, List.set_cons_succ]
          refine wpAnyT_take 16 (v := (.string (str T5))) rfl (by kernel_rfl) (by kernel_rfl) (by kernel_rfl) (fun _ _ _ h => h) (by rfl) (fun w4 c4 => ?_) ?_
          · have hca := C5.out w4
            go_simp
          try simp only [Act.put, List.getElem_toArray, List.getElem_cons_succ, List.getElem_cons_zero, List.setIfInBounds_toArray, List.set_cons_zero, List.set_cons_succ]
          refine wpAnyT_call 19 (f := 22) (args := #[.int .i64 a.key]) (v := .string (str tC)) rfl (by kernel_rfl) (by kernel_rfl) (by kernel_rfl) (fun _ _ _ h => h) (by rfl) (fun w4 c4 => by go_simp) (fun w4 c4 => dC w4) ?_
          try simp only [Act.put, List.getElem_toArray, List.getElem_cons_succ, List.getElem_cons_zero, List.setIfInBounds_toArray, List.set_cons_zero, List.set_cons_succ]
          refine wpAnyT_take 20 (v := (.string (str T6))) rfl (by kernel_rfl) (by kernel_rfl) (by kernel_rfl) (fun _ _ _ h => h) (by rfl) (fun w4 c4 => ?_) ?_
          · have hca := C6.out w4
            go_simp
          try simp only [Act.put, List.getElem_toArray, List.getElem_cons_succ, List.getElem_cons_zero, List.setIfInBounds_toArray, List.set_cons_zero, List.set_cons_succ]
          refine wpAnyT_take 21 (v := (.string (str T7))) rfl (by kernel_rfl) (by kernel_rfl) (by kernel_rfl) (fun _ _ _ h => h) (by rfl) (fun w4 c4 => ?_) ?_
          · have hca := C7.out w4
            go_simp
          try simp only [Act.put, List.getElem_toArray, List.getElem_cons_succ, List.getElem_cons_zero, List.setIfInBounds_toArray, List.set_cons_zero, List.set_cons_succ]
          refine wpAnyT_take 25 (v := (.string (str T8))) rfl (by kernel_rfl) (by kernel_rfl) (by kernel_rfl) (fun _ _ _ h => h) (by rfl) (fun w4 c4 => ?_) ?_
          · have hca := C8.out w4
            go_simp
          try simp only [Act.put, List.getElem_toArray, List.getElem_cons_succ, List.getElem_cons_zero, List.setIfInBounds_toArray, List.set_cons_zero, List.set_cons_succ]
          refine wpAnyT_take 26 (v := (.string (str T9))) rfl (by kernel_rfl) (by kernel_rfl) (by kernel_rfl) (fun _ _ _ h => h) (by rfl) (fun w4 c4 => ?_) ?_
          · have hca := C9.out w4
            go_simp
          try simp only [Act.put, List.getElem_toArray, List.getElem_cons_succ, List.getElem_cons_zero, List.setIfInBounds_toArray, List.set_cons_zero, List.set_cons_succ]
          refine wpAnyT_take 30 (v := (.string (str T10))) rfl (by kernel_rfl) (by kernel_rfl) (by kernel_rfl) (fun _ _ _ h => h) (by rfl) (fun w4 c4 => ?_) ?_
          · have hca := C10.out w4
            go_simp
          try simp only [Act.put, List.getElem_toArray, List.getElem_cons_succ, List.getElem_cons_zero, List.setIfInBounds_toArray, List.set_cons_zero, List.set_cons_succ]
          refine wpAnyT_take 31 (v := (.string (str T11))) rfl (by kernel_rfl) (by kernel_rfl) (by kernel_rfl) (fun _ _ _ h => h) (by rfl) (fun w4 c4 => ?_) ?_
          · have hca := C11.out w4
            go_simp
          try simp only [Act.put, List.getElem_toArray, List.getElem_cons_succ, List.getElem_cons_zero, List.setIfInBounds_toArray, List.set_cons_zero, List.set_cons_succ]
          refine wpAnyT_take 35 (v := (.string (str T12))) rfl (by kernel_rfl) (by kernel_rfl) (by kernel_rfl) (fun _ _ _ h => h) (by rfl) (fun w4 c4 => ?_) ?_
          · have hca := C12.out w4
            go_simp
          try simp only [Act.put, List.getElem_toArray, List.getElem_cons_succ, List.getElem_cons_zero, List.setIfInBounds_toArray, List.set_cons_zero, List.set_cons_succ]
          refine wpAnyT_take 36 (v := (.string (str T13))) rfl (by kernel_rfl) (by kernel_rfl) (by kernel_rfl) (fun _ _ _ h => h) (by rfl) (fun w4 c4 => ?_) ?_
          · have hca := C13.out w4
            go_simp
          try simp only [Act.put, List.getElem_toArray, List.getElem_cons_succ, List.getElem_cons_zero, List.setIfInBounds_toArray, List.set_cons_zero, List.set_cons_succ]
          refine wpAnyT_call 38 (f := 23) (args := #[.slice eo E.length ec]) (v := .string (str dP)) rfl (by kernel_rfl) (by kernel_rfl) (by kernel_rfl) (fun _ _ _ h => h) (by rfl) (fun w4 c4 => by go_simp) (fun w4 c4 => hxP w4 (c23.nil c4)) ?_
          try simp only [Act.put, List.getElem_toArray, List.getElem_cons_succ, List.getElem_cons_zero, List.setIfInBounds_toArray, List.set_cons_zero, List.set_cons_succ]
          refine wpAnyT_take 39 (v := (.string (str T14))) rfl (by kernel_rfl) (by kernel_rfl) (by kernel_rfl) (fun _ _ _ h => h) (by rfl) (fun w4 c4 => ?_) ?_
          · have hca := C14.out w4
            go_simp
          try simp only [Act.put, List.getElem_toArray, List.getElem_cons_succ, List.getElem_cons_zero, List.setIfInBounds_toArray, List.set_cons_zero, List.set_cons_succ]
          refine wpAnyT_take 40 (v := (.string (str T15))) rfl (by kernel_rfl) (by kernel_rfl) (by kernel_rfl) (fun _ _ _ h => h) (by rfl) (fun w4 c4 => ?_) ?_
          · have hca := C15.out w4
            go_simp
          try simp only [Act.put, List.getElem_toArray, List.getElem_cons_succ, List.getElem_cons_zero, List.setIfInBounds_toArray, List.set_cons_zero, List.set_cons_succ]
          refine wpAnyT_call 43 (f := 23) (args := #[.slice mo a.mask.length mc]) (v := .string (str dK)) rfl (by kernel_rfl) (by kernel_rfl) (by kernel_rfl) (fun _ _ _ h => h) (by rfl) (fun w4 c4 => by go_simp) (fun w4 c4 => hxM w4 (c23.nil c4)) ?_
          try simp only [Act.put, List.getElem_toArray, List.getElem_cons_succ, List.getElem_cons_zero, List.setIfInBounds_toArray, List.set_cons_zero, List.set_cons_succ]
          refine wpAnyT_take 44 (v := (.string (str T16))) rfl (by kernel_rfl) (by kernel_rfl) (by kernel_rfl) (fun _ _ _ h => h) (by rfl) (fun w4 c4 => ?_) ?_
          · have hca := C16.out w4
            go_simp
          try simp only [Act.put, List.getElem_toArray, List.getElem_cons_succ, List.getElem_cons_zero, List.setIfInBounds_toArray, List.set_cons_zero, List.set_cons_succ]
          refine wpAnyT_take 45 (v := (.string (str T16))) rfl (by kernel_rfl) (by kernel_rfl) (by kernel_rfl) (fun _ _ _ h => h) (by rfl) (fun w4 c4 => ?_) ?_
          · go_simp
          try simp only [Act.put, List.getElem_toArray, List.getElem_cons_succ, List.getElem_cons_zero, List.setIfInBounds_toArray, List.set_cons_zero, List.set_cons_succ]
          refine wpAnyT_take 46 (v := (.int .i64 0)) rfl (by kernel_rfl) (by kernel_rfl) (by kernel_rfl) (fun _ _ _ h => h) (by rfl) (fun w4 c4 => ?_) ?_
          · go_simp
          try simp only [Act.put, List.getElem_toArray, List.getElem_cons_succ, List.getElem_cons_zero, List.setIfInBounds_toArray, List.set_cons_zero, List.set_cons_succ]
          refine wpAnyT_done (by kernel_rfl) (fun w5 c5 => ?_) _
          have hEnd : Chg [] w w5 := (cw6.nil c23).nil c5
          go_wp2_with fail
          go_ret2
          refine ⟨?_, hEnd⟩
          have hh := HP0.out
          rw [HDD.out.1, HDD.out.2, HT.out] at hh
          rw [hh]
          rfl
        · have hpl : (picL a).2 = 4 := by rw [HPZ.out.1, if_neg hzz, h4]
          have hPR := HPZ.out.2.2.2 (.inr hpl)
          have hzt : decide ((a.shp.w = 0 ∧ a.shp.h = 0 ∧ a.shp.c = 0 ∧ a.shp.d = 0) ∧ a.pix = []) = false := decide_eq_false fun h => hzz ⟨h.1.1, h.1.2.1, h.1.2.2.1, h.1.2.2.2, by rw [h.2]; rfl⟩
          rw [hzt] at hzr
          unfold shpZ at hzr
          simp only at hzr
          have HP0 := Lib.hid hPR
          clear hpl hzz hzt h4 hPR
          go_wp2_with fail
          refine hen.mono ?_
          rintro e w5 ⟨v5, rfl, hs5, -, c5⟩
          obtain ⟨eo, ec, rfl, -, -⟩ := hs5.shape
          have x7 := c5.cell_some x7 (by simp)
          have x8 := c5.cell_some x8 (by simp)
          have x9 := c5.cell_some x9 (by simp)
          have x10 := c5.cell_some x10 (by simp)
          have x11 := c5.cell_some x11 (by simp)
          clear hen
          go_wp2_with fail
          refine (hzr _ c5).mono ?_
          rintro e w6 ⟨rfl, c56⟩
          go_wp2_with fail
          go_ret2
          rw [HP0.out]
          exact ⟨rfl, (hFc.nil c5).nil c56⟩
/-- The document's Print. -/
theorem rprint_all (a : ActD) (pv mv : Value) (w : World) (hp : Sees w 1 pv a.pix.length (Bs a.pix)) (hm : Sees w 1 mv a.mask.length (Bs a.mask)) (h1 : a.name.length ≤ 100000000) (h2 : a.other.length ≤ 100000000) (h3 : a.text.length ≤ 100000000) (h4 : a.pix.length ≤ 400000) (h5 : a.mask.length ≤ 1000000)
    (hr : ∀ n, n = a.n ∨ n = a.m ∨ n = a.key → -9223372036854775808 ≤ n ∧ n ≤ 9223372036854775807) :
    Calls Tryz.prog 7 #[actV a pv mv] w fun e w' => e = .returned (.tuple #[.string (str (prL a).1), .int .i64 (prL a).2]) ∧ Chg [] w w' := by
  by_cases hk : 1 ≤ a.kind ∧ a.kind ≤ 14
  · exact rprint_good a pv mv w (a.kind - 1).toNat (by omega) (by omega) hp hm h1 h2 h3 h4 h5 hr
  · exact rprint_kind a pv mv w _ _ hk
end Go.Proofs.YtfammoidikdbpaaGreatDoor
