/- The walk of the law ScriptBytes. No statement of the seat is proved here. -/
import Derived.Test.YtgbbjbldlfpbcaaDoorPrint26
set_option linter.unusedVariables false
namespace Go.Aq
open Go.RowKit
/-- The cells of an act of a list. -/
theorem ActsR.row {w0 w : World} {e : TypeId} {ao : Option Addr} {n cap : Nat} {l : List ActT} (h : ActsR w0 w e (.slice ao n cap) l) (i : Nat) (hi : i < l.length) {t : ActT} (ht : l[i] = t) :
    ∃ g, ao = some ⟨g, 0, none⟩ ∧ (w.cell? ⟨g, i * 13, none⟩ = some (.int .i64 t.1.kind) ∧ w.cell? ⟨g, i * 13 + 1, none⟩ = some (.int .i64 t.1.n) ∧ w.cell? ⟨g, i * 13 + 2, none⟩ = some (.int .i64 t.1.m) ∧ w.cell? ⟨g, i * 13 + 3, none⟩ = some (.string (str t.1.name)) ∧ w.cell? ⟨g, i * 13 + 4, none⟩ = some (.string (str t.1.other)) ∧ w.cell? ⟨g, i * 13 + 5, none⟩ = some (.string (str t.1.text)) ∧ w.cell? ⟨g, i * 13 + 6, none⟩ = some (.int .i64 t.1.key)) ∧
    (w.cell? ⟨g, i * 13 + 7, none⟩ = some (.int .i64 t.1.shp.w) ∧ w.cell? ⟨g, i * 13 + 8, none⟩ = some (.int .i64 t.1.shp.h) ∧ w.cell? ⟨g, i * 13 + 9, none⟩ = some (.int .i64 t.1.shp.c) ∧ w.cell? ⟨g, i * 13 + 10, none⟩ = some (.int .i64 t.1.shp.d) ∧ w.cell? ⟨g, i * 13 + 11, none⟩ = some t.2.1 ∧ w.cell? ⟨g, i * 13 + 12, none⟩ = some t.2.2) := by
  subst ht
  obtain ⟨g, cap', hv, -, -, -⟩ := h.own.pos (by omega)
  simp only [Value.slice.injEq] at hv
  obtain ⟨rfl, hn, rfl⟩ := hv
  have hown := h.own
  rw [hn] at hown
  have key : ∀ j, j < 13 → w.cell? ⟨g, i * 13 + j, none⟩ = (actL l[i].1 l[i].2.1 l[i].2.2)[j]? := by
    intro j hj
    rw [hown.cellAt (i * 13 + j) (by omega), rowsT_get l i hi j hj]
  have k0 := key 0 (by decide)
  rw [Nat.add_zero] at k0
  exact ⟨g, rfl, ⟨k0, key 1 (by decide), key 2 (by decide), key 3 (by decide), key 4 (by decide), key 5 (by decide), key 6 (by decide)⟩,
    key 7 (by decide), key 8 (by decide), key 9 (by decide), key 10 (by decide), key 11 (by decide), key 12 (by decide)⟩
end Go.Aq
namespace Go.Proofs.YtgbbjbldlfpbcaaDoor
open Go.RowKit Go.Aq Go.Aq.Wd
set_option maxRecDepth 100000 in
set_option maxHeartbeats 8000000 in
theorem sbytes_small (v : Value) (n : Nat) (b : List UInt8) {w : World} (hv : Sees w 1 v n (Bs b)) (hn : n ≤ 2000) (x y z : Int) (hx : x ≤ 9223372036854775807) (hy : y ≤ 9223372036854775807) (hz : z ≤ 9223372036854775807) (hT : Tabs w) :
    Calls Tryd.prog 3 #[v, .int .i64 x, .int .i64 y, .int .i64 z] w fun e w' => e = .returned (.bool true) ∧ Chg [] w w' := by
  obtain ⟨ao, cap, rfl, hcap, hno⟩ := hv.shape
  have HNO := Lib.hid hno
  clear hno
  have t1 : decide (2000 < (n : Int)) = false := by simp; omega
  have t1' : decide (2000 < n) = false := by simp; omega
  have hf1 := first26 w hT
  go_enter Tryd.func3, Tryd.ntmps3
  go_wp2_with fail
  refine hf1.mono ?_
  rintro e w1 ⟨rfl, c1⟩
  clear hf1
  have hcp := copy_any w1 _ n b (hv.chg0 c1) (by omega) sl_u8
  go_wp2_with fail
  refine hcp.mono ?_
  rintro e w2 ⟨v9, rfl, hO2, c2, hn2⟩
  clear hcp
  have cw2 := c1.nil c2
  have ha := acts_any v9 n b w2 hO2.sees (by omega)
  obtain ⟨ao9, cap9, rfl, -, -⟩ := hO2.sees.shape
  go_wp2_with fail
  refine ha.mono ?_
  rintro e w3 ⟨vl, L, rfl, hL, hLm⟩
  clear ha
  have cw3 := cw2.nil hL.chg
  have hr := racts_any _ n b w3 (hv.chg0 cw3) (by omega)
  have hin := hO2.sees.chg0 hL.chg
  clear hO2 hn2
  go_wp2_with fail
  refine hr.mono ?_
  rintro e w4 ⟨vm, M, rfl, hM, hMm⟩
  clear hr
  have hL4 := hL.to hM.chg
  have cw4 := cw3.nil hM.chg
  have hlen : L.length = M.length := by have := congrArg List.length (hLm.trans hMm.symm); simpa using this
  obtain ⟨q, hq⟩ : ∃ q, M.length = q := ⟨_, rfl⟩
  have hown1 := hL4.own
  have hown2 := hM.own
  rw [hlen, hq] at hown1
  rw [hq] at hown2
  obtain ⟨ao1, cap1, rfl, -, -⟩ := hown1.sees.shape
  obtain ⟨ao2, cap2, rfl, -, -⟩ := hown2.sees.shape
  have hsm := same_yes w4 _ _ n n b b (hin.chg0 hM.chg) (hv.chg0 cw4) rfl
  have HL := Lib.hid (And.intro hL4 (And.intro hM (And.intro hlen (And.intro hq (And.intro hLm (And.intro hMm cw4))))))
  clear hown1 hown2 hL hL4 hM hlen hq hLm hMm cw4 cw3 cw2 c1 c2 hin
  go_wp2_with fail
  refine hsm.mono ?_
  rintro e w5 ⟨rfl, rfl⟩
  clear hsm
  go_wp2_with fail
  refine (pic_any x y z hx hy hz _).mono ?_
  rintro e w5 ⟨pv, rfl, hp5, -, c5⟩
  go_wp2_with fail
  refine (rpic_any x y z hx hy hz _).mono ?_
  rintro e w6 ⟨pv2, rfl, hp6, -, c6⟩
  have hra := raster_yes (picS x.toNat y.toNat z.toNat) _ _ _ _ (picP x.toNat y.toNat z.toNat) w6 (hp5.chg0 c6) hp6
  clear hp5 hp6
  have c46 := c5.nil c6
  clear c5 c6
  go_wp2_with fail
  refine hra.mono ?_
  rintro e w7 ⟨rfl, c7⟩
  have c47 := c46.nil c7
  clear hra c46 c7
  go_wp2_with fail
  go_loopg [12] q (fun k v12 wr => ∃ (i : Nat), i + k = q ∧ v12 = .int .i64 i ∧ Chg [] w4 wr)
  case atStart => exact ⟨0, by omega, rfl, c47⟩
  case round =>
    clear c47
    obtain ⟨i, hi, rfl, cr⟩ := hrel
    by_cases hiq : i < q
    · have t2 : decide ((i : Int) < (q : Int)) = true := by simp; omega
      have t2' : decide (i < q) = true := by simp; omega
      have iq : (i : Int) < (q : Int) := by omega
      have hi2000 : i ≤ 300 := by
        obtain ⟨-, -, -, hq, -, hMm, -⟩ := HL.out
        have := congrArg List.length hMm
        rw [List.length_map, hq, actsA_len] at this
        unfold actsN at this; omega
      obtain ⟨A, pa, ma, pb, mb, hLi, hMi, hl1, hl2⟩ : ∃ A pa ma pb mb, (∃ h : i < L.length, L[i] = (A, pa, ma)) ∧ (∃ h : i < M.length, M[i] = (A, pb, mb)) ∧ True ∧ True := by
        obtain ⟨-, -, hlen, hq, hLm, hMm, -⟩ := HL.out
        have h1 : i < L.length := by omega
        have h2 : i < M.length := by omega
        have e : L[i].1 = M[i].1 := by
          have e1 : (L.map (·.1))[i]'(by simpa using h1) = (M.map (·.1))[i]'(by simpa using h2) := by simp only [hLm, hMm]
          simpa using e1
        exact ⟨L[i].1, L[i].2.1, L[i].2.2, M[i].2.1, M[i].2.2, ⟨h1, rfl⟩, ⟨h2, by rw [e]⟩, trivial, trivial⟩
      obtain ⟨h1, hLi⟩ := hLi
      obtain ⟨h2, hMi⟩ := hMi
      obtain ⟨eL, -, -⟩ := HL.out.1.each _ (hLi ▸ List.getElem_mem h1)
      obtain ⟨eM, -, -⟩ := HL.out.2.1.each _ (hMi ▸ List.getElem_mem h2)
      have hsa := fun w' (c : Chg [] w4 w') => actsame_yes A pa ma pb mb w' (eL.pix.chg0 c) (eL.mask.chg0 c) (eM.pix.chg0 c) (eM.mask.chg0 c)
      obtain ⟨g1, rfl, ⟨x0, x1, x2, x3, x4, x5, x6⟩, x7, x8, x9, x10, x11, x12⟩ := HL.out.1.row i h1 hLi
      obtain ⟨g2, rfl, ⟨y0, y1, y2, y3, y4, y5, y6⟩, y7, y8, y9, y10, y11, y12⟩ := HL.out.2.1.row i h2 hMi
      simp only at x0 x1 x2 x3 x4 x5 x6 x7 x8 x9 x10 x11 x12 y0 y1 y2 y3 y4 y5 y6 y7 y8 y9 y10 y11 y12
      have HI := Lib.hid (And.intro hi hiq)
      clear hi hiq hLi hMi eL eM h1 h2 hl1 hl2
      go_upto_region 12 with (fail)
      obtain ⟨X, hne, F, u0, hF0, hF, hX⟩ := fam0 wr
      have hF4 := fun u => cr.nil (hF u)
      have z0 := fun u => (hF4 u).cell_some x0 (by simp)
      have z1 := fun u => (hF4 u).cell_some x1 (by simp)
      have z2 := fun u => (hF4 u).cell_some x2 (by simp)
      have z3 := fun u => (hF4 u).cell_some x3 (by simp)
      have z4 := fun u => (hF4 u).cell_some x4 (by simp)
      have z5 := fun u => (hF4 u).cell_some x5 (by simp)
      have z6 := fun u => (hF4 u).cell_some x6 (by simp)
      have z7 := fun u => (hF4 u).cell_some x7 (by simp)
      have z8 := fun u => (hF4 u).cell_some x8 (by simp)
      have z9 := fun u => (hF4 u).cell_some x9 (by simp)
      have z10 := fun u => (hF4 u).cell_some x10 (by simp)
      have z11 := fun u => (hF4 u).cell_some x11 (by simp)
      have z12 := fun u => (hF4 u).cell_some x12 (by simp)
      have q0 := fun u => (hF4 u).cell_some y0 (by simp)
      have q1 := fun u => (hF4 u).cell_some y1 (by simp)
      have q2 := fun u => (hF4 u).cell_some y2 (by simp)
      have q3 := fun u => (hF4 u).cell_some y3 (by simp)
      have q4 := fun u => (hF4 u).cell_some y4 (by simp)
      have q5 := fun u => (hF4 u).cell_some y5 (by simp)
      have q6 := fun u => (hF4 u).cell_some y6 (by simp)
      have q7 := fun u => (hF4 u).cell_some y7 (by simp)
      have q8 := fun u => (hF4 u).cell_some y8 (by simp)
      have q9 := fun u => (hF4 u).cell_some y9 (by simp)
      have q10 := fun u => (hF4 u).cell_some y10 (by simp)
      have q11 := fun u => (hF4 u).cell_some y11 (by simp)
      have q12 := fun u => (hF4 u).cell_some y12 (by simp)
      clear x0 x1 x2 x3 x4 x5 x6 x7 x8 x9 x10 x11 x12 y0 y1 y2 y3 y4 y5 y6 y7 y8 y9 y10 y11 y12
      have hsF := fun u => hsa (F u) (hF4 u)
      unfold actV actL at hsF
      refine wp_fam F (by kernel_rfl) (by kernel_rfl) u0 hF0 ?_
      repeat (go_big_quiet_step (exact fam_call hF hX (hsF _)))
      refine wpQuiet_nil ?_
      rintro w' ⟨u1, rfl⟩
      clear z0 z1 z2 z3 z4 z5 z6 z7 z8 z9 z10 z11 z12 q0 q1 q2 q3 q4 q5 q6 q7 q8 q9 q10 q11 q12 hsF hsa
      have cu := hF4 u1
      generalize F u1 = w8 at *
      clear hF4 hX hF hF0
      go_wp2_with fail
      go_roundg (gk - 1)
      case measure => have := HI.out; omega
      case rel => exact ⟨i + 1, by have := HI.out; omega, by go_num, cu⟩
    · have t2 : decide ((i : Int) < (q : Int)) = false := by simp; omega
      have t2' : decide (i < q) = false := by simp; omega
      have cwr := HL.out.2.2.2.2.2.2.nil cr
      have hf1 := first26 wr (hT.chg cwr)
      clear hi hiq cr
      go_wp2_with fail
      refine hf1.mono ?_
      rintro e w8 ⟨rfl, c8⟩
      go_wp2_with fail
      go_ret
      exact ⟨rfl, cwr.nil c8⟩
set_option maxRecDepth 100000 in
set_option maxHeartbeats 4000000 in
theorem sbytes_walk (v : Value) (n : Nat) (b : List UInt8) {w : World} (s : Sees w 1 v n (Bs b) ∧ n ≤ 9223372036854775807) (x : Int) (hx : -9223372036854775808 ≤ x ∧ x ≤ 9223372036854775807) (y : Int) (hy : -9223372036854775808 ≤ y ∧ y ≤ 9223372036854775807) (z : Int) (hz : -9223372036854775808 ≤ z ∧ z ≤ 9223372036854775807) (hT : Tabs w) :
    Calls Tryd.prog 3 #[v, .int .i64 x, .int .i64 y, .int .i64 z] w fun e w' => e = .returned (.bool true) ∧ Chg [] w w' := by
  by_cases hn : n ≤ 2000
  · exact sbytes_small v n b s.1 hn x y z hx.2 hy.2 hz.2 hT
  · obtain ⟨hv, hn63⟩ := s
    obtain ⟨ao, cap, rfl, hcap, hno⟩ := hv.shape
    have t1 : decide (2000 < (n : Int)) = true := by simp; omega
    have t1' : decide (2000 < n) = true := by simp; omega
    clear hno hv hn
    have hf1 := first26 w hT
    go_enter Tryd.func3, Tryd.ntmps3
    go_wp2_with fail
    refine hf1.mono ?_
    rintro e w1 ⟨rfl, c1⟩
    have hf2 := first26 w1 (hT.chg c1)
    clear hf1
    go_wp2_with fail
    refine hf2.mono ?_
    rintro e w2 ⟨rfl, c2⟩
    go_wp2_with fail
    go_ret
    exact ⟨rfl, c1.nil c2⟩
end Go.Proofs.YtgbbjbldlfpbcaaDoor
