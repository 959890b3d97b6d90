/- The walk of the law ScriptPics. No statement of the seat is proved here. -/
import Derived.Test.YtgbbjbldlfpbcaaDoorSBytes
import Derived.Test.YtgbbjbldlfpbcaaDoorPlain26
set_option linter.unusedVariables false
set_option linter.unusedSimpArgs false
namespace Go.Aq
open Go.RowKit
theorem Sees.take {w : World} {ao : Option Addr} {n cap at_ : Nat} {b : List UInt8} (h : Sees w 1 (.slice ao n cap) n (Bs b)) (ha : at_ ≤ n) : Sees w 1 (.slice ao at_ cap) at_ (Bs (b.take at_)) := by
  obtain ⟨h1, ao', cap', h2, h3, h4, h5⟩ := h
  simp only [Value.slice.injEq, true_and] at h2
  obtain ⟨rfl, rfl⟩ := h2
  have hbl : b.length = n := by simpa [Bs] using h1
  refine ⟨by simp [Bs]; omega, ao, cap, rfl, by omega, fun e => ⟨by have := (h4 e).1; omega, (h4 e).2⟩, fun ad had j u hu => h5 ad had j u ?_⟩
  have e : Bs (b.take at_) = (Bs b).take at_ := by simp [Bs, List.map_take]
  rw [e] at hu
  rw [List.getElem?_take] at hu
  split at hu
  · exact hu
  · cases hu
theorem actK_kind (k x y z : Nat) : 1 ≤ (actK k x y z).kind ∧ (actK k x y z).kind ≤ 14 := by
  unfold actK
  split
  · unfold frontA; repeat' split
    all_goals exact ⟨by simp, by simp⟩
  · unfold backA; repeat' split
    all_goals exact ⟨by simp, by simp⟩
theorem actAt_take (b : List UInt8) (n i : Nat) (h : 4 * i + 3 < n) : actAt (b.take n) i = actAt b i := by
  have e : ∀ j, j < n → (b.take n).getD j 0 = b.getD j 0 := fun j hj => by simp [List.getD_eq_getElem?_getD, List.getElem?_take, hj]
  unfold actAt
  rw [e _ (by omega), e _ (by omega), e _ (by omega), e _ (by omega)]
end Go.Aq
namespace Go.Proofs.YtgbbjbldlfpbcaaDoor
open Go.RowKit Go.Aq Go.Aq.Wd
set_option maxRecDepth 100000 in
set_option maxHeartbeats 8000000 in
theorem spics_small (x y z : Int) (hx : x ≤ 9223372036854775807) (hy : y ≤ 9223372036854775807) (hz : z ≤ 9223372036854775807) (v : Value) (n : Nat) (b : List UInt8) {w : World} (hv : Sees w 1 v n (Bs b)) (hn : n ≤ 2000) (at_ : Nat) (hat : at_ ≤ n) (hT : Tabs w) :
    Calls Tryd.prog 4 #[.int .i64 x, .int .i64 y, .int .i64 z, v, .int .i64 at_] w fun e w' => e = .returned (.bool true) ∧ Chg [] w w' := by
  obtain ⟨ao, cap, rfl, hcap, hno⟩ := hv.shape
  have HNO := Lib.hid hno
  clear hno
  have t1 : decide (2000 < (n : Int)) = false := by simp; omega
  have t1' : decide (2000 < n) = false := by simp; omega
  have t2 : decide ((at_ : Int) < 0) = false := by simp
  have t3 : decide ((n : Int) < (at_ : Int)) = false := by simp; omega
  have t3' : decide (n < at_) = false := by simp; omega
  have hf1 := first26 w hT
  go_enter Tryd.func4, Tryd.ntmps4
  go_wp2_with fail
  refine hf1.mono ?_
  rintro e w1 ⟨rfl, c1⟩
  clear hf1
  go_wp2_with fail
  refine (pic_any x y z hx hy hz _).mono ?_
  rintro e w2 ⟨pv, rfl, hp2, -, c2⟩
  have hms : mayPix (picS x.toNat y.toNat z.toNat) (picN x.toNat y.toNat z.toNat) = true := by
    unfold mayPix; rw [picS_maySh, picS_size]; simp
  have hpn := picN_le x.toNat y.toNat z.toNat
  have sw : (picS x.toNat y.toNat z.toNat).w ≤ 12 := by unfold picS; simp only; omega
  have sh : (picS x.toNat y.toNat z.toNat).h ≤ 10 := by unfold picS; simp only; omega
  generalize picN x.toNat y.toNat z.toNat = pn at *
  generalize picS x.toNat y.toNat z.toNat = ps at *
  generalize picP x.toNat y.toNat z.toNat = pp at *
  obtain ⟨aop, capp, rfl, -, -⟩ := hp2.shape
  have cw2 := c1.nil c2
  clear hp2 c1 c2
  unfold rasV
  go_upto_region 6 with (fail)
  obtain ⟨P, hP⟩ : ∃ P, w2.heap.size = P := ⟨_, rfl⟩
  have hbP : Blk (w2.alloc (.cells #[.int .i64 ps.w, .int .i64 ps.h, .int .i64 ps.c, .int .i64 ps.d, .slice aop pn capp] 34)) P #[.int .i64 ps.w, .int .i64 ps.h, .int .i64 ps.c, .int .i64 ps.d, .slice aop pn capp] 34 := Blk.new_at w2 _ _ hP
  have cw3 : Chg [] w (w2.alloc (.cells #[.int .i64 ps.w, .int .i64 ps.h, .int .i64 ps.c, .int .i64 ps.d, .slice aop pn capp] 34)) := cw2.alloc _
  rw [hP]
  clear cw2 hP
  generalize (w2.alloc (.cells #[.int .i64 ps.w, .int .i64 ps.h, .int .i64 ps.c, .int .i64 ps.d, .slice aop pn capp] 34)) = w3 at *
  have hac : at_ ≤ cap := by omega
  have hac' : (at_ : Int) ≤ (cap : Int) := by omega
  refine wp_region_T (by kernel_rfl) ?_
  refine wpAnyT_take 0 (v := .slice ao n cap) rfl (by kernel_rfl) (by kernel_rfl) (by kernel_rfl) (fun _ _ _ h => h) (by rfl) (fun w4 c4 => ?_) ?_
  · go_simp
  try simp only [Act.put, List.getElem_toArray, List.getElem_cons_succ, List.getElem_cons_zero, List.setIfInBounds_toArray, List.set_cons_zero, List.set_cons_succ]
  refine wpAnyT_take 2 (v := .slice ao n cap) rfl (by kernel_rfl) (by kernel_rfl) (by kernel_rfl) (fun _ _ _ h => h) (by rfl) (fun w4 c4 => ?_) ?_
  · go_simp
  try simp only [Act.put, List.getElem_toArray, List.getElem_cons_succ, List.getElem_cons_zero, List.setIfInBounds_toArray, List.set_cons_zero, List.set_cons_succ]
  refine wpAnyT_take 3 (v := .int .i64 at_) rfl (by kernel_rfl) (by kernel_rfl) (by kernel_rfl) (fun _ _ _ h => h) (by rfl) (fun w4 c4 => ?_) ?_
  · go_simp
  try simp only [Act.put, List.getElem_toArray, List.getElem_cons_succ, List.getElem_cons_zero, List.setIfInBounds_toArray, List.set_cons_zero, List.set_cons_succ]
  refine wpAnyT_take 4 (v := .slice ao at_ cap) rfl (by kernel_rfl) (by kernel_rfl) (by kernel_rfl) (fun _ _ _ h => h) (by rfl) (fun w4 c4 => ?_) ?_
  · go_simp
  try simp only [Act.put, List.getElem_toArray, List.getElem_cons_succ, List.getElem_cons_zero, List.setIfInBounds_toArray, List.set_cons_zero, List.set_cons_succ]
  refine wpAnyT_only 1 rfl (by kernel_rfl) (by rfl) (fun w4 c4 => ?_)
  go_simp
  refine (acts_any _ n b w4 (hv.chg0 (cw3.nil c4)) (by omega)).mono ?_
  rintro e w5 ⟨vl, L, rfl, hL, hLm⟩
  refine ⟨hL.chg, ?_⟩
  try simp only [Act.put, List.getElem_toArray, List.getElem_cons_succ, List.getElem_cons_zero, List.setIfInBounds_toArray, List.set_cons_zero, List.set_cons_succ]
  refine wpAnyT_only 5 rfl (by kernel_rfl) (by rfl) (fun w6 c6 => ?_)
  go_simp
  refine (acts_any _ at_ (b.take at_) w6 ((hv.chg0 (((cw3.nil c4).nil hL.chg).nil c6)).take hat) (by omega)).mono ?_
  rintro e w7 ⟨vm, M, rfl, hM, hMm⟩
  refine ⟨hM.chg, ?_⟩
  try simp only [Act.put, List.getElem_toArray, List.getElem_cons_succ, List.getElem_cons_zero, List.setIfInBounds_toArray, List.set_cons_zero, List.set_cons_succ]
  refine wpAnyT_take 6 (v := vl) rfl (by kernel_rfl) (by kernel_rfl) (by kernel_rfl) (fun _ _ _ h => h) (by rfl) (fun w8 c8 => by go_simp) ?_
  try simp only [Act.put, List.getElem_toArray, List.getElem_cons_succ, List.getElem_cons_zero, List.setIfInBounds_toArray, List.set_cons_zero, List.set_cons_succ]
  refine wpAnyT_take 7 (v := vm) rfl (by kernel_rfl) (by kernel_rfl) (by kernel_rfl) (fun _ _ _ h => h) (by rfl) (fun w8 c8 => by go_simp) ?_
  try simp only [Act.put, List.getElem_toArray, List.getElem_cons_succ, List.getElem_cons_zero, List.setIfInBounds_toArray, List.set_cons_zero, List.set_cons_succ]
  refine wpAnyT_done (by kernel_rfl) (fun w8 c8 => ?_) _
  have hL8 := ((hL.to c6).to hM.chg).to c8
  have hM8 := hM.to c8
  have cw8 : Chg [] w w8 := (((((cw3.nil c4).nil hL.chg).nil c6).nil hM.chg)).nil c8
  have hbP8 := (((((hbP.chg0 c4).chg0 hL.chg).chg0 c6).chg0 hM.chg).chg0 c8)
  have hbl : b.length = n := by have := hv.len; simpa [Bs] using this
  have hlL : L.length = actsN n := by have := congrArg List.length hLm; rw [List.length_map, actsA_len, hbl] at this; exact this
  have hlM : M.length = actsN at_ := by have := congrArg List.length hMm; rw [List.length_map, actsA_len, List.length_take, hbl, Nat.min_eq_left hat] at this; exact this
  have hle : actsN at_ ≤ actsN n := by unfold actsN; omega
  have hq300 : actsN at_ ≤ 300 := by unfold actsN; omega
  have hqe : ((actsN at_ : Nat) : Int) = min ((at_ : Int) / 4) 300 := by unfold actsN; omega
  have hq4 : 4 * actsN at_ ≤ at_ := by unfold actsN; omega
  obtain ⟨q, hq⟩ : ∃ q, actsN at_ = q := ⟨_, rfl⟩
  obtain ⟨qL, hqL⟩ : ∃ q, actsN n = q := ⟨_, rfl⟩
  rw [hq] at hlM hle hq300 hqe hq4
  rw [hqL] at hlL hle
  have hown1 := hL8.own
  have hown2 := hM8.own
  rw [hlL] at hown1
  rw [hlM] at hown2
  obtain ⟨ao1, cap1, rfl, -, -⟩ := hown1.sees.shape
  obtain ⟨ao2, cap2, rfl, -, -⟩ := hown2.sees.shape
  have HL := Lib.hid (And.intro hL8 (And.intro hM8 (And.intro hlL (And.intro hlM (And.intro hLm (And.intro hMm (And.intro cw8 (And.intro hle (And.intro hbl hq4)))))))))
  have t4 : ((q : Int) != min ((at_ : Int) / 4) 300) = false := by rw [← hqe]; simp
  have t5 : decide ((qL : Int) < (q : Int)) = false := by simp; omega
  have t5' : decide (qL < q) = false := by simp; omega
  have t6 : decide (12 < ps.w) = false := by simp; omega
  have t7 : decide (10 < ps.h) = false := by simp; omega
  obtain ⟨x0, x1, x2, x3, x4⟩ := Blk5 hbP8
  have hmp := mayPix_any ps aop pn capp (by omega) w8
  rw [hms] at hmp
  unfold rasV at hmp
  have HB := Lib.hid hbP8
  clear hown1 hown2 hL8 hM8 cw8 hbP hbP8 hbl hlL hlM hle hqe hq hqL hLm hMm hL hM c4 c6 c8 cw3 hms sw sh hq4
  go_wp2_with fail
  refine hmp.mono ?_
  rintro e w9 ⟨rfl, c9⟩
  clear hmp x0 x1 x2 x3 x4
  obtain ⟨x0, x1, x2, x3, x4⟩ := Blk5 (HB.out.chg0 c9)
  go_wp2_with fail
  clear x0 x1 x2 x3 x4
  go_loopg [14] q (fun k v14 wr => ∃ (i : Nat), i + k = q ∧ v14 = .int .i64 i ∧ Chg [] w8 wr)
  case atStart => exact ⟨0, by omega, rfl, c9⟩
  case round =>
    clear c9
    obtain ⟨i, hi, rfl, cr⟩ := hrel
    by_cases hiq : i < q
    · have s2 : decide ((i : Int) < (q : Int)) = true := by simp; omega
      have s2' : decide (i < q) = true := by simp; omega
      have iq : (i : Int) < (q : Int) := by omega
      have iqL : (i : Int) < (qL : Int) := by have := HL.out.2.2.2.2.2.2.2.1; omega
      have hi300 : i ≤ 300 := by omega
      obtain ⟨A, pa, ma, pb, mb, hLi, hMi, hk1, hk2⟩ : ∃ A pa ma pb mb, (∃ h : i < L.length, L[i] = (A, pa, ma)) ∧ (∃ h : i < M.length, M[i] = (A, pb, mb)) ∧ 1 ≤ A.kind ∧ A.kind ≤ 14 := by
        obtain ⟨-, -, hlL, hlM, hLm, hMm, -, hle, hbl, hq4⟩ := HL.out
        have h1 : i < L.length := by omega
        have h2 : i < M.length := by omega
        have eL : L[i].1 = actAt b i := by
          have e1 : (L.map (·.1))[i]'(by simpa using h1) = (actsA b)[i]'(by rw [← hLm]; simpa using h1) := by simp only [hLm]
          rw [actsA_get] at e1
          simpa using e1
        have eM : M[i].1 = actAt b i := by
          have e1 : (M.map (·.1))[i]'(by simpa using h2) = (actsA (b.take at_))[i]'(by rw [← hMm]; simpa using h2) := by simp only [hMm]
          rw [actsA_get, actAt_take b at_ i (by omega)] at e1
          simpa using e1
        have hk := actK_kind ((b.getD (4 * i) 0).toNat % 16) (b.getD (4 * i + 1) 0).toNat (b.getD (4 * i + 2) 0).toNat (b.getD (4 * i + 3) 0).toNat
        exact ⟨actAt b i, L[i].2.1, L[i].2.2, M[i].2.1, M[i].2.2, ⟨h1, by rw [← eL]⟩, ⟨h2, by rw [← eM]⟩, hk.1, hk.2⟩
      obtain ⟨h1, hLi⟩ := hLi
      obtain ⟨h2, hMi⟩ := hMi
      obtain ⟨eL, -, -⟩ := HL.out.1.each _ (hLi ▸ List.getElem_mem h1)
      obtain ⟨eM, -, -⟩ := HL.out.2.1.each _ (hMi ▸ List.getElem_mem h2)
      have hsa := fun w' (c : Chg [] w8 w') => actsame_yes A pb mb pa ma w' (eM.pix.chg0 c) (eM.mask.chg0 c) (eL.pix.chg0 c) (eL.mask.chg0 c)
      obtain ⟨g1, rfl, ⟨x0, x1, x2, x3, x4, x5, x6⟩, x7, x8, x9, x10, x11, x12⟩ := HL.out.1.row i h1 hLi
      obtain ⟨g2, rfl, ⟨y0, y1, y2, y3, y4, y5, y6⟩, y7, y8, y9, y10, y11, y12⟩ := HL.out.2.1.row i h2 hMi
      simp only at x0 x1 x2 x3 x4 x5 x6 x7 x8 x9 x10 x11 x12 y0 y1 y2 y3 y4 y5 y6 y7 y8 y9 y10 y11 y12
      obtain ⟨a1, cp1, e1, -, -⟩ := eL.pix.shape
      obtain ⟨a2, cp2, e2, -, -⟩ := eL.mask.shape
      simp only at e1 e2
      generalize A.pix.length = np at e1
      generalize A.mask.length = nm at e2
      subst e1 e2
      have hpl := fun w' => actplain_any A a1 a2 np cp1 nm cp2 w'
      have s3 : decide (A.kind < 1) = false := by simp; omega
      have s4 : decide (14 < A.kind) = false := by simp; omega
      have HI := Lib.hid (And.intro hi hiq)
      clear hi hiq hLi hMi eL eM h1 h2 hk1 hk2
      go_upto_region 12 with (fail)
      obtain ⟨X, hne, F, u0, hF0, hF, hX⟩ := fam0 wr
      have hF4 := fun u => cr.nil (hF u)
      have z0 := fun u => (hF4 u).cell_some x0 (by simp)
      have z1 := fun u => (hF4 u).cell_some x1 (by simp)
      have z2 := fun u => (hF4 u).cell_some x2 (by simp)
      have z3 := fun u => (hF4 u).cell_some x3 (by simp)
      have z4 := fun u => (hF4 u).cell_some x4 (by simp)
      have z5 := fun u => (hF4 u).cell_some x5 (by simp)
      have z6 := fun u => (hF4 u).cell_some x6 (by simp)
      have z7 := fun u => (hF4 u).cell_some x7 (by simp)
      have z8 := fun u => (hF4 u).cell_some x8 (by simp)
      have z9 := fun u => (hF4 u).cell_some x9 (by simp)
      have z10 := fun u => (hF4 u).cell_some x10 (by simp)
      have z11 := fun u => (hF4 u).cell_some x11 (by simp)
      have z12 := fun u => (hF4 u).cell_some x12 (by simp)
      have q0 := fun u => (hF4 u).cell_some y0 (by simp)
      have q1 := fun u => (hF4 u).cell_some y1 (by simp)
      have q2 := fun u => (hF4 u).cell_some y2 (by simp)
      have q3 := fun u => (hF4 u).cell_some y3 (by simp)
      have q4 := fun u => (hF4 u).cell_some y4 (by simp)
      have q5 := fun u => (hF4 u).cell_some y5 (by simp)
      have q6 := fun u => (hF4 u).cell_some y6 (by simp)
      have q7 := fun u => (hF4 u).cell_some y7 (by simp)
      have q8 := fun u => (hF4 u).cell_some y8 (by simp)
      have q9 := fun u => (hF4 u).cell_some y9 (by simp)
      have q10 := fun u => (hF4 u).cell_some y10 (by simp)
      have q11 := fun u => (hF4 u).cell_some y11 (by simp)
      have q12 := fun u => (hF4 u).cell_some y12 (by simp)
      clear x0 x1 x2 x3 x4 x5 x6 x7 x8 x9 x10 x11 x12 y0 y1 y2 y3 y4 y5 y6 y7 y8 y9 y10 y11 y12
      have hsF := fun u => hsa (F u) (hF4 u)
      unfold actV actL at hsF hpl
      refine wp_fam F (by kernel_rfl) (by kernel_rfl) u0 hF0 ?_
      repeat (go_big_quiet_step (first | exact fam_call hF hX (hpl _) | exact fam_call hF hX (hsF _)))
      refine wpQuiet_nil ?_
      rintro w' ⟨u1, rfl⟩
      clear z0 z1 z2 z3 z4 z5 z6 z7 z8 z9 z10 z11 z12 q0 q1 q2 q3 q4 q5 q6 q7 q8 q9 q10 q11 q12 hsF hsa hpl
      have cu := hF4 u1
      generalize F u1 = w10 at *
      clear hF4 hX hF hF0
      go_wp2_with fail
      go_roundg (gk - 1)
      case measure => have := HI.out; omega
      case rel => exact ⟨i + 1, by have := HI.out; omega, by go_num, cu⟩
    · have s2 : decide ((i : Int) < (q : Int)) = false := by simp; omega
      have s2' : decide (i < q) = false := by simp; omega
      have cwr := HL.out.2.2.2.2.2.2.1.nil cr
      have hf1 := first26 wr (hT.chg cwr)
      clear hi hiq cr
      go_wp2_with fail
      refine hf1.mono ?_
      rintro e w10 ⟨rfl, c10⟩
      go_wp2_with fail
      go_ret
      exact ⟨rfl, cwr.nil c10⟩
set_option maxRecDepth 100000 in
set_option maxHeartbeats 4000000 in
theorem spics_walk (x : Int) (hx : -9223372036854775808 ≤ x ∧ x ≤ 9223372036854775807) (y : Int) (hy : -9223372036854775808 ≤ y ∧ y ≤ 9223372036854775807) (z : Int) (hz : -9223372036854775808 ≤ z ∧ z ≤ 9223372036854775807) (v : Value) (n : Nat) (b : List UInt8) {w : World} (s : Sees w 1 v n (Bs b) ∧ n ≤ 9223372036854775807) (at_ : Int) (ha : -9223372036854775808 ≤ at_ ∧ at_ ≤ 9223372036854775807) (hT : Tabs w) :
    Calls Tryd.prog 4 #[.int .i64 x, .int .i64 y, .int .i64 z, v, .int .i64 at_] w fun e w' => e = .returned (.bool true) ∧ Chg [] w w' := by
  obtain ⟨hv, hn63⟩ := s
  by_cases hn : n ≤ 2000
  · by_cases h0 : at_ < 0
    · obtain ⟨ao, cap, rfl, hcap, hno⟩ := hv.shape
      have t1 : decide (2000 < (n : Int)) = false := by simp; omega
      have t1' : decide (2000 < n) = false := by simp; omega
      have t2 : decide (at_ < 0) = true := by simp; omega
      clear hno hv hn h0
      have hf1 := first26 w hT
      go_enter Tryd.func4, Tryd.ntmps4
      go_wp2_with fail
      refine hf1.mono ?_
      rintro e w1 ⟨rfl, c1⟩
      have hf2 := first26 w1 (hT.chg c1)
      clear hf1
      go_wp2_with fail
      refine hf2.mono ?_
      rintro e w2 ⟨rfl, c2⟩
      go_wp2_with fail
      go_ret
      exact ⟨rfl, c1.nil c2⟩
    · by_cases h1 : (n : Int) < at_
      · obtain ⟨ao, cap, rfl, hcap, hno⟩ := hv.shape
        have t1 : decide (2000 < (n : Int)) = false := by simp; omega
        have t1' : decide (2000 < n) = false := by simp; omega
        have t2 : decide (at_ < 0) = false := by simp; omega
        have t3 : decide ((n : Int) < at_) = true := by simp; omega
        clear hno hv hn h0 h1
        have hf1 := first26 w hT
        go_enter Tryd.func4, Tryd.ntmps4
        go_wp2_with fail
        refine hf1.mono ?_
        rintro e w1 ⟨rfl, c1⟩
        have hf2 := first26 w1 (hT.chg c1)
        clear hf1
        go_wp2_with fail
        refine hf2.mono ?_
        rintro e w2 ⟨rfl, c2⟩
        go_wp2_with fail
        go_ret
        exact ⟨rfl, c1.nil c2⟩
      · obtain ⟨k, rfl⟩ : ∃ k : Nat, at_ = k := ⟨at_.toNat, by omega⟩
        exact spics_small x y z hx.2 hy.2 hz.2 v n b hv hn k (by omega) hT
  · obtain ⟨ao, cap, rfl, hcap, hno⟩ := hv.shape
    have t1 : decide (2000 < (n : Int)) = true := by simp; omega
    have t1' : decide (2000 < n) = true := by simp; omega
    clear hno hv hn
    have hf1 := first26 w hT
    go_enter Tryd.func4, Tryd.ntmps4
    go_wp2_with fail
    refine hf1.mono ?_
    rintro e w1 ⟨rfl, c1⟩
    have hf2 := first26 w1 (hT.chg c1)
    clear hf1
    go_wp2_with fail
    refine hf2.mono ?_
    rintro e w2 ⟨rfl, c2⟩
    go_wp2_with fail
    go_ret
    exact ⟨rfl, c1.nil c2⟩
end Go.Proofs.YtgbbjbldlfpbcaaDoor
