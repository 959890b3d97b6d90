/- Contracts of aquref9.sides, Row, Size and aquref24.Pic. No statement of the seat is proved here. -/
import Derived.Test.YtgbbjbldlfpbcaaDoorPic
import Derived.Test.YtgbbjbldlfpbcaaDoorBld2
set_option linter.unusedVariables false
namespace Go.Proofs.YtgbbjbldlfpbcaaDoor
open Go.RowKit Go.Aq Go.Aq.Wd
set_option maxHeartbeats 2000000 in
theorem rnumbers_any (s : ShpD) (w : World) : Calls Tryd.prog 65 #[shpV s] w fun e w' => e = .returned (.bool (numsB s)) ∧ Chg [] w w' := by
  obtain ⟨a, b, c, d⟩ := s
  unfold shpV
  have hc : ∀ o, Chg [] w (w.alloc o) := fun o => (Chg.refl [] w).alloc _
  have HC := Lib.hid hc
  clear hc
  simp only
  go_enter Tryd.func65, Tryd.ntmps65
  go_wp2_with fail
  all_goals go_ret
  all_goals refine ⟨rb ?_, HC.out _⟩
  all_goals (try simp only [beq_iff_eq, beq_eq_false_iff_ne, ne_eq] at *)
  all_goals (rw [Bool.eq_iff_iff, numsB_iff]; simp only [Bool.or_eq_true, beq_iff_eq, Bool.false_eq_true, true_iff, false_iff]; omega)
set_option maxHeartbeats 2000000 in
theorem rrow_any (s : ShpD) (w : World) : Calls Tryd.prog 46 #[shpV s] w fun e w' => e = .returned (.int .i64 (rowD s)) ∧ Chg [] w w' := by
  obtain ⟨K, hK⟩ : ∃ K, w.heap.size = K := ⟨_, rfl⟩
  have hb := shp_blk s w hK
  have hc : Chg [] w (w.alloc (.cells #[.int .i64 s.w, .int .i64 s.h, .int .i64 s.c, .int .i64 s.d] 32)) := (Chg.refl [] w).alloc _
  have hn := fun w' => rnumbers_any s w'
  unfold shpV at *
  cases hN : numsB s with
  | false =>
    have e1 : rowD s = 0 := by unfold rowD; rw [hN]; rfl
    rw [e1]
    rw [hN] at hn
    clear hN e1
    go_enter Tryd.func46, Tryd.ntmps46
    go_wp2_with fail
    refine (hn _).mono ?_
    rintro e w1 ⟨rfl, c1⟩
    go_wp2_with fail
    go_ret
    exact ⟨rfl, hc.nil c1⟩
  | true =>
    have e1 : rowD s = s.w * s.c * s.d / 8 := by unfold rowD; rw [hN]; rfl
    rw [hN] at hn
    obtain ⟨hw, hh, hcc, hd⟩ := (numsB_iff s).1 hN
    obtain ⟨b1, b2, b3⟩ := row_bound s.w s.c s.d hw hcc hd
    have m4 : (s.w * s.c * s.d).tdiv 8 = s.w * s.c * s.d / 8 := Int.tdiv_eq_ediv_of_nonneg (by omega)
    have HM : Hid (wrap64 ((wrap64 (wrap64 (s.w * s.c) * s.d)).tdiv 8) = s.w * s.c * s.d / 8) := by
      show _ = _
      rw [w64 (s.w * s.c) (by omega), w64 (s.w * s.c * s.d) (by omega), m4, w64 _ (by omega)]
    rw [e1]
    clear hN e1 hw hh hcc hd b1 b2 b3 m4
    go_enter Tryd.func46, Tryd.ntmps46
    go_wp2_with fail
    refine (hn _).mono ?_
    rintro e w1 ⟨rfl, c1⟩
    obtain ⟨x0, x1, x2, x3⟩ := Blk4 (hb.chg0 c1)
    go_wp2_with fail
    go_ret
    exact ⟨ri HM.out, hc.nil c1⟩
set_option maxHeartbeats 2000000 in
theorem rsize_any (s : ShpD) (w : World) : Calls Tryd.prog 26 #[shpV s] w fun e w' => e = .returned (.int .i64 (sizeD s)) ∧ Chg [] w w' := by
  obtain ⟨K, hK⟩ : ∃ K, w.heap.size = K := ⟨_, rfl⟩
  have hb := shp_blk s w hK
  have hc : Chg [] w (w.alloc (.cells #[.int .i64 s.w, .int .i64 s.h, .int .i64 s.c, .int .i64 s.d] 32)) := (Chg.refl [] w).alloc _
  have hr := fun w' => rrow_any s w'
  unfold shpV at *
  obtain ⟨q, hq⟩ : ∃ q : Int, min (max s.h 0) 256 = q := ⟨_, rfl⟩
  have hqb : 0 ≤ q ∧ q ≤ 256 := by omega
  have HM : Hid (wrap64 (rowD s * q) = sizeD s) := by
    show _ = _
    cases hN : numsB s with
    | false =>
      have e1 : sizeD s = 0 := by unfold sizeD; rw [hN]; rfl
      have e2 : rowD s = 0 := by unfold rowD; rw [hN]; rfl
      rw [e1, e2, Int.zero_mul]; exact w64 0 (by omega)
    | true =>
      have e1 : sizeD s = rowD s * s.h := by unfold sizeD; rw [hN]; rfl
      obtain ⟨hb1, hb2⟩ := row_size_bound s hN
      obtain ⟨-, hh, -, -⟩ := (numsB_iff s).1 hN
      have : q = s.h := by omega
      rw [this, ← e1]
      exact w64 _ (by omega)
  have hrb : 0 ≤ rowD s ∧ rowD s ≤ 2048 := by
    cases hN : numsB s with
    | false =>
      have e2 : rowD s = 0 := by unfold rowD; rw [hN]; rfl
      omega
    | true => have := (row_size_bound s hN).1; omega
  generalize sizeD s = z at *
  generalize rowD s = r at *
  clear hrb
  go_enter Tryd.func26, Tryd.ntmps26
  go_upto_region 1 with (fail)
  generalize w.alloc (.cells #[.int .i64 s.w, .int .i64 s.h, .int .i64 s.c, .int .i64 s.d] 32) = wb at *
  obtain ⟨x0, x1, x2, x3⟩ := Blk4 hb
  obtain ⟨X, hne, F, x, hF0, hF, hX⟩ := fam0 wb
  have z0 := fun x => (hF x).cell_some x0 (by simp)
  have z1 := fun x => (hF x).cell_some x1 (by simp)
  have z2 := fun x => (hF x).cell_some x2 (by simp)
  have z3 := fun x => (hF x).cell_some x3 (by simp)
  clear hb x0 x1 x2 x3
  refine wp_fam F (by kernel_rfl) (by kernel_rfl) x hF0 ?_
  repeat (go_big_quiet_step (exact fam_call hF hX (hr _)))
  refine wpQuiet_nil ?_
  rintro w' ⟨x1, rfl⟩
  go_wp2_with fail
  go_ret
  exact ⟨ri HM.out, hc.nil (hF x1)⟩
set_option maxRecDepth 100000 in
set_option maxHeartbeats 4000000 in
theorem rpic_any (x y z : Int) (hx : x ≤ 9223372036854775807) (hy : y ≤ 9223372036854775807) (hz : z ≤ 9223372036854775807) (w : World) :
    Calls Tryd.prog 13 #[.int .i64 x, .int .i64 y, .int .i64 z] w fun e w' => ∃ pv, e = .returned (rasV (picS x.toNat y.toNat z.toNat) pv) ∧
      Sees w' 1 pv (picN x.toNat y.toNat z.toNat) (Bs (picP x.toNat y.toNat z.toNat)) ∧ (∀ k ∈ eyes pv, w.heap.size ≤ k) ∧ Chg [] w w' := by
  obtain ⟨K, hK⟩ : ∃ K, w.heap.size = K := ⟨_, rfl⟩
  have ex : max x 0 = (x.toNat : Int) := by omega
  have ey : max y 0 = (y.toNat : Int) := by omega
  have ez : max z 0 = (z.toNat : Int) := by omega
  have bx : x.toNat ≤ 9223372036854775807 := by omega
  have by' : y.toNat ≤ 9223372036854775807 := by omega
  have bz : z.toNat ≤ 9223372036854775807 := by omega
  generalize x.toNat = X at *
  generalize y.toNat = Y at *
  generalize z.toNat = Z at *
  obtain ⟨sa, hsa⟩ : ∃ sa : Int, sa = 1 + (X : Int) % 12 := ⟨_, rfl⟩
  obtain ⟨sb, hsb⟩ : ∃ sb : Int, sb = 1 + (Y : Int) % 10 := ⟨_, rfl⟩
  obtain ⟨sc, hsc⟩ : ∃ sc : Int, sc = 1 + (Z : Int) % 4 := ⟨_, rfl⟩
  obtain ⟨sd, hsd⟩ : ∃ sd : Int, sd = if 11 < Z % 16 then 16 else 8 := ⟨_, rfl⟩
  have HS : Hid (picS X Y Z = ⟨sa, sb, sc, sd⟩) := by
    show _ = _
    unfold picS; rw [hsa, hsb, hsc, hsd, Int.natCast_add, Int.natCast_add, Int.natCast_add]; rfl
  have HSA := Lib.hid (And.intro hsa (And.intro hsb (And.intro hsc hsd)))
  clear hsa hsb hsc hsd
  go_enter Tryd.func13, Tryd.ntmps13
  go_upto_if 28 with (fail)
  go_cut [] from 26 to 29 (fun wx => Blk wx K #[.int .i64 0, .int .i64 0, .int .i64 0, .int .i64 0, .slice none 0 0] 34 ∧ Blk wx (K + 1) #[.int .i64 sa, .int .i64 sb, .int .i64 sc, .int .i64 sd] 32 ∧ wx.heap.size = K + 1 + 1 ∧ Chg [] w wx)
  case first =>
    obtain ⟨h1, h2, h3, h4⟩ := HSA.out
    clear HSA HS
    by_cases h16 : 11 < Z % 16
    · rw [if_pos h16] at h4
      subst h1 h2 h3 h4
      have t1 : decide ((11 : Int) < (Z : Int) % 16) = true := decide_eq_true (by omega)
      go_wp2_with fail
      go_meet
      have hs1 : ∀ o, (w.alloc o).heap.size = K + 1 := fun o => by simp [hK]
      exact ⟨(Blk.new_at w _ _ hK).alloc _, Blk.new_at (w.alloc _) _ _ (hs1 _), by simp [hK], ((Chg.refl [] w).alloc _).alloc _⟩
    · rw [if_neg h16] at h4
      subst h1 h2 h3 h4
      have t1 : decide ((11 : Int) < (Z : Int) % 16) = false := decide_eq_false (by omega)
      go_wp2_with fail
      go_meet
      have hs1 : ∀ o, (w.alloc o).heap.size = K + 1 := fun o => by simp [hK]
      exact ⟨(Blk.new_at w _ _ hK).alloc _, Blk.new_at (w.alloc _) _ _ (hs1 _), by simp [hK], ((Chg.refl [] w).alloc _).alloc _⟩
  case rest =>
    obtain ⟨hb0, hb1, hs2, hc2⟩ := hcut
    generalize wc = w2 at *
    have hsz := fun w' => rsize_any (picS X Y Z) w'
    rw [picS_size, HS.out] at hsz
    unfold shpV at hsz
    simp only at hsz
    have hnb := picN_le X Y Z
    obtain ⟨N, hN⟩ : ∃ N, N = picN X Y Z := ⟨_, rfl⟩
    rw [← hN] at hsz hnb
    have HN := Lib.hid hN
    clear hN
    clear ex ey ez hx hy hz
    obtain ⟨x0, x1, x2, x3⟩ := Blk4 hb1
    have hbR0 : Blk (w2.alloc (.cells #[.int .i64 sa, .int .i64 sb, .int .i64 sc, .int .i64 sd, .slice none 0 0] 34)) (K + 1 + 1) #[.int .i64 sa, .int .i64 sb, .int .i64 sc, .int .i64 sd, .slice none 0 0] 34 := Blk.new_at w2 _ _ hs2
    have hf0 : Fresh w (w2.alloc (.cells #[.int .i64 sa, .int .i64 sb, .int .i64 sc, .int .i64 sd, .slice none 0 0] 34)) 5 1 (.slice none 0 0) 0 [] := (Fresh.nil w _ _).to (hc2.alloc _)
    have HX := Lib.hid (And.intro hbR0 (And.intro hf0 (And.intro (hb0.alloc (.cells #[.int .i64 sa, .int .i64 sb, .int .i64 sc, .int .i64 sd, .slice none 0 0] 34)) (hb1.alloc (.cells #[.int .i64 sa, .int .i64 sb, .int .i64 sc, .int .i64 sd, .slice none 0 0] 34)))))
    clear hbR0 hf0 hb0 hb1 hc2
    go_wp2_with fail
    go_loopg [9] N (fun k vi wr => ∃ (i : Nat) (v : Value), vi = .int .i64 i ∧ i + k = N ∧ Fresh w wr 5 1 v i (Bs ((picP X Y Z).take i)) ∧ Blk wr (K + 1 + 1) #[.int .i64 sa, .int .i64 sb, .int .i64 sc, .int .i64 sd, v] 34 ∧ Blk wr (K + 1) #[.int .i64 sa, .int .i64 sb, .int .i64 sc, .int .i64 sd] 32 ∧ Blk wr K #[.int .i64 0, .int .i64 0, .int .i64 0, .int .i64 0, .slice none 0 0] 34)
    case atStart => exact ⟨0, _, rfl, by omega, HX.out.2.1, HX.out.1, HX.out.2.2.2, HX.out.2.2.1⟩
    case round =>
      obtain ⟨i, v, rfl, hik, hf, hbR, hbS, hbK⟩ := hrel
      clear x0 x1 x2 x3 HX hs2
      have hib : (i : Int) ≤ 960 := by omega
      have hib' : i ≤ 960 := by omega
      obtain ⟨x0, x1, x2, x3⟩ := Blk4 hbS
      go_wp2_with fail
      refine (hsz _).mono ?_
      rintro e w5 ⟨rfl, c5⟩
      have hf5 := hf.to c5
      have hbR5 := hbR.chg0 c5
      have hbS5 := hbS.chg0 c5
      have hbK5 := hbK.chg0 c5
      clear hf hbR hbS hbK x0 x1 x2 x3 c5
      obtain ⟨ao, cap, rfl, hcap⟩ := hf5.shape
      by_cases hi : i < N
      · have t1 : decide ((i : Int) < (N : Int)) = true := by simp; omega
        have t1' : decide (i < N) = true := by simp; omega
        obtain ⟨x0, x1, x2, x3, x4⟩ := Blk5 hbR5
        have hpl := picP_len X Y Z
        have hil : i < (picP X Y Z).length := by rw [hpl, ← HN.out]; exact hi
        have hts := List.take_succ_eq_append_getElem hil
        have hget : (picP X Y Z)[i] = picB X Y Z i := by simp [picP]
        rw [hget] at hts
        have hval : ((X % 256 * i : Nat) : Int) + ((Y % 256 * (i / 7) : Nat) : Int) + (Z : Int) % 256 = ((X % 256 * i + Y % 256 * (i / 7) + Z % 256 : Nat) : Int) := by omega
        have hvb : (picB X Y Z i).toNat = (X % 256 * i + Y % 256 * (i / 7) + Z % 256) % 256 := UInt8.toNat_ofNat'
        have hp : (X : Int) % 256 * (i : Int) = ((X % 256 * i : Nat) : Int) := by rw [Int.natCast_mul]; rfl
        have hq : (Y : Int) % 256 * ((i : Int) / 7) = ((Y % 256 * (i / 7) : Nat) : Int) := by rw [Int.natCast_mul]; rfl
        have hpb : X % 256 * i ≤ 255 * 960 := Nat.mul_le_mul (by omega) hib'
        have hqb : Y % 256 * (i / 7) ≤ 255 * 960 := Nat.mul_le_mul (by omega) (by omega)
        generalize picB X Y Z i = x8 at *
        generalize X % 256 * i = P at *
        generalize Y % 256 * (i / 7) = Q at *
        have hv8 : ((P : Int) + (Q : Int) + (Z : Int) % 256) % 256 = (x8.toNat : Int) := by omega
        have HT := Lib.hid (And.intro hts (And.intro hik hvb))
        have hfA := hf5.to ((Chg.refl [] w5).alloc (.cells #[.int .u8 (x8.toNat : Int)] 5))
        have hbA := fun (W : World) (v' : Value) => hbR5
        clear hts hval hvb hil hpl hget hik hbA
        go_wp2_with (at_builtin; refine wpList_appF (w0 := w) (by rfl) _ _ 22 (by rfl) sl_u8 (by exact hfA) (by rfl) (Sees.row (cs := #[.int .u8 (x8.toNat : Int)]) (by exact Blk.new w5 _ 5) (m := 1) rfl) (by rfl) (by simp [Value.oneCell']) (by omega) (by omega) ?_; intro v6 w6 hF6 c6; obtain ⟨ao6, cap6, rfl, hcap6⟩ := hF6.shape; have hbR6 := (hbR5.alloc (.cells #[.int .u8 (x8.toNat : Int)] 5)).chg c6 (hf5.own.ne hbR5 (by decide)); have y4 := hbR6.cell 4; have z4 := hbR6.frozen 4)
        go_roundg (gk - 1)
        case measure => have := HT.out.2.1; omega
        case rel =>
          have hnR := hF6.own.ne hbR6 (by decide)
          have hbS6 := (hbS5.alloc (.cells #[.int .u8 (x8.toNat : Int)] 5)).chg c6 (hf5.own.ne hbS5 (by decide))
          have hbK6 := (hbK5.alloc (.cells #[.int .u8 (x8.toNat : Int)] 5)).chg c6 (hf5.own.ne hbK5 (by decide))
          refine ⟨i + 1, _, by go_num, by have := HT.out.2.1; omega, ⟨?_, hF6.chg.setCell (.inr (by simp; omega)) _, hF6.new⟩, hbR6.set 4 _, hbS6.set_ne (by simp) _, hbK6.set_ne (by simp; omega) _⟩
          rw [HT.out.1, Bs_append]
          exact hF6.own.set_ne hnR _
      · have t1 : decide ((i : Int) < (N : Int)) = false := by simp; omega
        have t1' : decide (i < N) = false := by simp; omega
        obtain rfl : i = N := by omega
        have e1 : (picP X Y Z).take i = picP X Y Z := List.take_of_length_le (by rw [picP_len, ← HN.out]; exact Nat.le_refl _)
        rw [e1] at hf5
        have HO := Lib.hid hf5
        have aR : ArrTy Tryd.prog 34 (#[Value.int .i64 sa, .int .i64 sb, .int .i64 sc, .int .i64 sd, .slice ao i cap]).size := ras_ty
        have hss : (#[Value.int .i64 0, .int .i64 0, .int .i64 0, .int .i64 0, .slice none 0 0]).size = (#[Value.int .i64 sa, .int .i64 sb, .int .i64 sc, .int .i64 sd, .slice ao i cap]).size := rfl
        have hone : ∀ v ∈ (#[Value.int .i64 sa, .int .i64 sb, .int .i64 sc, .int .i64 sd, .slice ao i cap]).toList, v.oneCell' = true := by simp [Value.oneCell']
        clear hf5 e1 hik hi
        go_wp2_with (first
          | (with_reducible refine wpList_ldA rfl 34 _ rfl hbR5 aR rfl ?_)
          | (with_reducible refine wpList_stA rfl 34 _ _ rfl hbK5 aR hss hone rfl rfl ?_; intro w6 hb6 hc6 hs6))
        refine bodyPost_ret (results_A rfl _ _ hb6 aR rfl) rfl ⟨.slice ao i cap, by rw [HS.out]; rfl, ?_⟩
        have hf := HO.out
        have hnK := hf.own.ne hbK5 (by decide)
        rw [← HN.out]
        refine ⟨(hf.own.sees).chg hc6 (fun k hk => ?_), fun k hk => hf.new k (eyes_own _ k hk), hf.chg.trans hc6 (fun k hk => ?_)⟩
        · have := eyes_own _ k hk
          simp only [List.mem_singleton]
          rintro rfl
          exact hnK this
        · simp at hk; right; omega
end Go.Proofs.YtgbbjbldlfpbcaaDoor
