/- REnc, RDec, RNum, RDcd in one text. No statement of the seat is proved here. -/
import Derived.Test.YtfammoidikdbpaaGreatDoorRPic
import Derived.Test.YtfammoidikdbpaaGreatDoorScrAll
import Derived.Test.YtfammoidikdbpaaGreatDoorRWordX
import Derived.Test.YtfammoidikdbpaaGreatDoorRAct26
set_option linter.unusedSimpArgs false
set_option linter.unusedVariables false
/- Contracts of aquref9.MayShape, May, ShapeBytes, Encode. No statement of the seat is proved here. (Printed by gen_renc.py.) -/
namespace Go.Aq
open Go.RowKit
theorem Bs_be2 (n : Nat) (h : n < 65536) : Bs (beB n 2) = [.int .u8 ((n / 256 : Nat) : Int), .int .u8 ((n % 256 : Nat) : Int)] := by
  have e : beB n 2 = [UInt8.ofNat (n / 256), UInt8.ofNat n] := by simp [beB, leB, List.range_succ]
  have h1 := Wd.u8n (n / 256) (by omega)
  have h2 : (UInt8.ofNat n).toNat = n % 256 := UInt8.toNat_ofNat'
  rw [e]
  simp only [Bs, Bc, List.map_cons, List.map_nil, h1, h2]
theorem wrap_u8_mod (n : Nat) : IntKind.u8.wrap (n : Int) = ((n % 256 : Nat) : Int) := by
  simp [IntKind.wrap, IntKind.bits, IntKind.signed]
end Go.Aq
namespace Go.Proofs.YtfammoidikdbpaaGreatDoor
open Go.RowKit Go.Aq Go.Aq.Wd
set_option maxHeartbeats 2000000 in
theorem rmaySh_any (s : ShpD) (w : World) : Calls Tryz.prog 61 #[shpV s] w fun e w' => e = .returned (.bool (maySh s)) ∧ Chg [] w w' := by
  obtain ⟨K, hK⟩ : ∃ K, w.heap.size = K := ⟨_, rfl⟩
  have hb := shp_blk s w hK
  have hc : Chg [] w (w.alloc (.cells #[.int .i64 s.w, .int .i64 s.h, .int .i64 s.c, .int .i64 s.d] 23)) := (Chg.refl [] w).alloc _
  have hn := fun w' => rnumbers_any s w'
  have hr := fun w' => rsize_any s w'
  have e1 : maySh s = (numsB s && decide (sizeD s ≤ 16384)) := rfl
  rw [e1]
  unfold shpV at *
  generalize sizeD s = z at *
  clear e1
  cases hN : numsB s with
  | false =>
    rw [hN] at hn
    clear hN hr
    go_enter Tryz.func61, Tryz.ntmps61
    go_wp2_with fail
    refine (hn _).mono ?_
    rintro e w1 ⟨rfl, c1⟩
    go_wp2_with fail
    go_ret
    exact ⟨rfl, hc.nil c1⟩
  | true =>
    rw [hN] at hn
    clear hN
    go_enter Tryz.func61, Tryz.ntmps61
    go_wp2_with fail
    refine (hn _).mono ?_
    rintro e w1 ⟨rfl, c1⟩
    obtain ⟨x0, x1, x2, x3⟩ := Blk4 (hb.chg0 c1)
    go_wp2_with fail
    refine (hr _).mono ?_
    rintro e w2 ⟨rfl, c2⟩
    go_wp2_with fail
    go_ret
    exact ⟨rfl, (hc.nil c1).nil c2⟩
set_option maxHeartbeats 2000000 in
theorem rmayPix_any (s : ShpD) (ao : Option Addr) (n cap : Nat) (hn64 : n ≤ 9223372036854775807) (w : World) : Calls Tryz.prog 46 #[rasV s (.slice ao n cap)] w fun e w' => e = .returned (.bool (mayPix s n)) ∧ Chg [] w w' := by
  obtain ⟨K, hK⟩ : ∃ K, w.heap.size = K := ⟨_, rfl⟩
  have hb : Blk (w.alloc (.cells #[.int .i64 s.w, .int .i64 s.h, .int .i64 s.c, .int .i64 s.d, .slice ao n cap] 26)) K #[.int .i64 s.w, .int .i64 s.h, .int .i64 s.c, .int .i64 s.d, .slice ao n cap] 26 := Blk.new_at w _ _ hK
  have hc : Chg [] w (w.alloc (.cells #[.int .i64 s.w, .int .i64 s.h, .int .i64 s.c, .int .i64 s.d, .slice ao n cap] 26)) := (Chg.refl [] w).alloc _
  have hm := fun w' => rmaySh_any s w'
  have hr := fun w' => rsize_any s w'
  have e1 : mayPix s n = (maySh s && ((n : Int) == sizeD s)) := rfl
  rw [e1]
  unfold shpV at *
  unfold rasV
  generalize sizeD s = z at *
  clear e1
  cases hM : maySh s with
  | false =>
    rw [hM] at hm
    clear hM hr
    go_enter Tryz.func46, Tryz.ntmps46
    go_upto_region 1 with (fail)
    generalize w.alloc (.cells #[.int .i64 s.w, .int .i64 s.h, .int .i64 s.c, .int .i64 s.d, .slice ao n cap] 26) = wb at *
    obtain ⟨x0, x1, x2, x3, x4⟩ := Blk5 hb
    obtain ⟨X, hne, F, x, hF0, hF, hX⟩ := fam0 wb
    have z0 := fun x => (hF x).cell_some x0 (by simp)
    have z1 := fun x => (hF x).cell_some x1 (by simp)
    have z2 := fun x => (hF x).cell_some x2 (by simp)
    have z3 := fun x => (hF x).cell_some x3 (by simp)
    have z4 := fun x => (hF x).cell_some x4 (by simp)
    clear hb x0 x1 x2 x3 x4
    refine wp_fam F (by kernel_rfl) (by kernel_rfl) x hF0 ?_
    repeat (go_big_quiet_step (exact fam_call hF hX (hm _)))
    refine wpQuiet_nil ?_
    rintro w' ⟨x1, rfl⟩
    go_wp2_with fail
    go_ret
    exact ⟨rfl, hc.nil (hF x1)⟩
  | true =>
    rw [hM] at hm
    clear hM
    go_enter Tryz.func46, Tryz.ntmps46
    go_upto_region 1 with (fail)
    generalize w.alloc (.cells #[.int .i64 s.w, .int .i64 s.h, .int .i64 s.c, .int .i64 s.d, .slice ao n cap] 26) = wb at *
    obtain ⟨x0, x1, x2, x3, x4⟩ := Blk5 hb
    obtain ⟨X, hne, F, x, hF0, hF, hX⟩ := fam0 wb
    have z0 := fun x => (hF x).cell_some x0 (by simp)
    have z1 := fun x => (hF x).cell_some x1 (by simp)
    have z2 := fun x => (hF x).cell_some x2 (by simp)
    have z3 := fun x => (hF x).cell_some x3 (by simp)
    have z4 := fun x => (hF x).cell_some x4 (by simp)
    clear hb x0 x1 x2 x3 x4
    refine wp_fam F (by kernel_rfl) (by kernel_rfl) x hF0 ?_
    repeat (go_big_quiet_step (first | exact fam_call hF hX (hm _) | exact fam_call hF hX (hr _)))
    refine wpQuiet_nil ?_
    rintro w' ⟨x1, rfl⟩
    go_wp2_with fail
    go_ret
    exact ⟨rfl, hc.nil (hF x1)⟩
set_option maxRecDepth 100000 in
set_option maxHeartbeats 2000000 in
theorem shapeBytes_any (W H C D : Nat) (hW : W < 65536) (hH : H < 65536) (hC : C < 256) (hD : D < 256) (w : World) : Calls Tryz.prog 47 #[.agg #[.int .i64 (W : Int), .int .i64 (H : Int), .int .i64 (C : Int), .int .i64 (D : Int)]] w fun e w' => ∃ g, e = .returned (.slice (some ⟨g, 0, none⟩) 6 6) ∧ Sees w' 1 (.slice (some ⟨g, 0, none⟩) 6 6) 6 (Bs (beB W 2 ++ beB H 2 ++ [UInt8.ofNat C, UInt8.ofNat D])) ∧ Chg [] w w' := by
  obtain ⟨K, hK⟩ : ∃ K, w.heap.size = K := ⟨_, rfl⟩
  obtain ⟨w1, hw1⟩ : ∃ w1, w1 = w.alloc (.cells #[.int .i64 (W : Int), .int .i64 (H : Int), .int .i64 (C : Int), .int .i64 (D : Int)] 23) := ⟨_, rfl⟩
  have hb : Blk w1 K #[.int .i64 (W : Int), .int .i64 (H : Int), .int .i64 (C : Int), .int .i64 (D : Int)] 23 := by rw [hw1]; exact Blk.new_at w _ _ hK
  have hc : Chg [] w w1 := by rw [hw1]; exact (Chg.refl [] w).alloc _
  have eL : Bs (beB W 2 ++ beB H 2 ++ [UInt8.ofNat C, UInt8.ofNat D]) = [.int .u8 ((W / 256 : Nat) : Int), .int .u8 ((W % 256 : Nat) : Int), .int .u8 ((H / 256 : Nat) : Int), .int .u8 ((H % 256 : Nat) : Int), .int .u8 (C : Int), .int .u8 (D : Int)] := by
    rw [Bs_append, Bs_append, Bs_be2 W hW, Bs_be2 H hH]
    simp only [Bs, Bc, List.map_cons, List.map_nil]
    rw [u8n C hC, u8n D hD]; rfl
  have a1 : IntKind.u8.wrap ((W : Int) / 256) = ((W / 256 : Nat) : Int) := by
    have := wrap_u8_mod (W / 256)
    rw [show (W / 256) % 256 = W / 256 by omega] at this
    exact this
  have a2 := wrap_u8_mod W
  have a3 : IntKind.u8.wrap ((H : Int) / 256) = ((H / 256 : Nat) : Int) := by
    have := wrap_u8_mod (H / 256)
    rw [show (H / 256) % 256 = H / 256 by omega] at this
    exact this
  have a4 := wrap_u8_mod H
  have a5 := wrap_u8_nat C hC
  have a6 := wrap_u8_nat D hD
  rw [eL]
  obtain ⟨x0, x1, x2, x3⟩ := Blk4 hb
  have HC := Lib.hid hc
  have HW := Lib.hid (And.intro hW hH)
  generalize hA1 : W / 256 = A1 at *
  generalize hA2 : W % 256 = A2 at *
  generalize hA3 : H / 256 = A3 at *
  generalize hA4 : H % 256 = A4 at *
  have s1 : (W : Int) / 256 = (A1 : Int) := by omega
  have s3 : (H : Int) / 256 = (A3 : Int) := by omega
  have m1 : (A1 : Int) % 256 = (A1 : Int) := by omega
  have m3 : (A3 : Int) % 256 = (A3 : Int) := by omega
  clear hA1 hA2 hA3 hA4 eL hb hc hC hD hW hH
  go_enter Tryz.func47, Tryz.ntmps47
  go_upto_region 1 with (fail)
  rw [← hw1]
  clear hw1 hK
  go_wp2_with fail
  go_ret
  exact ⟨_, rfl, Sees.row (Blk.new w1 #[.int .u8 (A1 : Int), .int .u8 (A2 : Int), .int .u8 (A3 : Int), .int .u8 (A4 : Int), .int .u8 (C : Int), .int .u8 (D : Int)] 5) (m := 6) rfl, HC.out.alloc _⟩
set_option maxRecDepth 100000 in
set_option maxHeartbeats 4000000 in
theorem renc_good (s : ShpD) (pv : Value) (n : Nat) (px : List UInt8) (w : World) (hv : Sees w 1 pv n (Bs px)) (hm : mayPix s n = true) :
    Calls Tryz.prog 19 #[rasV s pv] w fun e w' => ∃ v', e = .returned (.tuple #[v', .int .i64 0]) ∧ Sees w' 1 v' (7 + n) (Bs (encP s px)) ∧ (∀ k ∈ eyes v', w.heap.size ≤ k) ∧ Chg [] w w' := by
  obtain ⟨K, hK⟩ : ∃ K, w.heap.size = K := ⟨_, rfl⟩
  have hm' := hm
  unfold mayPix maySh at hm'
  simp only [Bool.and_eq_true, decide_eq_true_eq, beq_iff_eq] at hm'
  obtain ⟨⟨hnum, hsz⟩, hns⟩ := hm'
  obtain ⟨hw, hh, hc4, hd8⟩ := (numsB_iff s).1 hnum
  have hn16 : n ≤ 16384 := by omega
  obtain ⟨ao, cap, rfl, hcap, hno⟩ := hv.shape
  have hmp := fun w' => rmayPix_any s ao n cap (by omega) w'
  rw [hm] at hmp
  obtain ⟨W, hW⟩ : ∃ W : Nat, s.w = W := ⟨s.w.toNat, by omega⟩
  obtain ⟨H, hH⟩ : ∃ H : Nat, s.h = H := ⟨s.h.toNat, by omega⟩
  obtain ⟨C, hC⟩ : ∃ C : Nat, s.c = C := ⟨s.c.toNat, by omega⟩
  obtain ⟨D, hD⟩ : ∃ D : Nat, s.d = D := ⟨s.d.toNat, by omega⟩
  have hP : encP s px = [82] ++ (beB W 2 ++ beB H 2 ++ [UInt8.ofNat C, UInt8.ofNat D]) ++ px := by unfold encP; rw [hW, hH, hC, hD]; simp
  have hsb := fun w' => shapeBytes_any W H C D (by omega) (by omega) (by omega) (by omega) w'
  unfold rasV at hmp ⊢
  rw [hW, hH, hC, hD] at hmp ⊢
  have hbK : Blk (w.alloc (.cells #[.int .i64 W, .int .i64 H, .int .i64 C, .int .i64 D, .slice ao n cap] 26)) K #[.int .i64 W, .int .i64 H, .int .i64 C, .int .i64 D, .slice ao n cap] 26 := Blk.new_at w _ _ hK
  have hc1 : Chg [] w (w.alloc (.cells #[.int .i64 W, .int .i64 H, .int .i64 C, .int .i64 D, .slice ao n cap] 26)) := (Chg.refl [] w).alloc _
  generalize beB W 2 ++ beB H 2 ++ [UInt8.ofNat C, UInt8.ofNat D] = sb at *
  have HP := Lib.hid (And.intro hP hv)
  clear hP hv hno hm hnum hsz hns hw hh hc4 hd8 hW hH hC hD
  obtain ⟨x0, x1, x2, x3, x4⟩ := Blk5 hbK
  go_enter Tryz.func19, Tryz.ntmps19
  go_wp2_with fail
  generalize (w.alloc (.cells #[.int .i64 W, .int .i64 H, .int .i64 C, .int .i64 D, .slice ao n cap] 26)) = w1 at *
  refine (hmp _).mono ?_
  rintro e w2 ⟨rfl, c2⟩
  have hbK2 := hbK.chg0 c2
  have hc2 := hc1.nil c2
  clear x0 x1 x2 x3 x4 hmp hbK hc1 c2
  obtain ⟨x0, x1, x2, x3, x4⟩ := Blk5 hbK2
  have hvw := HP.out.2.chg0 hc2
  have HK := Lib.hid (And.intro hc2 hvw)
  have hwsz : w.heap.size ≤ w2.heap.size := hc2.size
  clear hc2 hvw hK hbK2
  go_upto_region 3 with (fail)
  refine wp_region_E [] (by kernel_rfl) ?_
  have c0 : Chg [] w2 w2.drew := (Chg.refl _ _).drew
  have y0 := c0.cell_some x0 (by simp)
  have y1 := c0.cell_some x1 (by simp)
  have y2 := c0.cell_some x2 (by simp)
  have y3 := c0.cell_some x3 (by simp)
  have y4 := c0.cell_some x4 (by simp)
  have hvE := HK.out.2.chg0 c0
  have cwE := HK.out.1.nil c0
  clear x0 x1 x2 x3 x4 HK
  have hEs : w.heap.size ≤ w2.drew.heap.size := hwsz
  generalize w2.drew = wE at *
  clear c0 hwsz
  have c0 : Chg [] wE wE := Chg.refl _ _
  have HES := Lib.hid hEs
  clear hEs
  refine wpAnyE_take 1 (v := (.pointer (some ⟨K, 0, none⟩))) c0 rfl (by kernel_rfl) (by kernel_rfl) (by kernel_rfl) (fun _ _ _ h => h) (by rfl) (fun w4 c4 => ?_) ?_
  · go_simp
  try simp only [Act.put, List.getElem_toArray, List.getElem_cons_succ, List.getElem_cons_zero, List.setIfInBounds_toArray, List.set_cons_zero, List.set_cons_succ]
  refine wpAnyE_take 2 (v := (.agg #[.int .i64 W, .int .i64 H, .int .i64 C, .int .i64 D])) c0 rfl (by kernel_rfl) (by kernel_rfl) (by kernel_rfl) (fun _ _ _ h => h) (by rfl) (fun w4 c4 => ?_) ?_
  · have z0 := c4.cell_some y0 (by simp)
    have z1 := c4.cell_some y1 (by simp)
    have z2 := c4.cell_some y2 (by simp)
    have z3 := c4.cell_some y3 (by simp)
    have z4 := c4.cell_some y4 (by simp)
    go_simp
  try simp only [Act.put, List.getElem_toArray, List.getElem_cons_succ, List.getElem_cons_zero, List.setIfInBounds_toArray, List.set_cons_zero, List.set_cons_succ]
  refine wpAnyE_take 5 (v := (.pointer (some ⟨K, 4, none⟩))) c0 rfl (by kernel_rfl) (by kernel_rfl) (by kernel_rfl) (fun _ _ _ h => h) (by rfl) (fun w4 c4 => ?_) ?_
  · go_simp
  try simp only [Act.put, List.getElem_toArray, List.getElem_cons_succ, List.getElem_cons_zero, List.setIfInBounds_toArray, List.set_cons_zero, List.set_cons_succ]
  refine wpAnyE_take 6 (v := (.slice ao n cap)) c0 rfl (by kernel_rfl) (by kernel_rfl) (by kernel_rfl) (fun _ _ _ h => h) (by rfl) (fun w4 c4 => ?_) ?_
  · have z0 := c4.cell_some y0 (by simp)
    have z1 := c4.cell_some y1 (by simp)
    have z2 := c4.cell_some y2 (by simp)
    have z3 := c4.cell_some y3 (by simp)
    have z4 := c4.cell_some y4 (by simp)
    go_simp
  try simp only [Act.put, List.getElem_toArray, List.getElem_cons_succ, List.getElem_cons_zero, List.setIfInBounds_toArray, List.set_cons_zero, List.set_cons_succ]
  clear y0 y1 y2 y3 y4
  refine wpAnyE_two 0 3 rfl rfl (by kernel_rfl) (by rfl) (by rfl) ?_ ?_
  · skip
    go_simp
    have hf1 : Fresh wE (wE.alloc (.cells #[.int .u8 82] 5)) 5 1 (.slice (some ⟨wE.heap.size, 0, none⟩) 1 1) 1 [.int .u8 82] := ⟨own_blk (Blk.new wE _ _) rfl (by decide), c0.alloc _, fun k hk => by simp [Value.ownBlock] at hk; have := c0.size; omega⟩
    have cX : Chg [] wE (wE.alloc (.cells #[.int .u8 82] 5)) := (Chg.refl _ _).alloc _
    refine ⟨hf1.chg, ?_⟩
    generalize wE.alloc (.cells #[.int .u8 82] 5) = wA at *
    obtain ⟨KK, hKK⟩ : ∃ KK, wE.heap.size = KK := ⟨_, rfl⟩
    rw [hKK] at hf1
    try rw [hKK]
    try simp only [Act.put, List.getElem_toArray, List.getElem_cons_succ, List.getElem_cons_zero, List.setIfInBounds_toArray, List.set_cons_zero, List.set_cons_succ]
    refine wpAnyE_only 3 rfl (by kernel_rfl) (by rfl) ?_
    go_simp
    refine (hsb _).mono ?_
    rintro e wB ⟨g, rfl, hS, cB⟩
    refine ⟨hf1.chg.nil cB, ?_⟩
    try simp only [Act.put, List.getElem_toArray, List.getElem_cons_succ, List.getElem_cons_zero, List.setIfInBounds_toArray, List.set_cons_zero, List.set_cons_succ]
    have hf2 := hf1.to cB
    have hS2 := hS
    refine wpAnyE_only 4 rfl (by kernel_rfl) (by rfl) ?_
    refine wp_app _ _ 24 rfl sl_u8 hf2.own rfl hS2 rfl (Bs_one _) (by omega) (by omega) ?_
    intro v4 w4 hO4 c4 n4
    have hf4 := hf2.app hO4 c4 n4
    refine ⟨hf4.chg, ?_⟩
    try simp only [Act.put, List.getElem_toArray, List.getElem_cons_succ, List.getElem_cons_zero, List.setIfInBounds_toArray, List.set_cons_zero, List.set_cons_succ]
    refine wpAnyE_only 7 rfl (by kernel_rfl) (by rfl) ?_
    refine wp_app _ _ 24 rfl sl_u8 hf4.own rfl (hvE.chg0 hf4.chg) rfl (Bs_one _) (by omega) (by omega) ?_
    intro v7 w7 hO7 c7 n7
    have hf7 := hf4.app hO7 c7 n7
    refine ⟨hf7.chg, ?_⟩
    try simp only [Act.put, List.getElem_toArray, List.getElem_cons_succ, List.getElem_cons_zero, List.setIfInBounds_toArray, List.set_cons_zero, List.set_cons_succ]
    refine wpAnyE_take 8 (v := v7) hf7.chg rfl (by kernel_rfl) (by kernel_rfl) (by kernel_rfl) (fun _ _ _ h => h) (by rfl) (fun w4 c4 => ?_) ?_
    · go_simp
    try simp only [Act.put, List.getElem_toArray, List.getElem_cons_succ, List.getElem_cons_zero, List.setIfInBounds_toArray, List.set_cons_zero, List.set_cons_succ]
    refine wpAnyE_take 9 (v := (.int .i64 0)) hf7.chg rfl (by kernel_rfl) (by kernel_rfl) (by kernel_rfl) (fun _ _ _ h => h) (by rfl) (fun w4 c4 => ?_) ?_
    · go_simp
    try simp only [Act.put, List.getElem_toArray, List.getElem_cons_succ, List.getElem_cons_zero, List.setIfInBounds_toArray, List.set_cons_zero, List.set_cons_succ]
    refine wpAnyE_done (by kernel_rfl) ?_ _
    go_wp2_with fail
    go_ret2
    refine ⟨v7, rfl, ?_, fun k hk => by have := hf7.new k (eyes_own v7 k hk); have := HES.out; omega, cwE.nil hf7.chg⟩
    have h := hf7.own.sees
    have e1 : 1 + 6 + n = 7 + n := by omega
    have e2 : [Value.int .u8 82] ++ Bs sb ++ Bs px = Bs (encP s px) := by rw [HP.out.1, Bs_append, Bs_append]; rfl
    rw [← e2, ← e1]
    exact h
  · skip
    go_simp
    refine (hsb _).mono ?_
    rintro e wB ⟨g, rfl, hS, cB⟩
    refine ⟨c0.nil cB, ?_⟩
    try simp only [Act.put, List.getElem_toArray, List.getElem_cons_succ, List.getElem_cons_zero, List.setIfInBounds_toArray, List.set_cons_zero, List.set_cons_succ]
    refine wpAnyE_only 0 rfl (by kernel_rfl) (by rfl) ?_
    go_simp
    have hf1 : Fresh wE (wB.alloc (.cells #[.int .u8 82] 5)) 5 1 (.slice (some ⟨wB.heap.size, 0, none⟩) 1 1) 1 [.int .u8 82] := ⟨own_blk (Blk.new wB _ _) rfl (by decide), cB.alloc _, fun k hk => by simp [Value.ownBlock] at hk; have := cB.size; omega⟩
    have cX : Chg [] wB (wB.alloc (.cells #[.int .u8 82] 5)) := (Chg.refl _ _).alloc _
    refine ⟨hf1.chg, ?_⟩
    generalize wB.alloc (.cells #[.int .u8 82] 5) = wA at *
    obtain ⟨KK, hKK⟩ : ∃ KK, wB.heap.size = KK := ⟨_, rfl⟩
    rw [hKK] at hf1
    try rw [hKK]
    try simp only [Act.put, List.getElem_toArray, List.getElem_cons_succ, List.getElem_cons_zero, List.setIfInBounds_toArray, List.set_cons_zero, List.set_cons_succ]
    have hf2 := hf1
    have hS2 := hS.chg0 cX
    refine wpAnyE_only 4 rfl (by kernel_rfl) (by rfl) ?_
    refine wp_app _ _ 24 rfl sl_u8 hf2.own rfl hS2 rfl (Bs_one _) (by omega) (by omega) ?_
    intro v4 w4 hO4 c4 n4
    have hf4 := hf2.app hO4 c4 n4
    refine ⟨hf4.chg, ?_⟩
    try simp only [Act.put, List.getElem_toArray, List.getElem_cons_succ, List.getElem_cons_zero, List.setIfInBounds_toArray, List.set_cons_zero, List.set_cons_succ]
    refine wpAnyE_only 7 rfl (by kernel_rfl) (by rfl) ?_
    refine wp_app _ _ 24 rfl sl_u8 hf4.own rfl (hvE.chg0 hf4.chg) rfl (Bs_one _) (by omega) (by omega) ?_
    intro v7 w7 hO7 c7 n7
    have hf7 := hf4.app hO7 c7 n7
    refine ⟨hf7.chg, ?_⟩
    try simp only [Act.put, List.getElem_toArray, List.getElem_cons_succ, List.getElem_cons_zero, List.setIfInBounds_toArray, List.set_cons_zero, List.set_cons_succ]
    refine wpAnyE_take 8 (v := v7) hf7.chg rfl (by kernel_rfl) (by kernel_rfl) (by kernel_rfl) (fun _ _ _ h => h) (by rfl) (fun w4 c4 => ?_) ?_
    · go_simp
    try simp only [Act.put, List.getElem_toArray, List.getElem_cons_succ, List.getElem_cons_zero, List.setIfInBounds_toArray, List.set_cons_zero, List.set_cons_succ]
    refine wpAnyE_take 9 (v := (.int .i64 0)) hf7.chg rfl (by kernel_rfl) (by kernel_rfl) (by kernel_rfl) (fun _ _ _ h => h) (by rfl) (fun w4 c4 => ?_) ?_
    · go_simp
    try simp only [Act.put, List.getElem_toArray, List.getElem_cons_succ, List.getElem_cons_zero, List.setIfInBounds_toArray, List.set_cons_zero, List.set_cons_succ]
    refine wpAnyE_done (by kernel_rfl) ?_ _
    go_wp2_with fail
    go_ret2
    refine ⟨v7, rfl, ?_, fun k hk => by have := hf7.new k (eyes_own v7 k hk); have := HES.out; omega, cwE.nil hf7.chg⟩
    have h := hf7.own.sees
    have e1 : 1 + 6 + n = 7 + n := by omega
    have e2 : [Value.int .u8 82] ++ Bs sb ++ Bs px = Bs (encP s px) := by rw [HP.out.1, Bs_append, Bs_append]; rfl
    rw [← e2, ← e1]
    exact h
set_option maxRecDepth 100000 in
set_option maxHeartbeats 4000000 in
theorem renc_bad (s : ShpD) (pv : Value) (n : Nat) (px : List UInt8) (w : World) (hv : Sees w 1 pv n (Bs px)) (hn : n ≤ 9223372036854775807) (hm : mayPix s n = false) :
    Calls Tryz.prog 19 #[rasV s pv] w fun e w' => e = .returned (.tuple #[.slice none 0 0, .int .i64 4]) ∧ Chg [] w w' := by
  obtain ⟨K, hK⟩ : ∃ K, w.heap.size = K := ⟨_, rfl⟩
  obtain ⟨ao, cap, rfl, hcap, hno⟩ := hv.shape
  have hmp := fun w' => rmayPix_any s ao n cap hn w'
  rw [hm] at hmp
  unfold rasV at hmp ⊢
  have hbK : Blk (w.alloc (.cells #[.int .i64 s.w, .int .i64 s.h, .int .i64 s.c, .int .i64 s.d, .slice ao n cap] 26)) K #[.int .i64 s.w, .int .i64 s.h, .int .i64 s.c, .int .i64 s.d, .slice ao n cap] 26 := Blk.new_at w _ _ hK
  have hc1 : Chg [] w (w.alloc (.cells #[.int .i64 s.w, .int .i64 s.h, .int .i64 s.c, .int .i64 s.d, .slice ao n cap] 26)) := (Chg.refl [] w).alloc _
  have HC := Lib.hid hc1
  obtain ⟨x0, x1, x2, x3, x4⟩ := Blk5 hbK
  clear hv hno hm hbK hc1
  go_enter Tryz.func19, Tryz.ntmps19
  go_wp2_with fail
  refine (hmp _).mono ?_
  rintro e w2 ⟨rfl, c2⟩
  clear x0 x1 x2 x3 x4 hmp
  go_wp2_with fail
  go_ret2
  exact ⟨rfl, HC.out.nil c2⟩
theorem rencode_pix (s : ShpD) (pv : Value) (px : List UInt8) (w : World) (hv : Sees w 1 pv px.length (Bs px)) (hn : px.length ≤ 9223372036854775807) :
    Calls Tryz.prog 19 #[rasV s pv] w fun e w' => ∃ v', e = .returned (.tuple #[v', .int .i64 (encPL s px).2]) ∧ Sees w' 1 v' (encPL s px).1.length (Bs (encPL s px).1) ∧ (∀ k ∈ eyes v', w.heap.size ≤ k) ∧ Chg [] w w' := by
  cases hm : mayPix s px.length with
  | true =>
    have e : encPL s px = (encP s px, 0) := by unfold encPL; rw [hm]; rfl
    rw [e]
    refine (renc_good s pv _ px w hv hm).mono ?_
    rintro e w' ⟨v', rfl, h1, h2, h3⟩
    exact ⟨v', rfl, by rw [encP_len]; exact h1, h2, h3⟩
  | false =>
    have e : encPL s px = ([], 4) := by unfold encPL; rw [hm]; rfl
    rw [e]
    refine (renc_bad s pv _ px w hv hn hm).mono ?_
    rintro e w' ⟨rfl, h3⟩
    exact ⟨_, rfl, Sees.nil _ _, by simp [eyes], h3⟩
end Go.Proofs.YtfammoidikdbpaaGreatDoor

/- The document's Dec at any number. No statement of the seat is proved here. -/
namespace Go.Proofs.YtfammoidikdbpaaGreatDoor
open Go.RowKit Go.Aq Go.Aq.Wd
/-- One byte as a text. -/
theorem str1 (w : World) (K : Nat) (c : Nat) (hc : c < 256) (hb : Blk w K #[.int .u8 (c : Int)] 5) : (convert 24 9 (.slice (some ⟨K, 0, none⟩) 1 1)).run Tryz.prog w = .ok (.string (str [UInt8.ofNat c])) w := by
  have hs : Sees w 1 (.slice (some ⟨K, 0, none⟩) 1 1) 1 (Bs [UInt8.ofNat c]) := by
    have h1 := Sees.row hb (m := 1) rfl
    simp only [Bs, Bc, List.map_cons, List.map_nil]
    rw [u8n c (by omega)]
    exact h1
  exact run_str8 hs
theorem run_catD {P : Program} {a b c : ByteArray} (h : a ++ b = c) (hb : a.size + b.size ≤ 9223372036854775807) (w : World) : (Op.stringOp .add a b).run P w = .ok (.string c) w := by rw [run_string_add_sum w a b hb, h]
theorem wrapI (z : Int) (h : -9223372036854775808 ≤ z ∧ z ≤ 9223372036854775807) : IntKind.i64.wrap z = z := by
  simp [IntKind.wrap, IntKind.bits, IntKind.signed]
  split <;> omega
set_option maxRecDepth 100000 in
set_option maxHeartbeats 1000000 in
theorem decP_any (n q d : Nat) (hn : n ≤ 9223372036854775807) (h10 : 10 ≤ n) (hq : q = n / 10) (hd : d = n % 10) (w : World)
    (ih : ∀ w, Calls Tryz.prog 22 #[.int .i64 (q : Int)] w fun e w' => e = .returned (.string (str (Lib.decDigits q))) ∧ Chg [] w w') :
    Calls Tryz.prog 22 #[.int .i64 (n : Int)] w fun e w' => e = .returned (.string (str (Lib.decDigits n))) ∧ Chg [] w w' := by
  have t1 : decide ((n : Int) < 0) = false := decide_eq_false (by omega)
  have t2 : decide ((n : Int) < 10) = false := decide_eq_false (by omega)
  have t2' : decide (n < 10) = false := decide_eq_false (by omega)
  have hD : Lib.decDigits n = Lib.decDigits q ++ [UInt8.ofNat (48 + d)] := by rw [Lib.decDigits, dif_neg (by omega), hq, hd]
  have hlen : (Lib.decDigits q).length ≤ 19 := dec_len19 q (by omega)
  rw [hD]
  obtain ⟨D, hDD⟩ : ∃ D, D = Lib.decDigits q := ⟨_, rfl⟩
  rw [← hDD] at ih hlen ⊢
  obtain ⟨c, hc⟩ : ∃ c, c = 48 + d := ⟨_, rfl⟩
  have hc2 : c ≤ 57 := by omega
  rw [← hc]
  have bn : -9223372036854775808 ≤ (q : Int) ∧ (q : Int) ≤ 9223372036854775807 := by omega
  have bd : -9223372036854775808 ≤ (d : Int) ∧ (d : Int) ≤ 9223372036854775807 := by omega
  have bc : -9223372036854775808 ≤ (c : Int) ∧ (c : Int) ≤ 9223372036854775807 := by omega
  have e5 : (48 : Int) + (d : Int) = (c : Int) := by omega
  have c256 : c < 256 := by omega
  have e1 : (n : Int).tdiv 10 = (q : Int) := by rw [hq]; rfl
  have e3 : (n : Int).tmod 10 = (d : Int) := by rw [hd]; rfl
  have hcat := fun w => run_catD (P := Tryz.prog) (str_app D [UInt8.ofNat c]) (by rw [str_size, str_size]; simp; omega) w
  have e2 : IntKind.i64.wrap ((n : Int).tdiv 10) = (q : Int) := by rw [e1]; exact wrapI _ bn
  have e4 : IntKind.i64.wrap ((n : Int).tmod 10) = (d : Int) := by rw [e3]; exact wrapI _ bd
  have e6 : wrap64 ((48 : Int) + (d : Int)) = (c : Int) := by rw [e5]; exact w64 _ bc
  have e8 : IntKind.i64.wrap (q : Int) = (q : Int) := wrapI _ bn
  have e9 : IntKind.i64.wrap (c : Int) = (c : Int) := wrapI _ bc
  have e7 : IntKind.u8.wrap (c : Int) = (c : Int) := wrap_u8_nat c c256
  clear hD hDD hc hq hd bn bd bc hn h10
  go_enter Tryz.func22, Tryz.ntmps22
  go_upto_region 7 with (fail)
  refine wp_region_E [] (by kernel_rfl) ?_
  have c0 : Chg [] w.drew w.drew := Chg.refl _ _
  refine wpAnyE_take 0 (v := (.int .i64 (n : Int))) c0 rfl (by kernel_rfl) (by kernel_rfl) (by kernel_rfl) (fun _ _ _ h => h) (by rfl) (fun w4 c4 => ?_) ?_
  · go_simp
  try simp only [Act.put, List.getElem_toArray, List.getElem_cons_succ, List.getElem_cons_zero, List.setIfInBounds_toArray, List.set_cons_zero, List.set_cons_succ]
  refine wpAnyE_take 1 (v := (.int .i64 (q : Int))) c0 rfl (by kernel_rfl) (by kernel_rfl) (by kernel_rfl) (fun _ _ _ h => h) (by rfl) (fun w4 c4 => ?_) ?_
  · go_simp
  try simp only [Act.put, List.getElem_toArray, List.getElem_cons_succ, List.getElem_cons_zero, List.setIfInBounds_toArray, List.set_cons_zero, List.set_cons_succ]
  refine wpAnyE_take 3 (v := (.int .i64 (n : Int))) c0 rfl (by kernel_rfl) (by kernel_rfl) (by kernel_rfl) (fun _ _ _ h => h) (by rfl) (fun w4 c4 => ?_) ?_
  · go_simp
  try simp only [Act.put, List.getElem_toArray, List.getElem_cons_succ, List.getElem_cons_zero, List.setIfInBounds_toArray, List.set_cons_zero, List.set_cons_succ]
  refine wpAnyE_take 4 (v := (.int .i64 (d : Int))) c0 rfl (by kernel_rfl) (by kernel_rfl) (by kernel_rfl) (fun _ _ _ h => h) (by rfl) (fun w4 c4 => ?_) ?_
  · go_simp
  try simp only [Act.put, List.getElem_toArray, List.getElem_cons_succ, List.getElem_cons_zero, List.setIfInBounds_toArray, List.set_cons_zero, List.set_cons_succ]
  refine wpAnyE_take 5 (v := (.int .i64 (c : Int))) c0 rfl (by kernel_rfl) (by kernel_rfl) (by kernel_rfl) (fun _ _ _ h => h) (by rfl) (fun w4 c4 => ?_) ?_
  · go_simp
  try simp only [Act.put, List.getElem_toArray, List.getElem_cons_succ, List.getElem_cons_zero, List.setIfInBounds_toArray, List.set_cons_zero, List.set_cons_succ]
  refine wpAnyE_take 6 (v := (.int .u8 (c : Int))) c0 rfl (by kernel_rfl) (by kernel_rfl) (by kernel_rfl) (fun _ _ _ h => h) (by rfl) (fun w4 c4 => ?_) ?_
  · go_simp
  try simp only [Act.put, List.getElem_toArray, List.getElem_cons_succ, List.getElem_cons_zero, List.setIfInBounds_toArray, List.set_cons_zero, List.set_cons_succ]
  refine wpAnyE_two 2 7 rfl rfl (by kernel_rfl) (by rfl) (by rfl) ?_ ?_
  · skip
    go_simp
    refine (ih _).mono ?_
    rintro e wC ⟨rfl, cC⟩
    have c0C := c0.nil cC
    refine ⟨c0C, ?_⟩
    try simp only [Act.put, List.getElem_toArray, List.getElem_cons_succ, List.getElem_cons_zero, List.setIfInBounds_toArray, List.set_cons_zero, List.set_cons_succ]
    refine wpAnyE_only 7 rfl (by kernel_rfl) (by rfl) ?_
    go_simp
    have hb : Blk (wC.alloc (.cells #[.int .u8 (c : Int)] 5)) wC.heap.size #[.int .u8 (c : Int)] 5 := Blk.new _ _ _
    have cB : Chg [] wC (wC.alloc (.cells #[.int .u8 (c : Int)] 5)) := (Chg.refl [] wC).alloc _
    have c0CB := c0C.nil cB
    clear cB
    refine ⟨c0CB, ?_⟩
    generalize (wC.alloc (.cells #[.int .u8 (c : Int)] 5)) = wB at *
    generalize wC.heap.size = KK at *
    try simp only [Act.put, List.getElem_toArray, List.getElem_cons_succ, List.getElem_cons_zero, List.setIfInBounds_toArray, List.set_cons_zero, List.set_cons_succ]
    refine wpAnyE_only 8 rfl (by kernel_rfl) (by rfl) ?_
    have hcv := str1 _ _ c (Nat.lt_of_le_of_lt hc2 (by decide)) hb
    have HcC := Lib.hid c0CB
    clear c0CB
    go_simp
    have c0CB := HcC.out
    refine ⟨c0CB, ?_⟩
    try simp only [Act.put, List.getElem_toArray, List.getElem_cons_succ, List.getElem_cons_zero, List.setIfInBounds_toArray, List.set_cons_zero, List.set_cons_succ]
    refine wpAnyE_take 9 (v := (.string (str (D ++ [UInt8.ofNat c])))) c0CB rfl (by kernel_rfl) (by kernel_rfl) (by kernel_rfl) (fun _ _ _ h => h) (by rfl) (fun w4 c4 => ?_) ?_
    · have hca := hcat w4; go_simp
    try simp only [Act.put, List.getElem_toArray, List.getElem_cons_succ, List.getElem_cons_zero, List.setIfInBounds_toArray, List.set_cons_zero, List.set_cons_succ]
    refine wpAnyE_take 10 (v := (.string (str (D ++ [UInt8.ofNat c])))) c0CB rfl (by kernel_rfl) (by kernel_rfl) (by kernel_rfl) (fun _ _ _ h => h) (by rfl) (fun w4 c4 => ?_) ?_
    · go_simp
    try simp only [Act.put, List.getElem_toArray, List.getElem_cons_succ, List.getElem_cons_zero, List.setIfInBounds_toArray, List.set_cons_zero, List.set_cons_succ]
    refine wpAnyE_done (by kernel_rfl) ?_ _
    have hEnd : Chg [] w _ := ((Chg.refl [] w).drew).nil c0CB
    go_wp2_with fail
    go_ret
    exact ⟨rfl, hEnd⟩
  · skip
    go_simp
    have hb : Blk (w.alloc (.cells #[.int .u8 (c : Int)] 5)).drew w.heap.size #[.int .u8 (c : Int)] 5 := Blk.new _ _ _
    have cB : Chg [] w.drew (w.alloc (.cells #[.int .u8 (c : Int)] 5)).drew := (Chg.refl [] w.drew).alloc _
    have c0B := c0.nil cB
    clear cB
    refine ⟨c0B, ?_⟩
    generalize (w.alloc (.cells #[.int .u8 (c : Int)] 5)).drew = wB at *
    generalize w.heap.size = KK at *
    try simp only [Act.put, List.getElem_toArray, List.getElem_cons_succ, List.getElem_cons_zero, List.setIfInBounds_toArray, List.set_cons_zero, List.set_cons_succ]
    refine wpAnyE_two 2 8 rfl rfl (by kernel_rfl) (by rfl) (by rfl) ?_ ?_
    · skip
      go_simp
      refine (ih _).mono ?_
      rintro e wC ⟨rfl, cC⟩
      have c0BC := c0B.nil cC
      refine ⟨c0BC, ?_⟩
      try simp only [Act.put, List.getElem_toArray, List.getElem_cons_succ, List.getElem_cons_zero, List.setIfInBounds_toArray, List.set_cons_zero, List.set_cons_succ]
      refine wpAnyE_only 8 rfl (by kernel_rfl) (by rfl) ?_
      have hcv := str1 _ _ c (Nat.lt_of_le_of_lt hc2 (by decide)) (hb.chg0 cC)
      have HcC := Lib.hid c0BC
      clear c0BC
      go_simp
      have c0BC := HcC.out
      refine ⟨c0BC, ?_⟩
      try simp only [Act.put, List.getElem_toArray, List.getElem_cons_succ, List.getElem_cons_zero, List.setIfInBounds_toArray, List.set_cons_zero, List.set_cons_succ]
      refine wpAnyE_take 9 (v := (.string (str (D ++ [UInt8.ofNat c])))) c0BC rfl (by kernel_rfl) (by kernel_rfl) (by kernel_rfl) (fun _ _ _ h => h) (by rfl) (fun w4 c4 => ?_) ?_
      · have hca := hcat w4; go_simp
      try simp only [Act.put, List.getElem_toArray, List.getElem_cons_succ, List.getElem_cons_zero, List.setIfInBounds_toArray, List.set_cons_zero, List.set_cons_succ]
      refine wpAnyE_take 10 (v := (.string (str (D ++ [UInt8.ofNat c])))) c0BC rfl (by kernel_rfl) (by kernel_rfl) (by kernel_rfl) (fun _ _ _ h => h) (by rfl) (fun w4 c4 => ?_) ?_
      · go_simp
      try simp only [Act.put, List.getElem_toArray, List.getElem_cons_succ, List.getElem_cons_zero, List.setIfInBounds_toArray, List.set_cons_zero, List.set_cons_succ]
      refine wpAnyE_done (by kernel_rfl) ?_ _
      have hEnd : Chg [] w _ := ((Chg.refl [] w).drew).nil c0BC
      go_wp2_with fail
      go_ret
      exact ⟨rfl, hEnd⟩
    · skip
      have hcv := str1 _ _ c (Nat.lt_of_le_of_lt hc2 (by decide)) hb
      have HcC := Lib.hid c0B
      clear c0B
      go_simp
      have c0B := HcC.out
      refine ⟨c0B, ?_⟩
      try simp only [Act.put, List.getElem_toArray, List.getElem_cons_succ, List.getElem_cons_zero, List.setIfInBounds_toArray, List.set_cons_zero, List.set_cons_succ]
      refine wpAnyE_only 2 rfl (by kernel_rfl) (by rfl) ?_
      go_simp
      refine (ih _).mono ?_
      rintro e wC ⟨rfl, cC⟩
      have c0BC := c0B.nil cC
      refine ⟨c0BC, ?_⟩
      try simp only [Act.put, List.getElem_toArray, List.getElem_cons_succ, List.getElem_cons_zero, List.setIfInBounds_toArray, List.set_cons_zero, List.set_cons_succ]
      refine wpAnyE_take 9 (v := (.string (str (D ++ [UInt8.ofNat c])))) c0BC rfl (by kernel_rfl) (by kernel_rfl) (by kernel_rfl) (fun _ _ _ h => h) (by rfl) (fun w4 c4 => ?_) ?_
      · have hca := hcat w4; go_simp
      try simp only [Act.put, List.getElem_toArray, List.getElem_cons_succ, List.getElem_cons_zero, List.setIfInBounds_toArray, List.set_cons_zero, List.set_cons_succ]
      refine wpAnyE_take 10 (v := (.string (str (D ++ [UInt8.ofNat c])))) c0BC rfl (by kernel_rfl) (by kernel_rfl) (by kernel_rfl) (fun _ _ _ h => h) (by rfl) (fun w4 c4 => ?_) ?_
      · go_simp
      try simp only [Act.put, List.getElem_toArray, List.getElem_cons_succ, List.getElem_cons_zero, List.setIfInBounds_toArray, List.set_cons_zero, List.set_cons_succ]
      refine wpAnyE_done (by kernel_rfl) ?_ _
      have hEnd : Chg [] w _ := ((Chg.refl [] w).drew).nil c0BC
      go_wp2_with fail
      go_ret
      exact ⟨rfl, hEnd⟩
set_option maxRecDepth 100000 in
set_option maxHeartbeats 1000000 in
theorem decN_any (n nq nd : Int) (m q d : Nat) (hm : m ≤ 9223372036854775808) (h10 : 10 ≤ m) (hn : n = -(m : Int)) (hq : q = m / 10) (hd : d = m % 10) (hnq : nq = -(q : Int)) (hnd : nd = -(d : Int)) (w : World)
    (ih : ∀ w, Calls Tryz.prog 22 #[.int .i64 (q : Int)] w fun e w' => e = .returned (.string (str (Lib.decDigits q))) ∧ Chg [] w w') :
    Calls Tryz.prog 22 #[.int .i64 n] w fun e w' => e = .returned (.string (str (45 :: Lib.decDigits m))) ∧ Chg [] w w' := by
  have t1 : decide (n < 0) = true := decide_eq_true (by omega)
  have t2 : (nq == 0) = false := by simp; omega
  have hD : 45 :: Lib.decDigits m = (45 :: Lib.decDigits q) ++ [UInt8.ofNat (48 + d)] := by rw [Lib.decDigits, dif_neg (by omega), hq, hd]; rfl
  have hlen : (Lib.decDigits q).length ≤ 19 := dec_len19 q (by omega)
  rw [hD]
  obtain ⟨D, hDD⟩ : ∃ D, D = Lib.decDigits q := ⟨_, rfl⟩
  rw [← hDD] at ih hlen ⊢
  obtain ⟨c, hc⟩ : ∃ c, c = 48 + d := ⟨_, rfl⟩
  have hc2 : c ≤ 57 := by omega
  rw [← hc]
  have bq : -9223372036854775808 ≤ (q : Int) ∧ (q : Int) ≤ 9223372036854775807 := by omega
  have bnq : -9223372036854775808 ≤ nq ∧ nq ≤ 9223372036854775807 := by omega
  have bnd : -9223372036854775808 ≤ nd ∧ nd ≤ 9223372036854775807 := by omega
  have bc : -9223372036854775808 ≤ (c : Int) ∧ (c : Int) ≤ 9223372036854775807 := by omega
  have c256 : c < 256 := by omega
  have e8 : -nq = (q : Int) := by omega
  have e5 : (48 : Int) - nd = (c : Int) := by omega
  have hl1 : 1 + D.length ≤ 9223372036854775807 := by omega
  have e1 : n.tdiv 10 = nq := by rw [hn, Int.neg_tdiv, hnq, hq]; rfl
  have e3 : n.tmod 10 = nd := by rw [hn, Int.neg_tmod, hnd, hd]; rfl
  have hcat0 := fun w => run_catD (P := Tryz.prog) (show ⟨#[45]⟩ ++ str D = str (45 :: D) from str_app [45] D) (by rw [str_size]; exact hl1) w
  have hcat := fun w => run_catD (P := Tryz.prog) (str_app (45 :: D) [UInt8.ofNat c]) (by rw [str_size, str_size]; simp; omega) w
  generalize hE : (45 :: D) = E at *
  clear hD hDD hc hq hd hn hm h10 hnq hnd hE hlen
  have e2 : IntKind.i64.wrap (n.tdiv 10) = nq := by rw [e1]; exact wrapI _ bnq
  have e2' : wrap64 (n.tdiv 10) = nq := by rw [e1]; exact w64 _ bnq
  have e0 : IntKind.i64.wrap nq = nq := wrapI _ bnq
  have e0' : wrap64 nq = nq := w64 _ bnq
  have e4 : IntKind.i64.wrap (n.tmod 10) = nd := by rw [e3]; exact wrapI _ bnd
  have e4' : wrap64 nd = nd := w64 _ bnd
  have e9 : wrap64 (-nq) = (q : Int) := by rw [e8]; exact w64 _ bq
  have e10 : IntKind.i64.wrap (-nq) = (q : Int) := by rw [e8]; exact wrapI _ bq
  have e11 : IntKind.i64.wrap (q : Int) = (q : Int) := wrapI _ bq
  have e6 : wrap64 ((48 : Int) - nd) = (c : Int) := by rw [e5]; exact w64 _ bc
  have e6' : IntKind.i64.wrap ((48 : Int) - nd) = (c : Int) := by rw [e5]; exact wrapI _ bc
  have e12 : IntKind.i64.wrap (c : Int) = (c : Int) := wrapI _ bc
  have e7 : IntKind.u8.wrap (c : Int) = (c : Int) := wrap_u8_nat c c256
  have e13 : IntKind.i64.wrap nd = nd := wrapI _ bnd
  clear bq bnq bnd bc c256 hl1
  go_enter Tryz.func22, Tryz.ntmps22
  go_upto_region 4 with (fail)
  refine wp_region_E [] (by kernel_rfl) ?_
  have c0 : Chg [] w.drew w.drew := Chg.refl _ _
  refine wpAnyE_take 0 (v := (.int .i64 n)) c0 rfl (by kernel_rfl) (by kernel_rfl) (by kernel_rfl) (fun _ _ _ h => h) (by rfl) (fun w4 c4 => ?_) ?_
  · go_simp
  try simp only [Act.put, List.getElem_toArray, List.getElem_cons_succ, List.getElem_cons_zero, List.setIfInBounds_toArray, List.set_cons_zero, List.set_cons_succ]
  refine wpAnyE_take 1 (v := (.int .i64 nq)) c0 rfl (by kernel_rfl) (by kernel_rfl) (by kernel_rfl) (fun _ _ _ h => h) (by rfl) (fun w4 c4 => ?_) ?_
  · go_simp
  try simp only [Act.put, List.getElem_toArray, List.getElem_cons_succ, List.getElem_cons_zero, List.setIfInBounds_toArray, List.set_cons_zero, List.set_cons_succ]
  refine wpAnyE_take 2 (v := (.int .i64 (q : Int))) c0 rfl (by kernel_rfl) (by kernel_rfl) (by kernel_rfl) (fun _ _ _ h => h) (by rfl) (fun w4 c4 => ?_) ?_
  · go_simp
  try simp only [Act.put, List.getElem_toArray, List.getElem_cons_succ, List.getElem_cons_zero, List.setIfInBounds_toArray, List.set_cons_zero, List.set_cons_succ]
  refine wpAnyE_take 5 (v := (.int .i64 n)) c0 rfl (by kernel_rfl) (by kernel_rfl) (by kernel_rfl) (fun _ _ _ h => h) (by rfl) (fun w4 c4 => ?_) ?_
  · go_simp
  try simp only [Act.put, List.getElem_toArray, List.getElem_cons_succ, List.getElem_cons_zero, List.setIfInBounds_toArray, List.set_cons_zero, List.set_cons_succ]
  refine wpAnyE_take 6 (v := (.int .i64 nd)) c0 rfl (by kernel_rfl) (by kernel_rfl) (by kernel_rfl) (fun _ _ _ h => h) (by rfl) (fun w4 c4 => ?_) ?_
  · go_simp
  try simp only [Act.put, List.getElem_toArray, List.getElem_cons_succ, List.getElem_cons_zero, List.setIfInBounds_toArray, List.set_cons_zero, List.set_cons_succ]
  refine wpAnyE_take 7 (v := (.int .i64 (c : Int))) c0 rfl (by kernel_rfl) (by kernel_rfl) (by kernel_rfl) (fun _ _ _ h => h) (by rfl) (fun w4 c4 => ?_) ?_
  · go_simp
  try simp only [Act.put, List.getElem_toArray, List.getElem_cons_succ, List.getElem_cons_zero, List.setIfInBounds_toArray, List.set_cons_zero, List.set_cons_succ]
  refine wpAnyE_take 8 (v := (.int .u8 (c : Int))) c0 rfl (by kernel_rfl) (by kernel_rfl) (by kernel_rfl) (fun _ _ _ h => h) (by rfl) (fun w4 c4 => ?_) ?_
  · go_simp
  try simp only [Act.put, List.getElem_toArray, List.getElem_cons_succ, List.getElem_cons_zero, List.setIfInBounds_toArray, List.set_cons_zero, List.set_cons_succ]
  refine wpAnyE_two 3 9 rfl rfl (by kernel_rfl) (by rfl) (by rfl) ?_ ?_
  · skip
    go_simp
    refine (ih _).mono ?_
    rintro e wC ⟨rfl, cC⟩
    have c0C := c0.nil cC
    refine ⟨c0C, ?_⟩
    try simp only [Act.put, List.getElem_toArray, List.getElem_cons_succ, List.getElem_cons_zero, List.setIfInBounds_toArray, List.set_cons_zero, List.set_cons_succ]
    refine wpAnyE_take 4 (v := (.string (str E))) c0C rfl (by kernel_rfl) (by kernel_rfl) (by kernel_rfl) (fun _ _ _ h => h) (by rfl) (fun w4 c4 => ?_) ?_
    · have hca := hcat0 w4; go_simp
    try simp only [Act.put, List.getElem_toArray, List.getElem_cons_succ, List.getElem_cons_zero, List.setIfInBounds_toArray, List.set_cons_zero, List.set_cons_succ]
    refine wpAnyE_only 9 rfl (by kernel_rfl) (by rfl) ?_
    go_simp
    have hb : Blk (wC.alloc (.cells #[.int .u8 (c : Int)] 5)) wC.heap.size #[.int .u8 (c : Int)] 5 := Blk.new _ _ _
    have cB : Chg [] wC (wC.alloc (.cells #[.int .u8 (c : Int)] 5)) := (Chg.refl [] wC).alloc _
    have c0CB := c0C.nil cB
    clear cB
    refine ⟨c0CB, ?_⟩
    generalize (wC.alloc (.cells #[.int .u8 (c : Int)] 5)) = wB at *
    generalize wC.heap.size = KK at *
    try simp only [Act.put, List.getElem_toArray, List.getElem_cons_succ, List.getElem_cons_zero, List.setIfInBounds_toArray, List.set_cons_zero, List.set_cons_succ]
    refine wpAnyE_only 10 rfl (by kernel_rfl) (by rfl) ?_
    have hcv := str1 _ _ c (Nat.lt_of_le_of_lt hc2 (by decide)) hb
    have HcC := Lib.hid c0CB
    clear c0CB
    go_simp
    have c0CB := HcC.out
    refine ⟨c0CB, ?_⟩
    try simp only [Act.put, List.getElem_toArray, List.getElem_cons_succ, List.getElem_cons_zero, List.setIfInBounds_toArray, List.set_cons_zero, List.set_cons_succ]
    refine wpAnyE_take 11 (v := (.string (str (E ++ [UInt8.ofNat c])))) c0CB rfl (by kernel_rfl) (by kernel_rfl) (by kernel_rfl) (fun _ _ _ h => h) (by rfl) (fun w4 c4 => ?_) ?_
    · have hca := hcat w4; go_simp
    try simp only [Act.put, List.getElem_toArray, List.getElem_cons_succ, List.getElem_cons_zero, List.setIfInBounds_toArray, List.set_cons_zero, List.set_cons_succ]
    refine wpAnyE_take 12 (v := (.string (str (E ++ [UInt8.ofNat c])))) c0CB rfl (by kernel_rfl) (by kernel_rfl) (by kernel_rfl) (fun _ _ _ h => h) (by rfl) (fun w4 c4 => ?_) ?_
    · go_simp
    try simp only [Act.put, List.getElem_toArray, List.getElem_cons_succ, List.getElem_cons_zero, List.setIfInBounds_toArray, List.set_cons_zero, List.set_cons_succ]
    refine wpAnyE_done (by kernel_rfl) ?_ _
    have hEnd : Chg [] w _ := ((Chg.refl [] w).drew).nil c0CB
    go_wp2_with fail
    go_ret
    exact ⟨rfl, hEnd⟩
  · skip
    go_simp
    have hb : Blk (w.alloc (.cells #[.int .u8 (c : Int)] 5)).drew w.heap.size #[.int .u8 (c : Int)] 5 := Blk.new _ _ _
    have cB : Chg [] w.drew (w.alloc (.cells #[.int .u8 (c : Int)] 5)).drew := (Chg.refl [] w.drew).alloc _
    have c0B := c0.nil cB
    clear cB
    refine ⟨c0B, ?_⟩
    generalize (w.alloc (.cells #[.int .u8 (c : Int)] 5)).drew = wB at *
    generalize w.heap.size = KK at *
    try simp only [Act.put, List.getElem_toArray, List.getElem_cons_succ, List.getElem_cons_zero, List.setIfInBounds_toArray, List.set_cons_zero, List.set_cons_succ]
    refine wpAnyE_two 3 10 rfl rfl (by kernel_rfl) (by rfl) (by rfl) ?_ ?_
    · skip
      go_simp
      refine (ih _).mono ?_
      rintro e wC ⟨rfl, cC⟩
      have c0BC := c0B.nil cC
      refine ⟨c0BC, ?_⟩
      try simp only [Act.put, List.getElem_toArray, List.getElem_cons_succ, List.getElem_cons_zero, List.setIfInBounds_toArray, List.set_cons_zero, List.set_cons_succ]
      refine wpAnyE_take 4 (v := (.string (str E))) c0BC rfl (by kernel_rfl) (by kernel_rfl) (by kernel_rfl) (fun _ _ _ h => h) (by rfl) (fun w4 c4 => ?_) ?_
      · have hca := hcat0 w4; go_simp
      try simp only [Act.put, List.getElem_toArray, List.getElem_cons_succ, List.getElem_cons_zero, List.setIfInBounds_toArray, List.set_cons_zero, List.set_cons_succ]
      refine wpAnyE_only 10 rfl (by kernel_rfl) (by rfl) ?_
      have hcv := str1 _ _ c (Nat.lt_of_le_of_lt hc2 (by decide)) (hb.chg0 cC)
      have HcC := Lib.hid c0BC
      clear c0BC
      go_simp
      have c0BC := HcC.out
      refine ⟨c0BC, ?_⟩
      try simp only [Act.put, List.getElem_toArray, List.getElem_cons_succ, List.getElem_cons_zero, List.setIfInBounds_toArray, List.set_cons_zero, List.set_cons_succ]
      refine wpAnyE_take 11 (v := (.string (str (E ++ [UInt8.ofNat c])))) c0BC rfl (by kernel_rfl) (by kernel_rfl) (by kernel_rfl) (fun _ _ _ h => h) (by rfl) (fun w4 c4 => ?_) ?_
      · have hca := hcat w4; go_simp
      try simp only [Act.put, List.getElem_toArray, List.getElem_cons_succ, List.getElem_cons_zero, List.setIfInBounds_toArray, List.set_cons_zero, List.set_cons_succ]
      refine wpAnyE_take 12 (v := (.string (str (E ++ [UInt8.ofNat c])))) c0BC rfl (by kernel_rfl) (by kernel_rfl) (by kernel_rfl) (fun _ _ _ h => h) (by rfl) (fun w4 c4 => ?_) ?_
      · go_simp
      try simp only [Act.put, List.getElem_toArray, List.getElem_cons_succ, List.getElem_cons_zero, List.setIfInBounds_toArray, List.set_cons_zero, List.set_cons_succ]
      refine wpAnyE_done (by kernel_rfl) ?_ _
      have hEnd : Chg [] w _ := ((Chg.refl [] w).drew).nil c0BC
      go_wp2_with fail
      go_ret
      exact ⟨rfl, hEnd⟩
    · skip
      have hcv := str1 _ _ c (Nat.lt_of_le_of_lt hc2 (by decide)) hb
      have HcC := Lib.hid c0B
      clear c0B
      go_simp
      have c0B := HcC.out
      refine ⟨c0B, ?_⟩
      try simp only [Act.put, List.getElem_toArray, List.getElem_cons_succ, List.getElem_cons_zero, List.setIfInBounds_toArray, List.set_cons_zero, List.set_cons_succ]
      refine wpAnyE_only 3 rfl (by kernel_rfl) (by rfl) ?_
      go_simp
      refine (ih _).mono ?_
      rintro e wC ⟨rfl, cC⟩
      have c0BC := c0B.nil cC
      refine ⟨c0BC, ?_⟩
      try simp only [Act.put, List.getElem_toArray, List.getElem_cons_succ, List.getElem_cons_zero, List.setIfInBounds_toArray, List.set_cons_zero, List.set_cons_succ]
      refine wpAnyE_take 4 (v := (.string (str E))) c0BC rfl (by kernel_rfl) (by kernel_rfl) (by kernel_rfl) (fun _ _ _ h => h) (by rfl) (fun w4 c4 => ?_) ?_
      · have hca := hcat0 w4; go_simp
      try simp only [Act.put, List.getElem_toArray, List.getElem_cons_succ, List.getElem_cons_zero, List.setIfInBounds_toArray, List.set_cons_zero, List.set_cons_succ]
      refine wpAnyE_take 11 (v := (.string (str (E ++ [UInt8.ofNat c])))) c0BC rfl (by kernel_rfl) (by kernel_rfl) (by kernel_rfl) (fun _ _ _ h => h) (by rfl) (fun w4 c4 => ?_) ?_
      · have hca := hcat w4; go_simp
      try simp only [Act.put, List.getElem_toArray, List.getElem_cons_succ, List.getElem_cons_zero, List.setIfInBounds_toArray, List.set_cons_zero, List.set_cons_succ]
      refine wpAnyE_take 12 (v := (.string (str (E ++ [UInt8.ofNat c])))) c0BC rfl (by kernel_rfl) (by kernel_rfl) (by kernel_rfl) (fun _ _ _ h => h) (by rfl) (fun w4 c4 => ?_) ?_
      · go_simp
      try simp only [Act.put, List.getElem_toArray, List.getElem_cons_succ, List.getElem_cons_zero, List.setIfInBounds_toArray, List.set_cons_zero, List.set_cons_succ]
      refine wpAnyE_done (by kernel_rfl) ?_ _
      have hEnd : Chg [] w _ := ((Chg.refl [] w).drew).nil c0BC
      go_wp2_with fail
      go_ret
      exact ⟨rfl, hEnd⟩
set_option maxRecDepth 100000 in
set_option maxHeartbeats 1000000 in
theorem decN1_any (n nd : Int) (d : Nat) (hd1 : 1 ≤ d ∧ d < 10) (hn : n = -(d : Int)) (hnd : nd = -(d : Int)) (w : World) :
    Calls Tryz.prog 22 #[.int .i64 n] w fun e w' => e = .returned (.string (str [45, UInt8.ofNat (48 + d)])) ∧ Chg [] w w' := by
  have t1 : decide (n < 0) = true := decide_eq_true (by omega)
  obtain ⟨c, hc⟩ : ∃ c, c = 48 + d := ⟨_, rfl⟩
  have hc2 : c ≤ 57 := by omega
  rw [← hc]
  have e1 : n.tdiv 10 = 0 := by rw [hn, Int.neg_tdiv, show ((d : Int).tdiv 10) = ((d / 10 : Nat) : Int) from rfl, show d / 10 = 0 by omega]; rfl
  have e3 : n.tmod 10 = nd := by rw [hn, Int.neg_tmod, hnd, show ((d : Int).tmod 10) = ((d % 10 : Nat) : Int) from rfl, show d % 10 = d by omega]
  have bnd : -9223372036854775808 ≤ nd ∧ nd ≤ 9223372036854775807 := by omega
  have bc : -9223372036854775808 ≤ (c : Int) ∧ (c : Int) ≤ 9223372036854775807 := by omega
  have c256 : c < 256 := by omega
  have e5 : (48 : Int) - nd = (c : Int) := by omega
  have e4 : IntKind.i64.wrap (n.tmod 10) = nd := by rw [e3]; exact wrapI _ bnd
  have e4' : wrap64 nd = nd := w64 _ bnd
  have e6 : wrap64 ((48 : Int) - nd) = (c : Int) := by rw [e5]; exact w64 _ bc
  have e6' : IntKind.i64.wrap ((48 : Int) - nd) = (c : Int) := by rw [e5]; exact wrapI _ bc
  have e12 : IntKind.i64.wrap (c : Int) = (c : Int) := wrapI _ bc
  have e7 : IntKind.u8.wrap (c : Int) = (c : Int) := wrap_u8_nat c c256
  have hcv := str1 _ _ c c256 (Blk.new w #[.int .u8 (c : Int)] 5)
  have hcat := fun w => run_catD (P := Tryz.prog) (show ⟨#[45]⟩ ++ str [UInt8.ofNat c] = str [45, UInt8.ofNat c] from str_app [45] [UInt8.ofNat c]) (by rw [str_size]; show 1 + 1 ≤ _; decide) w
  have hch : Chg [] w (w.alloc (.cells #[.int .u8 (c : Int)] 5)) := (Chg.refl [] w).alloc _
  have HC := Lib.hid hch
  clear hc hn hnd hd1 hch
  go_enter Tryz.func22, Tryz.ntmps22
  go_wp2_with fail
  go_ret
  exact ⟨rfl, HC.out⟩
theorem decNat_any : ∀ (n : Nat), n ≤ 9223372036854775807 → ∀ w, Calls Tryz.prog 22 #[.int .i64 (n : Int)] w fun e w' => e = .returned (.string (str (Lib.decDigits n))) ∧ Chg [] w w' := by
  intro n
  induction n using Nat.strongRecOn with
  | _ n ih =>
    intro hn w
    by_cases h : n < 10
    · rw [Lib.decDigits, dif_pos h]
      exact dec1_any n h w
    · exact decP_any n (n / 10) (n % 10) hn (by omega) rfl rfl w (ih (n / 10) (by omega) (by omega))
/-- The document's Dec. -/
theorem rdec_any (n : Int) (h : -9223372036854775808 ≤ n ∧ n ≤ 9223372036854775807) (w : World) : Calls Tryz.prog 22 #[.int .i64 n] w fun e w' => e = .returned (.string (str (Lib.itoa n))) ∧ Chg [] w w' := by
  by_cases h0 : n < 0
  · obtain ⟨m, hm⟩ : ∃ m : Nat, m = n.natAbs := ⟨_, rfl⟩
    have hn : n = -(m : Int) := by omega
    rw [itoa_neg h0, ← hm]
    by_cases h1 : m < 10
    · rw [Lib.decDigits, dif_pos h1]
      exact decN1_any n n m ⟨by omega, h1⟩ hn hn w
    · exact decN_any n _ _ m (m / 10) (m % 10) (by omega) (by omega) hn rfl rfl rfl rfl w (decNat_any (m / 10) (by omega))
  · obtain ⟨m, hm⟩ : ∃ m : Nat, m = n.natAbs := ⟨_, rfl⟩
    have hn : n = (m : Int) := by omega
    rw [itoa_pos h0, ← hm, hn]
    exact decNat_any m (by omega) w
end Go.Proofs.YtfammoidikdbpaaGreatDoor

/- The document's Num: the number that a text is. No statement of the seat is proved here. (Printed by gen_rnum.py.) -/
namespace Go.Aq.Wd
theorem valD_take_succ (l : List UInt8) (i : Nat) (h : i < l.length) : valD (l.take (i + 1)) = 10 * valD (l.take i) + ((l[i]).toNat - 48) := by
  rw [List.take_succ_eq_append_getElem h, valD_snoc]
/-- What Num says of a text: the value, and whether it is the text's. -/
def NumSays (s : List UInt8) (v : Int) (ok : Bool) : Prop := (ok = true → IsNum s v) ∧ (ok = false → ∀ u, ¬ IsNum s u) ∧ (-9223372036854775808 ≤ v ∧ v ≤ 9223372036854775807)
theorem says_no {s : List UInt8} (h : ∀ u, ¬ IsNum s u) : NumSays s 0 false := ⟨fun e => (by cases e), fun _ => h, by omega, by omega⟩
/-- The text is a number's, if it is its value's. -/
theorem says_last {s : List UInt8} {n : Int} (hr : -9223372036854775808 ≤ n ∧ n ≤ 9223372036854775807) (hv : n = if s.head? = some 45 then -(valD (digD s) : Int) else (valD (digD s) : Int)) {b : Bool} (hb : b = decide (Lib.itoa n = s)) : NumSays s n b := by
  refine ⟨fun e => ⟨?_, hr⟩, fun e u k => ?_, hr⟩
  · rw [e] at hb
    exact (of_decide_eq_true hb.symm).symm
  · rw [e] at hb
    have h1 := of_decide_eq_false hb.symm
    have h2 := num_value k
    rw [← hv] at h2
    rw [h2] at k
    exact h1 k.1.symm
theorem says_most {s : List UInt8} (hn : s.head? ≠ some 45) (hv : valD (digD s) = 9223372036854775808) : NumSays s 0 false := says_no fun u k => by
  have h1 := num_value k
  rw [if_neg hn, hv] at h1
  have := k.2.2
  omega
end Go.Aq.Wd
namespace Go.Proofs.YtfammoidikdbpaaGreatDoor
open Go.RowKit Go.Aq Go.Aq.Wd
/-- How Num ends. -/
def NumEnd (s : List UInt8) (w : World) (e : Ending) (w' : World) : Prop := ∃ v ok, e = .returned (.tuple #[.int .i64 v, .bool ok]) ∧ NumSays s v ok ∧ Chg [] w w'
set_option maxRecDepth 100000 in
set_option maxHeartbeats 1000000 in
theorem rnum_empty (w : World) : Calls Tryz.prog 30 #[.string (str [])] w (NumEnd [] w) := by
  have HN := Lib.hid (says_no (s := []) (too_long (Or.inl (by decide))))
  have hsz : (str []).size = 0 := rfl
  have HC : Hid (Chg [] w w) := Chg.refl _ _
  go_enter Tryz.func30, Tryz.ntmps30
  go_wp2_with fail
  go_ret2
  exact ⟨0, false, rfl, HN.out, HC.out⟩
set_option maxRecDepth 100000 in
set_option maxHeartbeats 4000000 in
theorem rnum_pos (s : List UInt8) (h0 : 0 < s.length) (hs : s.length ≤ 1000000000) (hh : s.head? ≠ some 45) (w : World) : Calls Tryz.prog 30 #[.string (str s)] w (NumEnd s w) := by
  have hD : digD s = s := by unfold digD; rw [if_neg hh]
  have hb0 : s[0] ≠ 45 := by cases s with | nil => simp at h0 | cons a t => simpa using hh
  have hb1 := s[0].toNat_lt
  have i0 : ∀ w, (Instr.index 9 (.string (str s)) (.int .i64 0)).run Tryz.prog w = .ok (.int .u8 ((s[0]'h0).toNat : Int)) w := fun w => idxStr w s 0 h0
  have hsz := str_size s
  have t0 : decide ((0 : Int) < (s.length : Int)) = true := by simp; omega
  have t0' : decide (0 < s.length) = true := by simp; omega
  have t45 : (((s[0]'h0).toNat : Int) == 45) = false := by
    simp only [beq_eq_false_iff_ne, ne_eq]
    intro h
    exact hb0 (UInt8.toNat_inj.1 (by have : (45 : UInt8).toNat = 45 := rfl; omega))
  generalize (s[0]'h0).toNat = c0 at *
  clear hb0
  obtain ⟨D, hDD⟩ : ∃ D, D = digD s := ⟨_, rfl⟩
  have hDe := hDD.trans hD
  clear hD
  have hszD := str_size D
  have HD := Lib.hid (And.intro hDD (And.intro hh h0))
  have HC : Hid (Chg [] w w) := Chg.refl _ _
  obtain ⟨N, hN⟩ : ∃ N, D.length = N := ⟨_, rfl⟩
  rw [hN] at hszD
  have HN := Lib.hid hN
  subst hDe
  rw [hN] at t0 t0' hs
  clear h0 hh hDD hN hsz
  by_cases hl1 : N < 1
  · have u1 : decide ((N : Int) < 1) = true := by simp; omega
    have u1' : decide (N < 1) = true := by simp; omega
    have HS : Hid (NumSays D 0 false) := says_no (too_long (Or.inl (by rw [← HD.out.1, HN.out]; exact hl1)))
    clear hl1
    go_enter Tryz.func30, Tryz.ntmps30
    go_wp2_with fail
    go_ret2
    exact ⟨0, false, rfl, HS.out, HC.out⟩
  have u1 : decide ((N : Int) < 1) = false := by simp; omega
  have u1' : decide (N < 1) = false := by simp; omega
  by_cases hl2 : 19 < N
  · have u2 : decide ((19 : Int) < (N : Int)) = true := by simp; omega
    have u2' : decide (19 < N) = true := by simp; omega
    have HS : Hid (NumSays D 0 false) := says_no (too_long (Or.inr (by rw [← HD.out.1, HN.out]; exact hl2)))
    clear hl1 hl2
    go_enter Tryz.func30, Tryz.ntmps30
    go_wp2_with fail
    go_ret2
    exact ⟨0, false, rfl, HS.out, HC.out⟩
  have u2 : decide ((19 : Int) < (N : Int)) = false := by simp; omega
  have u2' : decide (19 < N) = false := by simp; omega
  have HL := Lib.hid (And.intro hl1 hl2)
  clear hl1 hl2
  go_enter Tryz.func30, Tryz.ntmps30
  go_wp2_with fail
  go_loopg [6, 7] N (fun k vn vi wr => ∃ (i : Nat) (nv : Int), vi = .int .i64 i ∧ vn = .int .i64 nv ∧ i + k = N ∧ nv = -(valD (D.take i) : Int) ∧ valD (D.take i) ≤ 9223372036854775808 ∧ wr = w)
  case atStart => exact ⟨0, 0, rfl, rfl, by omega, rfl, by show valD [] ≤ _; decide, rfl⟩
  case round =>
    obtain ⟨i, nv, rfl, rfl, hik, hnv, hV, rfl⟩ := hrel
    by_cases hi : i < N
    · have r1 : decide ((i : Int) < (N : Int)) = true := by simp; omega
      have r1' : decide (i < N) = true := by simp; omega
      have hil : i < D.length := by rw [HN.out]; exact hi
      have ii := fun w => idxStr w D i hil
      have hts := valD_take_succ D i hil
      have hc := (D[i]'hil).toNat_lt
      have hnd := fun (h : ¬ (48 ≤ ((digD D)[i]'(by rw [← HD.out.1]; exact hil)).toNat ∧ ((digD D)[i]'(by rw [← HD.out.1]; exact hil)).toNat ≤ 57)) => no_digit (s := D) (i := i) (by rw [← HD.out.1]; exact hil) h
      have hge : (digD D)[i]'(by rw [← HD.out.1]; exact hil) = D[i]'hil := by simp only [← HD.out.1]
      rw [hge] at hnd
      clear hge
      generalize (D[i]'hil).toNat = c at *
      obtain ⟨x, hx⟩ : ∃ x : Int, x = (c : Int) - 48 := ⟨_, rfl⟩
      have bx : -9223372036854775808 ≤ x ∧ x ≤ 9223372036854775807 := by omega
      have e5 : wrap64 ((c : Int) - 48) = x := by rw [← hx]; exact w64 _ bx
      have e5' : (c : Int) - 48 = x := hx.symm
      have HX := Lib.hid hx
      have e5c : wrap64 (c : Int) = (c : Int) := w64 _ (by omega)
      have e5w : wrap64 x = x := w64 _ bx
      have H5 := Lib.hid (And.intro e5w e5c)
      clear e5c e5w
      clear hx e5 bx
      by_cases hx0 : x < 0
      · have v1 : decide (x < 0) = true := by simp; omega
        have HS : Hid (NumSays D 0 false) := says_no (hnd (by have := HX.out; omega))
        clear hx0 hnd hts hnv hV hik hil hi hc
        obtain ⟨e5, e5c⟩ := H5.out
        go_wp2_with fail
        go_ret2
        exact ⟨0, false, rfl, HS.out, HC.out⟩
      have v1 : decide (x < 0) = false := by simp; omega
      by_cases hx9 : 9 < x
      · have v2 : decide (9 < x) = true := by simp; omega
        have HS : Hid (NumSays D 0 false) := says_no (hnd (by have := HX.out; omega))
        clear hx0 hx9 hnd hts hnv hV hik hil hi hc
        obtain ⟨e5, e5c⟩ := H5.out
        go_wp2_with fail
        go_ret2
        exact ⟨0, false, rfl, HS.out, HC.out⟩
      have v2 : decide (9 < x) = false := by simp; omega
      obtain ⟨y, hy⟩ : ∃ y : Int, y = -9223372036854775808 + x := ⟨_, rfl⟩
      obtain ⟨z, hz⟩ : ∃ z : Int, z = y.tdiv 10 := ⟨_, rfl⟩
      have hz2 : z = -((-y) / 10) := by
        rw [hz]
        obtain ⟨m, hm⟩ : ∃ m : Nat, y = -(m : Int) := ⟨y.natAbs, by omega⟩
        rw [hm, Int.neg_tdiv, Int.neg_neg]; rfl
      have bx := HX.out
      have by' : -9223372036854775808 ≤ y ∧ y ≤ 9223372036854775807 := by omega
      have bz : -9223372036854775808 ≤ z ∧ z ≤ 9223372036854775807 := by omega
      have h6 : wrap64 (-9223372036854775808 + x) = y := by rw [← hy]; exact w64 _ by'
      have h7 : IntKind.i64.wrap (y.tdiv 10) = z := by rw [← hz]; exact wrapI _ bz
      have h7' : wrap64 (y.tdiv 10) = z := by rw [← hz]; exact w64 _ bz
      have h7z : wrap64 z = z := w64 _ bz
      have h7k : IntKind.i64.wrap z = z := wrapI _ bz
      have h7e : y.tdiv 10 = z := hz.symm
      have h6e : -9223372036854775808 + x = y := hy.symm
      have h6 : wrap64 y = y := w64 _ by'
      have H6 := Lib.hid (And.intro h6 (And.intro h7 (And.intro h7' (And.intro h7z (And.intro h7e (And.intro h6e h7k))))))
      clear h6 h7 h7' h7z h7e h6e h7k bx by' bz
      have HY := Lib.hid (And.intro hy hz2)
      generalize hVV : valD (D.take i) = V at *
      clear hz hy hz2
      by_cases hov : nv < z
      · have v3 : decide (nv < z) = true := by simp; omega
        have HS : Hid (NumSays D 0 false) := says_no (too_much (i := i + 1) (by rw [← HD.out.1, hts]; have h1 := HY.out; have h2 := HX.out; omega))
        clear hx0 hx9 hnd hts hnv hV hik hil hi hc hov hVV
        obtain ⟨e6, e7, e7', e7z, e7e, e6e, e7k⟩ := H6.out
        obtain ⟨e5, e5c⟩ := H5.out
        go_wp2_with fail
        go_ret2
        exact ⟨0, false, rfl, HS.out, HC.out⟩
      have v3 : decide (nv < z) = false := by simp; omega
      obtain ⟨p, hp⟩ : ∃ p : Int, p = 10 * nv := ⟨_, rfl⟩
      obtain ⟨q, hq⟩ : ∃ q : Int, q = p - x := ⟨_, rfl⟩
      have hqr : -9223372036854775808 ≤ q ∧ q ≤ 0 ∧ -9223372036854775808 ≤ p ∧ p ≤ 0 := by have h1 := HY.out; have h2 := HX.out; omega
      have bp : -9223372036854775808 ≤ p ∧ p ≤ 9223372036854775807 := by omega
      have bq : -9223372036854775808 ≤ q ∧ q ≤ 9223372036854775807 := by omega
      have hq2 : q = -((valD (D.take (i + 1)) : Nat) : Int) := by rw [hts, hq, hp]; have h2 := HX.out; omega
      have hV2 : valD (D.take (i + 1)) ≤ 9223372036854775808 := by omega
      have hk2 : i + 1 + (gk - 1) = N := by omega
      have hk1 : gk - 1 < gk := by omega
      have HQ := Lib.hid (And.intro hq2 (And.intro hV2 (And.intro hk2 hk1)))
      clear hV2 hk2 hk1
      have e8 : wrap64 (10 * nv) = p := by rw [← hp]; exact w64 _ bp
      have e9 : wrap64 (p - x) = q := by rw [← hq]; exact w64 _ bq
      have e8' : 10 * nv = p := hp.symm
      have e9' : p - x = q := hq.symm
      have e8w : wrap64 p = p := w64 _ bp
      have e9w : wrap64 q = q := w64 _ bq
      clear hx0 hx9 hnd hts hnv hV hik hil hov hVV hp hq hq2 hqr hc bp bq
      obtain ⟨e6, e7, e7', e7z, e7e, e6e, e7k⟩ := H6.out
      obtain ⟨e5, e5c⟩ := H5.out
      go_wp2_with fail
      go_roundg (gk - 1)
      case measure => exact HQ.out.2.2.2
      case rel => exact ⟨i + 1, q, by go_num, by first | rfl | rw [e9w], HQ.out.2.2.1, HQ.out.1, HQ.out.2.1, rfl⟩
    · have r1 : decide ((i : Int) < (N : Int)) = false := by simp; omega
      have r1' : decide (i < N) = false := by simp; omega
      have hiN : i = N := by omega
      rw [List.take_of_length_le (show D.length ≤ i by rw [HN.out, hiN]; exact Nat.le_refl _)] at hnv hV
      have HV := Lib.hid (And.intro hnv hV)
      by_cases hmx : nv = -9223372036854775808
      · have v5 : (nv == -9223372036854775808) = true := by simpa using hmx
        have HS : Hid (NumSays D 0 false) := says_most HD.out.2.1 (by rw [← HD.out.1]; omega)
        clear hnv hV hik hiN hi hmx
        go_wp2_with fail
        go_ret2
        exact ⟨0, false, rfl, HS.out, HC.out⟩
      have v5 : (nv == -9223372036854775808) = false := by simpa using hmx
      obtain ⟨n2, hn2⟩ : ∃ n2 : Int, n2 = -nv := ⟨_, rfl⟩
      have hr : -9223372036854775808 ≤ n2 ∧ n2 ≤ 9223372036854775807 := by omega
      obtain ⟨b, hb⟩ : ∃ b, b = decide (Lib.itoa n2 = D) := ⟨_, rfl⟩
      have e1 : ((str (Lib.itoa n2)).toList == (str D).toList) = b := by rw [str_eq, hb]
      have HS : Hid (NumSays D n2 b) := says_last hr (by rw [if_neg HD.out.2.1, ← HD.out.1]; omega) hb
      have hdc := fun w' => rdec_any n2 hr w'
      generalize Lib.itoa n2 = T at *
      have e2 : wrap64 (-nv) = n2 := by rw [← hn2]; exact w64 _ hr
      have e2' : IntKind.i64.wrap (-nv) = n2 := by rw [← hn2]; exact wrapI _ hr
      have e2'' : -nv = n2 := hn2.symm
      have e2w : wrap64 n2 = n2 := w64 _ hr
      have e2k : IntKind.i64.wrap n2 = n2 := wrapI _ hr
      clear hnv hV hik hiN hi hr hb hmx hn2
      go_wp2_with fail
      refine (hdc _).mono ?_
      rintro e w2 ⟨rfl, c2⟩
      go_wp2_with fail
      go_ret2
      exact ⟨n2, b, rfl, HS.out, c2⟩
set_option maxRecDepth 100000 in
set_option maxHeartbeats 4000000 in
theorem rnum_neg (s : List UInt8) (h0 : 0 < s.length) (hs : s.length ≤ 1000000000) (hh : s.head? = some 45) (w : World) : Calls Tryz.prog 30 #[.string (str s)] w (NumEnd s w) := by
  have hD : digD s = s.drop 1 := by unfold digD; rw [if_pos hh]; simp
  have hb0 : s[0] = 45 := by cases s with | nil => simp at hh | cons a t => simpa using hh
  have hex : (str s).extract 1 s.length = str (s.drop 1) := str_from s 1
  have hb1 := s[0].toNat_lt
  have i0 : ∀ w, (Instr.index 9 (.string (str s)) (.int .i64 0)).run Tryz.prog w = .ok (.int .u8 ((s[0]'h0).toNat : Int)) w := fun w => idxStr w s 0 h0
  have hsz := str_size s
  have t0 : decide ((0 : Int) < (s.length : Int)) = true := by simp; omega
  have t0' : decide (0 < s.length) = true := by simp; omega
  rw [hb0] at i0
  have b45 : ((45 : UInt8).toNat : Int) = 45 := rfl
  rw [b45] at i0
  clear hb1 hb0
  have hDl : (s.drop 1).length + 1 = s.length := by simp; omega
  obtain ⟨D, hDD⟩ : ∃ D, D = digD s := ⟨_, rfl⟩
  have hDe := hDD.trans hD
  clear hD
  rw [← hDe] at hex hDl
  have hszD := str_size D
  have HD := Lib.hid (And.intro hDD (And.intro hh h0))
  have HC : Hid (Chg [] w w) := Chg.refl _ _
  obtain ⟨N, hN⟩ : ∃ N, D.length = N := ⟨_, rfl⟩
  rw [hN] at hszD
  have HN := Lib.hid hN
  obtain ⟨M, hM⟩ : ∃ M, s.length = M := ⟨_, rfl⟩
  have hMN : M = N + 1 := by omega
  subst hMN
  rw [hM] at hex hsz t0 t0' hs
  clear hM hDl hDe h0 hh hDD hN
  by_cases hl1 : N < 1
  · have u1 : decide ((N : Int) < 1) = true := by simp; omega
    have u1' : decide (N < 1) = true := by simp; omega
    have HS : Hid (NumSays s 0 false) := says_no (too_long (Or.inl (by rw [← HD.out.1, HN.out]; exact hl1)))
    clear hl1
    go_enter Tryz.func30, Tryz.ntmps30
    go_wp2_with fail
    go_ret2
    exact ⟨0, false, rfl, HS.out, HC.out⟩
  have u1 : decide ((N : Int) < 1) = false := by simp; omega
  have u1' : decide (N < 1) = false := by simp; omega
  by_cases hl2 : 19 < N
  · have u2 : decide ((19 : Int) < (N : Int)) = true := by simp; omega
    have u2' : decide (19 < N) = true := by simp; omega
    have HS : Hid (NumSays s 0 false) := says_no (too_long (Or.inr (by rw [← HD.out.1, HN.out]; exact hl2)))
    clear hl1 hl2
    go_enter Tryz.func30, Tryz.ntmps30
    go_wp2_with fail
    go_ret2
    exact ⟨0, false, rfl, HS.out, HC.out⟩
  have u2 : decide ((19 : Int) < (N : Int)) = false := by simp; omega
  have u2' : decide (19 < N) = false := by simp; omega
  have HL := Lib.hid (And.intro hl1 hl2)
  clear hl1 hl2
  go_enter Tryz.func30, Tryz.ntmps30
  go_wp2_with fail
  go_loopg [6, 7] N (fun k vn vi wr => ∃ (i : Nat) (nv : Int), vi = .int .i64 i ∧ vn = .int .i64 nv ∧ i + k = N ∧ nv = -(valD (D.take i) : Int) ∧ valD (D.take i) ≤ 9223372036854775808 ∧ wr = w)
  case atStart => exact ⟨0, 0, rfl, rfl, by omega, rfl, by show valD [] ≤ _; decide, rfl⟩
  case round =>
    obtain ⟨i, nv, rfl, rfl, hik, hnv, hV, rfl⟩ := hrel
    by_cases hi : i < N
    · have r1 : decide ((i : Int) < (N : Int)) = true := by simp; omega
      have r1' : decide (i < N) = true := by simp; omega
      have hil : i < D.length := by rw [HN.out]; exact hi
      have ii := fun w => idxStr w D i hil
      have hts := valD_take_succ D i hil
      have hc := (D[i]'hil).toNat_lt
      have hnd := fun (h : ¬ (48 ≤ ((digD s)[i]'(by rw [← HD.out.1]; exact hil)).toNat ∧ ((digD s)[i]'(by rw [← HD.out.1]; exact hil)).toNat ≤ 57)) => no_digit (s := s) (i := i) (by rw [← HD.out.1]; exact hil) h
      have hge : (digD s)[i]'(by rw [← HD.out.1]; exact hil) = D[i]'hil := by simp only [← HD.out.1]
      rw [hge] at hnd
      clear hge
      generalize (D[i]'hil).toNat = c at *
      obtain ⟨x, hx⟩ : ∃ x : Int, x = (c : Int) - 48 := ⟨_, rfl⟩
      have bx : -9223372036854775808 ≤ x ∧ x ≤ 9223372036854775807 := by omega
      have e5 : wrap64 ((c : Int) - 48) = x := by rw [← hx]; exact w64 _ bx
      have e5' : (c : Int) - 48 = x := hx.symm
      have HX := Lib.hid hx
      have e5c : wrap64 (c : Int) = (c : Int) := w64 _ (by omega)
      have e5w : wrap64 x = x := w64 _ bx
      have H5 := Lib.hid (And.intro e5w e5c)
      clear e5c e5w
      clear hx e5 bx
      by_cases hx0 : x < 0
      · have v1 : decide (x < 0) = true := by simp; omega
        have HS : Hid (NumSays s 0 false) := says_no (hnd (by have := HX.out; omega))
        clear hx0 hnd hts hnv hV hik hil hi hc
        obtain ⟨e5, e5c⟩ := H5.out
        go_wp2_with fail
        go_ret2
        exact ⟨0, false, rfl, HS.out, HC.out⟩
      have v1 : decide (x < 0) = false := by simp; omega
      by_cases hx9 : 9 < x
      · have v2 : decide (9 < x) = true := by simp; omega
        have HS : Hid (NumSays s 0 false) := says_no (hnd (by have := HX.out; omega))
        clear hx0 hx9 hnd hts hnv hV hik hil hi hc
        obtain ⟨e5, e5c⟩ := H5.out
        go_wp2_with fail
        go_ret2
        exact ⟨0, false, rfl, HS.out, HC.out⟩
      have v2 : decide (9 < x) = false := by simp; omega
      obtain ⟨y, hy⟩ : ∃ y : Int, y = -9223372036854775808 + x := ⟨_, rfl⟩
      obtain ⟨z, hz⟩ : ∃ z : Int, z = y.tdiv 10 := ⟨_, rfl⟩
      have hz2 : z = -((-y) / 10) := by
        rw [hz]
        obtain ⟨m, hm⟩ : ∃ m : Nat, y = -(m : Int) := ⟨y.natAbs, by omega⟩
        rw [hm, Int.neg_tdiv, Int.neg_neg]; rfl
      have bx := HX.out
      have by' : -9223372036854775808 ≤ y ∧ y ≤ 9223372036854775807 := by omega
      have bz : -9223372036854775808 ≤ z ∧ z ≤ 9223372036854775807 := by omega
      have h6 : wrap64 (-9223372036854775808 + x) = y := by rw [← hy]; exact w64 _ by'
      have h7 : IntKind.i64.wrap (y.tdiv 10) = z := by rw [← hz]; exact wrapI _ bz
      have h7' : wrap64 (y.tdiv 10) = z := by rw [← hz]; exact w64 _ bz
      have h7z : wrap64 z = z := w64 _ bz
      have h7k : IntKind.i64.wrap z = z := wrapI _ bz
      have h7e : y.tdiv 10 = z := hz.symm
      have h6e : -9223372036854775808 + x = y := hy.symm
      have h6 : wrap64 y = y := w64 _ by'
      have H6 := Lib.hid (And.intro h6 (And.intro h7 (And.intro h7' (And.intro h7z (And.intro h7e (And.intro h6e h7k))))))
      clear h6 h7 h7' h7z h7e h6e h7k bx by' bz
      have HY := Lib.hid (And.intro hy hz2)
      generalize hVV : valD (D.take i) = V at *
      clear hz hy hz2
      by_cases hov : nv < z
      · have v3 : decide (nv < z) = true := by simp; omega
        have HS : Hid (NumSays s 0 false) := says_no (too_much (i := i + 1) (by rw [← HD.out.1, hts]; have h1 := HY.out; have h2 := HX.out; omega))
        clear hx0 hx9 hnd hts hnv hV hik hil hi hc hov hVV
        obtain ⟨e6, e7, e7', e7z, e7e, e6e, e7k⟩ := H6.out
        obtain ⟨e5, e5c⟩ := H5.out
        go_wp2_with fail
        go_ret2
        exact ⟨0, false, rfl, HS.out, HC.out⟩
      have v3 : decide (nv < z) = false := by simp; omega
      obtain ⟨p, hp⟩ : ∃ p : Int, p = 10 * nv := ⟨_, rfl⟩
      obtain ⟨q, hq⟩ : ∃ q : Int, q = p - x := ⟨_, rfl⟩
      have hqr : -9223372036854775808 ≤ q ∧ q ≤ 0 ∧ -9223372036854775808 ≤ p ∧ p ≤ 0 := by have h1 := HY.out; have h2 := HX.out; omega
      have bp : -9223372036854775808 ≤ p ∧ p ≤ 9223372036854775807 := by omega
      have bq : -9223372036854775808 ≤ q ∧ q ≤ 9223372036854775807 := by omega
      have hq2 : q = -((valD (D.take (i + 1)) : Nat) : Int) := by rw [hts, hq, hp]; have h2 := HX.out; omega
      have hV2 : valD (D.take (i + 1)) ≤ 9223372036854775808 := by omega
      have hk2 : i + 1 + (gk - 1) = N := by omega
      have hk1 : gk - 1 < gk := by omega
      have HQ := Lib.hid (And.intro hq2 (And.intro hV2 (And.intro hk2 hk1)))
      clear hV2 hk2 hk1
      have e8 : wrap64 (10 * nv) = p := by rw [← hp]; exact w64 _ bp
      have e9 : wrap64 (p - x) = q := by rw [← hq]; exact w64 _ bq
      have e8' : 10 * nv = p := hp.symm
      have e9' : p - x = q := hq.symm
      have e8w : wrap64 p = p := w64 _ bp
      have e9w : wrap64 q = q := w64 _ bq
      clear hx0 hx9 hnd hts hnv hV hik hil hov hVV hp hq hq2 hqr hc bp bq
      obtain ⟨e6, e7, e7', e7z, e7e, e6e, e7k⟩ := H6.out
      obtain ⟨e5, e5c⟩ := H5.out
      go_wp2_with fail
      go_roundg (gk - 1)
      case measure => exact HQ.out.2.2.2
      case rel => exact ⟨i + 1, q, by go_num, by first | rfl | rw [e9w], HQ.out.2.2.1, HQ.out.1, HQ.out.2.1, rfl⟩
    · have r1 : decide ((i : Int) < (N : Int)) = false := by simp; omega
      have r1' : decide (i < N) = false := by simp; omega
      have hiN : i = N := by omega
      rw [List.take_of_length_le (show D.length ≤ i by rw [HN.out, hiN]; exact Nat.le_refl _)] at hnv hV
      have HV := Lib.hid (And.intro hnv hV)
      have hr : -9223372036854775808 ≤ nv ∧ nv ≤ 9223372036854775807 := by omega
      obtain ⟨b, hb⟩ : ∃ b, b = decide (Lib.itoa nv = s) := ⟨_, rfl⟩
      have e1 : ((str (Lib.itoa nv)).toList == (str s).toList) = b := by rw [str_eq, hb]
      have HS : Hid (NumSays s nv b) := says_last hr (by rw [if_pos HD.out.2.1, ← HD.out.1]; exact hnv) hb
      have hdc := fun w' => rdec_any nv hr w'
      generalize Lib.itoa nv = T at *
      clear hnv hV hik hiN hi hr hb
      go_wp2_with fail
      refine (hdc _).mono ?_
      rintro e w2 ⟨rfl, c2⟩
      go_wp2_with fail
      go_ret2
      exact ⟨nv, b, rfl, HS.out, c2⟩
/-- The document's Num. -/
theorem rnum_any (s : List UInt8) (hs : s.length ≤ 1000000000) (w : World) : Calls Tryz.prog 30 #[.string (str s)] w (NumEnd s w) := by
  by_cases h0 : 0 < s.length
  · by_cases hh : s.head? = some 45
    · exact rnum_neg s h0 hs hh w
    · exact rnum_pos s h0 hs hh w
  · have : s = [] := List.length_eq_zero_iff.1 (by omega)
    subst this
    exact rnum_empty w
end Go.Proofs.YtfammoidikdbpaaGreatDoor

/- Contracts of aquref9.ShapeOf, Decode. No statement of the seat is proved here. (Printed by gen_rdcd.py.) -/
namespace Go.Proofs.YtfammoidikdbpaaGreatDoor
open Go.RowKit Go.Aq Go.Aq.Wd
theorem or_bytes (a b : Nat) (ha : a < 256) (hb : b < 256) : bits .or .i64 ((a : Int) * 256) (b : Int) = ((256 * a + b : Nat) : Int) := by
  have h := (bits_i64 (a * 256) b (by omega) (by omega)).2.1
  have e : a * 256 ||| b = 256 * a + b := by
    rw [Nat.or_comm]
    have := or_shift b a 8 hb
    rw [show (2 : Nat) ^ 8 = 256 by decide] at this
    rw [this]
    omega
  rw [e] at h
  rw [← h]
  rfl
set_option maxRecDepth 100000 in
set_option maxHeartbeats 4000000 in
theorem rshapeOf_any (g o cap x0 x1 x2 x3 x4 x5 : Nat) (y0 : x0 < 256) (y1 : x1 < 256) (y2 : x2 < 256) (y3 : x3 < 256) (y4 : x4 < 256) (y5 : x5 < 256) (w : World)
    (m0 : w.cell? ⟨g, o, none⟩ = some (.int .u8 (x0 : Int))) (m1 : w.cell? ⟨g, o + 1, none⟩ = some (.int .u8 (x1 : Int))) (m2 : w.cell? ⟨g, o + 2, none⟩ = some (.int .u8 (x2 : Int))) (m3 : w.cell? ⟨g, o + 3, none⟩ = some (.int .u8 (x3 : Int))) (m4 : w.cell? ⟨g, o + 4, none⟩ = some (.int .u8 (x4 : Int))) (m5 : w.cell? ⟨g, o + 5, none⟩ = some (.int .u8 (x5 : Int))) :
    Calls Tryz.prog 60 #[.slice (some ⟨g, o, none⟩) 6 cap] w fun e w' => e = .returned (.agg #[.int .i64 ((256 * x0 + x1 : Nat) : Int), .int .i64 ((256 * x2 + x3 : Nat) : Int), .int .i64 (x4 : Int), .int .i64 (x5 : Int)]) ∧ Chg [] w w' := by
  obtain ⟨K, hK⟩ : ∃ K, w.heap.size = K := ⟨_, rfl⟩
  have hbK : Blk (w.alloc (.cells #[.int .i64 0, .int .i64 0, .int .i64 0, .int .i64 0] 23)) K #[.int .i64 0, .int .i64 0, .int .i64 0, .int .i64 0] 23 := Blk.new_at w _ _ hK
  have hc1 : Chg [] w (w.alloc (.cells #[.int .i64 0, .int .i64 0, .int .i64 0, .int .i64 0] 23)) := (Chg.refl [] w).alloc _
  have n0 := hc1.cell_some m0 (by simp)
  have n1 := hc1.cell_some m1 (by simp)
  have n2 := hc1.cell_some m2 (by simp)
  have n3 := hc1.cell_some m3 (by simp)
  have n4 := hc1.cell_some m4 (by simp)
  have n5 := hc1.cell_some m5 (by simp)
  have i0 := wrap_i64_nat x0 (by omega)
  have i1 := wrap_i64_nat x1 (by omega)
  have i2 := wrap_i64_nat x2 (by omega)
  have i3 := wrap_i64_nat x3 (by omega)
  have i4 := wrap_i64_nat x4 (by omega)
  have i5 := wrap_i64_nat x5 (by omega)
  have o1 := or_bytes x0 x1 y0 y1
  have o2 := or_bytes x2 x3 y2 y3
  obtain ⟨S0, s0⟩ : ∃ S0 : Int, (x0 : Int) * 256 = S0 := ⟨_, rfl⟩
  obtain ⟨S2, s2⟩ : ∃ S2 : Int, (x2 : Int) * 256 = S2 := ⟨_, rfl⟩
  have s0w : wrap64 S0 = S0 := w64 _ (by omega)
  have s2w : wrap64 S2 = S2 := w64 _ (by omega)
  have s0k : IntKind.i64.wrap S0 = S0 := by rw [← s0]; exact wrap_i64_nat (x0 * 256) (by omega)
  have s2k : IntKind.i64.wrap S2 = S2 := by rw [← s2]; exact wrap_i64_nat (x2 * 256) (by omega)
  rw [s0] at o1
  rw [s2] at o2
  generalize 256 * x0 + x1 = W at *
  generalize 256 * x2 + x3 = H at *
  have HC := Lib.hid (And.intro hc1 hbK)
  clear m0 m1 m2 m3 m4 m5 hc1 hbK y0 y1 y2 y3 y4 y5
  go_enter Tryz.func60, Tryz.ntmps60
  go_upto_region 1 with (fail)
  generalize (w.alloc (.cells #[.int .i64 0, .int .i64 0, .int .i64 0, .int .i64 0] 23)) = w1 at *
  refine wp_region_S (fun i => i == 29) (by kernel_rfl) ?_
  refine wpAnyS_take 0 (v := (.slice (some ⟨g, o, none⟩) 6 cap)) rfl (by kernel_rfl) (by kernel_rfl) (by kernel_rfl) (by kernel_rfl) (fun _ _ _ h => h) (by rfl) (fun w4 c4 => ?_) ?_
  · go_simp
  try simp only [Act.put, List.getElem_toArray, List.getElem_cons_succ, List.getElem_cons_zero, List.setIfInBounds_toArray, List.set_cons_zero, List.set_cons_succ]
  refine wpAnyS_take 1 (v := (.pointer (some ⟨g, o, none⟩))) rfl (by kernel_rfl) (by kernel_rfl) (by kernel_rfl) (by kernel_rfl) (fun _ _ _ h => h) (by rfl) (fun w4 c4 => ?_) ?_
  · go_simp
  try simp only [Act.put, List.getElem_toArray, List.getElem_cons_succ, List.getElem_cons_zero, List.setIfInBounds_toArray, List.set_cons_zero, List.set_cons_succ]
  refine wpAnyS_take 2 (v := (.int .u8 (x0 : Int))) rfl (by kernel_rfl) (by kernel_rfl) (by kernel_rfl) (by kernel_rfl) (fun _ _ _ h => h) (by rfl) (fun w4 c4 => ?_) ?_
  · have z := c4.cell_some n0 (by simp)
    go_simp
  try simp only [Act.put, List.getElem_toArray, List.getElem_cons_succ, List.getElem_cons_zero, List.setIfInBounds_toArray, List.set_cons_zero, List.set_cons_succ]
  refine wpAnyS_take 3 (v := (.int .i64 (x0 : Int))) rfl (by kernel_rfl) (by kernel_rfl) (by kernel_rfl) (by kernel_rfl) (fun _ _ _ h => h) (by rfl) (fun w4 c4 => ?_) ?_
  · go_simp
  try simp only [Act.put, List.getElem_toArray, List.getElem_cons_succ, List.getElem_cons_zero, List.setIfInBounds_toArray, List.set_cons_zero, List.set_cons_succ]
  refine wpAnyS_take 4 (v := (.int .i64 S0)) rfl (by kernel_rfl) (by kernel_rfl) (by kernel_rfl) (by kernel_rfl) (fun _ _ _ h => h) (by rfl) (fun w4 c4 => ?_) ?_
  · go_simp
  try simp only [Act.put, List.getElem_toArray, List.getElem_cons_succ, List.getElem_cons_zero, List.setIfInBounds_toArray, List.set_cons_zero, List.set_cons_succ]
  refine wpAnyS_take 5 (v := (.slice (some ⟨g, o, none⟩) 6 cap)) rfl (by kernel_rfl) (by kernel_rfl) (by kernel_rfl) (by kernel_rfl) (fun _ _ _ h => h) (by rfl) (fun w4 c4 => ?_) ?_
  · go_simp
  try simp only [Act.put, List.getElem_toArray, List.getElem_cons_succ, List.getElem_cons_zero, List.setIfInBounds_toArray, List.set_cons_zero, List.set_cons_succ]
  refine wpAnyS_take 6 (v := (.pointer (some ⟨g, o + 1, none⟩))) rfl (by kernel_rfl) (by kernel_rfl) (by kernel_rfl) (by kernel_rfl) (fun _ _ _ h => h) (by rfl) (fun w4 c4 => ?_) ?_
  · go_simp
  try simp only [Act.put, List.getElem_toArray, List.getElem_cons_succ, List.getElem_cons_zero, List.setIfInBounds_toArray, List.set_cons_zero, List.set_cons_succ]
  refine wpAnyS_take 7 (v := (.int .u8 (x1 : Int))) rfl (by kernel_rfl) (by kernel_rfl) (by kernel_rfl) (by kernel_rfl) (fun _ _ _ h => h) (by rfl) (fun w4 c4 => ?_) ?_
  · have z := c4.cell_some n1 (by simp)
    go_simp
  try simp only [Act.put, List.getElem_toArray, List.getElem_cons_succ, List.getElem_cons_zero, List.setIfInBounds_toArray, List.set_cons_zero, List.set_cons_succ]
  refine wpAnyS_take 8 (v := (.int .i64 (x1 : Int))) rfl (by kernel_rfl) (by kernel_rfl) (by kernel_rfl) (by kernel_rfl) (fun _ _ _ h => h) (by rfl) (fun w4 c4 => ?_) ?_
  · go_simp
  try simp only [Act.put, List.getElem_toArray, List.getElem_cons_succ, List.getElem_cons_zero, List.setIfInBounds_toArray, List.set_cons_zero, List.set_cons_succ]
  refine wpAnyS_take 9 (v := (.int .i64 (W : Int))) rfl (by kernel_rfl) (by kernel_rfl) (by kernel_rfl) (by kernel_rfl) (fun _ _ _ h => h) (by rfl) (fun w4 c4 => ?_) ?_
  · go_simp
  try simp only [Act.put, List.getElem_toArray, List.getElem_cons_succ, List.getElem_cons_zero, List.setIfInBounds_toArray, List.set_cons_zero, List.set_cons_succ]
  refine wpAnyS_take 10 (v := (.slice (some ⟨g, o, none⟩) 6 cap)) rfl (by kernel_rfl) (by kernel_rfl) (by kernel_rfl) (by kernel_rfl) (fun _ _ _ h => h) (by rfl) (fun w4 c4 => ?_) ?_
  · go_simp
  try simp only [Act.put, List.getElem_toArray, List.getElem_cons_succ, List.getElem_cons_zero, List.setIfInBounds_toArray, List.set_cons_zero, List.set_cons_succ]
  refine wpAnyS_take 11 (v := (.pointer (some ⟨g, o + 2, none⟩))) rfl (by kernel_rfl) (by kernel_rfl) (by kernel_rfl) (by kernel_rfl) (fun _ _ _ h => h) (by rfl) (fun w4 c4 => ?_) ?_
  · go_simp
  try simp only [Act.put, List.getElem_toArray, List.getElem_cons_succ, List.getElem_cons_zero, List.setIfInBounds_toArray, List.set_cons_zero, List.set_cons_succ]
  refine wpAnyS_take 12 (v := (.int .u8 (x2 : Int))) rfl (by kernel_rfl) (by kernel_rfl) (by kernel_rfl) (by kernel_rfl) (fun _ _ _ h => h) (by rfl) (fun w4 c4 => ?_) ?_
  · have z := c4.cell_some n2 (by simp)
    go_simp
  try simp only [Act.put, List.getElem_toArray, List.getElem_cons_succ, List.getElem_cons_zero, List.setIfInBounds_toArray, List.set_cons_zero, List.set_cons_succ]
  refine wpAnyS_take 13 (v := (.int .i64 (x2 : Int))) rfl (by kernel_rfl) (by kernel_rfl) (by kernel_rfl) (by kernel_rfl) (fun _ _ _ h => h) (by rfl) (fun w4 c4 => ?_) ?_
  · go_simp
  try simp only [Act.put, List.getElem_toArray, List.getElem_cons_succ, List.getElem_cons_zero, List.setIfInBounds_toArray, List.set_cons_zero, List.set_cons_succ]
  refine wpAnyS_take 14 (v := (.int .i64 S2)) rfl (by kernel_rfl) (by kernel_rfl) (by kernel_rfl) (by kernel_rfl) (fun _ _ _ h => h) (by rfl) (fun w4 c4 => ?_) ?_
  · go_simp
  try simp only [Act.put, List.getElem_toArray, List.getElem_cons_succ, List.getElem_cons_zero, List.setIfInBounds_toArray, List.set_cons_zero, List.set_cons_succ]
  refine wpAnyS_take 15 (v := (.slice (some ⟨g, o, none⟩) 6 cap)) rfl (by kernel_rfl) (by kernel_rfl) (by kernel_rfl) (by kernel_rfl) (fun _ _ _ h => h) (by rfl) (fun w4 c4 => ?_) ?_
  · go_simp
  try simp only [Act.put, List.getElem_toArray, List.getElem_cons_succ, List.getElem_cons_zero, List.setIfInBounds_toArray, List.set_cons_zero, List.set_cons_succ]
  refine wpAnyS_take 16 (v := (.pointer (some ⟨g, o + 3, none⟩))) rfl (by kernel_rfl) (by kernel_rfl) (by kernel_rfl) (by kernel_rfl) (fun _ _ _ h => h) (by rfl) (fun w4 c4 => ?_) ?_
  · go_simp
  try simp only [Act.put, List.getElem_toArray, List.getElem_cons_succ, List.getElem_cons_zero, List.setIfInBounds_toArray, List.set_cons_zero, List.set_cons_succ]
  refine wpAnyS_take 17 (v := (.int .u8 (x3 : Int))) rfl (by kernel_rfl) (by kernel_rfl) (by kernel_rfl) (by kernel_rfl) (fun _ _ _ h => h) (by rfl) (fun w4 c4 => ?_) ?_
  · have z := c4.cell_some n3 (by simp)
    go_simp
  try simp only [Act.put, List.getElem_toArray, List.getElem_cons_succ, List.getElem_cons_zero, List.setIfInBounds_toArray, List.set_cons_zero, List.set_cons_succ]
  refine wpAnyS_take 18 (v := (.int .i64 (x3 : Int))) rfl (by kernel_rfl) (by kernel_rfl) (by kernel_rfl) (by kernel_rfl) (fun _ _ _ h => h) (by rfl) (fun w4 c4 => ?_) ?_
  · go_simp
  try simp only [Act.put, List.getElem_toArray, List.getElem_cons_succ, List.getElem_cons_zero, List.setIfInBounds_toArray, List.set_cons_zero, List.set_cons_succ]
  refine wpAnyS_take 19 (v := (.int .i64 (H : Int))) rfl (by kernel_rfl) (by kernel_rfl) (by kernel_rfl) (by kernel_rfl) (fun _ _ _ h => h) (by rfl) (fun w4 c4 => ?_) ?_
  · go_simp
  try simp only [Act.put, List.getElem_toArray, List.getElem_cons_succ, List.getElem_cons_zero, List.setIfInBounds_toArray, List.set_cons_zero, List.set_cons_succ]
  refine wpAnyS_take 20 (v := (.slice (some ⟨g, o, none⟩) 6 cap)) rfl (by kernel_rfl) (by kernel_rfl) (by kernel_rfl) (by kernel_rfl) (fun _ _ _ h => h) (by rfl) (fun w4 c4 => ?_) ?_
  · go_simp
  try simp only [Act.put, List.getElem_toArray, List.getElem_cons_succ, List.getElem_cons_zero, List.setIfInBounds_toArray, List.set_cons_zero, List.set_cons_succ]
  refine wpAnyS_take 21 (v := (.pointer (some ⟨g, o + 4, none⟩))) rfl (by kernel_rfl) (by kernel_rfl) (by kernel_rfl) (by kernel_rfl) (fun _ _ _ h => h) (by rfl) (fun w4 c4 => ?_) ?_
  · go_simp
  try simp only [Act.put, List.getElem_toArray, List.getElem_cons_succ, List.getElem_cons_zero, List.setIfInBounds_toArray, List.set_cons_zero, List.set_cons_succ]
  refine wpAnyS_take 22 (v := (.int .u8 (x4 : Int))) rfl (by kernel_rfl) (by kernel_rfl) (by kernel_rfl) (by kernel_rfl) (fun _ _ _ h => h) (by rfl) (fun w4 c4 => ?_) ?_
  · have z := c4.cell_some n4 (by simp)
    go_simp
  try simp only [Act.put, List.getElem_toArray, List.getElem_cons_succ, List.getElem_cons_zero, List.setIfInBounds_toArray, List.set_cons_zero, List.set_cons_succ]
  refine wpAnyS_take 23 (v := (.int .i64 (x4 : Int))) rfl (by kernel_rfl) (by kernel_rfl) (by kernel_rfl) (by kernel_rfl) (fun _ _ _ h => h) (by rfl) (fun w4 c4 => ?_) ?_
  · go_simp
  try simp only [Act.put, List.getElem_toArray, List.getElem_cons_succ, List.getElem_cons_zero, List.setIfInBounds_toArray, List.set_cons_zero, List.set_cons_succ]
  refine wpAnyS_take 24 (v := (.slice (some ⟨g, o, none⟩) 6 cap)) rfl (by kernel_rfl) (by kernel_rfl) (by kernel_rfl) (by kernel_rfl) (fun _ _ _ h => h) (by rfl) (fun w4 c4 => ?_) ?_
  · go_simp
  try simp only [Act.put, List.getElem_toArray, List.getElem_cons_succ, List.getElem_cons_zero, List.setIfInBounds_toArray, List.set_cons_zero, List.set_cons_succ]
  refine wpAnyS_take 25 (v := (.pointer (some ⟨g, o + 5, none⟩))) rfl (by kernel_rfl) (by kernel_rfl) (by kernel_rfl) (by kernel_rfl) (fun _ _ _ h => h) (by rfl) (fun w4 c4 => ?_) ?_
  · go_simp
  try simp only [Act.put, List.getElem_toArray, List.getElem_cons_succ, List.getElem_cons_zero, List.setIfInBounds_toArray, List.set_cons_zero, List.set_cons_succ]
  refine wpAnyS_take 26 (v := (.int .u8 (x5 : Int))) rfl (by kernel_rfl) (by kernel_rfl) (by kernel_rfl) (by kernel_rfl) (fun _ _ _ h => h) (by rfl) (fun w4 c4 => ?_) ?_
  · have z := c4.cell_some n5 (by simp)
    go_simp
  try simp only [Act.put, List.getElem_toArray, List.getElem_cons_succ, List.getElem_cons_zero, List.setIfInBounds_toArray, List.set_cons_zero, List.set_cons_succ]
  refine wpAnyS_take 27 (v := (.int .i64 (x5 : Int))) rfl (by kernel_rfl) (by kernel_rfl) (by kernel_rfl) (by kernel_rfl) (fun _ _ _ h => h) (by rfl) (fun w4 c4 => ?_) ?_
  · go_simp
  try simp only [Act.put, List.getElem_toArray, List.getElem_cons_succ, List.getElem_cons_zero, List.setIfInBounds_toArray, List.set_cons_zero, List.set_cons_succ]
  refine wpAnyS_take 28 (v := (.agg #[.int .i64 (W : Int), .int .i64 (H : Int), .int .i64 (x4 : Int), .int .i64 (x5 : Int)])) rfl (by kernel_rfl) (by kernel_rfl) (by kernel_rfl) (by kernel_rfl) (fun _ _ _ h => h) (by rfl) (fun w4 c4 => ?_) ?_
  · go_simp
  try simp only [Act.put, List.getElem_toArray, List.getElem_cons_succ, List.getElem_cons_zero, List.setIfInBounds_toArray, List.set_cons_zero, List.set_cons_succ]
  refine wpAnyS_last 29 rfl (by kernel_rfl) rfl (by rfl) (fun w5 c5 => ?_)
  refine wp_stA (cs := #[.int .i64 (W : Int), .int .i64 (H : Int), .int .i64 (x4 : Int), .int .i64 (x5 : Int)]) 23 _ _ rfl (HC.out.2.chg0 c5) shp_ty rfl (by simp [Value.oneCell']) rfl rfl ?_
  intro w6 hb6 c6 hs6
  refine wpAny_fin (by kernel_rfl) ?_ _
  have cw6 : Chg [] w w6 := (HC.out.1.nil c5).trans c6 (fun k hk => by simp at hk; right; omega)
  clear hs6 c6 c5 n0 n1 n2 n3 n4 n5
  go_wp2_with fail
  refine bodyPost_ret (results_A rfl _ _ hb6 shp_ty rfl) rfl ⟨rfl, cw6⟩
theorem be_two (x0 x1 : UInt8) : beVal [x0, x1] = 256 * x0.toNat + x1.toNat := by
  simp only [beVal, List.foldl_cons, List.foldl_nil]; omega
theorem shpAt_cells (b : List UInt8) (h : 7 ≤ b.length) : shpAt b = ⟨((256 * (b.getD 1 0).toNat + (b.getD 2 0).toNat : Nat) : Int), ((256 * (b.getD 3 0).toNat + (b.getD 4 0).toNat : Nat) : Int), (((b.getD 5 0).toNat : Nat) : Int), (((b.getD 6 0).toNat : Nat) : Int)⟩ := by
  match b, h with
  | a0 :: a1 :: a2 :: a3 :: a4 :: a5 :: a6 :: r, _ =>
    unfold shpAt
    have e1 : ((a0 :: a1 :: a2 :: a3 :: a4 :: a5 :: a6 :: r).drop 1).take 2 = [a1, a2] := rfl
    have e2 : ((a0 :: a1 :: a2 :: a3 :: a4 :: a5 :: a6 :: r).drop 3).take 2 = [a3, a4] := rfl
    rw [e1, e2, be_two, be_two]
    rfl
theorem rclone_any (ao : Addr) (n cap : Nat) (b : List UInt8) (w : World) (hv : Sees w 1 (.slice (some ao) n cap) n (Bs b)) (hn : n ≤ 1000000000) :
    Calls Tryz.prog 63 #[.slice (some ao) n cap] w fun e w' => ∃ v', e = .returned v' ∧ Sees w' 1 v' n (Bs b) ∧ (∀ k ∈ eyes v', w.heap.size ≤ k) ∧ Chg [] w w' :=
  (copy_any w _ n b hv (by omega) sl_u8).mono fun e w' ⟨v', he, ho, hc, hk⟩ => ⟨v', he, ho.sees, fun k h => hk k (eyes_own v' k h), hc⟩
set_option maxRecDepth 100000 in
set_option maxHeartbeats 4000000 in
theorem rdec_short (v : Value) (n : Nat) (b : List UInt8) (w : World) (hv : Sees w 1 v n (Bs b)) (hn : n < 7) :
    Calls Tryz.prog 32 #[v] w fun e w' => e = .returned (.tuple #[rasV shpZ (.slice none 0 0), .int .i64 2]) ∧ Chg [] w w' := by
  obtain ⟨K, hK⟩ : ∃ K, w.heap.size = K := ⟨_, rfl⟩
  obtain ⟨ao, cap, rfl, hcap, hno⟩ := hv.shape
  have t1 : decide ((n : Int) < 7) = true := by simp; omega
  have t1' : decide (n < 7) = true := by simp; omega
  have hbK : Blk (w.alloc (.cells #[.int .i64 0, .int .i64 0, .int .i64 0, .int .i64 0, .slice none 0 0] 26)) K #[.int .i64 0, .int .i64 0, .int .i64 0, .int .i64 0, .slice none 0 0] 26 := Blk.new_at w _ _ hK
  have hc1 : Chg [] w (w.alloc (.cells #[.int .i64 0, .int .i64 0, .int .i64 0, .int .i64 0, .slice none 0 0] 26)) := (Chg.refl [] w).alloc _
  have aT : ArrTy Tryz.prog 26 (#[.int .i64 0, .int .i64 0, .int .i64 0, .int .i64 0, .slice none 0 0] : Array Value).size := ras_ty
  have HC := Lib.hid hc1
  clear hno hv hn hc1
  go_enter Tryz.func32, Tryz.ntmps32
  go_wp2_with (with_reducible refine wpList_stA rfl 26 _ _ rfl hbK aT rfl (by simp [Value.oneCell']) rfl rfl ?_; intro w20 hb20 c20 hs20)
  refine bodyPost_ret (results_AT rfl _ _ hb20 aT rfl) rfl ⟨rfl, HC.out.trans c20 fun k hk => ?_⟩
  simp at hk; right; omega
set_option maxRecDepth 100000 in
set_option maxHeartbeats 8000000 in
theorem rdec_long (v : Value) (n : Nat) (b : List UInt8) (w : World) (hv : Sees w 1 v n (Bs b)) (hn : 7 ≤ n) (hn9 : n ≤ 1000000000) :
    Calls Tryz.prog 32 #[v] w fun e w' => ∃ v', e = .returned (.tuple #[rasV (decPL b).1 v', .int .i64 (decPL b).2.2]) ∧ Sees w' 1 v' (decPL b).2.1.length (Bs (decPL b).2.1) ∧ (∀ k ∈ eyes v', w.heap.size ≤ k) ∧ Chg [] w w' := by
  obtain ⟨K, hK⟩ : ∃ K, w.heap.size = K := ⟨_, rfl⟩
  have hbl : b.length = n := by have := hv.len; simpa [Bs] using this
  obtain ⟨g, off, cap, rfl, hcap, hgl, hcell⟩ := hv.bytes (by omega)
  have t1 : decide ((n : Int) < 7) = false := by simp; omega
  have t1' : decide (n < 7) = false := by simp; omega
  have hbK : Blk (w.alloc (.cells #[.int .i64 0, .int .i64 0, .int .i64 0, .int .i64 0, .slice none 0 0] 26)) K #[.int .i64 0, .int .i64 0, .int .i64 0, .int .i64 0, .slice none 0 0] 26 := Blk.new_at w _ _ hK
  have hc1 : Chg [] w (w.alloc (.cells #[.int .i64 0, .int .i64 0, .int .i64 0, .int .i64 0, .slice none 0 0] 26)) := (Chg.refl [] w).alloc _
  have q0 := hc1.cell_some (hcell 0 (by omega)) (by simp)
  have hso := fun w' (c : Chg [] w w') => rshapeOf_any g (off + 1) (cap - 1) _ _ _ _ _ _ (b.getD 1 0).toNat_lt (b.getD 2 0).toNat_lt (b.getD 3 0).toNat_lt (b.getD 4 0).toNat_lt (b.getD 5 0).toNat_lt (b.getD 6 0).toNat_lt w'
    (c.cell_some (hcell 1 (by omega)) (by simp)) (c.cell_some (hcell 2 (by omega)) (by simp)) (c.cell_some (hcell 3 (by omega)) (by simp)) (c.cell_some (hcell 4 (by omega)) (by simp)) (c.cell_some (hcell 5 (by omega)) (by simp)) (c.cell_some (hcell 6 (by omega)) (by simp))
  have hS := shpAt_cells b (by omega)
  obtain ⟨B0, hb0⟩ : ∃ b0, (b.getD 0 0).toNat = b0 := ⟨_, rfl⟩
  have x0 := (b.getD 0 0).toNat_lt
  rw [hb0] at q0 x0
  rw [Nat.add_zero] at q0
  generalize 256 * (b.getD 1 0).toNat + (b.getD 2 0).toNat = W at *
  generalize 256 * (b.getD 3 0).toNat + (b.getD 4 0).toNat = H at *
  generalize (b.getD 5 0).toNat = C at *
  generalize (b.getD 6 0).toNat = D at *
  have hso1 := hso _ hc1
  have n7 : (7 : Int) ≤ (n : Int) := by omega
  have ncap : (n : Int) ≤ (cap : Int) := by omega
  have c7 : (7 : Int) ≤ (cap : Int) := by omega
  have c7' : 7 ≤ cap := by omega
  have c1 : cap ≠ 1 := by omega
  obtain ⟨ad, had⟩ : ∃ ad, (if cap = 7 then some (⟨g, off, none⟩ : Addr) else some ⟨g, off + 7, none⟩) = some ad := by split <;> exact ⟨_, rfl⟩
  have hdr := fun w' (c : Chg [] w w') => (hv.chg0 c).dropAt hn had
  obtain ⟨nn, hnn⟩ : ∃ nn, n - 7 = nn := ⟨_, rfl⟩
  rw [hnn] at hdr
  have hnb : nn ≤ 1000000000 := by omega
  have n0 : (0 : Int) < (n : Int) := by omega
  have n0' : 0 < n := by omega
  have nsub : (n : Int) - 7 = (nn : Int) := by omega
  have nsubw : wrap64 ((n : Int) - 7) = (nn : Int) := by rw [nsub]; exact w64 _ (by omega)
  have hdec : decPL b = if ¬ (B0 = 82 ∧ maySh ⟨W, H, C, D⟩ = true) then (shpZ, [], 4) else if (nn : Int) < sizeD ⟨W, H, C, D⟩ then (shpZ, [], 2) else if sizeD ⟨W, H, C, D⟩ < (nn : Int) then (shpZ, [], 3) else (⟨W, H, C, D⟩, b.drop 7, 0) := by
    unfold decPL
    rw [if_neg (by omega), hS, hbl, hnn, hb0]
  have hms := fun w' => rmaySh_any ⟨W, H, C, D⟩ w'
  have hsz := fun w' => rsize_any ⟨W, H, C, D⟩ w'
  unfold shpV at hms hsz
  simp only at hms hsz
  have HB := Lib.hid (And.intro hbK (And.intro hc1 (And.intro hdec (And.intro had hnn))))
  have HGL := Lib.hid hgl
  clear hbK hc1 hdec hv hbl hS hb0 hcell hso had hgl hn hn9
  go_enter Tryz.func32, Tryz.ntmps32
  go_wp2_with fail
  have hbK1 := HB.out.1
  have hcw1 := HB.out.2.1
  generalize (w.alloc (.cells #[.int .i64 0, .int .i64 0, .int .i64 0, .int .i64 0, .slice none 0 0] 26)) = w1 at *
  refine hso1.mono ?_
  rintro e w2 ⟨rfl, c2⟩
  have hbK2 := hbK1.chg0 c2
  have hcw2 := hcw1.nil c2
  have m00 := c2.cell_some q0 (by simp)
  clear hso1 q0 hbK1 hcw1
  obtain ⟨P, hP⟩ : ∃ P, w2.heap.size = P := ⟨_, rfl⟩
  have hbP : Blk (w2.alloc (.cells #[.int .i64 0, .int .i64 0, .int .i64 0, .int .i64 0] 23)) P #[.int .i64 0, .int .i64 0, .int .i64 0, .int .i64 0] 23 := Blk.new_at w2 _ _ hP
  have hcP : Chg [] w2 (w2.alloc (.cells #[.int .i64 0, .int .i64 0, .int .i64 0, .int .i64 0] 23)) := (Chg.refl [] w2).alloc _
  have hPK : K < P := by have := hbK2.lt; omega
  have aS : ArrTy Tryz.prog 23 (#[.int .i64 W, .int .i64 H, .int .i64 C, .int .i64 D] : Array Value).size := shp_ty
  have HQ := Lib.hid (And.intro hcP (And.intro hbK2 (And.intro hcw2 hPK)))
  have m00P := hcP.cell_some m00 (by simp)
  clear hcP hbK2 hcw2 c2 m00
  go_upto_region 4 with (with_reducible refine wpList_stA rfl 23 _ _ rfl hbP aS rfl (by simp [Value.oneCell']) rfl rfl ?_; intro w6 hb6 c6 hs6)
  have hbK6 := (HQ.out.2.1.chg0 HQ.out.1).chg c6 (by have := HQ.out.2.2.2; simp; omega)
  have cw6 : Chg [] w w6 := (HQ.out.2.2.1.nil HQ.out.1).trans c6 (fun k hk => by simp at hk; right; have := HQ.out.2.2.2; have := HQ.out.2.2.1.size; omega)
  have m00 := c6.cell_some m00P (by have := HGL.out; have := HQ.out.2.2.2; simp; omega)
  have hPK := HQ.out.2.2.2
  have HD := Lib.hid (And.intro HB.out.2.2.1 (And.intro hbK6 (And.intro cw6 hPK)))
  have had := HB.out.2.2.2.1
  have hnn := HB.out.2.2.2.2
  obtain ⟨p0, p1, p2, p3⟩ := Blk4 hb6
  clear hs6 c6 hbP aS HQ cw6 hPK m00P t1 t1' hP x0
  by_cases hB0 : B0 = 82
  · have e1 : ((B0 : Int) != 82) = false := by simp [hB0]
    cases hmS : maySh ⟨W, H, C, D⟩ with
    | false =>
      have hz : decPL b = (shpZ, [], 4) := by rw [HD.out.1, if_pos (fun h => by rw [hmS] at h; exact absurd h.2 (by simp))]
      have HZ := Lib.hid hz
      rw [hmS] at hms
      clear hB0 hz hmS
      go_wp2_with fail
      refine (hms _).mono ?_
      rintro e w7 ⟨rfl, c7⟩
      have hbK7 := hbK6.chg0 c7
      clear hms p0 p1 p2 p3
      have aT : ArrTy Tryz.prog 26 (#[.int .i64 0, .int .i64 0, .int .i64 0, .int .i64 0, .slice none 0 0] : Array Value).size := ras_ty
      go_wp2_with (with_reducible refine wpList_stA rfl 26 _ _ rfl hbK7 aT rfl (by simp [Value.oneCell']) rfl rfl ?_; intro w20 hb20 c20 hs20)
      refine bodyPost_ret (results_AT rfl _ _ hb20 aT rfl) rfl ⟨.slice none 0 0, ?_⟩
      rw [HZ.out]
      refine ⟨rfl, Sees.nil _ _, by simp [eyes], (HD.out.2.2.1.nil c7).trans c20 fun k hk => ?_⟩
      simp at hk; right; omega
    | true =>
      have hnn : ¬ ¬ (B0 = 82 ∧ maySh ⟨W, H, C, D⟩ = true) := fun h => h ⟨hB0, hmS⟩
      have hsb := (row_size_bound ⟨W, H, C, D⟩ (by unfold maySh at hmS; simp only [Bool.and_eq_true] at hmS; exact hmS.1)).2
      have hdd := HD.out.1
      rw [if_neg hnn] at hdd
      rw [hmS] at hms
      generalize sizeD ⟨W, H, C, D⟩ = sz at *
      have HD2 := Lib.hid hdd
      clear hB0 hmS hnn hdd
      go_wp2_with fail
      refine (hms _).mono ?_
      rintro e w7 ⟨rfl, c7⟩
      have hb7 := hb6.chg0 c7
      clear hms p0 p1 p2 p3
      obtain ⟨p0, p1, p2, p3⟩ := Blk4 hb7
      go_wp2_with fail
      refine (hsz _).mono ?_
      rintro e w8 ⟨rfl, c8⟩
      have hb8 := hb7.chg0 c8
      clear p0 p1 p2 p3
      by_cases hlt : (nn : Int) < sz
      · have e2 : decide ((nn : Int) < sz) = true := by simp; omega
        have hz : decPL b = (shpZ, [], 2) := by rw [HD2.out, if_pos hlt]
        have HZ := Lib.hid hz
        have hbK8 := (hbK6.chg0 c7).chg0 c8
        clear hz hlt
        have aT : ArrTy Tryz.prog 26 (#[.int .i64 0, .int .i64 0, .int .i64 0, .int .i64 0, .slice none 0 0] : Array Value).size := ras_ty
        go_wp2_with (with_reducible refine wpList_stA rfl 26 _ _ rfl hbK8 aT rfl (by simp [Value.oneCell']) rfl rfl ?_; intro w20 hb20 c20 hs20)
        refine bodyPost_ret (results_AT rfl _ _ hb20 aT rfl) rfl ⟨.slice none 0 0, ?_⟩
        rw [HZ.out]
        refine ⟨rfl, Sees.nil _ _, by simp [eyes], ((HD.out.2.2.1.nil c7).nil c8).trans c20 fun k hk => ?_⟩
        simp at hk; right; omega
      · have e2 : decide ((nn : Int) < sz) = false := by simp; omega
        obtain ⟨p0, p1, p2, p3⟩ := Blk4 hb8
        go_wp2_with fail
        refine (hsz _).mono ?_
        rintro e w9 ⟨rfl, c9⟩
        have hb9 := hb8.chg0 c9
        have hbK9 := ((hbK6.chg0 c7).chg0 c8).chg0 c9
        have cw9 := ((HD.out.2.2.1.nil c7).nil c8).nil c9
        clear p0 p1 p2 p3 hsz hb7 hb8 c7 c8 c9
        by_cases hgt : sz < (nn : Int)
        · have e3 : decide (sz < (nn : Int)) = true := by simp; omega
          have hz : decPL b = (shpZ, [], 3) := by rw [HD2.out, if_neg (by omega), if_pos hgt]
          have HZ := Lib.hid hz
          clear hz hlt hgt
          have aT : ArrTy Tryz.prog 26 (#[.int .i64 0, .int .i64 0, .int .i64 0, .int .i64 0, .slice none 0 0] : Array Value).size := ras_ty
          go_wp2_with (with_reducible refine wpList_stA rfl 26 _ _ rfl hbK9 aT rfl (by simp [Value.oneCell']) rfl rfl ?_; intro w20 hb20 c20 hs20)
          refine bodyPost_ret (results_AT rfl _ _ hb20 aT rfl) rfl ⟨.slice none 0 0, ?_⟩
          rw [HZ.out]
          refine ⟨rfl, Sees.nil _ _, by simp [eyes], cw9.trans c20 fun k hk => ?_⟩
          simp at hk; right; omega
        · have e3 : decide (sz < (nn : Int)) = false := by simp; omega
          have hz : decPL b = (⟨W, H, C, D⟩, b.drop 7, 0) := by rw [HD2.out, if_neg (by omega), if_neg (by omega)]
          have HZ := Lib.hid hz
          have hse := hdr w9 cw9
          obtain ⟨p0, p1, p2, p3⟩ := Blk4 hb9
          clear hz hlt hgt
          go_upto_region 11 with (fail)
          refine wp_region_S (fun i => i == 5) (by kernel_rfl) ?_
          refine wpAnyS_take 0 (v := .agg #[.int .i64 W, .int .i64 H, .int .i64 C, .int .i64 D]) rfl (by kernel_rfl) (by kernel_rfl) (by kernel_rfl) (by kernel_rfl) (fun _ _ _ h => h) (by rfl) (fun w4 c4 => ?_) ?_
          · have z0 := c4.cell_some p0 (by simp)
            have z1 := c4.cell_some p1 (by simp)
            have z2 := c4.cell_some p2 (by simp)
            have z3 := c4.cell_some p3 (by simp)
            go_simp
          try simp only [Act.put, List.getElem_toArray, List.getElem_cons_succ, List.getElem_cons_zero, List.setIfInBounds_toArray, List.set_cons_zero, List.set_cons_succ]
          refine wpAnyS_take 1 (v := .slice (some ⟨g, off, none⟩) n cap) rfl (by kernel_rfl) (by kernel_rfl) (by kernel_rfl) (by kernel_rfl) (fun _ _ _ h => h) (by rfl) (fun w4 c4 => ?_) ?_
          · go_simp
          try simp only [Act.put, List.getElem_toArray, List.getElem_cons_succ, List.getElem_cons_zero, List.setIfInBounds_toArray, List.set_cons_zero, List.set_cons_succ]
          refine wpAnyS_take 2 (v := .slice (some ad) nn (cap - 7)) rfl (by kernel_rfl) (by kernel_rfl) (by kernel_rfl) (by kernel_rfl) (fun _ _ _ h => h) (by rfl) (fun w4 c4 => ?_) ?_
          · go_simp
          try simp only [Act.put, List.getElem_toArray, List.getElem_cons_succ, List.getElem_cons_zero, List.setIfInBounds_toArray, List.set_cons_zero, List.set_cons_succ]
          refine wpAnyS_only 3 rfl (by kernel_rfl) rfl (by rfl) (fun w10 c10 => ?_)
          go_simp
          refine (rclone_any ad nn (cap - 7) (b.drop 7) w10 (hse.chg0 c10) hnb).mono ?_
          rintro e w11 ⟨v11, rfl, hs11, hn11, c11⟩
          refine ⟨c11, ?_⟩
          try simp only [Act.put, List.getElem_toArray, List.getElem_cons_succ, List.getElem_cons_zero, List.setIfInBounds_toArray, List.set_cons_zero, List.set_cons_succ]
          obtain ⟨ao11, cp11, rfl, -, -⟩ := hs11.shape
          have hbK11 := (hbK9.chg0 c10).chg0 c11
          have cw11 := (cw9.nil c10).nil c11
          refine wpAnyS_take 4 (v := .agg #[.int .i64 W, .int .i64 H, .int .i64 C, .int .i64 D, .slice ao11 nn cp11]) rfl (by kernel_rfl) (by kernel_rfl) (by kernel_rfl) (by kernel_rfl) (fun _ _ _ h => h) (by rfl) (fun w4 c4 => by go_simp) ?_
          try simp only [Act.put, List.getElem_toArray, List.getElem_cons_succ, List.getElem_cons_zero, List.setIfInBounds_toArray, List.set_cons_zero, List.set_cons_succ]
          refine wpAnyS_last 5 rfl (by kernel_rfl) rfl (by rfl) (fun w12 c12 => ?_)
          refine wp_stA (cs := #[.int .i64 W, .int .i64 H, .int .i64 C, .int .i64 D, .slice ao11 nn cp11]) 26 _ _ rfl (hbK11.chg0 c12) ras_ty rfl (by simp [Value.oneCell']) rfl rfl ?_
          intro w13 hb13 c13 hs13
          try simp only [Act.put, List.getElem_toArray, List.getElem_cons_succ, List.getElem_cons_zero, List.setIfInBounds_toArray, List.set_cons_zero, List.set_cons_succ]
          refine wpAny_only 6 rfl (by kernel_rfl) (by rfl) ?_
          go_simp
          refine wpAny_fin (by kernel_rfl) ?_ _
          try simp only [Act.put, List.getElem_toArray, List.getElem_cons_succ, List.getElem_cons_zero, List.setIfInBounds_toArray, List.set_cons_zero, List.set_cons_succ]
          have cw13 : Chg [] w w13 := (cw11.nil c12).trans c13 fun k hk => by simp at hk; right; omega
          have hs13 : Sees w13 1 (.slice ao11 nn cp11) nn (Bs (b.drop 7)) := (hs11.chg0 c12).chg c13 fun k hk => by
            have h1 := hn11 k hk
            have h2 := hbK9.lt
            have h3 := c10.size
            simp; omega
          have hn13 : ∀ k ∈ eyes (.slice ao11 nn cp11), w.heap.size ≤ k := fun k hk => by
            have h1 := hn11 k hk
            have h2 := cw9.size
            have h3 := c10.size
            omega
          have hl7 : (b.drop 7).length = nn := by have := hs11.len; simpa [Bs] using this
          clear p0 p1 p2 p3
          go_wp2_with fail
          refine bodyPost_ret (results_AT rfl _ _ hb13 ras_ty rfl) rfl ⟨.slice ao11 nn cp11, ?_⟩
          rw [HZ.out]
          refine ⟨rfl, ?_, fun k hk => by have := hn13 k hk; omega, cw13⟩
          simp only
          rw [hl7]
          exact hs13
  · have e1 : ((B0 : Int) != 82) = true := by simp; omega
    have hz : decPL b = (shpZ, [], 4) := by rw [HD.out.1, if_pos (fun h => hB0 h.1)]
    have HZ := Lib.hid hz
    clear hB0 hz
    have aT : ArrTy Tryz.prog 26 (#[.int .i64 0, .int .i64 0, .int .i64 0, .int .i64 0, .slice none 0 0] : Array Value).size := ras_ty
    go_wp2_with (with_reducible refine wpList_stA rfl 26 _ _ rfl hbK6 aT rfl (by simp [Value.oneCell']) rfl rfl ?_; intro w7 hb7 c7 hs7)
    refine bodyPost_ret (results_AT rfl _ _ hb7 aT rfl) rfl ⟨.slice none 0 0, ?_⟩
    rw [HZ.out]
    refine ⟨rfl, Sees.nil _ _, by simp [eyes], HD.out.2.2.1.trans c7 fun k hk => ?_⟩
    simp at hk; right; omega
theorem rdecode_pix (v : Value) (n : Nat) (b : List UInt8) (w : World) (hv : Sees w 1 v n (Bs b)) (hn9 : n ≤ 1000000000) :
    Calls Tryz.prog 32 #[v] w fun e w' => ∃ v', e = .returned (.tuple #[rasV (decPL b).1 v', .int .i64 (decPL b).2.2]) ∧ Sees w' 1 v' (decPL b).2.1.length (Bs (decPL b).2.1) ∧ (∀ k ∈ eyes v', w.heap.size ≤ k) ∧ Chg [] w w' := by
  by_cases h : n < 7
  · have hbl : b.length = n := by have := hv.len; simpa [Bs] using this
    have e : decPL b = (shpZ, [], 2) := by unfold decPL; rw [if_pos (by omega)]
    rw [e]
    refine (rdec_short v n b w hv h).mono ?_
    rintro e w' ⟨rfl, h3⟩
    exact ⟨_, rfl, Sees.nil _ _, by simp [eyes], h3⟩
  · exact rdec_long v n b w hv (by omega) hn9
end Go.Proofs.YtfammoidikdbpaaGreatDoor

