/- slices.symMergeCmpFunc at texts, by stamps. No statement of the seat is proved here. -/
import Derived.Test.YtphmplbcegibjaaSoB
set_option linter.unusedVariables false
set_option linter.unusedSimpArgs false
namespace Go.Proofs.Ytphmplbcegibjaa
open Go.RowKit Go.Aq Go.Aq.Dg Go.Aq.So

set_option maxHeartbeats 1000000 in
set_option maxRecDepth 100000 in
theorem symL_any (w0 w : World) (K n cap a m b : Nat) (P R Z : List (List UInt8)) (x : List UInt8) (gp : Value) (st : List UInt8 → Int) (hC : CmpOK w0 K gp st) (hw : Chg [K] w0 w) (hv : RowK w K n cap (P ++ (x :: (R ++ Z)))) (ha : P.length = a) (hm : a + 1 = m) (hb : m + R.length = b)
    (hl : x.length ≤ 1048576 ∧ ∀ y ∈ R, y.length ≤ 1048576) (hR : Srt st R) (hup : ∀ y ∈ R, x ≤ y) (hn : n ≤ 4611686018427387904) :
    Calls Try.prog 42 #[.slice (some ⟨K, 0, none⟩) n cap, .int .i64 (a : Int), .int .i64 (m : Int), .int .i64 (b : Int), cmpF gp] w fun e w' => e = .returned (.tuple #[]) ∧ RowK w' K n cap (P ++ (sortT st (x :: R) ++ Z)) ∧ Chg [K] w w' := by
  have hlen := hv.length
  simp only [List.length_append, List.length_cons] at hlen
  have HL := Lib.hid (And.intro ha (And.intro hm (And.intro hb (And.intro hlen (And.intro hl (And.intro hR hup))))))
  have HC := Lib.hid hC
  have b1 : (m : Int) - a = 1 := by omega
  have b0 : (m : Int) ≤ b := by omega
  have b2 : (b : Int) ≤ n := by omega
  clear ha hm hb hlen hl hR hup hC
  go_enter Try.func42, Try.ntmps42
  go_wp2_with fail
  go_loopg [10, 11, 12] (b - m) (fun gk (v10 v11 v12 : Value) wr => ∃ i j : Nat, v10 = .int .i64 (i : Int) ∧ v11 = .int .i64 (j : Int) ∧ m ≤ i ∧ i ≤ j ∧ j ≤ b ∧ gk = j - i ∧ (i = m ∨ ∃ p : i - 1 - m < R.length, ¬ le st x R[i - 1 - m] = true) ∧ (j = b ∨ ∃ p : j - m < R.length, le st x R[j - m] = true) ∧
    RowK wr K n cap (P ++ (x :: (R ++ Z))) ∧ Chg [K] w wr)
  case atStart => exact ⟨m, b, rfl, rfl, by omega, by omega, by omega, rfl, .inl rfl, .inl rfl, hv, Chg.refl _ _⟩
  case round =>
    obtain ⟨i, j, rfl, rfl, hmi, hij, hjb, hgk, hi1, hj1, hr, hc⟩ := hrel
    by_cases hlt : i < j
    · have t1 : decide ((i : Int) < (j : Int)) = true := decide_eq_true (by omega)
      have t1' : decide (i < j) = true := decide_eq_true hlt
      obtain ⟨h, hh⟩ : ∃ h, h = (i + j) / 2 := ⟨_, rfl⟩
      have i1 : (i : Int) + j ≤ 9223372036854775807 := by omega
      have eh : ((i : Int) + (j : Int)) / 2 = (h : Int) := by omega
      obtain ⟨ha, hm, hb, hlen, hl, hR, hup⟩ := HL.out
      have hhR : h - m < R.length := by omega
      obtain ⟨y, hy⟩ : ∃ y, y = R[h - m] := ⟨_, rfl⟩
      have hym : y ∈ R := by rw [hy]; exact List.getElem_mem _
      have hxy := hup y hym
      have hyl := hl.2 y hym
      have xa := hr.cell (get_mid P _ x (i := a) (by omega))
      have xh := hr.cell (j := h) (x := y) (by
        rw [List.getElem?_append_right (by omega), show h - P.length = (h - m) + 1 by omega, List.getElem?_cons_succ, List.getElem?_append_left hhR, hy]
        exact List.getElem?_eq_getElem hhR)
      obtain ⟨c, hcv⟩ : ∃ c, c = cmpV st y x := ⟨_, rfl⟩
      have hle := cmpV_le st hxy
      rw [← hcv] at hle
      have kc := fun W (h : Chg [] wr W) => HC.out W ((hw.tr hc).nil h) y x hyl hl.1
      rw [← hcv] at kc
      have i2 : (a : Int) < n := by omega
      have i3 : (h : Int) < n := by omega
      have i4 : (h : Int) + 1 ≤ 4611686018427387904 := by omega
      have HJ := Lib.hid (And.intro hmi (And.intro hij (And.intro hjb (And.intro hgk (And.intro hi1 (And.intro hj1 (And.intro hr (And.intro hc (And.intro hlt (And.intro hh (And.intro hhR (And.intro hy hle))))))))))))
      clear hmi hij hjb hgk hi1 hj1 hr hc hlt hh hy hle hcv hym hxy hyl ha hm hb hlen hl hR hup hv
      go_upto_region 5 with (fail)
      obtain ⟨X, hnX, F, x0, hF0, hF, hX⟩ := fam0 wr
      have ya := fun q => (hF q).cell_some xa (by simp)
      have yh := fun q => (hF q).cell_some xh (by simp)
      refine wp_fam F (by kernel_rfl) (by kernel_rfl) x0 hF0 ?_
      repeat (go_big_quiet_step (exact fam_call hF hX (kc _ (hF _))))
      refine wpQuiet_nil ?_
      rintro w' ⟨x1, rfl⟩
      have cF := hF x1
      clear hF hX hF0 ya yh xa xh kc
      generalize F x1 = w2 at *
      by_cases h0 : c < 0
      · have r4 : decide (c < 0) = true := decide_eq_true h0
        rw [r4]
        go_wp2_with fail
        obtain ⟨hmi, hij, hjb, hgk, hi1, hj1, hr, hc, hlt, hh, hhR, hy, hle⟩ := HJ.out
        go_roundg (j - (h + 1))
        case measure => omega
        case rel => exact ⟨h + 1, j, by first | rfl | go_num, rfl, by omega, by omega, hjb, rfl, .inr ⟨by omega, by simp only [Nat.add_sub_cancel, ← hy]; exact hle.1 h0⟩, hj1, hr.chg cF, hc.nil cF⟩
      · have r4 : decide (c < 0) = false := decide_eq_false h0
        rw [r4]
        go_wp2_with fail
        obtain ⟨hmi, hij, hjb, hgk, hi1, hj1, hr, hc, hlt, hh, hhR, hy, hle⟩ := HJ.out
        go_roundg (h - i)
        case measure => omega
        case rel => exact ⟨i, h, rfl, rfl, hmi, by omega, by omega, rfl, hi1, .inr ⟨hhR, by rw [← hy]; exact Classical.byContradiction fun h => absurd (hle.2 h) (by omega)⟩, hr.chg cF, hc.nil cF⟩
    · have t1 : decide ((i : Int) < (j : Int)) = false := decide_eq_false (by omega)
      have t1' : decide (i < j) = false := decide_eq_false hlt
      obtain rfl : i = j := by omega
      obtain ⟨ha, hm, hb, hlen, hl, hR, hup⟩ := HL.out
      obtain ⟨s, hs⟩ : ∃ s, s = i - m := ⟨_, rfl⟩
      have hfin : sortT st (x :: R) = R.take s ++ x :: R.drop s := by
        refine ins_ok st hR (by omega) ?_ ?_ (List.Perm.refl _)
        · refine take_le st hR ?_
          rcases hi1 with h1 | ⟨p, h1⟩
          · exact .inl (by omega)
          · refine .inr ⟨by omega, ?_⟩
            have e : i - 1 - m = s - 1 := by omega
            simp only [e] at h1
            exact not_le st h1
        · refine drop_le st hR ?_
          rcases hj1 with h1 | ⟨p, h1⟩
          · exact .inl (by omega)
          · exact .inr ⟨by omega, by simp only [hs]; exact h1⟩
      obtain ⟨A, hA⟩ : ∃ A, A = R.take s := ⟨_, rfl⟩
      obtain ⟨B, hB⟩ : ∃ B, B = R.drop s := ⟨_, rfl⟩
      have hAB : R = A ++ B := by rw [hA, hB, List.take_append_drop]
      have hAl : A.length = s := by rw [hA, List.length_take]; omega
      rw [← hA, ← hB] at hfin
      have er : P ++ (x :: (R ++ Z)) = P ++ ([] ++ (x :: (A ++ (B ++ Z)))) := by rw [hAB]; simp
      rw [er] at hr
      have e5 : wrap64 ((i : Int) - 1) = (a + s : Nat) := by unfold wrap64; omega
      have e6 : IntKind.i64.wrap ((i : Int) - 1) = (a + s : Nat) := by rw [show (i : Int) - 1 = ((a + s : Nat) : Int) by omega]; exact wrap_i64_nat _ (by omega)
      have e7 : (i : Int) - 1 = (a : Int) + (s : Int) := by omega
      have hn1 : a + s < n := by have := congrArg List.length hAB; rw [List.length_append] at this; omega
      have i0 : 0 ≤ (i : Int) ∧ (i : Int) ≤ 4611686018427387904 := by omega
      have HS := Lib.hid (And.intro hfin (And.intro hAl (And.intro ha hn1)))
      clear hs hA hB hAB er hfin hAl ha hm hb hlen hl hR hup hmi hij hjb hgk hi1 hj1 hv hlt hn1
      go_upto_region 9 with (fail)
      obtain ⟨G, rfl⟩ : ∃ G, G = gk := ⟨_, rfl⟩
      obtain ⟨W1, rfl⟩ : ∃ W, W = wr := ⟨_, rfl⟩
      go_loopg [13] s (fun gk (v13 : Value) wr => ∃ (k : Nat) (A1 A2 : List (List UInt8)), v13 = .int .i64 (k : Int) ∧ A = A1 ++ A2 ∧ a + A1.length = k ∧ gk = A2.length ∧ RowK wr K n cap (P ++ (A1 ++ (x :: (A2 ++ (B ++ Z))))) ∧ Chg [K] w wr)
      case atStart => exact ⟨a, [], A, rfl, rfl, rfl, HS.out.2.1.symm, hr, hc⟩
      case round =>
        clear hr hc
        obtain ⟨k, A1, A2, rfl, rfl, hk, hg, hr, hc⟩ := hrel
        obtain ⟨hfin, hAl, ha, hn1⟩ := HS.out
        rw [List.length_append] at hAl
        match A2, hAl, hg, hr, hfin, HS with
        | [], hAl, hg, hr, hfin, _ =>
          have r1 : decide ((k : Int) < (a : Int) + (s : Int)) = false := decide_eq_false (by simp only [List.length_nil] at hAl; omega)
          have r2 : decide (k < a + s) = false := decide_eq_false (by simp only [List.length_nil] at hAl; omega)
          have r3 : decide ((k : Int) < ((a + s : Nat) : Int)) = false := decide_eq_false (by simp only [List.length_nil] at hAl; omega)
          clear hAl hg hk ha hn1
          go_wp2_with fail
          refine bodyPost_ret (results_none rfl _ _ _) rfl ?_
          refine ⟨rfl, ?_, hc⟩
          rw [hfin]
          simpa using hr
        | y :: A2, hAl, hg, hr, hfin, HS2 =>
          rw [List.length_cons] at hAl
          have hk1 : (P ++ A1).length = k := by rw [List.length_append]; omega
          have eD : P ++ (A1 ++ (x :: (y :: A2 ++ (B ++ Z)))) = (P ++ A1) ++ x :: ([] ++ y :: (A2 ++ (B ++ Z))) := by simp
          rw [eD] at hr
          have x0 := hr.cell (get_mid (P ++ A1) _ x (i := k) hk1.symm)
          have x1 := hr.cell (get_mid2 (P ++ A1) [] _ x y (j := k + 1) (by rw [hk1, List.length_nil]))
          have f0 := Own.frozenAt hr k
          have f1 := Own.frozenAt hr (k + 1)
          have ho2 := (hr.set k y).set (k + 1) x
          rw [swap_mid (P ++ A1) [] _ x y (i := k) (j := k + 1) hk1.symm (by rw [hk1, List.length_nil])] at ho2
          have hc2 := (hc.setCell (p := ⟨K, k, none⟩) (by simp) (.string (str y))).setCell (p := ⟨K, k + 1, none⟩) (by simp) (.string (str x))
          have ho3 : RowK ((wr.setCell ⟨K, k, none⟩ (.string (str y))).setCell ⟨K, k + 1, none⟩ (.string (str x))).drew K n cap ((P ++ A1) ++ y :: ([] ++ x :: (A2 ++ (B ++ Z)))) := ho2
          have hc3 := hc2.drew
          have r1 : decide ((k : Int) < (a : Int) + (s : Int)) = true := decide_eq_true (by omega)
          have r2 : decide (k < a + s) = true := decide_eq_true (by omega)
          have r3 : decide ((k : Int) < ((a + s : Nat) : Int)) = true := decide_eq_true (by omega)
          have i1 : (k : Int) + 1 < n := by omega
          have i2 : (k : Int) < n := by omega
          have hne : (k + 1 = k) = False := by simp
          have hne' : (k = k + 1) = False := by simp
          have HJ := Lib.hid (And.intro hAl (And.intro hg (And.intro hk hfin)))
          clear ho2 hc2 hAl hg hk hk1 eD hr hc ha hn1 hfin
          go_wp2
          go_region
          generalize ((wr.setCell ⟨K, k, none⟩ (.string (str y))).setCell ⟨K, k + 1, none⟩ (.string (str x))).drew = w3 at *
          go_wp2
          obtain ⟨hAl, hg, hk, hfin⟩ := HJ.out
          go_roundg A2.length
          case measure => rw [hg, List.length_cons]; omega
          case rel => exact ⟨k + 1, A1 ++ [y], A2, by go_num, by simp, by rw [List.length_append, List.length_singleton]; omega, rfl, by simpa using ho3, hc3⟩

set_option maxHeartbeats 1000000 in
set_option maxRecDepth 100000 in
theorem symR_any (w0 w : World) (K n cap a m b : Nat) (P L Z : List (List UInt8)) (x : List UInt8) (gp : Value) (st : List UInt8 → Int) (hC : CmpOK w0 K gp st) (hw : Chg [K] w0 w) (hv : RowK w K n cap (P ++ (L ++ (x :: Z)))) (ha : P.length = a) (hm : a + L.length = m) (hb : m + 1 = b) (h1L : 1 < L.length)
    (hl : x.length ≤ 1048576 ∧ ∀ y ∈ L, y.length ≤ 1048576) (hS : Srt st L) (hup : ∀ y ∈ L, y ≤ x) (hn : n ≤ 4611686018427387904) :
    Calls Try.prog 42 #[.slice (some ⟨K, 0, none⟩) n cap, .int .i64 (a : Int), .int .i64 (m : Int), .int .i64 (b : Int), cmpF gp] w fun e w' => e = .returned (.tuple #[]) ∧ RowK w' K n cap (P ++ (sortT st (L ++ [x]) ++ Z)) ∧ Chg [K] w w' := by
  have hlen := hv.length
  simp only [List.length_append, List.length_cons] at hlen
  have HL := Lib.hid (And.intro ha (And.intro hm (And.intro hb (And.intro hlen (And.intro hl (And.intro hS hup))))))
  have HC := Lib.hid hC
  have b1 : ((m : Int) - a == 1) = false := by simp; omega
  have b1' : (b : Int) - m = 1 := by omega
  have b3 : 0 ≤ (m : Int) - a ∧ (m : Int) - a ≤ 4611686018427387904 := by omega
  have b0 : (a : Int) ≤ m := by omega
  have b2 : (b : Int) ≤ n := by omega
  clear ha hm hb hlen hl hS hup hC h1L
  go_enter Try.func42, Try.ntmps42
  go_wp2_with fail
  clear b1 b1' b3
  go_loopg [14, 15, 16] (m - a) (fun gk (v14 v15 v16 : Value) wr => ∃ i j : Nat, v14 = .int .i64 (i : Int) ∧ v15 = .int .i64 (j : Int) ∧ a ≤ i ∧ i ≤ j ∧ j ≤ m ∧ gk = j - i ∧ (i = a ∨ ∃ p : i - 1 - a < L.length, le st L[i - 1 - a] x = true) ∧ (j = m ∨ ∃ p : j - a < L.length, ¬ le st L[j - a] x = true) ∧
    RowK wr K n cap (P ++ (L ++ (x :: Z))) ∧ Chg [K] w wr)
  case atStart => exact ⟨a, m, rfl, rfl, by omega, by omega, by omega, rfl, .inl rfl, .inl rfl, hv, Chg.refl _ _⟩
  case round =>
    obtain ⟨i, j, rfl, rfl, hmi, hij, hjb, hgk, hi1, hj1, hr, hc⟩ := hrel
    by_cases hlt : i < j
    · have t1 : decide ((i : Int) < (j : Int)) = true := decide_eq_true (by omega)
      have t1' : decide (i < j) = true := decide_eq_true hlt
      obtain ⟨h, hh⟩ : ∃ h, h = (i + j) / 2 := ⟨_, rfl⟩
      obtain ⟨ha, hm, hb, hlen, hl, hS, hup⟩ := HL.out
      have i1 : (i : Int) + j ≤ 9223372036854775807 := by omega
      have eh : ((i : Int) + (j : Int)) / 2 = (h : Int) := by omega
      have hhR : h - a < L.length := by omega
      obtain ⟨y, hy⟩ : ∃ y, y = L[h - a] := ⟨_, rfl⟩
      have hym : y ∈ L := by rw [hy]; exact List.getElem_mem _
      have hxy := hup y hym
      have hyl := hl.2 y hym
      have xm := hr.cell (j := m) (x := x) (by rw [← List.append_assoc]; exact get_mid (P ++ L) _ x (by rw [List.length_append]; omega))
      have xh := hr.cell (j := h) (x := y) (by
        rw [List.getElem?_append_right (by omega), show h - P.length = h - a by omega, List.getElem?_append_left hhR, hy]
        exact List.getElem?_eq_getElem hhR)
      obtain ⟨c, hcv⟩ : ∃ c, c = cmpV st x y := ⟨_, rfl⟩
      have hle := cmpV_le st hxy
      rw [← hcv] at hle
      have kc := fun W (h : Chg [] wr W) => HC.out W ((hw.tr hc).nil h) x y hl.1 hyl
      rw [← hcv] at kc
      have i2 : (m : Int) < n := by omega
      have i3 : (h : Int) < n := by omega
      have i4 : (h : Int) + 1 ≤ 4611686018427387904 := by omega
      have HJ := Lib.hid (And.intro hmi (And.intro hij (And.intro hjb (And.intro hgk (And.intro hi1 (And.intro hj1 (And.intro hr (And.intro hc (And.intro hlt (And.intro hh (And.intro hhR (And.intro hy hle))))))))))))
      clear hmi hij hjb hgk hi1 hj1 hr hc hlt hh hy hle hcv hym hxy hyl ha hm hb hlen hl hS hup hv
      go_upto_region 17 with (fail)
      obtain ⟨X, hnX, F, x0, hF0, hF, hX⟩ := fam0 wr
      have ya := fun q => (hF q).cell_some xm (by simp)
      have yh := fun q => (hF q).cell_some xh (by simp)
      refine wp_fam F (by kernel_rfl) (by kernel_rfl) x0 hF0 ?_
      repeat (go_big_quiet_step (exact fam_call hF hX (kc _ (hF _))))
      refine wpQuiet_nil ?_
      rintro w' ⟨x1, rfl⟩
      have cF := hF x1
      clear hF hX hF0 ya yh xm xh kc
      generalize F x1 = w2 at *
      by_cases h0 : c < 0
      · have r4 : decide (c < 0) = true := decide_eq_true h0
        rw [r4, Bool.not_true]
        go_wp2_with fail
        obtain ⟨hmi, hij, hjb, hgk, hi1, hj1, hr, hc, hlt, hh, hhR, hy, hle⟩ := HJ.out
        go_roundg (h - i)
        case measure => omega
        case rel => exact ⟨i, h, rfl, rfl, hmi, by omega, by omega, rfl, hi1, .inr ⟨hhR, by rw [← hy]; exact hle.1 h0⟩, hr.chg cF, hc.nil cF⟩
      · have r4 : decide (c < 0) = false := decide_eq_false h0
        rw [r4, Bool.not_false]
        go_wp2_with fail
        obtain ⟨hmi, hij, hjb, hgk, hi1, hj1, hr, hc, hlt, hh, hhR, hy, hle⟩ := HJ.out
        go_roundg (j - (h + 1))
        case measure => omega
        case rel => exact ⟨h + 1, j, by first | rfl | go_num, rfl, by omega, by omega, hjb, rfl, .inr ⟨by omega, by simp only [Nat.add_sub_cancel, ← hy]; exact Classical.byContradiction fun h => absurd (hle.2 h) (by omega)⟩, hj1, hr.chg cF, hc.nil cF⟩
    · have t1 : decide ((i : Int) < (j : Int)) = false := decide_eq_false (by omega)
      have t1' : decide (i < j) = false := decide_eq_false hlt
      obtain rfl : i = j := by omega
      obtain ⟨ha, hm, hb, hlen, hl, hS, hup⟩ := HL.out
      obtain ⟨s, hs⟩ : ∃ s, s = i - a := ⟨_, rfl⟩
      have hfin : sortT st (L ++ [x]) = L.take s ++ x :: L.drop s := by
        refine ins_ok st hS (by omega) ?_ ?_ List.perm_append_comm
        · refine take_le st hS ?_
          rcases hi1 with h1 | ⟨p, h1⟩
          · exact .inl (by omega)
          · refine .inr ⟨by omega, ?_⟩
            have e : i - 1 - a = s - 1 := by omega
            simp only [e] at h1
            exact h1
        · refine drop_le st hS ?_
          rcases hj1 with h1 | ⟨p, h1⟩
          · exact .inl (by omega)
          · exact .inr ⟨by omega, by simp only [hs]; exact not_le st h1⟩
      obtain ⟨A, hA⟩ : ∃ A, A = L.take s := ⟨_, rfl⟩
      obtain ⟨B, hB⟩ : ∃ B, B = L.drop s := ⟨_, rfl⟩
      have hAB : L = A ++ B := by rw [hA, hB, List.take_append_drop]
      have hAl : A.length = s := by rw [hA, List.length_take]; omega
      rw [← hA, ← hB] at hfin
      have er : P ++ (L ++ (x :: Z)) = P ++ (A ++ (B ++ (x :: ([] ++ Z)))) := by rw [hAB]; simp
      rw [er] at hr
      have hLl : A.length + B.length = L.length := by have := congrArg List.length hAB; rw [List.length_append] at this; omega
      have his : i = a + s := by omega
      have hmb : a + s + B.length = m := by omega
      have hmn : m < n := by omega
      have HS := Lib.hid (And.intro hfin (And.intro hAl (And.intro ha (And.intro his (And.intro hmb hmn)))))
      clear hs hA hB hAB er hfin hAl ha hm hb hlen hl hS hup hmi hij hjb hgk hi1 hj1 hv hlt hLl his hmb hmn
      go_upto_region 21 with (fail)
      obtain ⟨G, rfl⟩ : ∃ G, G = gk := ⟨_, rfl⟩
      obtain ⟨W1, rfl⟩ : ∃ W, W = wr := ⟨_, rfl⟩
      go_loopg [17] B.length (fun gk (v17 : Value) wr => ∃ (k : Nat) (B1 B2 : List (List UInt8)), v17 = .int .i64 (k : Int) ∧ B = B1 ++ B2 ∧ i + B1.length = k ∧ gk = B1.length ∧ RowK wr K n cap (P ++ (A ++ (B1 ++ (x :: (B2 ++ Z))))) ∧ Chg [K] w wr)
      case atStart => exact ⟨m, B, [], rfl, by simp, by have := HS.out.2.2.2.1; have := HS.out.2.2.2.2.1; omega, rfl, hr, hc⟩
      case round =>
        clear hr hc
        obtain ⟨k, B1, B2, rfl, rfl, hk, hg, hr, hc⟩ := hrel
        obtain ⟨hfin, hAl, ha, his, hmb, hmn⟩ := HS.out
        rw [List.length_append] at hmb
        rcases List.eq_nil_or_concat B1 with rfl | ⟨B1', y, rfl⟩
        · have r1 : decide ((i : Int) < (k : Int)) = false := decide_eq_false (by simp only [List.length_nil] at hk; omega)
          have r2 : decide (i < k) = false := decide_eq_false (by simp only [List.length_nil] at hk; omega)
          have HF := Lib.hid hfin
          clear hg hk ha his hmb hmn hfin hAl HS
          go_wp2_with fail
          refine bodyPost_ret (results_none rfl _ _ _) rfl ?_
          refine ⟨rfl, ?_, hc⟩
          rw [HF.out]
          simpa using hr
        · rw [List.concat_eq_append] at hk hg hr hmb hfin
          rw [List.length_append, List.length_singleton] at hk hg hmb
          obtain ⟨q, hq⟩ : ∃ q, k = q + 1 := ⟨k - 1, by omega⟩
          have hq1 : (P ++ (A ++ B1')).length = q := by simp only [List.length_append]; omega
          have eD : P ++ (A ++ (B1' ++ [y] ++ (x :: (B2 ++ Z)))) = (P ++ (A ++ B1')) ++ y :: ([] ++ x :: (B2 ++ Z)) := by simp
          rw [eD] at hr
          have x0 := hr.cell (get_mid (P ++ (A ++ B1')) _ y (i := q) hq1.symm)
          have x1 := hr.cell (get_mid2 (P ++ (A ++ B1')) [] _ y x (j := k) (by rw [hq1, List.length_nil]; omega))
          have f0 := Own.frozenAt hr k
          have f1 := Own.frozenAt hr q
          have ho2 := (hr.set k y).set q x
          rw [swap_mid' (P ++ (A ++ B1')) [] _ y x (i := q) (j := k) hq1.symm (by rw [hq1, List.length_nil]; omega)] at ho2
          have hc2 := (hc.setCell (p := ⟨K, k, none⟩) (by simp) (.string (str y))).setCell (p := ⟨K, q, none⟩) (by simp) (.string (str x))
          have ho3 : RowK ((wr.setCell ⟨K, k, none⟩ (.string (str y))).setCell ⟨K, q, none⟩ (.string (str x))).drew K n cap ((P ++ (A ++ B1')) ++ x :: ([] ++ y :: (B2 ++ Z))) := ho2
          have hc3 := hc2.drew
          have r1 : decide ((i : Int) < (k : Int)) = true := decide_eq_true (by omega)
          have r2 : decide (i < k) = true := decide_eq_true (by omega)
          have r3 : wrap64 ((k : Int) - 1) = (q : Int) := by unfold wrap64; omega
          have r4 : IntKind.i64.wrap ((k : Int) - 1) = (q : Int) := by rw [show (k : Int) - 1 = (q : Int) by omega]; exact wrap_i64_nat q (by omega)
          have i1 : (k : Int) < n := by omega
          have i2 : (q : Int) < n := by omega
          have hne : (q = k) = False := by simp; omega
          have hne' : (k = q) = False := by simp; omega
          have HJ := Lib.hid (And.intro hg (And.intro hk (And.intro hq hfin)))
          clear ho2 hc2 hg hk hq hq1 eD hr hc ha his hmb hmn hfin hAl HS
          go_wp2
          go_region
          generalize ((wr.setCell ⟨K, k, none⟩ (.string (str y))).setCell ⟨K, q, none⟩ (.string (str x))).drew = w3 at *
          go_wp2
          obtain ⟨hg, hk, hq, hfin⟩ := HJ.out
          go_roundg B1'.length
          case measure => omega
          case rel => exact ⟨q, B1', y :: B2, rfl, by simp, by omega, rfl, by simpa using ho3, hc3⟩
end Go.Proofs.Ytphmplbcegibjaa
