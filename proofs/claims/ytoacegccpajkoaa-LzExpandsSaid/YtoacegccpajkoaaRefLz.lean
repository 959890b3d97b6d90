/- Contracts of the document's lz functions (aquref5.three, match). No statement of the seat is proved here. -/
import Derived.Test.YtoacegccpajkoaaLz2
namespace Go.Proofs.Ytoacegccpajkoaa
open Go.RowKit Go.Aq Go.Maps
attribute [local go_sem ↓] Go.wp_at_zero Go.wp_at_succ

set_option maxHeartbeats 2000000 in
open Classical in
theorem three_ref (w : World) (vb : Value) (b : List UInt8) (i k : Nat) (hb : Sees w 1 vb b.length (Bs b)) (hbl : b.length ≤ 1000000) (hik : i < k) (hk : k ≤ b.length) :
    Calls Try.prog 52 #[vb, .int .i64 i, .int .i64 k] w fun e w' => e = .returned (.bool (decide (three b i k))) ∧ ∃ q, w' = w.drewN q := by
  obtain ⟨nb, HB⟩ : ∃ n, Hid (b.length = n) := ⟨_, rfl⟩
  rw [HB.out] at hb hbl hk
  obtain ⟨ao, cap, rfl, hcap, hno⟩ := hb.shape
  have HNO := Lib.hid hno; clear hno
  obtain ⟨T, hT⟩ : ∃ T, decide (three b i k) = T := ⟨_, rfl⟩
  rw [hT]
  have HT := Lib.hid hT; clear hT
  by_cases h3 : k + 3 ≤ nb
  · have t1 : decide ((k : Int) + 3 ≤ (nb : Int)) = true := by simp; omega
    have t1' : decide (k + 3 ≤ nb) = true := by simp; omega
    obtain ⟨g, off, cap', hs, -, hgl, hcell⟩ := hb.cells (by omega)
    simp only [Value.slice.injEq, true_and] at hs
    obtain ⟨rfl, rfl⟩ := hs
    have key : ∀ j, j < nb → w.cell? ⟨g, off + j, none⟩ = some (.int .u8 (b.getD j 0).toNat) := fun j hj => by
      rw [hcell j (by omega), Bs_get _ _ (by rw [HB.out]; omega)]; simp [List.getD, show j < b.length by rw [HB.out]; omega]
    have a0 := key i (by omega)
    have a1 := key (i + 1) (by omega)
    have a2 := key (i + 2) (by omega)
    have b0 := key k (by omega)
    have b1 := key (k + 1) (by omega)
    have b2 := key (k + 2) (by omega)
    clear key hcell
    have hth : three b i k ↔ (b.getD i 0 = b.getD k 0 ∧ b.getD (i + 1) 0 = b.getD (k + 1) 0 ∧ b.getD (i + 2) 0 = b.getD (k + 2) 0) := by
      unfold three at3
      rw [if_pos (by rw [HB.out]; omega), if_pos (by rw [HB.out]; omega)]
      simp
      intro _ _ _
      rw [HB.out]; omega
    have HTH := Lib.hid hth; clear hth
    generalize b.getD i 0 = x0 at *
    generalize b.getD (i + 1) 0 = x1 at *
    generalize b.getD (i + 2) 0 = x2 at *
    generalize b.getD k 0 = y0 at *
    generalize b.getD (k + 1) 0 = y1 at *
    generalize b.getD (k + 2) 0 = y2 at *
    have i0 : (i : Int) < nb := by omega
    have i1 : (0 : Int) ≤ (i : Int) + 1 := by omega
    have i2 : (i : Int) + 1 < nb := by omega
    have i3 : (0 : Int) ≤ (i : Int) + 2 := by omega
    have i4 : (i : Int) + 2 < nb := by omega
    have k0 : (k : Int) < nb := by omega
    have k1 : (0 : Int) ≤ (k : Int) + 1 := by omega
    have k2 : (k : Int) + 1 < nb := by omega
    have k3 : (0 : Int) ≤ (k : Int) + 2 := by omega
    have k4 : (k : Int) + 2 < nb := by omega
    have ne : ∀ {x y : UInt8}, x ≠ y → (((x.toNat : Nat) : Int) == ((y.toNat : Nat) : Int)) = false := fun {x y} h => by simp; intro h'; exact h (UInt8.toNat_inj.1 (by omega))
    by_cases e0 : x0 = y0
    · subst e0
      by_cases e1 : x1 = y1
      · subst e1
        by_cases e2 : x2 = y2
        · subst e2
          clear ne
          go_enter Try.func52, Try.ntmps52
          go_wp2_with fail
          go_quiet (fail)
          go_wp2_with fail
          go_ret
          refine ⟨?_, nq, rfl⟩
          rw [← HT.out, decide_eq_true (HTH.out.2 (by simp))]; rfl
        · have n2 := ne e2
          clear ne
          go_enter Try.func52, Try.ntmps52
          go_wp2_with fail
          go_quiet (fail)
          go_wp2_with fail
          go_ret
          refine ⟨?_, nq, rfl⟩
          rw [← HT.out, decide_eq_false (fun h => e2 (HTH.out.1 h).2.2)]; rfl
      · have n1 := ne e1
        clear ne
        go_enter Try.func52, Try.ntmps52
        go_wp2_with fail
        go_quiet (fail)
        go_wp2_with fail
        go_ret
        refine ⟨?_, nq, rfl⟩
        rw [← HT.out, decide_eq_false (fun h => e1 (HTH.out.1 h).2.1)]; rfl
    · have n0 := ne e0
      clear ne
      go_enter Try.func52, Try.ntmps52
      go_wp2_with fail
      go_quiet (fail)
      go_wp2_with fail
      go_ret
      refine ⟨?_, nq, rfl⟩
      rw [← HT.out, decide_eq_false (fun h => e0 (HTH.out.1 h).1)]; rfl
  · have t1 : decide ((k : Int) + 3 ≤ (nb : Int)) = false := by simp; omega
    have t1' : decide (k + 3 ≤ nb) = false := by simp; omega
    go_enter Try.func52, Try.ntmps52
    go_wp2_with fail
    go_quiet (fail)
    go_wp2_with fail
    go_ret
    refine ⟨?_, nq, rfl⟩
    rw [← HT.out, decide_eq_false (fun h => h3 (by have := h.1; rw [HB.out] at this; exact this))]; rfl

open Classical in
set_option maxHeartbeats 2000000 in
theorem match_ref (w : World) (vb : Value) (b : List UInt8) (k : Nat) (hb : Sees w 1 vb b.length (Bs b)) (hbl : b.length ≤ 1000000) (hk : k ≤ b.length) :
    Calls Try.prog 49 #[vb, .int .i64 k] w fun e w' => e = .returned (.tuple #[.int .i64 (matchAt b k).1, .int .i64 (matchAt b k).2]) ∧ ∃ q, w' = w.drewN q := by
  obtain ⟨nb, HB⟩ : ∃ n, Hid (b.length = n) := ⟨_, rfl⟩
  have hb0 := Lib.hid hb
  have hbl0 := Lib.hid hbl
  have hk0 := Lib.hid hk
  rw [HB.out] at hb hbl hk
  obtain ⟨ao, cap, rfl, hcap, hno⟩ := hb.shape
  have HNO := Lib.hid hno; clear hno
  go_enter Try.func49, Try.ntmps49
  go_wp2_with fail
  go_loopg [6, 7, 8, 9] k (fun I v6 v7 v8 v9 wr => ∃ (s t B D : Nat), t + s = 64 ∧ I ≤ k ∧ v6 = .int .i64 B ∧ v7 = .int .i64 D ∧ v8 = .int .i64 t ∧ v9 = .int .i64 ((I : Int) - 1) ∧ B ≤ 258 ∧ D ≤ k ∧ scan b k I s (B, D) = matchAt b k ∧ ∃ q, wr = w.drewN q)
  case atStart => exact ⟨64, 0, 0, 0, by omega, by omega, rfl, rfl, rfl, rfl, by omega, by omega, rfl, 0, rfl⟩
  case round =>
    obtain ⟨s, t, B, D, hts, hI, rfl, rfl, rfl, rfl, hB, hD, hsc, q, rfl⟩ := hrel
    have HSC := Lib.hid hsc; clear hsc
    have HTS := Lib.hid hts; clear hts
    have ht64 : t ≤ 64 := by have := HTS.out; omega
    obtain ⟨G, HG⟩ : ∃ G, Hid (G = gk) := ⟨_, Lib.hid rfl⟩
    cases hG : gk with
    | zero =>
      have e := HSC.out
      rw [hG] at e
      have HE := Lib.hid e; clear e
      go_wp2_with fail
      go_ret2
      refine ⟨?_, q, rfl⟩
      rw [← HE.out]
      rfl
    | succ i =>
      rw [hG] at hI
      have HGI := Lib.hid hG
      rw [show (((i + 1 : Nat) : Int) - 1) = (i : Int) by omega]
      have e := HSC.out
      rw [hG, scan_succ] at e
      have HE := Lib.hid e; clear e
      clear hG
      by_cases hfar : 32768 < k - i
      · have tf : decide ((k : Int) - (i : Int) ≤ 32768) = false := by simp; omega
        go_wp2_with fail
        go_ret2
        refine ⟨?_, q, rfl⟩
        have e := HE.out
        rw [if_pos (.inl hfar)] at e
        rw [← e]
        rfl
      · have tf : decide ((k : Int) - (i : Int) ≤ 32768) = true := by simp; omega
        by_cases h64 : t < 64
        · have e := HE.out
          rw [if_neg (by have := HTS.out; omega)] at e
          have HE2 := Lib.hid e; clear e HE
          go_wp2_with fail
          refine (three_ref _ _ b i k (hb0.out.chg0 ((Chg.refl [] w).drewN q)) hbl0.out (by omega) hk0.out).mono ?_
          rintro e w2 ⟨rfl, q2, rfl⟩
          by_cases h3 : three b i k
          · rw [decide_eq_true h3]
            have e := HE2.out
            rw [if_pos h3] at e
            have HE3 := Lib.hid e; clear e HE2
            have HC3 := Lib.hid (comm_three b i k h3.1 h3.2)
            have hk3 : k + 3 ≤ nb := by have := h3.1; rw [HB.out] at this; exact this
            clear h3
            go_wp2_with fail
            obtain ⟨Go_, HGo⟩ : ∃ G, Hid (G = gk) := ⟨_, Lib.hid rfl⟩
            obtain ⟨g, off, cap', hs, -, hgl, hcell⟩ := hb.cells (by omega)
            simp only [Value.slice.injEq, true_and] at hs
            obtain ⟨rfl, rfl⟩ := hs
            have key : ∀ j, j < nb → w.cell? ⟨g, off + j, none⟩ = some (.int .u8 (b.getD j 0).toNat) := fun j hj => by
              rw [hcell j (by omega), Bs_get _ _ (by rw [HB.out]; omega)]; simp [List.getD, show j < b.length by rw [HB.out]; omega]
            have HK := Lib.hid key; clear key hcell
            obtain ⟨G1, rfl⟩ : ∃ G, G = gk := ⟨_, rfl⟩
            go_loopg [10] 255 (fun f v10 wr => ∃ (n : Nat), n + f = 258 ∧ 3 ≤ n ∧ v10 = .int .i64 n ∧ commF b i k f n = comm b i k ∧ ∃ q, wr = w.drewN q)
            case atStart => exact ⟨3, by omega, by omega, rfl, HC3.out.symm, q + q2, rfl⟩
            case round =>
              obtain ⟨n, hnf, hn3, rfl, hcm, q3, rfl⟩ := hrel
              have HNF := Lib.hid hnf; clear hnf
              have hn258 : n ≤ 258 := by have := HNF.out; omega
              have HCM := Lib.hid hcm; clear hcm
              have hend : ∀ (cm : Nat), cm = comm b i k → cm = n → ∃ B' D' : Nat, upd b k (B, D) i = (B', D') ∧ ((B < n ∧ B' = n ∧ D' = k - i) ∨ (¬ B < n ∧ B' = B ∧ D' = D)) := fun cm h1 h2 => by
                unfold upd
                rw [← h1, h2]
                by_cases h : B < n
                · exact ⟨n, k - i, by rw [if_pos h], .inl ⟨h, rfl, rfl⟩⟩
                · exact ⟨B, D, by rw [if_neg h], .inr ⟨h, rfl, rfl⟩⟩
              have HEND := Lib.hid hend; clear hend
              by_cases h1 : n < 258
              · have t1 : decide ((n : Int) < 258) = true := by simp; omega
                obtain ⟨f, hf⟩ : ∃ f, gk = f + 1 := ⟨gk - 1, by have := HNF.out; omega⟩
                have HF := Lib.hid hf; clear hf
                have hsu := commF_succ b i k f n
                by_cases h2 : k + n < nb
                · have t2 : decide (((k : Int) + (n : Int)) < (nb : Int)) = true := by simp; omega
                  have t2' : decide (k + n < nb) = true := by simp; omega
                  have x0 := HK.out (i + n) (by omega)
                  have x1 := HK.out (k + n) (by omega)
                  have i0 : (0 : Int) ≤ (i : Int) + n := by omega
                  have i1 : (i : Int) + n < nb := by omega
                  have i2 : (0 : Int) ≤ (k : Int) + n := by omega
                  have i3 : (k : Int) + n < nb := by omega
                  have HS := Lib.hid hsu; clear hsu
                  generalize b.getD (i + n) 0 = y0 at *
                  generalize b.getD (k + n) 0 = y1 at *
                  by_cases h3 : y0 = y1
                  · subst h3
                    go_wp2_with fail
                    go_quiet (fail)
                    go_wp2_with fail
                    go_roundg (gk - 1)
                    case measure => have := HF.out; omega
                    case rel =>
                      have e := HS.out
                      rw [if_pos ⟨by rw [HB.out]; exact h2, trivial⟩] at e
                      refine ⟨n + 1, by have := HNF.out; omega, by omega, by go_num, ?_, q3 + nq, rfl⟩
                      rw [← HCM.out, HF.out, e, Nat.add_sub_cancel]
                  · have t3 : (((y0.toNat : Nat) : Int) == ((y1.toNat : Nat) : Int)) = false := by simp; intro h; exact h3 (UInt8.toNat_inj.1 (by omega))
                    have e := HS.out
                    rw [if_neg (fun h => h3 h.2)] at e
                    obtain ⟨B', D', hu, hbd⟩ := HEND.out _ (by rw [← HCM.out, HF.out]) e
                    have HU := Lib.hid hu; clear hu e
                    go_wp2_with fail
                    go_quiet (fail)
                    rcases hbd with ⟨hlt, rfl, rfl⟩ | ⟨hlt, rfl, rfl⟩
                    · go_wp2_with fail
                      go_roundg i
                      case measure => have := HGI.out; omega
                      case rel => exact ⟨s - 1, t + 1, _, k - i, by have := HTS.out; omega, by omega, rfl, by go_num, by go_num, by go_num, by omega, by omega, by rw [← HU.out]; exact HE3.out, q3 + nq, rfl⟩
                    · go_wp2_with fail
                      go_roundg i
                      case measure => have := HGI.out; omega
                      case rel => exact ⟨s - 1, t + 1, _, _, by have := HTS.out; omega, by omega, rfl, rfl, by go_num, by go_num, by omega, by omega, by rw [← HU.out]; exact HE3.out, q3 + nq, rfl⟩
                · have t2 : decide (((k : Int) + (n : Int)) < (nb : Int)) = false := by simp; omega
                  have t2' : decide (k + n < nb) = false := by simp; omega
                  rw [if_neg (fun h => h2 (by have := h.1; rw [HB.out] at this; exact this))] at hsu
                  obtain ⟨B', D', hu, hbd⟩ := HEND.out _ (by rw [← HCM.out, HF.out]) hsu
                  have HU := Lib.hid hu; clear hu hsu
                  go_wp2_with fail
                  go_quiet (fail)
                  rcases hbd with ⟨hlt, rfl, rfl⟩ | ⟨hlt, rfl, rfl⟩
                  · go_wp2_with fail
                    go_roundg i
                    case measure => have := HGI.out; omega
                    case rel => exact ⟨s - 1, t + 1, _, k - i, by have := HTS.out; omega, by omega, rfl, by go_num, by go_num, by go_num, by omega, by omega, by rw [← HU.out]; exact HE3.out, q3 + nq, rfl⟩
                  · go_wp2_with fail
                    go_roundg i
                    case measure => have := HGI.out; omega
                    case rel => exact ⟨s - 1, t + 1, _, _, by have := HTS.out; omega, by omega, rfl, rfl, by go_num, by go_num, by omega, by omega, by rw [← HU.out]; exact HE3.out, q3 + nq, rfl⟩
              · have t1 : decide ((n : Int) < 258) = false := by simp; omega
                have e : commF b i k gk n = n := by
                  have : gk = 0 := by have := HNF.out; omega
                  rw [this]; rfl
                obtain ⟨B', D', hu, hbd⟩ := HEND.out _ (by rw [← HCM.out]) e
                have HU := Lib.hid hu; clear hu e
                go_wp2_with fail
                go_quiet (fail)
                rcases hbd with ⟨hlt, rfl, rfl⟩ | ⟨hlt, rfl, rfl⟩
                · go_wp2_with fail
                  go_roundg i
                  case measure => have := HGI.out; omega
                  case rel => exact ⟨s - 1, t + 1, _, k - i, by have := HTS.out; omega, by omega, rfl, by go_num, by go_num, by go_num, by omega, by omega, by rw [← HU.out]; exact HE3.out, q3 + nq, rfl⟩
                · go_wp2_with fail
                  go_roundg i
                  case measure => have := HGI.out; omega
                  case rel => exact ⟨s - 1, t + 1, _, _, by have := HTS.out; omega, by omega, rfl, rfl, by go_num, by go_num, by omega, by omega, by rw [← HU.out]; exact HE3.out, q3 + nq, rfl⟩
          · rw [decide_eq_false h3]
            have e := HE2.out
            rw [if_neg h3] at e
            have HE3 := Lib.hid e; clear e HE2 h3
            go_wp2_with fail
            go_roundg i
            case measure => have := HGI.out; omega
            case rel => exact ⟨s, t, B, D, HTS.out, by omega, rfl, rfl, rfl, by go_num, hB, hD, HE3.out, q + q2, rfl⟩
        · have tt : decide ((t : Int) < 64) = false := by simp; omega
          have e := HE.out
          rw [if_pos (.inr (by have := HTS.out; omega))] at e
          have HE2 := Lib.hid e; clear e HE
          go_wp2_with fail
          go_ret2
          refine ⟨?_, q, rfl⟩
          rw [← HE2.out]
          rfl

theorem sl_rtok : SliceTy Try.prog 54 84 (.agg #[.int .i64 0, .int .i64 0, .int .i64 0]) 3 24 := ⟨Try.underlying54, by kernel_rfl, rfl, by decide⟩

set_option maxHeartbeats 2000000 in
theorem find_ref (w : World) (vb : Value) (b : List UInt8) (hb : Sees w 1 vb b.length (Bs b)) (hbl : b.length ≤ 40000) :
    Calls Try.prog 38 #[vb] w fun e w' => ∃ v', e = .returned (.tuple #[v', .int .i64 0]) ∧ Own w' 84 3 v' (toks b).length ((toks b).flatMap tokCells) ∧ Chg [] w w' ∧ ∀ k ∈ v'.ownBlock.toList, w.heap.size ≤ k := by
  obtain ⟨nb, HB⟩ : ∃ n, Hid (b.length = n) := ⟨_, rfl⟩
  have hb0 := Lib.hid hb
  rw [HB.out] at hb hbl
  obtain ⟨ao, cap, rfl, hcap, hno⟩ := hb.shape
  have HNO := Lib.hid hno; clear hno
  go_enter Try.func38, Try.ntmps38
  go_wp2_with fail
  go_loopg [4, 5] nb (fun f vl va wr => ∃ (k : Nat) (L : List TokD), va = .int .i64 k ∧ k ≤ nb ∧ nb ≤ k + f ∧ toks b = L ++ tokF b f k ∧ L.length ≤ k ∧ Own wr 84 3 vl L.length (L.flatMap tokCells) ∧ Chg [] w wr ∧ (∀ k ∈ vl.ownBlock.toList, w.heap.size ≤ k))
  case atStart => exact ⟨0, [], rfl, by omega, by omega, by rw [← HB.out]; rfl, by simp, Own.nil _ _ _, Chg.refl _ _, by simp [Value.ownBlock]⟩
  case round =>
    obtain ⟨k, L, rfl, hkn, hkf, htk, hLk, hO, hCh, hSl⟩ := hrel
    have HTK := Lib.hid htk; clear htk
    by_cases hlt : k < nb
    · obtain ⟨f, hf⟩ : ∃ f, gk = f + 1 := ⟨gk - 1, by omega⟩
      have HF := Lib.hid hf; clear hf
      have hb1 := hb0.out.chg0 hCh
      have hmo := matchAt_ok b k (by rw [HB.out]; exact hkn)
      go_wp2_with fail
      refine (match_ref _ _ b k hb1 (by rw [HB.out]; omega) (by rw [HB.out]; exact hkn)).mono ?_
      rintro e w2 ⟨rfl, q, rfl⟩
      have HTF : Hid (tokF b (f + 1) k = if k < b.length then (if (matchAt b k).1 = 0 then ⟨0, 0, (b.getD k 0).toNat⟩ :: tokF b f (k + 1) else ⟨(matchAt b k).1, (matchAt b k).2, 0⟩ :: tokF b f (k + (matchAt b k).1)) else []) := rfl
      have htf := HTF.out
      rw [if_pos (by rw [HB.out]; exact hlt)] at htf
      have HTF2 := Lib.hid htf; clear htf HTF
      obtain ⟨⟨M, Dd⟩, hM⟩ : ∃ r, matchAt b k = r := ⟨_, rfl⟩
      rw [hM] at HTF2 hmo ⊢
      clear hM
      simp only at HTF2 ⊢
      have cq : Chg [] wr (wr.drewN q) := (Chg.refl _ _).drewN q
      have hO2 := hO.chg cq (fun _ _ => by simp)
      have hCh2 := hCh.nil cq
      generalize wr.drewN q = wq at *
      clear cq
      by_cases hM0 : M = 0
      · subst hM0
        obtain ⟨g, off, cap', hs, -, hgl, hcell⟩ := hb.cells (by omega)
        simp only [Value.slice.injEq, true_and] at hs
        obtain ⟨rfl, rfl⟩ := hs
        have x0 : wq.cell? ⟨g, off + k, none⟩ = some (.int .u8 (b.getD k 0).toNat) := by
          refine hCh2.cell_some ?_ (by simp)
          rw [hcell k (by omega), Bs_get _ _ (by rw [HB.out]; omega)]; simp [List.getD, show k < b.length by rw [HB.out]; omega]
        clear hcell
        have hyl := (b.getD k 0).toNat_lt
        have hgq : g < wq.heap.size := by have := hCh2.size; omega
        generalize b.getD k 0 = y at *
        go_wp2_with (at_builtin; refine wpList_app (v := u4) rfl _ _ 54 rfl sl_rtok (by exact hO2.alloc (.cells #[.int .i64 0, .int .i64 0, .int .i64 y.toNat] 84)) rfl (Sees.blk (cs := #[.int .i64 0, .int .i64 0, .int .i64 y.toNat]) (by exact Blk.new wq _ 84)) rfl (by simp [Value.oneCell']) (by omega) (by omega) ?_; intro v3 w3 hO3 c3 n3)
        have ce : Chg [] wq (wq.alloc (.cells #[.int .i64 0, .int .i64 0, .int .i64 y.toNat] 84)) := (Chg.refl _ _).alloc _
        have hCh3 := (hCh2.nil ce).trans c3 fun i hi => .inr (hSl i hi)
        have hSl3 : ∀ j ∈ v3.ownBlock.toList, w.heap.size ≤ j := fun j h => by
          rcases n3 j h with h1 | h1
          · exact hSl j h1
          · have := hCh2.size; simp at h1; omega
        go_roundg (gk - 1)
        case measure => have := HF.out; omega
        case rel =>
          refine ⟨k + 1, L ++ [⟨0, 0, y.toNat⟩], by go_num, by omega, by have := HF.out; omega, ?_, by simp; omega, ?_, hCh3, hSl3⟩
          · rw [HTK.out, HF.out, HTF2.out, if_pos trivial, Nat.add_sub_cancel, List.append_assoc]
            rfl
          · rw [List.length_append, List.flatMap_append]
            exact hO3
      · have hmo2 : 3 ≤ M ∧ M ≤ 258 ∧ k + M ≤ nb ∧ 1 ≤ Dd ∧ Dd ≤ k ∧ Dd ≤ 32768 := by
          rcases hmo with h | h
          · simp at h; omega
          · have := HB.out; simp only at h; omega
        have tM : ((M : Int) == 0) = false := by simp; omega
        go_wp2_with (at_builtin; refine wpList_app (v := u4) rfl _ _ 54 rfl sl_rtok (by exact hO2.alloc (.cells #[.int .i64 M, .int .i64 Dd, .int .i64 0] 84)) rfl (Sees.blk (cs := #[.int .i64 M, .int .i64 Dd, .int .i64 0]) (by exact Blk.new wq _ 84)) rfl (by simp [Value.oneCell']) (by omega) (by omega) ?_; intro v3 w3 hO3 c3 n3)
        have ce : Chg [] wq (wq.alloc (.cells #[.int .i64 M, .int .i64 Dd, .int .i64 0] 84)) := (Chg.refl _ _).alloc _
        have hCh3 := (hCh2.nil ce).trans c3 fun i hi => .inr (hSl i hi)
        have hSl3 : ∀ j ∈ v3.ownBlock.toList, w.heap.size ≤ j := fun j h => by
          rcases n3 j h with h1 | h1
          · exact hSl j h1
          · have := hCh2.size; simp at h1; omega
        go_roundg (gk - 1)
        case measure => have := HF.out; omega
        case rel =>
          refine ⟨k + M, L ++ [⟨M, Dd, 0⟩], by go_num, by omega, by have := HF.out; omega, ?_, by simp; omega, ?_, hCh3, hSl3⟩
          · rw [HTK.out, HF.out, HTF2.out, if_neg hM0, Nat.add_sub_cancel, List.append_assoc]
            rfl
          · rw [List.length_append, List.flatMap_append]
            exact hO3
    · have hkn' : k = nb := by omega
      go_wp2_with fail
      go_ret2
      have htf : tokF b gk k = [] := by
        cases gk with
        | zero => rfl
        | succ f => unfold tokF; rw [if_neg (by rw [HB.out]; omega)]
      have htk := HTK.out
      rw [htf, List.append_nil] at htk
      rw [htk]
      exact ⟨u4, rfl, hO, hCh, hSl⟩
end Go.Proofs.Ytoacegccpajkoaa
