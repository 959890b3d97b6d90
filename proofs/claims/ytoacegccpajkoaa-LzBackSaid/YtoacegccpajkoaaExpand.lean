/- Contract of lz.Expand. No statement of the seat is proved here. -/
import Derived.Test.YtoacegccpajkoaaLaw6
import Derived.Test.YtoacegccpajkoaaWrong
namespace Go.Proofs.Ytoacegccpajkoaa
open Go.RowKit Go.Aq Go.Maps

set_option maxRecDepth 100000 in
set_option maxHeartbeats 4000000 in
theorem expand_any (w : World) (vl : Value) (l : List TokD) (hl : Sees w 3 vl l.length (l.flatMap tokCells)) (hln : l.length ≤ 100000) :
    Calls Try.prog 41 #[vl] w fun e w' => ∃ v', e = .returned (.tuple #[v', .int .i64 (resE (expandL l [])).2]) ∧ Own w' 5 1 v' (resE (expandL l [])).1.length (Bs (resE (expandL l [])).1) ∧ Chg [] w w' ∧ ∀ k ∈ v'.ownBlock.toList, w.heap.size ≤ k := by
  obtain ⟨nl, HN⟩ : ∃ n, Hid (l.length = n) := ⟨_, rfl⟩
  rw [HN.out] at hl hln
  obtain ⟨ao, cap, rfl, hcap, hno⟩ := hl.shape
  have HNO := Lib.hid hno; clear hno
  obtain ⟨R, hR⟩ : ∃ R, expandL l [] = R := ⟨_, rfl⟩
  rw [hR]
  have HR := Lib.hid hR; clear hR
  go_enter Try.func41, Try.ntmps41
  go_wp2_with fail
  go_loopg [4, 9] nl (fun kk v4 vi wr => ∃ (j : Nat) (B : List UInt8), j + kk = nl ∧ vi = .int .i64 j ∧ Own wr 5 1 v4 B.length (Bs B) ∧ B.length ≤ 40000 ∧ expandL (l.drop j) B = R ∧ Chg [] w wr ∧ (∀ k ∈ v4.ownBlock.toList, w.heap.size ≤ k))
  case atStart => exact ⟨0, [], by omega, rfl, Own.nil _ _ _, by simp, by rw [List.drop_zero]; exact HR.out, Chg.refl _ _, by simp [Value.ownBlock]⟩
  case round =>
    obtain ⟨j, B, hj, rfl, hO, hB, hE, hC, hF⟩ := hrel
    have HJ := Lib.hid hj; clear hj
    have hjn : j ≤ nl := by have := HJ.out; omega
    by_cases hlt : j < nl
    · have t1 : decide ((j : Int) < (nl : Int)) = true := by simp; omega
      have t1' : decide (j < nl) = true := by simp; omega
      obtain ⟨g, off, cap', hs, -, hgl, hcell⟩ := hl.cells (by omega)
      simp only [Value.slice.injEq, true_and] at hs
      obtain ⟨rfl, rfl⟩ := hs
      obtain ⟨y0, y1, y2⟩ := toks_at HN.out hcell j (by rw [HN.out]; exact hlt)
      have m0 := hC.cell_some y0 (by simp)
      have m1 := hC.cell_some y1 (by simp)
      have m2 := hC.cell_some y2 (by simp)
      clear y0 y1 y2 hcell
      rw [List.drop_eq_getElem_cons (by rw [HN.out]; exact hlt)] at hE
      generalize l[j]'(by rw [HN.out]; exact hlt) = T at *
      obtain ⟨a, d, c⟩ := T
      simp only at m0 m1 m2
      have HE := Lib.hid hE; clear hE
      obtain ⟨nB, HB⟩ : ∃ n, Hid (B.length = n) := ⟨_, rfl⟩
      rw [HB.out] at hO hB
      obtain ⟨aob, capb, rfl, hcapb, hnob⟩ := hO.sees.shape
      have HNOb := Lib.hid hnob; clear hnob
      have hgr : g < wr.heap.size := by have := hC.size; omega
      have bp : Blk (wr.alloc (.cells #[.int .i64 a, .int .i64 d, .int .i64 c] 61)) wr.heap.size #[.int .i64 a, .int .i64 d, .int .i64 c] 61 := Blk.new wr _ _
      have c1 : Chg [] wr (wr.alloc (.cells #[.int .i64 a, .int .i64 d, .int .i64 c] 61)) := (Chg.refl _ _).alloc _
      go_wp2_with fail
      refine (wrong_any _ a d c).mono ?_
      rintro e w2 ⟨rfl, c2⟩
      have bp2 := bp.chg0 c2
      have hO2 := (hO.chg c1 (fun _ _ => by simp)).chg c2 (fun _ _ => by simp)
      have hC2 := (hC.nil c1).nil c2
      generalize wr.alloc (.cells #[.int .i64 a, .int .i64 d, .int .i64 c] 61) = w1 at *
      obtain ⟨p, hp⟩ : ∃ p, wr.heap.size = p := ⟨_, rfl⟩
      rw [hp] at bp2
      rw [hp]
      clear hp m0 m1 m2 c1 c2 bp hO hgr
      obtain ⟨⟨k0, k1, k2⟩, -⟩ := bp2.c3
      cases hw : wrongT ⟨a, d, c⟩ with
      | true =>
        have e := HE.out
        rw [expandL_err (step_wrong hw)] at e
        have HE2 := Lib.hid e; clear e hw
        go_wp2_with fail
        go_ret2
        rw [← HE2.out]
        exact ⟨_, rfl, Own.nil _ _ _, hC2, by simp [Value.ownBlock]⟩
      | false =>
        have hpo := hO2.ne bp2 (by decide)
        have hplt := bp2.lt
        by_cases hL : ¬ (nB : Int) < d ∧ 40000 < (nB : Int) + max a 1
        · obtain ⟨h1, h2⟩ := hL
          have t2 : decide ((nB : Int) < d) = false := by simp; omega
          have hab : 0 ≤ a ∧ a ≤ 258 := by
            by_cases h0 : a = 0
            · omega
            · have := wrong_copy hw h0; simp only at this; omega
          have e := HE.out
          rw [expandL_err (step_large hw (by rw [HB.out]; exact h1) (by rw [HB.out]; exact h2))] at e
          have HE2 := Lib.hid e; clear e hw
          obtain ⟨M, hM⟩ : ∃ M, max a 1 = M := ⟨_, rfl⟩
          rw [hM] at h2
          have t3 : decide (40000 < (nB : Int) + M) = true := by simp; omega
          have hM2 : 1 ≤ M ∧ M ≤ 258 := by omega
          go_wp2_with fail
          all_goals
            go_ret2
            rw [← HE2.out]
            exact ⟨_, rfl, Own.nil _ _ _, hC2, by simp [Value.ownBlock]⟩
        by_cases h0 : a = 0
        · subst h0
          obtain ⟨hd, hc0, hc1⟩ := wrong_lit hw rfl
          simp only at hd hc0 hc1
          subst hd
          obtain ⟨y, rfl⟩ := Int.eq_ofNat_of_zero_le hc0
          have hy : y ≤ 255 := by omega
          have h2 : ¬ 40000 < (nB : Int) + 1 := by omega
          clear hL
          have e := HE.out
          rw [expandL_ok (step_lit hw (by rw [HB.out]; simp only; omega) (by rw [HB.out]; simp only; omega) rfl)] at e
          have HE2 := Lib.hid e; clear e hw
          have t3 : decide (40000 < (nB : Int) + 1) = false := by simp; omega
          have hB3 : (nB : Int) ≤ 50000 := by omega
          have HB40 : Hid (nB + 1 ≤ 40000) := Lib.hid (by omega)
          clear h2 hB
          go_wp2_with (at_builtin; refine wpList_app (v := .slice aob nB capb) rfl _ _ 31 rfl sl_u8' (by exact hO2.alloc (.cells #[.int .u8 y] 5)) rfl (Sees.blk (cs := #[.int .u8 y]) (by exact Blk.new w2 _ 5)) rfl (by simp [Value.oneCell']) (by omega) (by omega) ?_; intro v3 w3 hO3 c3 n3; have bp3 := Blk.chg (p := p) (cs := #[.int .i64 0, .int .i64 0, .int .i64 y]) (e := 61) (by exact bp2.alloc (.cells #[.int .u8 y] 5)) c3 hpo; obtain ⟨⟨k0', k1', k2'⟩, -⟩ := bp3.c3)
          have ce : Chg [] w2 (w2.alloc (.cells #[.int .u8 y] 5)) := (Chg.refl _ _).alloc _
          have hC3 := (hC2.nil ce).trans c3 fun i hi => .inr (hF i hi)
          have hF3 : ∀ k ∈ v3.ownBlock.toList, w.heap.size ≤ k := fun k h => by
            rcases n3 k h with h1 | h1
            · exact hF k h1
            · have := hC2.size; have := ce.size; omega
          have hO4 : Own w3 5 1 v3 (B ++ [UInt8.ofNat y]).length (Bs (B ++ [UInt8.ofNat y])) := by
            have e1 : Bs (B ++ [UInt8.ofNat y]) = Bs B ++ #[Value.int .u8 (y : Int)].toList := by
              simp [Bs, Bc, Nat.mod_eq_of_lt (show y < 256 by omega)]
            rw [e1, List.length_append, HB.out]
            exact hO3
          clear hO3 c3 n3 ce hO2 bp2
          obtain ⟨G1, rfl⟩ : ∃ G, G = gk := ⟨_, rfl⟩
          obtain ⟨wo, rfl⟩ : ∃ wo, wo = wr := ⟨_, rfl⟩
          have tz : decide ((nB : Int) < 0) = false := by simp
          rw [tz]
          clear k0 k1 k2
          go_loopg [4, 42] 0 (fun _ v4 vk wr => v4 = v3 ∧ vk = .int .i64 0 ∧ wr = w3)
          case atStart => exact ⟨rfl, rfl, rfl⟩
          case round =>
            obtain ⟨rfl, rfl, rfl⟩ := hrel
            go_wp2_with fail
            go_roundg (G1 - 1)
            case measure => have := HJ.out; omega
            case rel => exact ⟨j + 1, _, by have := HJ.out; omega, by go_num, hO4, by rw [List.length_append, HB.out]; exact HB40.out, HE2.out, hC3, hF3⟩
        · obtain ⟨ha3, ha4, hd1, hd2, hc0⟩ := wrong_copy hw h0
          simp only at ha3 ha4 hd1 hd2 hc0
          subst hc0
          obtain ⟨M, rfl⟩ := Int.eq_ofNat_of_zero_le (by omega : 0 ≤ a)
          obtain ⟨D, rfl⟩ := Int.eq_ofNat_of_zero_le (by omega : 0 ≤ d)
          have t0 : ((M : Int) == 0) = false := by simp; omega
          by_cases h1 : (nB : Int) < D
          · have e := HE.out
            rw [expandL_err (step_range hw (by rw [HB.out]; exact h1))] at e
            have HE2 := Lib.hid e; clear e hw
            have t2 : decide ((nB : Int) < D) = true := by simp; omega
            go_wp2_with fail
            go_ret2
            rw [← HE2.out]
            exact ⟨_, rfl, Own.nil _ _ _, hC2, by simp [Value.ownBlock]⟩
          · have t2 : decide ((nB : Int) < D) = false := by simp; omega
            have t2' : decide (nB < D) = false := by simp; omega
            have h2 : ¬ 40000 < (nB : Int) + M := by omega
            clear hL
            have e := HE.out
            rw [expandL_ok (step_copy hw (by rw [HB.out]; exact h1) (by rw [HB.out]; simp only; omega) h0)] at e
            simp only [Int.toNat_natCast] at e
            have HE2 := Lib.hid e; clear e hw
            have t3 : decide (40000 < (nB : Int) + M) = false := by simp; omega
            go_wp2_with fail
            obtain ⟨G1, rfl⟩ : ∃ G, G = gk := ⟨_, rfl⟩
            obtain ⟨wo, rfl⟩ : ∃ wo, wo = wr := ⟨_, rfl⟩
            clear k0 k1 k2
            go_loopg [4, 42] M (fun kk v4 vk wr => ∃ (i : Nat) (B' : List UInt8), i + kk = M ∧ vk = .int .i64 i ∧ B'.length = nB + i ∧ copyN D kk B' = copyN D M B ∧ Own wr 5 1 v4 (nB + i) (Bs B') ∧ Blk wr p #[.int .i64 M, .int .i64 D, .int .i64 0] 61 ∧ Chg [] w wr ∧ (∀ k ∈ v4.ownBlock.toList, w.heap.size ≤ k))
            case atStart => exact ⟨0, B, by omega, rfl, HB.out, rfl, hO2, bp2, hC2, hF⟩
            case round =>
              obtain ⟨i, B', hi, rfl, hB', hcp, hO3, bp3, hC3, hF3⟩ := hrel
              have HI := Lib.hid hi; clear hi
              have HB' := Lib.hid hB'; clear hB'
              have HCP := Lib.hid hcp; clear hcp
              have hiM : i ≤ M := by have := HI.out; omega
              obtain ⟨⟨k0, k1, k2⟩, -⟩ := bp3.c3
              clear hO2 bp2 hC2 hF
              by_cases hi2 : i < M
              · have s1 : decide ((i : Int) < (M : Int)) = true := by simp; omega
                have s1' : decide (i < M) = true := by simp; omega
                obtain ⟨g3, cap3, rfl, hcap3⟩ := hO3.pos (by omega)
                have x0 : wr.cell? ⟨g3, nB + i - D, none⟩ = some (.int .u8 (B'.getD (nB + i - D) 0).toNat) := by
                  rw [hO3.cellAt _ (by omega), Bs_get _ _ (by rw [HB'.out]; omega)]; simp [List.getD, show nB + i - D < B'.length by rw [HB'.out]; omega]
                have hstep : Hid (copyN D (gk - 1) (B' ++ [B'.getD (nB + i - D) 0]) = copyN D M B) := Lib.hid (by
                  have e := HCP.out
                  obtain ⟨q, hq⟩ : ∃ q, gk = q + 1 := ⟨gk - 1, by have := HI.out; omega⟩
                  rw [hq] at e ⊢
                  have e2 : copyN D (q + 1) B' = copyN D q (B' ++ [B'.getD (B'.length - D) 0]) := rfl
                  rw [e2, HB'.out] at e
                  exact e)
                generalize B'.getD (nB + i - D) 0 = y at *
                have hyl := y.toNat_lt
                have q1 : (0 : Int) ≤ (nB : Int) + i - D := by omega
                have q2 : (nB : Int) + i - D < (nB : Int) + i := by omega
                have q3 : ((nB : Int) + i - D).toNat = nB + i - D := by omega
                go_wp2_with (at_builtin; refine wpList_app (v := .slice (some ⟨g3, 0, none⟩) (nB + i) cap3) rfl _ _ 31 rfl sl_u8' (by exact hO3.alloc (.cells #[.int .u8 y.toNat] 5)) rfl (Sees.blk (cs := #[.int .u8 y.toNat]) (by exact Blk.new wr _ 5)) rfl (by simp [Value.oneCell']) (by omega) (by omega) ?_; intro v4 w4 hO4 c4 n4)
                have ce : Chg [] wr (wr.alloc (.cells #[.int .u8 y.toNat] 5)) := (Chg.refl _ _).alloc _
                have bp4 := (bp3.chg0 ce).chg c4 (hO3.ne bp3 (by decide))
                have hC4 := (hC3.nil ce).trans c4 fun i hi => .inr (hF3 i hi)
                have hF4 : ∀ k ∈ v4.ownBlock.toList, w.heap.size ≤ k := fun k h => by
                  rcases n4 k h with h1 | h1
                  · exact hF3 k h1
                  · have := hC3.size; have := ce.size; omega
                go_roundg (gk - 1)
                case measure => have := HI.out; omega
                case rel =>
                  refine ⟨i + 1, B' ++ [y], by have := HI.out; omega, by go_num, by rw [List.length_append, HB'.out]; rfl, hstep.out, ?_, bp4, hC4, hF4⟩
                  have e1 : Bs (B' ++ [y]) = Bs B' ++ [Value.int .u8 (y.toNat : Int)] := by simp [Bs, Bc]
                  rw [e1]
                  exact hO4
              · have s1 : decide ((i : Int) < (M : Int)) = false := by simp; omega
                have s1' : decide (i < M) = false := by simp; omega
                go_wp2_with fail
                go_roundg (G1 - 1)
                case measure => have := HJ.out; omega
                case rel =>
                  have e0 : gk = 0 := by have := HI.out; omega
                  have e := HCP.out
                  rw [e0] at e
                  have e' : B' = copyN D M B := e
                  refine ⟨j + 1, B', by have := HJ.out; omega, by go_num, by rw [HB'.out]; exact hO3, by rw [HB'.out]; omega, by rw [e']; exact HE2.out, hC3, hF3⟩
    · have t1 : decide ((j : Int) < (nl : Int)) = false := by simp; omega
      have t1' : decide (j < nl) = false := by simp; omega
      rw [List.drop_eq_nil_of_le (by rw [HN.out]; omega)] at hE
      have HE := Lib.hid hE; clear hE
      go_wp2_with fail
      go_ret2
      rw [← HE.out]
      exact ⟨_, rfl, hO, hC, hF⟩
end Go.Proofs.Ytoacegccpajkoaa
