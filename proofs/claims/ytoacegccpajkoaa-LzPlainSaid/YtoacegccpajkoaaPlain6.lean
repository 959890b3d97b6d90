/- LzPlain: bytes in which no three stand twice are all told as they are: the law's function returns true at all arguments. -/
import Derived.Test.YtoacegccpajkoaaLaw6
import Derived.Test.YtoacegccpajkoaaTwicePlain
import Derived.Test.YtoacegccpajkoaaOpen
namespace Go.Proofs.Ytoacegccpajkoaa
open Go.RowKit Go.Aq Go.Maps
attribute [local go_sem ↓] Go.wp_at_zero Go.wp_at_succ

theorem plain_out (vb : Value) (n : Nat) (xs : List Value) (w : World) (hb : Sees w 1 vb n xs) (h : 2000 < n) :
    Calls Try.prog 10 #[vb] w fun e w' => e = .returned (.bool true) ∧ Chg [] w w' := by
  obtain ⟨ao, cap, rfl, hcap, hno⟩ := hb.shape
  have HNO := Lib.hid hno; clear hno
  go_enter Try.func10, Try.ntmps10
  go_wp2_with fail
  refine (first6 _).mono ?_
  rintro e w0 ⟨rfl, c0⟩
  go_wp2_with fail
  refine (first6 _).mono ?_
  rintro e w1 ⟨rfl, c1⟩
  go_wp2_with fail
  go_ret
  exact ⟨rfl, c0.nil c1⟩

set_option maxRecDepth 100000 in
set_option maxHeartbeats 2000000 in
theorem plain_in (vb : Value) (b : List UInt8) (w : World) (hb : Sees w 1 vb b.length (Bs b)) (h2 : b.length ≤ 2000) :
    Calls Try.prog 10 #[vb] w fun e w' => e = .returned (.bool true) ∧ Chg [] w w' := by
  have hb0 := Lib.hid hb
  have h20 := Lib.hid h2
  obtain ⟨nb, HB⟩ : ∃ n, Hid (b.length = n) := ⟨_, rfl⟩
  rw [HB.out] at hb h2
  obtain ⟨ao, cap, rfl, hcap, hno⟩ := hb.shape
  have HNO := Lib.hid hno; clear hno
  have hmm := @run_makeMap Try.prog
  have t2 : decide (2000 < (nb : Int)) = false := by simp; omega
  have t2' : decide (2000 < nb) = false := by simp; omega
  go_enter Try.func10, Try.ntmps10
  go_wp2_with fail
  refine (first6 _).mono ?_
  rintro e w0 ⟨rfl, c0⟩
  go_wp2_with fail
  refine (find_any _ _ b (hb0.out.chg0 c0) (by have := h20.out; omega)).mono ?_
  rintro e w2 ⟨v', rfl, ho2, hc2, hf2⟩
  have C2 : Chg [] w w2 := c0.nil hc2
  obtain ⟨nl, HN⟩ : ∃ nl, Hid ((toks b).length = nl) := ⟨_, rfl⟩
  rw [HN.out] at ho2
  obtain ⟨aol, capl, rfl, hcapl, hnol⟩ := ho2.sees.shape
  have HNOl := Lib.hid hnol; clear hnol
  go_wp2_with fail
  obtain ⟨m, hm⟩ : ∃ m, w2.heap.size = m := ⟨_, rfl⟩
  have hmap : MapF Try.prog 64 (w2.alloc (.map #[] 0)) m fun _ => none := by rw [← hm]; exact MapF.new _ _ _
  have C3 : Chg [] w2 (w2.alloc (.map #[] 0)) := Chg.alloc (.refl _ _) _
  rw [hm]
  generalize w2.alloc (.map #[] 0) = w3 at *
  have HM := Lib.hid hm; clear hm hmm
  go_loopg [6, 7] (nb - 2) (fun kk v6 v7 wr => ∃ (j : Nat) (F : Value → Option Value), j + kk = nb - 2 ∧ v6 = .bool (twF b j) ∧ v7 = .int .i64 j ∧ MapF Try.prog 64 wr m F ∧ (∀ key, (F (key3V key)).isSome = (prevOcc b key j != 0)) ∧ Chg [] w2 wr)
  case atStart => exact ⟨0, _, by omega, rfl, rfl, hmap, fun key => rfl, C3⟩
  case round =>
    obtain ⟨j, F, hj, rfl, rfl, hF, hFk, hC⟩ := hrel
    have HJ := Lib.hid hj; clear hj
    have hj2 : j ≤ nb - 2 := by have := HJ.out; omega
    by_cases hlt : j + 2 < nb
    · have t3 : decide ((j : Int) + 2 < (nb : Int)) = true := by simp; omega
      have t3' : decide (j + 2 < nb) = true := by simp; omega
      have hbr : Sees wr 1 (.slice ao nb cap) nb (Bs b) := hb.chg0 (C2.nil hC)
      obtain ⟨g, off, cap', hs, -, hgl, hcell⟩ := hbr.cells (by omega)
      simp only [Value.slice.injEq, true_and] at hs
      obtain ⟨rfl, rfl⟩ := hs
      have b0 : wr.cell? ⟨g, off + j, none⟩ = some (.int .u8 (b.getD j 0).toNat) := by rw [hcell j (by omega), Bs_get _ _ (by rw [HB.out]; omega)]; simp [List.getD, show j < b.length by rw [HB.out]; omega]
      have b1 : wr.cell? ⟨g, off + (j + 1), none⟩ = some (.int .u8 (b.getD (j + 1) 0).toNat) := by rw [hcell (j + 1) (by omega), Bs_get _ _ (by rw [HB.out]; omega)]; simp [List.getD, show j + 1 < b.length by rw [HB.out]; omega]
      have b2 : wr.cell? ⟨g, off + (j + 2), none⟩ = some (.int .u8 (b.getD (j + 2) 0).toNat) := by rw [hcell (j + 2) (by omega), Bs_get _ _ (by rw [HB.out]; omega)]; simp [List.getD, show j + 2 < b.length by rw [HB.out]; omega]
      have h3 : at3 b j = some (b.getD j 0, b.getD (j + 1) 0, b.getD (j + 2) 0) := by unfold at3; rw [if_pos (by rw [HB.out]; omega)]
      have H3 := Lib.hid h3; clear h3 hcell
      generalize b.getD j 0 = x0 at *
      generalize b.getD (j + 1) 0 = x1 at *
      generalize b.getD (j + 2) 0 = x2 at *
      have i0 : (0 : Int) ≤ (j : Int) + 1 := by omega
      have i1 : (j : Int) + 1 < nb := by omega
      have i2 : (0 : Int) ≤ (j : Int) + 2 := by omega
      have i3 : (j : Int) + 2 < nb := by omega
      obtain ⟨T, hT⟩ : ∃ T, twF b j = T := ⟨_, rfl⟩
      rw [hT]
      have HT := Lib.hid hT; clear hT
      have HFk := Lib.hid hFk; clear hFk
      go_wp2_with fail
      go_region
      obtain ⟨q, hq⟩ : ∃ q, wr.heap.size = q := ⟨_, rfl⟩
      have bq : Blk (wr.alloc (.cells #[.int .u8 x0.toNat, .int .u8 x1.toNat, .int .u8 x2.toNat] 64)).drew wr.heap.size #[.int .u8 x0.toNat, .int .u8 x1.toNat, .int .u8 x2.toNat] 64 := Blk.new wr _ _
      have c5 : Chg [] wr (wr.alloc (.cells #[.int .u8 x0.toNat, .int .u8 x1.toNat, .int .u8 x2.toNat] 64)).drew := (Chg.alloc (Chg.refl _ _) _).drew
      generalize (wr.alloc (.cells #[.int .u8 x0.toNat, .int .u8 x1.toNat, .int .u8 x2.toNat] 64)).drew = w5 at *
      rw [hq] at bq
      rw [hq]
      clear b0 b1 b2 hq
      have hF5 := hF.chg c5 (by simp)
      have hlk := (hF5.look key_law Try.underlying63 (z := .int .i64 0) (by kernel_rfl) (key3V_good (x0, x1, x2))).2
      rw [HFk.out] at hlk
      obtain ⟨V, hV⟩ : ∃ V, (F (key3V (x0, x1, x2))).getD (.int .i64 0) = V := ⟨_, rfl⟩
      rw [hV] at hlk
      clear hV
      have hlk' : Sem.run Try.prog (Instr.lookup 63 (Value.map (some m)) (.agg #[.int .u8 x0.toNat, .int .u8 x1.toNat, .int .u8 x2.toNat]) true) w5 = .ok (.tuple #[V, .bool (prevOcc b (x0, x1, x2) j != 0)]) w5 := hlk
      clear hlk
      have HS := Lib.hid (twF_succ b j _ H3.out)
      obtain ⟨ok, hok⟩ : ∃ ok, (prevOcc b (x0, x1, x2) j != 0) = ok := ⟨_, rfl⟩
      rw [hok] at hlk'
      have HOK := Lib.hid hok; clear hok
      obtain ⟨⟨k0, k1, k2⟩, -⟩ := bq.c3
      cases T <;> cases ok
      all_goals
        go_wp2_with (refine wpList_put rfl _ _ _ 63 rfl key_law Try.underlying63 hF5 rfl (key3V_good (x0, x1, x2)) rfl (val := .int .i64 j) rfl ?_; intro w6 hF6 c6)
        go_roundg (gk - 1)
        case measure => have := HJ.out; omega
        case rel =>
          refine ⟨j + 1, _, by have := HJ.out; omega, ?_, by go_num, hF6, fun key => ?_, (hC.nil c5).trans c6 (fun i hi => .inr (by have := HM.out; simp at hi; omega))⟩
          · rw [HS.out, HT.out, HOK.out]; rfl
          · unfold updF
            rw [prevOcc_succ, H3.out]
            by_cases hk : key = (x0, x1, x2)
            · subst hk
              rw [if_pos rfl, if_pos rfl]
              rfl
            · rw [if_neg (fun h => hk (key3V_inj h)), if_neg (fun h => hk (by injection h with h; exact h.symm)), HFk.out]
    · have t3 : decide ((j : Int) + 2 < (nb : Int)) = false := by simp; omega
      have t3' : decide (j + 2 < nb) = false := by simp; omega
      obtain ⟨P1, P2⟩ := plain_law b (by have := h20.out; omega)
      rw [HB.out, show nb - 2 = j by omega] at P1 P2
      have HP1 := Lib.hid P1
      have HP2 := Lib.hid P2
      clear P1 P2 hFk
      have hln : nl ≤ nb := by have := tokF_length b b.length 0; rw [← HN.out, ← HB.out]; exact this
      have ho4 : Own wr 61 3 (.slice aol nl capl) nl ((toks b).flatMap tokCells) := ho2.chg hC (fun _ _ => by simp)
      obtain ⟨G, rfl⟩ : ∃ G, G = gk := ⟨_, rfl⟩
      obtain ⟨w7, rfl⟩ : ∃ w7, w7 = wr := ⟨_, rfl⟩
      go_wp2_with fail
      go_loopg [11, 12] nl (fun kk v11 v12 wr => ∃ (i c : Nat), i + kk = nl ∧ v12 = .int .i64 i ∧ v11 = .int .i64 c ∧ c ≤ i ∧ decide (0 < c) = ((toks b).take i).any (fun t => decide (0 < t.len)) ∧ wr = w7)
      case atStart => exact ⟨0, 0, by omega, rfl, rfl, Nat.le_refl _, rfl, rfl⟩
      case round =>
        obtain ⟨i, c, hi, rfl, rfl, hci, hcn, rfl⟩ := hrel
        have HI := Lib.hid hi; clear hi
        have HCN := Lib.hid hcn; clear hcn
        have hil : i ≤ nl := by have := HI.out; omega
        by_cases hlt2 : i < nl
        · have s1 : decide ((i : Int) < (nl : Int)) = true := by simp; omega
          have s1' : decide (i < nl) = true := by simp; omega
          obtain ⟨g2, cap2, hs, hcap2⟩ := ho4.pos (by omega)
          simp only [Value.slice.injEq, true_and] at hs
          obtain ⟨rfl, rfl⟩ := hs
          have hca := Own.cellAt ho4
          have hat := fun j hj => (congrArg (wr.cell? ⟨g2, ·, none⟩) (Nat.zero_add j)).trans (hca j hj)
          obtain ⟨y0, -, -⟩ := toks_at (off := 0) HN.out hat i (by rw [HN.out]; exact hlt2)
          clear hca hat
          simp only [Nat.zero_add] at y0
          have htk : (toks b).take (i + 1) = (toks b).take i ++ [(toks b)[i]'(by rw [HN.out]; exact hlt2)] := by rw [List.take_succ_eq_append_getElem]
          have hany : ((toks b).take (i + 1)).any (fun t => decide (0 < t.len)) = (decide (0 < c) || decide (0 < ((toks b)[i]'(by rw [HN.out]; exact hlt2)).len)) := by rw [htk, List.any_append, ← HCN.out]; simp
          clear htk
          generalize ((toks b)[i]'(by rw [HN.out]; exact hlt2)).len = z at *
          have HA := Lib.hid hany; clear hany
          by_cases hz : 0 < z
          · have s2 : decide (0 < z) = true := by simp; omega
            go_wp2_with fail
            go_roundg (gk - 1)
            case measure => have := HI.out; omega
            case rel => exact ⟨i + 1, c + 1, by have := HI.out; omega, by go_num, by go_num, by omega, by rw [HA.out, s2]; simp, rfl⟩
          · have s2 : decide (0 < z) = false := by simp; omega
            go_wp2_with fail
            go_roundg (gk - 1)
            case measure => have := HI.out; omega
            case rel => exact ⟨i + 1, c, by have := HI.out; omega, by go_num, rfl, by omega, by rw [HA.out, s2]; simp, rfl⟩
        · have s1 : decide ((i : Int) < (nl : Int)) = false := by simp; omega
          have s1' : decide (i < nl) = false := by simp; omega
          have hcn := HCN.out
          rw [List.take_of_length_le (by rw [HN.out]; omega), HP1.out] at hcn
          have hp2 := HP2.out
          rw [HN.out] at hp2
          rw [← hcn] at hp2
          rw [← hcn]
          have C4 : Chg [] w wr := C2.nil hC
          by_cases hc0 : 0 < c
          · have s3 : decide (0 < c) = true := by simp; omega
            have s4 : decide (0 < (c : Int)) = true := by simp; omega
            rw [s3]
            clear hcn hp2
            go_wp2_with fail
            refine (first6 _).mono ?_
            rintro e w8 ⟨rfl, c8⟩
            go_wp2_with fail
            go_ret
            exact ⟨rfl, C4.nil c8⟩
          · have s3 : decide (0 < c) = false := by simp; omega
            have s4 : decide (0 < (c : Int)) = false := by simp; omega
            have hnl := hp2 s3
            rw [s3]
            clear hcn hp2
            have s5 : ((nl : Int) == (nb : Int)) = true := by simp; omega
            go_wp2_with fail
            refine (first6 _).mono ?_
            rintro e w8 ⟨rfl, c8⟩
            go_wp2_with fail
            go_ret
            exact ⟨rfl, C4.nil c8⟩

theorem plainTop (vb : Value) (nb : Nat) (bs : List UInt8) {w : World} (hb : Sees w 1 vb nb (Bs bs) ∧ nb ≤ 9223372036854775807) :
    Calls Try.prog 10 #[vb] w fun e w' => e = .returned (.bool true) ∧ Chg [] w w' := by
  have hl : nb = bs.length := by have := hb.1.len; simp [Bs] at this; omega
  subst hl
  by_cases h : bs.length ≤ 2000
  · exact plain_in vb bs w hb.1 h
  · exact plain_out vb _ _ w hb.1 (by omega)
end Go.Proofs.Ytoacegccpajkoaa
