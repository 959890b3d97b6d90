/- LzBack: tokens that were found make the bytes again: the law's function returns true at all arguments. -/
import Derived.Test.YtoacegccpajkoaaExpand
import Derived.Test.YtoacegccpajkoaaBackLzPlain
import Derived.Test.YtoacegccpajkoaaSame
import Derived.Test.YtoacegccpajkoaaOpen
namespace Go.Proofs.Ytoacegccpajkoaa
open Go.RowKit Go.Aq Go.Maps

set_option maxRecDepth 100000 in
set_option maxHeartbeats 1000000 in
theorem backlz_out (vb : Value) (n : Nat) (xs : List Value) (t : Int) (w : World) (hb : Sees w 1 vb n xs) (h63 : n ≤ 9223372036854775807) (h : t < 1 ∨ 40 < t ∨ 1000 < n) :
    Calls Try.prog 12 #[vb, .int .i64 t] w fun e w' => e = .returned (.bool true) ∧ Chg [] w w' := by
  obtain ⟨ao, cap, rfl, hcap, hno⟩ := hb.shape
  have HNO := Lib.hid hno; clear hno
  have h' : t < 1 ∨ (1 ≤ t ∧ 40 < t) ∨ (1 ≤ t ∧ t ≤ 40 ∧ 1000 < n) := by omega
  rcases h' with h1 | ⟨h1, h2⟩ | ⟨h1, h2, h3⟩
  · have t1 : decide (t < 1) = true := by simp; omega
    go_enter Try.func12, Try.ntmps12
    go_wp2_with fail
    refine (first6 _).mono ?_
    rintro e w0 ⟨rfl, c0⟩
    go_wp2_with fail
    refine (first6 _).mono ?_
    rintro e w1 ⟨rfl, c1⟩
    go_wp2_with fail
    go_ret
    exact ⟨rfl, c0.nil c1⟩
  · have t1 : decide (t < 1) = false := by simp; omega
    have t2 : decide (40 < t) = true := by simp; omega
    go_enter Try.func12, Try.ntmps12
    go_wp2_with fail
    refine (first6 _).mono ?_
    rintro e w0 ⟨rfl, c0⟩
    go_wp2_with fail
    refine (first6 _).mono ?_
    rintro e w1 ⟨rfl, c1⟩
    go_wp2_with fail
    go_ret
    exact ⟨rfl, c0.nil c1⟩
  · have t1 : decide (t < 1) = false := by simp; omega
    have t2 : decide (40 < t) = false := by simp; omega
    have t3 : decide (1000 < (n : Int)) = true := by simp; omega
    have t3' : decide (1000 < n) = true := by simp; omega
    go_enter Try.func12, Try.ntmps12
    go_wp2_with fail
    refine (first6 _).mono ?_
    rintro e w0 ⟨rfl, c0⟩
    go_wp2_with fail
    refine (first6 _).mono ?_
    rintro e w1 ⟨rfl, c1⟩
    go_wp2_with fail
    go_ret
    exact ⟨rfl, c0.nil c1⟩

set_option maxRecDepth 100000 in
set_option maxHeartbeats 2000000 in
theorem backlz_in (vb : Value) (b : List UInt8) (t : Nat) (w : World) (hb : Sees w 1 vb b.length (Bs b)) (h2 : b.length ≤ 1000) (ht1 : 1 ≤ t) (ht2 : t ≤ 40) :
    Calls Try.prog 12 #[vb, .int .i64 t] w fun e w' => e = .returned (.bool true) ∧ Chg [] w w' := by
  have hb0 := Lib.hid hb
  obtain ⟨nb, HB⟩ : ∃ n, Hid (b.length = n) := ⟨_, rfl⟩
  rw [HB.out] at hb h2
  obtain ⟨ao, cap, rfl, hcap, hno⟩ := hb.shape
  have HNO := Lib.hid hno; clear hno
  have t1 : decide ((t : Int) < 1) = false := by simp; omega
  have t1' : decide (t < 1) = false := by simp; omega
  have t2 : decide (40 < (t : Int)) = false := by simp; omega
  have t2' : decide (40 < t) = false := by simp; omega
  have t3 : decide (1000 < (nb : Int)) = false := by simp; omega
  have t3' : decide (1000 < nb) = false := by simp; omega
  have hone : ∀ u ∈ Bs b, u.oneCell' = true := fun u hu => by
    simp only [Bs, List.mem_map] at hu
    obtain ⟨t, -, rfl⟩ := hu
    rfl
  have hH := Lib.hid hone; clear hone
  go_enter Try.func12, Try.ntmps12
  go_wp2_with fail
  refine (first6 _).mono ?_
  rintro e w0 ⟨rfl, c0⟩
  go_wp2_with fail
  go_loopg [5, 6] t (fun kk v5 v6 wr => ∃ (j s : Nat) (L : List UInt8), j + kk = t ∧ v6 = .int .i64 j ∧ L.length = s ∧ s ≤ 1000 * j ∧ Own wr 5 1 v5 s (Bs L) ∧ Chg [] w wr ∧ (∀ k ∈ v5.ownBlock.toList, w.heap.size ≤ k))
  case atStart => exact ⟨0, 0, [], by omega, rfl, rfl, by omega, Own.nil _ _ _, c0, by simp [Value.ownBlock]⟩
  case round =>
    obtain ⟨j, s, L, hj, rfl, hL, hs, hO, hC, hF⟩ := hrel
    have HJ := Lib.hid hj; clear hj
    have HL := Lib.hid hL; clear hL
    have hjt : j ≤ t := by have := HJ.out; omega
    by_cases hlt : j < t
    · have s1 : decide ((j : Int) < (t : Int)) = true := by simp; omega
      have s1' : decide (j < t) = true := by simp; omega
      have hbr : Sees wr 1 (.slice ao nb cap) nb (Bs b) := hb.chg0 hC
      go_wp2_with (at_builtin; refine wpList_app (v := u5) rfl _ _ 31 rfl sl_u8' (by exact hO) rfl (vx := .slice ao nb cap) (by exact hbr) rfl hH.out (by omega) (by omega) ?_; intro v3 w3 hO3 c3 n3)
      have hC3 := hC.trans c3 fun i hi => .inr (hF i hi)
      have hF3 : ∀ k ∈ v3.ownBlock.toList, w.heap.size ≤ k := fun k h => by
        rcases n3 k h with h1 | h1
        · exact hF k h1
        · have := hC.size; omega
      go_roundg (gk - 1)
      case measure => have := HJ.out; omega
      case rel =>
        refine ⟨j + 1, s + nb, L ++ b, by have := HJ.out; omega, by go_num, by rw [List.length_append, HL.out, HB.out], by omega, ?_, hC3, hF3⟩
        have e : Bs (L ++ b) = Bs L ++ Bs b := by simp [Bs]
        rw [e]
        exact hO3
    · have s1 : decide ((j : Int) < (t : Int)) = false := by simp; omega
      have s1' : decide (j < t) = false := by simp; omega
      have hs40 : s ≤ 40000 := by omega
      have HE := Lib.hid (expand_toks L (by rw [HL.out]; exact hs40))
      obtain ⟨aol, capl, rfl, hcapl, hnol⟩ := hO.sees.shape
      have HNOl := Lib.hid hnol; clear hnol
      have HJ' := HJ; clear HJ
      obtain ⟨G, rfl⟩ : ∃ G, G = gk := ⟨_, rfl⟩
      obtain ⟨wo, rfl⟩ : ∃ wo, wo = wr := ⟨_, rfl⟩
      go_wp2_with fail
      refine (find_any _ _ L (by rw [HL.out]; exact hO.sees) (by rw [HL.out]; exact hs40)).mono ?_
      rintro e w2 ⟨v', rfl, ho2, hc2, hf2⟩
      have hln : (toks L).length ≤ s := by have := tokF_length L L.length 0; rw [← HL.out]; exact this
      have hexp := fun (w : World) h => expand_any w v' (toks L) h (by omega)
      obtain ⟨nl, HN⟩ : ∃ nl, Hid ((toks L).length = nl) := ⟨_, rfl⟩
      have ho2' := Lib.hid ho2
      rw [HN.out] at ho2 hln
      have hs1 : (s : Int) ≤ 50000 := by omega
      go_wp2_with fail
      refine (hexp _ ho2'.out.sees).mono ?_
      rintro e w3 ⟨vc, rfl, hc, c3, -⟩
      rw [HE.out] at hc ⊢
      change Own w3 5 1 vc L.length (Bs L) at hc
      simp only [resE]
      clear hexp
      have hO3 : Sees w3 1 (.slice aol s capl) s (Bs L) := (hO.sees.chg0 hc2).chg0 c3
      have hT3 : Own w3 61 3 v' nl ((toks L).flatMap tokCells) := ho2.chg c3 (fun _ _ => by simp)
      have C3 := (hC.nil hc2).nil c3
      go_wp2_with fail
      refine (same_yes _ _ _ _ _ L L hc.sees hO3 rfl).mono ?_
      rintro e w4 ⟨rfl, rfl⟩
      obtain ⟨aot, capt, rfl, hcapt, hnot⟩ := hT3.sees.shape
      have HNOt := Lib.hid hnot; clear hnot
      go_wp2_with fail
      go_loopg [11, 12] nl (fun kk v11 v12 wr => ∃ (i k f : Nat), i + kk = nl ∧ v12 = .int .i64 i ∧ v11 = .int .i64 k ∧ k ≤ s ∧ s ≤ k + f ∧ (toks L).drop i = tokF L f k ∧ wr = w3)
      case atStart => exact ⟨0, 0, s, by omega, rfl, rfl, by omega, by omega, by rw [← HL.out]; rfl, rfl⟩
      case round =>
        obtain ⟨i, k, f, hi, rfl, rfl, hk, hkf, hdr, rfl⟩ := hrel
        have HI := Lib.hid hi; clear hi
        have hil : i ≤ nl := by have := HI.out; omega
        by_cases hlt2 : i < nl
        · have r1 : decide ((i : Int) < (nl : Int)) = true := by simp; omega
          have r1' : decide (i < nl) = true := by simp; omega
          obtain ⟨g2, cap2, hs2, hcap2⟩ := hT3.pos (by omega)
          simp only [Value.slice.injEq, true_and] at hs2
          obtain ⟨rfl, rfl⟩ := hs2
          have hca := Own.cellAt hT3
          have hat := fun j hj => (congrArg (wr.cell? ⟨g2, ·, none⟩) (Nat.zero_add j)).trans (hca j hj)
          obtain ⟨y0, y1, y2⟩ := toks_at (off := 0) HN.out hat i (by rw [HN.out]; exact hlt2)
          clear hca hat
          simp only [Nat.zero_add] at y0 y1 y2
          obtain ⟨f', rfl, hkn, hst⟩ := tokF_step hdr (by rw [HN.out]; exact hlt2)
          rw [HL.out] at hkn
          clear hdr
          rcases hst with ⟨hm, hli, hd'⟩ | ⟨hm, hli, hd'⟩
          · rw [hli] at y0 y1 y2
            have HD' := Lib.hid hd'; clear hd' hli
            go_wp2_with fail
            go_roundg (gk - 1)
            case measure => have := HI.out; omega
            case rel => exact ⟨i + 1, k + 1, f', by have := HI.out; omega, by go_num, by go_num, by omega, by omega, HD'.out, rfl⟩
          · rw [hli] at y0 y1 y2
            have hmo := matchAt_ok L k (by rw [HL.out]; exact hk)
            generalize matchAt L k = r at *
            obtain ⟨M, Dd⟩ := r
            simp only at y0 y1 y2 hd' hm
            have HD' := Lib.hid hd'; clear hd' hli
            have hmo2 : 3 ≤ M ∧ M ≤ 258 ∧ k + M ≤ s ∧ 1 ≤ Dd ∧ Dd ≤ k := by
              rcases hmo with h | h
              · simp at h; omega
              · have := HL.out; simp only at h; omega
            clear hmo
            have r2 : decide (0 < (M : Int)) = true := by simp; omega
            have r3 : decide ((k : Int) < (Dd : Int)) = false := by simp; omega
            have r3' : decide (k < Dd) = false := by simp; omega
            have r4 : decide ((M : Int) < 3) = false := by simp; omega
            have r5 : decide (258 < (M : Int)) = false := by simp; omega
            go_wp2_with fail
            go_roundg (gk - 1)
            case measure => have := HI.out; omega
            case rel => exact ⟨i + 1, k + M, f', by have := HI.out; omega, by go_num, by go_num, by omega, by omega, HD'.out, rfl⟩
        · have r1 : decide ((i : Int) < (nl : Int)) = false := by simp; omega
          have r1' : decide (i < nl) = false := by simp; omega
          have hnil : tokF L f k = [] := by rw [← hdr]; exact List.drop_eq_nil_of_le (by rw [HN.out]; omega)
          have hks := tokF_nil hnil (by rw [HL.out]; exact hkf)
          rw [HL.out] at hks
          obtain rfl : k = s := by omega
          clear hdr hnil
          have r2 : decide ((nl : Int) ≤ (k : Int)) = true := by simp; omega
          have r2' : decide (nl ≤ k) = true := by simp; omega
          go_wp2_with fail
          refine (first6 _).mono ?_
          rintro e w5 ⟨rfl, c5⟩
          go_wp2_with fail
          go_ret
          exact ⟨rfl, C3.nil c5⟩

theorem backlzTop (vb : Value) (nb : Nat) (bs : List UInt8) {w : World} (hb : Sees w 1 vb nb (Bs bs) ∧ nb ≤ 9223372036854775807) (s : Int) (_ : -9223372036854775808 ≤ s ∧ s ≤ 9223372036854775807) :
    Calls Try.prog 12 #[vb, .int .i64 s] w fun e w' => e = .returned (.bool true) ∧ Chg [] w w' := by
  have hl : nb = bs.length := by have := hb.1.len; simp [Bs] at this; omega
  subst hl
  by_cases h : bs.length ≤ 1000 ∧ 1 ≤ s ∧ s ≤ 40
  · obtain ⟨h1, h2, h3⟩ := h
    obtain ⟨k, rfl⟩ := Int.eq_ofNat_of_zero_le (by omega : 0 ≤ s)
    exact backlz_in vb bs k w hb.1 h1 (by omega) (by omega)
  · exact backlz_out vb _ _ s w hb.1 hb.2 (by omega)
end Go.Proofs.Ytoacegccpajkoaa
