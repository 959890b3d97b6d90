/- Contracts of aqulaw6.Tokens and aqulaw6.same. No statement of the seat is proved here. -/
import Derived.Test.YtoacegccpajkoaaLaw6
import Derived.Test.YtoacegccpajkoaaRefLz
namespace Go.Proofs.Ytoacegccpajkoaa
open Go.RowKit Go.Aq Go.Maps
attribute [local go_sem ↓] Go.wp_at_zero Go.wp_at_succ

set_option maxHeartbeats 2000000 in
theorem tokens_any (w : World) (vl : Value) (l : List TokD) (hb : Sees w 3 vl l.length (l.flatMap tokCells)) (hbl : l.length ≤ 100000) :
    Calls Try.prog 40 #[vl] w fun e w' => ∃ v', e = .returned v' ∧ Own w' 84 3 v' l.length (l.flatMap tokCells) ∧ Chg [] w w' ∧ ∀ k ∈ v'.ownBlock.toList, w.heap.size ≤ k := by
  obtain ⟨nb, HB⟩ : ∃ n, Hid (l.length = n) := ⟨_, rfl⟩
  rw [HB.out] at hb hbl
  obtain ⟨ao, cap, rfl, hcap, hno⟩ := hb.shape
  have HNO := Lib.hid hno; clear hno
  go_enter Try.func40, Try.ntmps40
  go_wp2_with fail
  go_loopg [3, 4] nb (fun kk vo vi wr => ∃ (j : Nat) (L : List TokD), j + kk = nb ∧ vi = .int .i64 j ∧ L = l.take j ∧ Own wr 84 3 vo j (L.flatMap tokCells) ∧ Chg [] w wr ∧ (∀ k ∈ vo.ownBlock.toList, w.heap.size ≤ k))
  case atStart => exact ⟨0, [], by omega, rfl, by simp, Own.nil _ _ _, Chg.refl _ _, by simp [Value.ownBlock]⟩
  case round =>
    obtain ⟨j, L, hj, rfl, hL, hO, hCh, hSl⟩ := hrel
    have HJ := Lib.hid hj; clear hj
    have HL := Lib.hid hL; clear hL
    have hjn : j ≤ nb := by have := HJ.out; omega
    by_cases hlt : j < nb
    · have t1 : decide ((j : Int) < (nb : Int)) = true := by simp; omega
      have t1' : decide (j < nb) = true := by simp; omega
      obtain ⟨g, off, cap', hs, -, hgl, hcell⟩ := hb.cells (by omega)
      simp only [Value.slice.injEq, true_and] at hs
      obtain ⟨rfl, rfl⟩ := hs
      obtain ⟨y0, y1, y2⟩ := toks_at HB.out hcell j (by rw [HB.out]; exact hlt)
      have m0 := hCh.cell_some y0 (by simp)
      have m1 := hCh.cell_some y1 (by simp)
      have m2 := hCh.cell_some y2 (by simp)
      clear y0 y1 y2 hcell
      have htk : l.take (j + 1) = l.take j ++ [l[j]'(by rw [HB.out]; exact hlt)] := by rw [List.take_succ_eq_append_getElem]
      have HTK := Lib.hid htk; clear htk
      generalize l[j]'(by rw [HB.out]; exact hlt) = T at *
      obtain ⟨a, d, c⟩ := T
      simp only at m0 m1 m2
      have gSd : g ∉ u3.ownBlock.toList := fun h => by have := hSl g h; have := hb.lt (by decide) g (by show g ∈ (if nb = 0 then [] else [g]); rw [if_neg (by omega)]; simp); omega
      go_wp2_with fail
      go_region_law ((refine step_app (v := u3) (by rfl) _ _ 54 (by rfl) sl_rtok (by exact hO.alloc (.cells #[.int .i64 a, .int .i64 d, .int .i64 c] 84)) (by rfl) (Sees.blk (cs := #[.int .i64 a, .int .i64 d, .int .i64 c]) (by exact Blk.new wr _ 84)) (by rfl) (by simp [Value.oneCell']) (by omega) (by omega) ?_; intro v3 w3 hO3 c3 n3))
      all_goals
        go_wp2_with fail
        have ce : Chg [] wr (wr.alloc (.cells #[.int .i64 a, .int .i64 d, .int .i64 c] 84)).drew := ((Chg.refl _ _).alloc _).drew
        have hCh3 := (hCh.nil ce).trans c3 fun i hi => .inr (hSl i hi)
        have hSl3 : ∀ k ∈ v3.ownBlock.toList, w.heap.size ≤ k := fun k h => by
          rcases n3 k h with h1 | h1
          · exact hSl k h1
          · have := hCh.size; have := ce.size; omega
        go_roundg (gk - 1)
        case measure => have := HJ.out; omega
        case rel =>
          refine ⟨j + 1, _, by have := HJ.out; omega, by go_num, rfl, ?_, hCh3, hSl3⟩
          rw [HTK.out, List.flatMap_append, ← HL.out]
          exact hO3
    · have t1 : decide ((j : Int) < (nb : Int)) = false := by simp; omega
      have t1' : decide (j < nb) = false := by simp; omega
      obtain rfl : nb = j := by omega
      have hL := HL.out
      rw [List.take_of_length_le (by rw [HB.out]; omega)] at hL
      subst hL
      go_wp2_with fail
      go_ret
      rw [HB.out]
      exact ⟨_, rfl, hO, hCh, hSl⟩

set_option maxHeartbeats 2000000 in
theorem sameTok_yes (w : World) (va vb : Value) (l : List TokD) (ha : Sees w 3 va l.length (l.flatMap tokCells)) (hb : Sees w 3 vb l.length (l.flatMap tokCells)) (hbl : l.length ≤ 100000) :
    Calls Try.prog 39 #[va, vb] w fun e w' => e = .returned (.bool true) ∧ ∃ q, w' = w.drewN q := by
  obtain ⟨nb, HB⟩ : ∃ n, Hid (l.length = n) := ⟨_, rfl⟩
  rw [HB.out] at ha hb hbl
  obtain ⟨aoa, capa, rfl, hcapa, hnoa⟩ := ha.shape
  obtain ⟨aob, capb, rfl, hcapb, hnob⟩ := hb.shape
  have HNOa := Lib.hid hnoa; clear hnoa
  have HNOb := Lib.hid hnob; clear hnob
  go_enter Try.func39, Try.ntmps39
  go_wp2_with fail
  go_loopg [5] nb (fun kk vi wr => ∃ (j : Nat), j + kk = nb ∧ vi = .int .i64 j ∧ ∃ q, wr = w.drewN q)
  case atStart => exact ⟨0, by omega, rfl, 0, rfl⟩
  case round =>
    obtain ⟨j, hj, rfl, q, rfl⟩ := hrel
    have HJ := Lib.hid hj; clear hj
    have hjn : j ≤ nb := by have := HJ.out; omega
    by_cases hlt : j < nb
    · have t1 : decide ((j : Int) < (nb : Int)) = true := by simp; omega
      have t1' : decide (j < nb) = true := by simp; omega
      obtain ⟨ga, offa, capa', hsa, -, -, hcella⟩ := ha.cells (by omega)
      obtain ⟨gb, offb, capb', hsb, -, -, hcellb⟩ := hb.cells (by omega)
      simp only [Value.slice.injEq, true_and] at hsa hsb
      obtain ⟨rfl, rfl⟩ := hsa
      obtain ⟨rfl, rfl⟩ := hsb
      obtain ⟨a0, a1, a2⟩ := toks_at HB.out hcella j (by rw [HB.out]; exact hlt)
      obtain ⟨b0, b1, b2⟩ := toks_at HB.out hcellb j (by rw [HB.out]; exact hlt)
      clear hcella hcellb
      generalize l[j]'(by rw [HB.out]; exact hlt) = T at *
      obtain ⟨a, d, c⟩ := T
      simp only at a0 a1 a2 b0 b1 b2
      go_wp2_with fail
      go_quiet (fail)
      go_wp2_with fail
      go_roundg (gk - 1)
      case measure => have := HJ.out; omega
      case rel => exact ⟨j + 1, by have := HJ.out; omega, by go_num, q + nq, rfl⟩
    · have t1 : decide ((j : Int) < (nb : Int)) = false := by simp; omega
      have t1' : decide (j < nb) = false := by simp; omega
      go_wp2_with fail
      go_ret
      exact ⟨rfl, q, rfl⟩
end Go.Proofs.Ytoacegccpajkoaa
