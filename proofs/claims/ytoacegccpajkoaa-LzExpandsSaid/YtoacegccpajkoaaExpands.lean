/- LzExpands: any tokens as bytes, or why not: the law's function returns true at all arguments. -/
import Derived.Test.YtoacegccpajkoaaTokens
import Derived.Test.YtoacegccpajkoaaRefExp
import Derived.Test.YtoacegccpajkoaaExpand
import Derived.Test.YtoacegccpajkoaaSame
import Derived.Test.YtoacegccpajkoaaOpenTok
namespace Go.Proofs.Ytoacegccpajkoaa
open Go.RowKit Go.Aq Go.Maps

theorem expands_out (vb : Value) (n : Nat) (xs : List Value) (w : World) (hb : Sees w 3 vb n xs) (h : 2000 < n) (h63 : n ≤ 9223372036854775807) :
    Calls Try.prog 11 #[vb] w fun e w' => e = .returned (.bool true) ∧ Chg [] w w' := by
  obtain ⟨ao, cap, rfl, hcap, hno⟩ := hb.shape
  have HNO := Lib.hid hno; clear hno
  go_enter Try.func11, Try.ntmps11
  go_wp2_with fail
  refine (first6 _).mono ?_
  rintro e w0 ⟨rfl, c0⟩
  go_wp2_with fail
  refine (first6 _).mono ?_
  rintro e w1 ⟨rfl, c1⟩
  go_wp2_with fail
  go_ret
  exact ⟨rfl, c0.nil c1⟩

set_option maxHeartbeats 1000000 in
theorem expands_in (vl : Value) (l : List TokD) (w : World) (hb : Sees w 3 vl l.length (l.flatMap tokCells)) (h2 : l.length ≤ 2000) :
    Calls Try.prog 11 #[vl] w fun e w' => e = .returned (.bool true) ∧ Chg [] w w' := by
  have hb0 := Lib.hid hb
  have h20 := Lib.hid h2
  obtain ⟨nb, HB⟩ : ∃ n, Hid (l.length = n) := ⟨_, rfl⟩
  rw [HB.out] at hb h2
  obtain ⟨ao, cap, rfl, hcap, hno⟩ := hb.shape
  have HNO := Lib.hid hno; clear hno
  obtain ⟨R, hR⟩ : ∃ R, resE (expandL l []) = R := ⟨_, rfl⟩
  have HR := Lib.hid hR; clear hR
  go_enter Try.func11, Try.ntmps11
  go_wp2_with fail
  refine (first6 _).mono ?_
  rintro e w0 ⟨rfl, c0⟩
  go_wp2_with fail
  refine (expand_any _ _ l (hb0.out.chg0 c0) (by have := h20.out; omega)).mono ?_
  rintro e w1 ⟨vx, rfl, hx, c1, -⟩
  rw [HR.out] at hx
  rw [HR.out]
  go_wp2_with fail
  refine (tokens_any _ _ l ((hb0.out.chg0 c0).chg0 c1) (by have := h20.out; omega)).mono ?_
  rintro e w2 ⟨vt, rfl, ht, c2, -⟩
  go_wp2_with fail
  refine (expand_ref _ _ l ht.sees (by have := h20.out; omega)).mono ?_
  rintro e w3 ⟨vy, rfl, hy, c3, -⟩
  rw [HR.out] at hy
  rw [HR.out]
  obtain ⟨out, code⟩ := R
  simp only at hx hy ⊢
  go_wp2_with fail
  refine (first6 _).mono ?_
  rintro e w4 ⟨rfl, c4⟩
  go_wp2_with fail
  refine (same_yes _ _ _ _ _ out out (((hx.sees.chg0 c2).chg0 c3).chg0 c4) (hy.sees.chg0 c4) rfl).mono ?_
  rintro e w5 ⟨rfl, rfl⟩
  go_wp2_with fail
  go_ret
  exact ⟨by simp, (((c0.nil c1).nil c2).nil c3).nil c4⟩

theorem expandsTop (vl : Value) (l : List TokD) {w : World} (hb : Sees w 3 vl l.length (l.flatMap tokCells) ∧ l.length ≤ 9223372036854775807) :
    Calls Try.prog 11 #[vl] w fun e w' => e = .returned (.bool true) ∧ Chg [] w w' := by
  by_cases h : l.length ≤ 2000
  · exact expands_in vl l w hb.1 h
  · exact expands_out vl _ _ w hb.1 (by omega) hb.2
end Go.Proofs.Ytoacegccpajkoaa
