/- LzFinds: any bytes as tokens: the law's function returns true at all arguments. -/
import Derived.Test.YtoacegccpajkoaaTokens
import Derived.Test.YtoacegccpajkoaaRunsPlain
import Derived.Test.YtoacegccpajkoaaSame
import Derived.Test.YtoacegccpajkoaaOpen
namespace Go.Proofs.Ytoacegccpajkoaa
open Go.RowKit Go.Aq Go.Maps

theorem finds_out (vb : Value) (n : Nat) (xs : List Value) (w : World) (hb : Sees w 1 vb n xs) (h : 4000 < n) :
    Calls Try.prog 8 #[vb] w fun e w' => e = .returned (.bool true) ∧ Chg [] w w' := by
  obtain ⟨ao, cap, rfl, hcap, hno⟩ := hb.shape
  have HNO := Lib.hid hno; clear hno
  go_enter Try.func8, Try.ntmps8
  go_wp2_with fail
  refine (first6 _).mono ?_
  rintro e w0 ⟨rfl, c0⟩
  go_wp2_with fail
  refine (first6 _).mono ?_
  rintro e w1 ⟨rfl, c1⟩
  go_wp2_with fail
  go_ret
  exact ⟨rfl, c0.nil c1⟩

set_option maxHeartbeats 1000000 in
theorem finds_in (vb : Value) (b : List UInt8) (w : World) (hb : Sees w 1 vb b.length (Bs b)) (h2 : b.length ≤ 4000) :
    Calls Try.prog 8 #[vb] w fun e w' => e = .returned (.bool true) ∧ Chg [] w w' := by
  have hb0 := Lib.hid hb
  have h20 := Lib.hid h2
  obtain ⟨nb, HB⟩ : ∃ n, Hid (b.length = n) := ⟨_, rfl⟩
  rw [HB.out] at hb h2
  obtain ⟨ao, cap, rfl, hcap, hno⟩ := hb.shape
  have HNO := Lib.hid hno; clear hno
  have htl : (toks b).length ≤ 100000 := by have := tokF_length b b.length 0; have := h20.out; show (tokF b b.length 0).length ≤ _; omega
  have HTL := Lib.hid htl; clear htl
  go_enter Try.func8, Try.ntmps8
  go_wp2_with fail
  refine (first6 _).mono ?_
  rintro e w0 ⟨rfl, c0⟩
  go_wp2_with fail
  refine (copy_any _ _ b.length b (hb0.out.chg0 c0) (by have := h20.out; omega) sl_u8').mono ?_
  rintro e w1 ⟨vi, rfl, hi, c1, -⟩
  go_wp2_with fail
  refine (find_any _ _ b hi.sees (by have := h20.out; omega)).mono ?_
  rintro e w2 ⟨vx, rfl, hx, c2, -⟩
  go_wp2_with fail
  refine (find_ref _ _ b (hb0.out.chg0 ((c0.nil c1).nil c2)) (by have := h20.out; omega)).mono ?_
  rintro e w3 ⟨vy, rfl, hy, c3, -⟩
  go_wp2_with fail
  refine (first6 _).mono ?_
  rintro e w4 ⟨rfl, c4⟩
  go_wp2_with fail
  refine (tokens_any _ _ (toks b) ((hx.sees.chg0 c3).chg0 c4) HTL.out).mono ?_
  rintro e w5 ⟨vt, rfl, ht, c5, -⟩
  go_wp2_with fail
  refine (sameTok_yes _ _ _ (toks b) ht.sees ((hy.sees.chg0 c4).chg0 c5) HTL.out).mono ?_
  rintro e w6 ⟨rfl, q, rfl⟩
  have c6 : Chg [] w5 (w5.drewN q) := (Chg.refl _ _).drewN q
  generalize w5.drewN q = w6 at *
  have c26 := ((((c2.nil c3).nil c4).nil c5).nil c6)
  have c06 := (c0.nil c1).nil c26
  go_wp2_with fail
  refine (same_yes _ _ _ _ _ b b (hi.sees.chg0 c26) (hb0.out.chg0 c06) rfl).mono ?_
  rintro e w7 ⟨rfl, rfl⟩
  go_wp2_with fail
  go_ret
  exact ⟨rfl, c06⟩

theorem findsTop (vb : Value) (nb : Nat) (bs : List UInt8) {w : World} (hb : Sees w 1 vb nb (Bs bs) ∧ nb ≤ 9223372036854775807) :
    Calls Try.prog 8 #[vb] w fun e w' => e = .returned (.bool true) ∧ Chg [] w w' := by
  have hl : nb = bs.length := by have := hb.1.len; simp [Bs] at this; omega
  subst hl
  by_cases h : bs.length ≤ 4000
  · exact finds_in vb bs w hb.1 h
  · exact finds_out vb _ _ w hb.1 (by omega)
end Go.Proofs.Ytoacegccpajkoaa
