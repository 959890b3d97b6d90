/- Contract of sha.Valid. No statement of the seat is proved here. -/
import Derived.Test.YtihoohhngiomdaaDoorNumUnhex
set_option linter.unusedVariables false
namespace Go.Aq
open Go.RowKit
theorem unD_hxD (n : Nat) (h : n < 16) : unD (hxD n) = (n : Int) := by
  have h' : n = 0 ∨ n = 1 ∨ n = 2 ∨ n = 3 ∨ n = 4 ∨ n = 5 ∨ n = 6 ∨ n = 7 ∨ n = 8 ∨ n = 9 ∨ n = 10 ∨ n = 11 ∨ n = 12 ∨ n = 13 ∨ n = 14 ∨ n = 15 := by omega
  rcases h' with rfl | rfl | rfl | rfl | rfl | rfl | rfl | rfl | rfl | rfl | rfl | rfl | rfl | rfl | rfl | rfl <;> decide
theorem unhex_hex : ∀ b : List UInt8, unhexL (hexL b) = some b
  | [] => rfl
  | x :: t => by
    have hx := x.toNat_lt
    have e : hexL (x :: t) = hxD (x.toNat / 16) :: hxD (x.toNat % 16) :: hexL t := by simp [hexL]
    rw [e, unhexL, unD_hxD _ (by omega), unD_hxD _ (by omega), if_neg (by omega), unhex_hex t]
    simp only [Option.map_some, Int.toNat_natCast]
    rw [Nat.div_add_mod]
    simp
def validB (s : List UInt8) : Bool := match unhexL s with | some bs => bs.length == 32 | none => false
theorem validB_hex (b : List UInt8) (h : b.length = 32) : validB (hexL b) = true := by unfold validB; rw [unhex_hex]; simp [h]
theorem validB_odd (s : List UInt8) (h : s.length % 2 ≠ 0) : validB s = false := by unfold validB; rw [unhexL_odd s h]
end Go.Aq
namespace Go.Proofs.YtihoohhngiomdaaDoor
open Go.RowKit Go.Aq
set_option maxHeartbeats 400000 in
theorem valid_any (w : World) (s : List UInt8) (hs : s.length ≤ 1000000) :
    Calls Tryd.prog 19 #[.string (str s)] w fun e w' => e = .returned (.bool (validB s)) ∧ Chg [] w w' := by
  go_enter Tryd.func19, Tryd.ntmps19
  go_wp2_with fail
  refine (unhex_any w s hs).mono ?_
  rintro e w1 (⟨bs, v', hu, rfl, hf⟩ | ⟨hu, rfl, hc⟩)
  · obtain ⟨ao, cap, rfl, hcap⟩ := hf.shape
    have hv : validB s = (bs.length == 32) := by unfold validB; rw [hu]
    have HV := Lib.hid hv
    have hc := hf.chg
    clear hu hv hf
    generalize bs.length = k at *
    go_wp2_with fail
    go_ret
    exact ⟨ret_bool (by rw [HV.out, Bool.eq_iff_iff]; simp; omega), hc⟩
  · have hv : validB s = false := by unfold validB; rw [hu]
    have HV := Lib.hid hv
    clear hu hv
    go_wp2_with fail
    go_ret
    exact ⟨ret_bool HV.out.symm, hc⟩
end Go.Proofs.YtihoohhngiomdaaDoor
