/- Contracts of sha.Key, sha.Valid and of what the examples of chapter 3 fix (function first of aqulaw3). No statement of the seat is proved here. -/
import Derived.Test.YtgjmcpmdhilkeaaShaSum
import Derived.Test.YtgjmcpmdhilkeaaNumUnhex
import Derived.Lib.SlBytesConst
set_option linter.unusedVariables false
namespace Go.Aq
open Go.RowKit
theorem unD_hxD (n : Nat) (h : n < 16) : unD (hxD n) = (n : Int) := by
  have h' : n = 0 ∨ n = 1 ∨ n = 2 ∨ n = 3 ∨ n = 4 ∨ n = 5 ∨ n = 6 ∨ n = 7 ∨ n = 8 ∨ n = 9 ∨ n = 10 ∨ n = 11 ∨ n = 12 ∨ n = 13 ∨ n = 14 ∨ n = 15 := by omega
  rcases h' with rfl | rfl | rfl | rfl | rfl | rfl | rfl | rfl | rfl | rfl | rfl | rfl | rfl | rfl | rfl | rfl <;> decide
theorem unhex_hex : ∀ b : List UInt8, unhexL (hexL b) = some b
  | [] => rfl
  | x :: t => by
    have hx := x.toNat_lt
    have e : hexL (x :: t) = hxD (x.toNat / 16) :: hxD (x.toNat % 16) :: hexL t := by simp [hexL]
    rw [e, unhexL, unD_hxD _ (by omega), unD_hxD _ (by omega), if_neg (by omega), unhex_hex t]
    simp only [Option.map_some, Int.toNat_natCast]
    rw [Nat.div_add_mod]
    simp
def validB (s : List UInt8) : Bool := match unhexL s with | some bs => bs.length == 32 | none => false
theorem validB_hex (b : List UInt8) (h : b.length = 32) : validB (hexL b) = true := by unfold validB; rw [unhex_hex]; simp [h]
theorem validB_odd (s : List UInt8) (h : s.length % 2 ≠ 0) : validB s = false := by unfold validB; rw [unhexL_odd s h]
def abcKey : List UInt8 := [98, 97, 55, 56, 49, 54, 98, 102, 56, 102, 48, 49, 99, 102, 101, 97, 52, 49, 52, 49, 52, 48, 100, 101, 53, 100, 97, 101, 50, 50, 50, 51, 98, 48, 48, 51, 54, 49, 97, 51, 57, 54, 49, 55, 55, 97, 57, 99, 98, 52, 49, 48, 102, 102, 54, 49, 102, 50, 48, 48, 49, 53, 97, 100]
theorem abc_key : hexL (Sha.sum [97, 98, 99]) = abcKey := by decide +kernel
end Go.Aq
namespace Go.Proofs.Ytgjmcpmdhilkeaa
open Go.RowKit Go.Aq Go.Aq.Sha
set_option maxHeartbeats 400000 in
theorem key_any (w : World) (v : Value) (n : Nat) (b : List UInt8) (hv : Sees w 1 v n (Bs b)) (hn : n ≤ 1000000) :
    Calls Try.prog 10 #[v] w fun e w' => e = .returned (.string (str (hexL (sum b)))) ∧ Chg [] w w' := by
  go_enter Try.func10, Try.ntmps10
  go_wp2_with fail
  refine (sum_any w v n b hv hn).mono ?_
  rintro e w1 ⟨v', rfl, hf⟩
  go_wp2_with fail
  refine (hex_any w1 v' 32 (sum b) hf.own.sees (by omega)).mono ?_
  rintro e w2 ⟨rfl, hc⟩
  go_wp2_with fail
  go_ret
  exact ⟨rfl, hf.chg.nil hc⟩
set_option maxHeartbeats 400000 in
theorem valid_any (w : World) (s : List UInt8) (hs : s.length ≤ 1000000) :
    Calls Try.prog 12 #[.string (str s)] w fun e w' => e = .returned (.bool (validB s)) ∧ Chg [] w w' := by
  go_enter Try.func12, Try.ntmps12
  go_wp2_with fail
  refine (unhex_any w s hs).mono ?_
  rintro e w1 (⟨bs, v', hu, rfl, hf⟩ | ⟨hu, rfl, hc⟩)
  · obtain ⟨ao, cap, rfl, hcap⟩ := hf.shape
    have hv : validB s = (bs.length == 32) := by unfold validB; rw [hu]
    have HV := Lib.hid hv
    have hc := hf.chg
    clear hu hv hf
    generalize bs.length = k at *
    go_wp2_with fail
    go_ret
    exact ⟨ret_bool (by rw [HV.out, Bool.eq_iff_iff]; simp; omega), hc⟩
  · have hv : validB s = false := by unfold validB; rw [hu]
    have HV := Lib.hid hv
    clear hu hv
    go_wp2_with fail
    go_ret
    exact ⟨ret_bool HV.out.symm, hc⟩
set_option maxHeartbeats 400000 in
theorem first3 (w : World) : Calls Try.prog 5 #[] w fun e w' => e = .returned (.bool true) ∧ Chg [] w w' := by
  have kc := fun (w : World) (C : Array Value) (n c : Nat) => Lib.run_convert_bytes_const (P := Try.prog) w 22 5 C n c Try.underlying22 Try.underlying5
  go_enter Try.func5, Try.ntmps5
  go_wp2_with fail
  refine (key_any _ _ 3 [97, 98, 99] ⟨rfl, _, _, rfl, by decide, by simp, fun ad had j u hu => ?_⟩ (by decide)).mono ?_
  · cases had
    rw [Addr.add_lit, Nat.zero_add, World.cell?_alloc_mark]
    have : Bs [97, 98, 99] = [.int .u8 97, .int .u8 98, .int .u8 99] := by rfl
    rw [this] at hu
    rw [← hu]
    simp
  rintro e w1 ⟨rfl, hc⟩
  rw [abc_key]
  have hc' : Chg [] w w1 := (Chg.alloc (.refl _ _) _).nil hc
  generalize w.alloc _ = w0 at *
  clear hc
  have tk : ((str abcKey).toList == [98, 97, 55, 56, 49, 54, 98, 102, 56, 102, 48, 49, 99, 102, 101, 97, 52, 49, 52, 49, 52, 48, 100, 101, 53, 100, 97, 101, 50, 50, 50, 51, 98, 48, 48, 51, 54, 49, 97, 51, 57, 54, 49, 55, 55, 97, 57, 99, 98, 52, 49, 48, 102, 102, 54, 49, 102, 50, 48, 48, 49, 53, 97, 100]) = true := by
    rw [str_toList]
    decide
  go_wp2_with fail
  refine (sum_any w1 _ 0 [] (Sees.nil _ _) (by decide)).mono ?_
  rintro e w2 ⟨v', rfl, hf⟩
  obtain ⟨ao, cap, rfl, hcap⟩ := hf.shape
  have hc2 := hc'.nil hf.chg
  clear hf
  go_wp2_with fail
  go_ret
  exact ⟨rfl, hc2⟩
end Go.Proofs.Ytgjmcpmdhilkeaa
