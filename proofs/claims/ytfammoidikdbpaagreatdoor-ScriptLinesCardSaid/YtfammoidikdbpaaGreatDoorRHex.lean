/- Contract of aquref1.Hex. No statement of the seat is proved here. -/
import Derived.Test.YtfammoidikdbpaaGreatDoorStr
import Derived.Test.YtfammoidikdbpaaGreatDoorArr
import Derived.Lib.Hide
import Derived.Deep.LoopGhost
import Derived.Deep.RegionLaw
set_option linter.unusedVariables false
namespace Go.Aq
open Go.RowKit
def digitsS : ByteArray := ⟨#[48, 49, 50, 51, 52, 53, 54, 55, 56, 57, 97, 98, 99, 100, 101, 102]⟩
def hxD (n : Nat) : UInt8 := if n < 10 then UInt8.ofNat (48 + n) else UInt8.ofNat (87 + n)
def hexL (b : List UInt8) : List UInt8 := b.flatMap fun x => [hxD (x.toNat / 16), hxD (x.toNat % 16)]
theorem hexL_length (b : List UInt8) : (hexL b).length = 2 * b.length := by
  induction b with
  | nil => rfl
  | cons a t ih => simp only [hexL, List.flatMap_cons, List.length_append, List.length_cons, List.length_nil] at ih ⊢; omega
theorem hexL_snoc (b : List UInt8) (x : UInt8) : hexL (b ++ [x]) = hexL b ++ [hxD (x.toNat / 16), hxD (x.toNat % 16)] := by simp [hexL]
end Go.Aq
namespace Go.Proofs.YtfammoidikdbpaaGreatDoor
open Go.RowKit Go.Aq
theorem sl_u8 : SliceTy Tryz.prog 24 5 (.int .u8 0) 1 1 := ⟨Tryz.underlying24, by kernel_rfl, rfl, by decide⟩
set_option maxRecDepth 100000 in
theorem idxDigits (w : World) (n : Nat) (h : n < 16) : (Instr.index 9 (.string digitsS) (.int .u8 (n : Int))).run Tryz.prog w = .ok (.int .u8 ((hxD n).toNat : Int)) w := by
  have h' : n = 0 ∨ n = 1 ∨ n = 2 ∨ n = 3 ∨ n = 4 ∨ n = 5 ∨ n = 6 ∨ n = 7 ∨ n = 8 ∨ n = 9 ∨ n = 10 ∨ n = 11 ∨ n = 12 ∨ n = 13 ∨ n = 14 ∨ n = 15 := by omega
  rcases h' with rfl | rfl | rfl | rfl | rfl | rfl | rfl | rfl | rfl | rfl | rfl | rfl | rfl | rfl | rfl | rfl <;> rfl
set_option maxHeartbeats 400000 in
theorem refHex_any (w : World) (v : Value) (n : Nat) (b : List UInt8) (hv : Sees w 1 v n (Bs b)) (hn : n ≤ 1000000) :
    Calls Tryz.prog 49 #[v] w fun e w' => e = .returned (.string (str (hexL b))) ∧ Chg [] w w' := by
  have hbl : b.length = n := by have := hv.len; rw [Bs_length] at this; omega
  have HBL := Lib.hid hbl; clear hbl
  obtain ⟨ao, cap, rfl, hcap, hnil⟩ := hv.shape
  have HNIL := Lib.hid hnil; clear hnil
  go_enter Tryz.func49, Tryz.ntmps49
  go_wp2_with fail
  go_loopg [4, 5] n (fun k vo vi wr => ∃ (i : Nat), vi = .int .i64 i ∧ i + k = n ∧ Fresh w wr 5 1 vo (2 * i) (Bs (hexL (b.take i))))
  case atStart => exact ⟨0, rfl, by omega, Fresh.nil w _ _⟩
  case round =>
    obtain ⟨i, rfl, hik, hf⟩ := hrel
    by_cases hlt : i < n
    · obtain ⟨g, off, cap', hv', hc', hcell⟩ := (hv.chg0 hf.chg).at1 (by omega)
      simp only [Value.slice.injEq, true_and] at hv'
      obtain ⟨rfl, rfl⟩ := hv'
      have hib : i < b.length := by have := HBL.out; omega
      have x0 : wr.cell? ⟨g, off + i, none⟩ = some (.int .u8 ((b[i]'hib).toNat : Int)) := by rw [hcell i hlt, Bs_get _ _ hib]
      have hx := (b[i]'hib).toNat_lt
      have hsn := hexL_snoc (b.take i) (b[i]'hib)
      rw [← List.take_succ_eq_append_getElem hib] at hsn
      generalize (b[i]'hib).toNat = x at *
      have hand : bits .and .u8 (x : Int) 15 = ((x % 16 : Nat) : Int) := by
        have := (bits_u8 x 15 hx (by decide)).1
        rw [show x &&& 15 = x % 16 from Nat.and_two_pow_sub_one_eq_mod x 4] at this
        exact this
      have hdiv : (x : Int) / 16 = ((x / 16 : Nat) : Int) := by simp
      have i1 := fun w => idxDigits w (x / 16) (by omega)
      have i2 := fun w => idxDigits w (x % 16) (by omega)
      generalize hxD (x / 16) = d1 at *
      generalize hxD (x % 16) = d2 at *
      generalize x / 16 = q1 at *
      generalize x % 16 = q2 at *
      unfold digitsS at i1 i2
      have HSN := Lib.hid hsn; clear hsn
      have HIK := Lib.hid hik; clear hik
      clear hcell
      have hfA := (hf.to ((Chg.refl [] wr).alloc (.cells #[.int .u8 (d1.toNat : Int), .int .u8 (d2.toNat : Int)] 5)).drew)
      go_wp2_with fail
      go_region_law ((refine step_appF (w0 := w) (by rfl) _ _ 24 (by rfl) sl_u8 (by exact hfA) (by rfl) (Sees.row (cs := #[.int .u8 (d1.toNat : Int), .int .u8 (d2.toNat : Int)]) (by exact Blk.new wr _ 5) (m := 2) rfl) (by rfl) (by simp [Value.oneCell']) (by omega) (by omega) ?_; intro v3 w3 hF3 c3))
      all_goals
        go_wp2_with fail
        go_roundg (gk - 1)
        case measure => have := HIK.out; omega
        case rel =>
          refine ⟨i + 1, by go_num, by have := HIK.out; omega, ?_⟩
          rw [HSN.out, Bs_append]
          exact hF3
    · have hi : i = n := by omega
      subst hi
      rw [List.take_of_length_le (by have := HBL.out; omega)] at hf
      have r1 := run_str8 hf.own.sees
      have hcw := hf.chg
      clear hf
      go_wp2_with fail
      go_ret
      exact ⟨rfl, hcw⟩
end Go.Proofs.YtfammoidikdbpaaGreatDoor
