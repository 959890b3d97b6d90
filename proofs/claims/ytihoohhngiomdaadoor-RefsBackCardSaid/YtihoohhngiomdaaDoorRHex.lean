/- Contract of aquref1.Hex. No statement of the seat is proved here. -/
import Derived.Test.YtihoohhngiomdaaDoorStr
import Derived.Test.YtihoohhngiomdaaDoorArr
import Derived.Lib.Hide
import Derived.Deep.LoopGhost
import Derived.Deep.RegionLaw
set_option linter.unusedVariables false
namespace Go.Aq
open Go.RowKit
def digitsS : ByteArray := ⟨#[48, 49, 50, 51, 52, 53, 54, 55, 56, 57, 97, 98, 99, 100, 101, 102]⟩
def hxD (n : Nat) : UInt8 := if n < 10 then UInt8.ofNat (48 + n) else UInt8.ofNat (87 + n)
def hexL (b : List UInt8) : List UInt8 := b.flatMap fun x => [hxD (x.toNat / 16), hxD (x.toNat % 16)]
theorem hexL_length (b : List UInt8) : (hexL b).length = 2 * b.length := by
  induction b with
  | nil => rfl
  | cons a t ih => simp only [hexL, List.flatMap_cons, List.length_append, List.length_cons, List.length_nil] at ih ⊢; omega
theorem hexL_snoc (b : List UInt8) (x : UInt8) : hexL (b ++ [x]) = hexL b ++ [hxD (x.toNat / 16), hxD (x.toNat % 16)] := by simp [hexL]
end Go.Aq
namespace Go.Proofs.YtihoohhngiomdaaDoor
open Go.RowKit Go.Aq
theorem sl_u8 : SliceTy Tryd.prog 29 5 (.int .u8 0) 1 1 := ⟨Tryd.underlying29, by kernel_rfl, rfl, by decide⟩
set_option maxRecDepth 100000 in
theorem idxDigits (w : World) (n : Nat) (h : n < 16) : (Instr.index 9 (.string digitsS) (.int .u8 (n : Int))).run Tryd.prog w = .ok (.int .u8 ((hxD n).toNat : Int)) w := by
  have h' : n = 0 ∨ n = 1 ∨ n = 2 ∨ n = 3 ∨ n = 4 ∨ n = 5 ∨ n = 6 ∨ n = 7 ∨ n = 8 ∨ n = 9 ∨ n = 10 ∨ n = 11 ∨ n = 12 ∨ n = 13 ∨ n = 14 ∨ n = 15 := by omega
  rcases h' with rfl | rfl | rfl | rfl | rfl | rfl | rfl | rfl | rfl | rfl | rfl | rfl | rfl | rfl | rfl | rfl <;> rfl
end Go.Proofs.YtihoohhngiomdaaDoor
