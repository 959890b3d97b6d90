/- Contract of script.sides, script.front. No statement of the seat is proved here. -/
import Derived.Test.YtfammoidikdbpaaGreatDoorRPic
import Derived.Test.YtfammoidikdbpaaGreatDoorShelf
import Derived.Laws.Concat
set_option linter.unusedVariables false
namespace Go.Aq
open Go.RowKit
/-- An act's picture and mask are seen, in blocks made since w0. -/
structure ActR (w0 w : World) (a : ActD) (pv mv : Value) : Prop where
  pix : Sees w 1 pv a.pix.length (Bs a.pix)
  mask : Sees w 1 mv a.mask.length (Bs a.mask)
  newP : ∀ k ∈ eyes pv, w0.heap.size ≤ k
  newM : ∀ k ∈ eyes mv, w0.heap.size ≤ k
theorem actR_pic {w w2 w3 w5 : World} {K nn : Nat} {pv : Value} {a : ActD} (hsee : Sees w3 1 pv nn (Bs a.pix)) (hnew : ∀ k ∈ eyes pv, w2.heap.size ≤ k) (hK : w.heap.size = K) (hs : K < w2.heap.size) (hc1 : Chg [] w w2) (hc3 : Chg [] w2 w3) (hc5 : Chg [K] w3 w5)
    (hl : a.pix.length = nn) (hm : a.mask = []) : ActR w w5 a pv (.slice none 0 0) ∧ Chg [] w w5 := by
  subst hl
  refine ⟨⟨hsee.chg hc5 fun k hk => ?_, ?_, fun k hk => ?_, by simp [eyes]⟩, (hc1.nil hc3).trans hc5 fun k hk => ?_⟩
  · have := hnew k hk; simp; omega
  · rw [hm]; exact Sees.nil _ _
  · have := hnew k hk; omega
  · simp at hk; right; omega
theorem actR_nil {w w2 w5 : World} {K : Nat} {a : ActD} (hK : w.heap.size = K) (hc1 : Chg [] w w2) (hc5 : Chg [K] w2 w5) (hp : a.pix = []) (hm : a.mask = []) : ActR w w5 a (.slice none 0 0) (.slice none 0 0) ∧ Chg [] w w5 := by
  refine ⟨⟨?_, ?_, by simp [eyes], by simp [eyes]⟩, hc1.trans hc5 fun k hk => ?_⟩
  · rw [hp]; exact Sees.nil _ _
  · rw [hm]; exact Sees.nil _ _
  · simp at hk; right; omega
theorem run_cat2 {P : Program} {a b c : ByteArray} (h : a ++ b = c) (hb : a.size + b.size ≤ 9223372036854775807) (w : World) : (Op.stringOp .add a b).run P w = .ok (.string c) w := by rw [run_string_add_sum w a b hb, h]
theorem str_cat2 (a b : List UInt8) : str a ++ str b = str (a ++ b) := by
  apply ByteArray.ext
  show (str a ++ str b).data = _
  simp [str]
end Go.Aq
namespace Go.Proofs.YtfammoidikdbpaaGreatDoor
open Go.RowKit Go.Aq Go.Aq.Wd
theorem act_ty : ArrTy Tryz.prog 28 13 := ⟨⟨_, Tryz.underlying28, rfl⟩, by kernel_rfl⟩
def actZs : Array Value := (actL actZ (.slice none 0 0) (.slice none 0 0)).toArray
theorem itoa4 (n : Nat) (h : n < 4) (w : World) : Calls Tryz.prog 13 #[.int .i64 n] w fun e w' => e = .returned (.string (str [UInt8.ofNat (48 + n)])) ∧ w' = w := by
  have e : Lib.decDigits n = [UInt8.ofNat (48 + n)] := by
    rcases (by omega : n = 0 ∨ n = 1 ∨ n = 2 ∨ n = 3) with rfl | rfl | rfl | rfl <;> decide +kernel
  have h := Tryz.strconv_Itoa_small n (by omega) w
  rw [e] at h
  exact h
end Go.Proofs.YtfammoidikdbpaaGreatDoor
