/- Contract of aqulaw21.first. No statement of the seat is proved here. -/
import Derived.Test.YtihoohhngiomdaaGreatDoorRefsAC
set_option linter.unusedVariables false
namespace Go.Aq
open Go.RowKit Go.Aq.Wd
def keyE : List UInt8 := [98, 97, 55, 56, 49, 54, 98, 102, 56, 102, 48, 49, 99, 102, 101, 97, 52, 49, 52, 49, 52, 48, 100, 101, 53, 100, 97, 101, 50, 50, 50, 51, 98, 48, 48, 51, 54, 49, 97, 51, 57, 54, 49, 55, 55, 97, 57, 99, 98, 52, 49, 48, 102, 102, 54, 49, 102, 50, 48, 48, 49, 53, 97, 100]
def refE : RefD := ⟨false, [109, 97, 105, 110], keyE⟩
def lineE : List UInt8 := [98, 114, 97, 110, 99, 104, 32, 34, 109, 97, 105, 110, 34, 32] ++ keyE ++ [10]
theorem encE : encodeL [refE] = (lineE, 0) := by decide +kernel
end Go.Aq
namespace Go.Proofs.YtihoohhngiomdaaGreatDoor
open Go.RowKit Go.Aq Go.Aq.Wd
set_option maxHeartbeats 1000000 in
theorem first_any (w : World) (hT : Tabs w) :
    Calls Tryz.prog 4 #[] w fun e w' => e = .returned (.bool true) ∧ Chg [] w w' := by
  obtain ⟨K, hK⟩ : ∃ K, w.heap.size = K := ⟨_, rfl⟩
  have hbx : Blk (w.alloc (.cells #[.bool false, .string (str [109, 97, 105, 110]), .string (str keyE)] 24)) K #[.bool false, .string (str [109, 97, 105, 110]), .string (str keyE)] 24 := Blk.new_at w _ _ hK
  have hcx : Chg [] w (w.alloc (.cells #[.bool false, .string (str [109, 97, 105, 110]), .string (str keyE)] 24)) := (Chg.refl _ _).alloc _
  have hse := Sees.blk hbx
  have hen := fun w' (h : Chg [] (w.alloc (.cells #[.bool false, .string (str [109, 97, 105, 110]), .string (str keyE)] 24)) w') => encode_any w' (hT.chg (hcx.nil h)) (.slice (some ⟨K, 0, none⟩) 1 1) [refE] (hse.chg0 h) (by decide) (by
    intro r hr
    simp only [List.mem_singleton] at hr
    subst hr
    decide)
  rw [encE] at hen
  have r1 : ∀ w, (Op.stringOp .add ⟨#[98, 114, 97, 110, 99, 104, 32, 34, 109, 97, 105, 110, 34, 32]⟩ ⟨#[98, 97, 55, 56, 49, 54, 98, 102, 56, 102, 48, 49, 99, 102, 101, 97, 52, 49, 52, 49, 52, 48, 100, 101, 53, 100, 97, 101, 50, 50, 50, 51, 98, 48, 48, 51, 54, 49, 97, 51, 57, 54, 49, 55, 55, 97, 57, 99, 98, 52, 49, 48, 102, 102, 54, 49, 102, 50, 48, 48, 49, 53, 97, 100]⟩).run Tryz.prog w = .ok (.string (str ([98, 114, 97, 110, 99, 104, 32, 34, 109, 97, 105, 110, 34, 32] ++ keyE))) w :=
    fun w => run_cat (show _ = _ from str_cat [98, 114, 97, 110, 99, 104, 32, 34, 109, 97, 105, 110, 34, 32] keyE) (by decide) w
  have r2 : ∀ w, (Op.stringOp .add (str ([98, 114, 97, 110, 99, 104, 32, 34, 109, 97, 105, 110, 34, 32] ++ keyE)) ⟨#[10]⟩).run Tryz.prog w = .ok (.string (str lineE)) w :=
    fun w => run_cat (show _ = _ from str_catL _ [10]) (by decide) w
  have e3 : ((str lineE).toList == (str lineE).toList) = true := by simp
  go_enter Tryz.func4, Tryz.ntmps4
  go_wp2_with fail
  refine (hen _ (Chg.refl _ _)).mono ?_
  rintro e w1 ⟨v1, rfl, hs1, -, c1⟩
  have hcv := fun w' (h : Chg [] w1 w') => run_str8 (hs1.chg0 h)
  have hcv1 := hcv w1 (Chg.refl _ _)
  have C1 := Lib.hid (hcx.nil c1)
  clear hen hcv hs1 c1 hcx hbx hse
  generalize [98, 114, 97, 110, 99, 104, 32, 34, 109, 97, 105, 110, 34, 32] ++ keyE = l1 at *
  generalize lineE = l2 at *
  go_wp2_with fail
  go_ret
  exact ⟨rfl, C1.out⟩
end Go.Proofs.YtihoohhngiomdaaGreatDoor
