/- Contract of aqulaw25.Plain. No statement of the seat is proved here. -/
import Derived.Test.YtgbbjbldlfpbcaaGreatDoorSame26
import Derived.Test.YtgbbjbldlfpbcaaGreatDoorBack26
set_option linter.unusedVariables false
namespace Go.Proofs.YtgbbjbldlfpbcaaGreatDoor
open Go.RowKit Go.Aq Go.Aq.Wd
set_option maxRecDepth 100000 in
set_option maxHeartbeats 4000000 in
theorem actplain_any (a : ActD) (ap am : Option Addr) (np cp nm cm : Nat) (w : World) :
    Calls Tryz.prog 9 #[actV a (.slice ap np cp) (.slice am nm cm)] w fun e w' => e = .returned (actV a (.slice ap np cp) (.slice am nm cm)) ∧ Chg [] w w' := by
  obtain ⟨K, hK⟩ : ∃ K, w.heap.size = K := ⟨_, rfl⟩
  unfold actV actL
  have hc : ∀ o o', Chg [] w ((w.alloc o).alloc o') := fun o o' => ((Chg.refl [] w).alloc o).alloc o'
  have HC := Lib.hid hc
  clear hc
  go_enter Tryz.func9, Tryz.ntmps9
  go_wp2_with fail
  have hs1 : ∀ o, (w.alloc o).heap.size = K + 1 := fun o => by simp [hK]
  refine bodyPost_ret (results_A rfl _ _ (Blk.new_at (w.alloc _) _ _ (hs1 _)) ract_ty rfl) rfl ⟨rfl, HC.out _ _⟩
end Go.Proofs.YtgbbjbldlfpbcaaGreatDoor
