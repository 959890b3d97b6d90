/- Contracts of aquref.Bytes and aquref.CopyBytes. No statement of the seat is proved here. -/
import Derived.Test.YtihoohhngiomdaaGreatDoorStr
namespace Go.Proofs.YtihoohhngiomdaaGreatDoor
open Go.RowKit Go.Aq
set_option maxHeartbeats 400000 in
theorem same_any (w : World) (v v' : Value) (n n' : Nat) (a b : List UInt8) (h1 : Sees w 1 v n (Bs a)) (h2 : Sees w 1 v' n' (Bs b)) :
    Calls Tryz.prog 14 #[v, v'] w fun e w' => e = .returned (.bool (decide (a = b))) ∧ w = w' := by
  have r1 := run_str8 h1
  have r2 := run_str8 h2
  obtain ⟨ao, cap, rfl, -⟩ := h1.shape
  obtain ⟨ao', cap', rfl, -⟩ := h2.shape
  go_enter Tryz.func14, Tryz.ntmps14
  go_wp2
  go_ret
  refine ⟨?_, rfl⟩
  rw [← str_eq]
  rfl
theorem same_yes (w : World) (v v' : Value) (n n' : Nat) (a b : List UInt8) (h1 : Sees w 1 v n (Bs a)) (h2 : Sees w 1 v' n' (Bs b)) (h : a = b) :
    Calls Tryz.prog 14 #[v, v'] w fun e w' => e = .returned (.bool true) ∧ w = w' := by
  have := same_any w v v' n n' a b h1 h2
  simpa [h] using this

end Go.Proofs.YtihoohhngiomdaaGreatDoor
