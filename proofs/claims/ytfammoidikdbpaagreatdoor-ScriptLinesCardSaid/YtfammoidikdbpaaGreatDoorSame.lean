/- Contracts of aquref.Bytes and aquref.CopyBytes. No statement of the seat is proved here. -/
import Derived.Test.YtfammoidikdbpaaGreatDoorStr
namespace Go.Proofs.YtfammoidikdbpaaGreatDoor
open Go.RowKit Go.Aq
set_option maxHeartbeats 400000 in
theorem same_any (w : World) (v v' : Value) (n n' : Nat) (a b : List UInt8) (h1 : Sees w 1 v n (Bs a)) (h2 : Sees w 1 v' n' (Bs b)) :
    Calls Tryz.prog 33 #[v, v'] w fun e w' => e = .returned (.bool (decide (a = b))) ∧ w = w' := by
  have r1 := run_str8 h1
  have r2 := run_str8 h2
  obtain ⟨ao, cap, rfl, -⟩ := h1.shape
  obtain ⟨ao', cap', rfl, -⟩ := h2.shape
  go_enter Tryz.func33, Tryz.ntmps33
  go_wp2
  go_ret
  refine ⟨?_, rfl⟩
  rw [← str_eq]
  rfl
theorem same_yes (w : World) (v v' : Value) (n n' : Nat) (a b : List UInt8) (h1 : Sees w 1 v n (Bs a)) (h2 : Sees w 1 v' n' (Bs b)) (h : a = b) :
    Calls Tryz.prog 33 #[v, v'] w fun e w' => e = .returned (.bool true) ∧ w = w' := by
  have := same_any w v v' n n' a b h1 h2
  simpa [h] using this

set_option maxHeartbeats 400000 in
theorem copy_any (w : World) (v : Value) (n : Nat) (bs : List UInt8) (hv : Sees w 1 v n (Bs bs)) (hb : n ≤ 140737488355328) (sl_u8 : SliceTy Tryz.prog 24 5 (.int .u8 0) 1 1) :
    Calls Tryz.prog 63 #[v] w fun e w' => ∃ v', e = .returned v' ∧ Own w' 5 1 v' n (Bs bs) ∧ Chg [] w w' ∧ ∀ k ∈ v'.ownBlock.toList, w.heap.size ≤ k := by
  obtain ⟨ao, cap, rfl, -⟩ := hv.shape
  go_enter Tryz.func63, Tryz.ntmps63
  go_wp2_with (at_builtin; refine wpList_app rfl _ _ 24 rfl sl_u8 (n := 0) (xs := []) (Own.made w 5 1) rfl (hv.chg0 (Chg.alloc (Chg.refl _ _) _)) rfl (Bs_one bs) (by omega) (by omega) ?_; intro v' w' ho hc hn)
  go_ret
  refine ⟨v', rfl, by simpa using ho, Chg.trans (Chg.alloc (Chg.refl _ _) _) hc (by simp [Value.ownBlock]), fun k hk => ?_⟩
  rcases hn k hk with h | h
  · simp [Value.ownBlock] at h; omega
  · simp at h; omega
end Go.Proofs.YtfammoidikdbpaaGreatDoor
