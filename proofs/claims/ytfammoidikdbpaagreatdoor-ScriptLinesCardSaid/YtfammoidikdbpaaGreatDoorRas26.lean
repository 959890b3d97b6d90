/- Contracts of aquref.Shape, aquref.Raster at equal pictures. No statement of the seat is proved here. -/
import Derived.Test.YtfammoidikdbpaaGreatDoorPix
import Derived.Test.YtfammoidikdbpaaGreatDoorSame
set_option linter.unusedVariables false
namespace Go.Proofs.YtfammoidikdbpaaGreatDoor
open Go.RowKit Go.Aq Go.Aq.Wd
set_option maxHeartbeats 2000000 in
theorem shape_yes (s : ShpD) (w : World) : Calls Tryz.prog 48 #[shpV s, shpV s] w fun e w' => e = .returned (.bool true) ∧ Chg [] w w' := by
  unfold shpV
  have hc : ∀ o o', Chg [] w ((w.alloc o).alloc o') := fun o o' => ((Chg.refl [] w).alloc o).alloc o'
  have HC := Lib.hid hc
  clear hc
  go_enter Tryz.func48, Tryz.ntmps48
  go_wp2_with fail
  go_ret
  exact ⟨rfl, HC.out _ _⟩
set_option maxHeartbeats 2000000 in
theorem raster_yes (s : ShpD) (va vb : Value) (na nb : Nat) (l : List UInt8) (w : World) (ha : Sees w 1 va na (Bs l)) (hb : Sees w 1 vb nb (Bs l)) :
    Calls Tryz.prog 20 #[rasV s va, rasV s vb] w fun e w' => e = .returned (.bool true) ∧ Chg [] w w' := by
  obtain ⟨K, hK⟩ : ∃ K, w.heap.size = K := ⟨_, rfl⟩
  unfold rasV
  have hbA : Blk ((w.alloc (.cells #[.int .i64 s.w, .int .i64 s.h, .int .i64 s.c, .int .i64 s.d, va] 26)).alloc (.cells #[.int .i64 s.w, .int .i64 s.h, .int .i64 s.c, .int .i64 s.d, vb] 26)) K #[.int .i64 s.w, .int .i64 s.h, .int .i64 s.c, .int .i64 s.d, va] 26 := (Blk.new_at w _ _ hK).alloc _
  have hbB : Blk ((w.alloc (.cells #[.int .i64 s.w, .int .i64 s.h, .int .i64 s.c, .int .i64 s.d, va] 26)).alloc (.cells #[.int .i64 s.w, .int .i64 s.h, .int .i64 s.c, .int .i64 s.d, vb] 26)) (K + 1) #[.int .i64 s.w, .int .i64 s.h, .int .i64 s.c, .int .i64 s.d, vb] 26 := Blk.new_at _ _ _ (by simp [hK])
  have hc : Chg [] w ((w.alloc (.cells #[.int .i64 s.w, .int .i64 s.h, .int .i64 s.c, .int .i64 s.d, va] 26)).alloc (.cells #[.int .i64 s.w, .int .i64 s.h, .int .i64 s.c, .int .i64 s.d, vb] 26)) := ((Chg.refl [] w).alloc _).alloc _
  have hsh := fun w' => shape_yes s w'
  unfold shpV at hsh
  go_enter Tryz.func20, Tryz.ntmps20
  go_wp2_with fail
  generalize ((w.alloc (.cells #[.int .i64 s.w, .int .i64 s.h, .int .i64 s.c, .int .i64 s.d, va] 26)).alloc (.cells #[.int .i64 s.w, .int .i64 s.h, .int .i64 s.c, .int .i64 s.d, vb] 26)) = w1 at *
  refine (hsh _).mono ?_
  rintro e w2 ⟨rfl, c2⟩
  obtain ⟨x0, x1, x2, x3, x4⟩ := Blk5 (hbA.chg0 c2)
  obtain ⟨y0, y1, y2, y3, y4⟩ := Blk5 (hbB.chg0 c2)
  have hc2 := hc.nil c2
  have hsm := same_yes w2 va vb na nb l l (ha.chg0 hc2) (hb.chg0 hc2) rfl
  clear hbA hbB hc c2 hsh ha hb
  go_wp2_with fail
  refine hsm.mono ?_
  rintro e w3 ⟨rfl, rfl⟩
  go_wp2_with fail
  go_ret
  exact ⟨rfl, hc2⟩
end Go.Proofs.YtfammoidikdbpaaGreatDoor
