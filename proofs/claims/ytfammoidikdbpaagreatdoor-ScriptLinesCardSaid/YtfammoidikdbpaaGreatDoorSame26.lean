/- Contract of aqulaw26.same at equal acts. No statement of the seat is proved here. -/
import Derived.Test.YtfammoidikdbpaaGreatDoorRas26
import Derived.Test.YtfammoidikdbpaaGreatDoorFront
set_option linter.unusedVariables false
namespace Go.Proofs.YtfammoidikdbpaaGreatDoor
open Go.RowKit Go.Aq Go.Aq.Wd
theorem Blk13 {w : World} {p : Nat} {a pv mv} {e : TypeId} (h : Blk w p (actL a pv mv).toArray e) :
    (w.cell? ⟨p, 0, none⟩ = some (.int .i64 a.kind) ∧ w.cell? ⟨p, 1, none⟩ = some (.int .i64 a.n) ∧ w.cell? ⟨p, 2, none⟩ = some (.int .i64 a.m) ∧ w.cell? ⟨p, 3, none⟩ = some (.string (str a.name)) ∧ w.cell? ⟨p, 4, none⟩ = some (.string (str a.other)) ∧ w.cell? ⟨p, 5, none⟩ = some (.string (str a.text)) ∧ w.cell? ⟨p, 6, none⟩ = some (.int .i64 a.key)) ∧
    (w.cell? ⟨p, 7, none⟩ = some (.int .i64 a.shp.w) ∧ w.cell? ⟨p, 8, none⟩ = some (.int .i64 a.shp.h) ∧ w.cell? ⟨p, 9, none⟩ = some (.int .i64 a.shp.c) ∧ w.cell? ⟨p, 10, none⟩ = some (.int .i64 a.shp.d) ∧ w.cell? ⟨p, 11, none⟩ = some pv ∧ w.cell? ⟨p, 12, none⟩ = some mv) :=
  ⟨⟨h.cell 0, h.cell 1, h.cell 2, h.cell 3, h.cell 4, h.cell 5, h.cell 6⟩, h.cell 7, h.cell 8, h.cell 9, h.cell 10, h.cell 11, h.cell 12⟩
set_option maxRecDepth 100000 in
set_option maxHeartbeats 4000000 in
theorem actsame_yes (a : ActD) (pa ma pb mb : Value) (w : World) (hpa : Sees w 1 pa a.pix.length (Bs a.pix)) (hma : Sees w 1 ma a.mask.length (Bs a.mask)) (hpb : Sees w 1 pb a.pix.length (Bs a.pix)) (hmb : Sees w 1 mb a.mask.length (Bs a.mask)) :
    Calls Tryz.prog 11 #[actV a pa ma, actV a pb mb] w fun e w' => e = .returned (.bool true) ∧ Chg [] w w' := by
  obtain ⟨K, hK⟩ : ∃ K, w.heap.size = K := ⟨_, rfl⟩
  have hbA : Blk ((w.alloc (.cells (actL a pa ma).toArray 28)).alloc (.cells (actL a pb mb).toArray 35)) K (actL a pa ma).toArray 28 := (Blk.new_at w _ _ hK).alloc _
  have hbB : Blk ((w.alloc (.cells (actL a pa ma).toArray 28)).alloc (.cells (actL a pb mb).toArray 35)) (K + 1) (actL a pb mb).toArray 35 := Blk.new_at _ _ _ (by simp [hK])
  have hc : Chg [] w ((w.alloc (.cells (actL a pa ma).toArray 28)).alloc (.cells (actL a pb mb).toArray 35)) := ((Chg.refl [] w).alloc _).alloc _
  have e1 : ((str a.name).toList == (str a.name).toList) = true := by simp
  have e2 : ((str a.other).toList == (str a.other).toList) = true := by simp
  have e3 : ((str a.text).toList == (str a.text).toList) = true := by simp
  obtain ⟨⟨x0, x1, x2, x3, x4, x5, x6⟩, x7, x8, x9, x10, x11, x12⟩ := Blk13 hbA
  obtain ⟨⟨y0, y1, y2, y3, y4, y5, y6⟩, y7, y8, y9, y10, y11, y12⟩ := Blk13 hbB
  have hr := raster_yes a.shp pa pb _ _ a.pix _ (hpa.chg0 hc) (hpb.chg0 hc)
  have HS := Lib.hid (And.intro hbA (And.intro hbB (And.intro hc (And.intro hma hmb))))
  clear hbA hbB hc hma hmb hpa hpb
  unfold rasV at hr
  unfold actV
  go_enter Tryz.func11, Tryz.ntmps11
  go_upto_region 1 with (fail)
  generalize ((w.alloc (.cells (actL a pa ma).toArray 28)).alloc (.cells (actL a pb mb).toArray 35)) = w1 at *
  go_wp2_with fail
  refine hr.mono ?_
  rintro e w2 ⟨rfl, c2⟩
  obtain ⟨hbA, hbB, hc, hma, hmb⟩ := HS.out
  clear x0 x1 x2 x3 x4 x5 x6 x7 x8 x9 x10 x11 x12 y0 y1 y2 y3 y4 y5 y6 y7 y8 y9 y10 y11 y12
  obtain ⟨-, -, -, -, -, -, x12⟩ := Blk13 (hbA.chg0 c2)
  obtain ⟨-, -, -, -, -, -, y12⟩ := Blk13 (hbB.chg0 c2)
  have hc2 := hc.nil c2
  have hsm := same_yes w2 ma mb _ _ a.mask a.mask (hma.chg0 hc2) (hmb.chg0 hc2) rfl
  clear hbA hbB hc hma hmb
  go_wp2_with fail
  refine hsm.mono ?_
  rintro e w3 ⟨rfl, rfl⟩
  go_wp2_with fail
  go_ret
  exact ⟨rfl, hc2⟩
end Go.Proofs.YtfammoidikdbpaaGreatDoor
