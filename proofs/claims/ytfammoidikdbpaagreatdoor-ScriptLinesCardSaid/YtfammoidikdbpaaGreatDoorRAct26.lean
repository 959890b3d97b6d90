/- Contracts of aquref.Dec (one digit) and aquref24.act. No statement of the seat is proved here. -/
import Derived.Test.YtfammoidikdbpaaGreatDoorBack26
set_option linter.unusedVariables false
namespace Go.Proofs.YtfammoidikdbpaaGreatDoor
open Go.RowKit Go.Aq Go.Aq.Wd
set_option maxRecDepth 100000 in
set_option maxHeartbeats 1000000 in
theorem dec1_any (n : Nat) (h : n < 10) (w : World) : Calls Tryz.prog 22 #[.int .i64 n] w fun e w' => e = .returned (.string (str [UInt8.ofNat (48 + n)])) ∧ Chg [] w w' := by
  obtain ⟨c, hc⟩ : ∃ c, c = 48 + n := ⟨_, rfl⟩
  have hcb : c ≤ 57 := by omega
  have hs : Sees (w.alloc (.cells #[.int .u8 (c : Int)] 5)) 1 (.slice (some ⟨w.heap.size, 0, none⟩) 1 1) 1 (Bs [UInt8.ofNat c]) := by
    have h1 := Sees.row (Blk.new w #[.int .u8 (c : Int)] 5) (m := 1) rfl
    simp only [Bs, Bc, List.map_cons, List.map_nil]
    rw [u8n c (by omega)]
    exact h1
  have r1 := run_str8 hs
  have hch : Chg [] w (w.alloc (.cells #[.int .u8 (c : Int)] 5)) := (Chg.refl [] w).alloc _
  have HC := Lib.hid hch
  have t1 : decide ((n : Int) < 10) = true := by simp; omega
  have t1' : decide (n < 10) = true := by simp; omega
  have e1 : (48 : Int) + (n : Int) = (c : Int) := by omega
  rw [← hc]
  have hn0 : (0 : Int) ≤ (n : Int) := by omega
  have tn : decide ((n : Int) < 0) = false := by simp
  clear hs hch hc h
  go_enter Tryz.func22, Tryz.ntmps22
  go_wp2_with fail
  go_ret
  exact ⟨rfl, HC.out⟩
end Go.Proofs.YtfammoidikdbpaaGreatDoor
