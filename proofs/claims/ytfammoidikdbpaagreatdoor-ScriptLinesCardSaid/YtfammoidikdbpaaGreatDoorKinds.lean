/- Contracts of script.kinds, script.digits, script.picture (of no picture). No statement of the seat is proved here. -/
import Derived.Test.YtfammoidikdbpaaGreatDoorActs26
import Derived.Test.YtfammoidikdbpaaGreatDoorJoin9
import Derived.Test.YtfammoidikdbpaaGreatDoorTake
import Derived.Test.YtfammoidikdbpaaGreatDoorNumHex
set_option linter.unusedVariables false
namespace Go.Aq.Wd
def kindL : List (List UInt8) := [[99, 111, 109, 109, 105, 116], [98, 114, 97, 110, 99, 104], [116, 97, 103], [100, 101, 108, 101, 116, 101], [109, 101, 114, 103, 101], [108, 111, 103], [100, 105, 102, 102], [99, 104, 101, 99, 107, 111, 117, 116], [114, 101, 112, 97, 99, 107], [99, 111, 108, 108, 101, 99, 116], [102, 115, 99, 107], [102, 97, 108, 108], [112, 108, 97, 110], [111, 112, 101, 110]]
/-- Bytes as digits; of none a stroke. -/
def digitsL (b : List UInt8) : List UInt8 := if b = [] then [45] else hexL b
end Go.Aq.Wd
namespace Go.Proofs.YtfammoidikdbpaaGreatDoor
open Go.RowKit Go.Aq Go.Aq.Wd
theorem kinds_any (w : World) : Calls Tryz.prog 12 #[] w fun e w' => e = .returned (.slice (some ⟨w.heap.size, 0, none⟩) 14 14) ∧ Blk w' w.heap.size (Ss kindL).toArray 9 ∧ Chg [] w w' := by
  have hb := Blk.new w (Ss kindL).toArray 9
  have hc := (Chg.refl [] w).alloc (.cells (Ss kindL).toArray 9)
  have HB := Lib.hid (And.intro hb hc)
  clear hb hc
  go_enter Tryz.func12, Tryz.ntmps12
  go_wp2_with fail
  go_ret
  exact ⟨rfl, HB.out⟩
theorem digits_any (w : World) (v : Value) (n : Nat) (b : List UInt8) (hv : Sees w 1 v n (Bs b)) (hn : n ≤ 1000000) :
    Calls Tryz.prog 17 #[v] w fun e w' => e = .returned (.string (str (digitsL b))) ∧ Chg [] w w' := by
  have hbl : b.length = n := by have := hv.len; rw [Bs_length] at this; omega
  have hh := hex_any w v n b hv hn
  obtain ⟨ao, cap, rfl, hcap, hnil⟩ := hv.shape
  by_cases h0 : b = []
  · have hd : digitsL b = [45] := if_pos h0
    have hn0 : n = 0 := by rw [← hbl, h0]; rfl
    subst hn0
    rw [hd]
    clear hh hd h0 hv hbl
    go_enter Tryz.func17, Tryz.ntmps17
    go_wp2_with fail
    go_ret
    exact ⟨rfl, Chg.refl _ _⟩
  · have hd : digitsL b = hexL b := if_neg h0
    have hn0 : n ≠ 0 := fun e => h0 (List.eq_nil_of_length_eq_zero (by omega))
    have t0 : ((n : Int) == 0) = false := by simpa using hn0
    have t0' : (n == 0) = false := by simpa using hn0
    rw [hd]
    clear hd h0 hv hbl hn0
    go_enter Tryz.func17, Tryz.ntmps17
    go_wp2_with fail
    refine hh.mono ?_
    rintro e w1 ⟨rfl, c1⟩
    go_wp2_with fail
    go_ret
    exact ⟨rfl, c1⟩
theorem picture_none (w : World) : Calls Tryz.prog 15 #[rasV shpZ (.slice none 0 0)] w fun e w' => e = .returned (.tuple #[.string (str [45]), .int .i64 0]) ∧ Chg [] w w' := by
  have hc : ∀ o, Chg [] w (w.alloc o) := fun o => (Chg.refl [] w).alloc o
  have HC := Lib.hid hc
  clear hc
  unfold rasV shpZ
  simp only
  go_enter Tryz.func15, Tryz.ntmps15
  go_wp2_with fail
  go_ret2
  exact ⟨rfl, HC.out _⟩
end Go.Proofs.YtfammoidikdbpaaGreatDoor
