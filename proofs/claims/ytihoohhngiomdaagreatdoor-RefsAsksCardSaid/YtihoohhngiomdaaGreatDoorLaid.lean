/- What the listed variables give to the walks, and a world for the witness that holds them. No statement of the seat is proved here. -/
import Derived.Test.YtihoohhngiomdaaGreatDoorCards
import Derived.Test.YtihoohhngiomdaaGreatDoorWordAll
import Derived.Lib.LaidTab
import Derived.Lib.LaidU8
import Derived.PinnedBridge
import Derived.ProofKit
import Derived.ShapedOpen
set_option linter.unusedVariables false
namespace Go.Proofs.YtihoohhngiomdaaGreatDoor
open Go.ChangeShapes Go.WideShapes Go.ChangeAt Go.RowKit Go.Aq Go.Aq.Wd

theorem u8x : U8Extra Tryz.prog Tryz.lays260_ren :=
  ⟨by kernel_rfl, by kernel_rfl, by kernel_rfl, by kernel_rfl, by kernel_rfl, by kernel_rfl, by kernel_rfl⟩
def db64 : List Int := [0, 1, 56, 2, 57, 49, 28, 3, 61, 58, 42, 50, 38, 29, 17, 4, 62, 47, 59, 36, 45, 43, 51, 22, 53, 39, 33, 30, 24, 18, 12, 5, 63, 55, 48, 27, 60, 41, 37, 16, 46, 35, 44, 21, 52, 32, 23, 11, 54, 26, 40, 15, 34, 20, 31, 10, 25, 14, 19, 9, 13, 8, 7, 6]
def laidL : List (String × DataW Unit) := [("math/bits.deBruijn32tab", Rows.laid_math_bits_deBruijn32tab), ("math/bits.deBruijn64tab", Rows.laid_math_bits_deBruijn64tab), ("internal/strconv.uint64pow10", Rows.laid_internal_strconv_uint64pow10), ("unicode/utf8.acceptRanges", Rows.laid_unicode_utf8_acceptRanges), ("unicode/utf8.first", Rows.laid_unicode_utf8_first)]
theorem tabs_of {W : World} (h : laidMet Tryz.prog laidL W) (hS : W.ShapedOpen Tryz.prog) : Tabs W := by
  have h1 := Lib.laidMet.reads h (n := "unicode/utf8.first") (d := Rows.laid_unicode_utf8_first) (by simp [laidL])
  have h2 := Lib.laidMet.reads h (n := "unicode/utf8.acceptRanges") (d := Rows.laid_unicode_utf8_acceptRanges) (by simp [laidL])
  have h3 := Lib.laidMet.reads h (n := "math/bits.deBruijn64tab") (d := Rows.laid_math_bits_deBruijn64tab) (by simp [laidL])
  refine ⟨?_, ?_, ?_⟩
  · refine utf8Tabs_of_reads Tryz.lays260 u8x ?_ ?_
    · rw [← Pinned.utf8First_eq]; exact h1
    · have e : Rows.laid_unicode_utf8_acceptRanges = Lib.acceptData := by kernel_rfl
      rw [← e]; exact h2
  · exact cell_of_shapedOpen_int (zero := #[.int .i64 0]) (t := 3) hS (of_decide_eq_true (by kernel_rfl)) (by kernel_rfl) rfl (by kernel_rfl) (by kernel_rfl) Tryz.underlying3
  · have e : (Rows.laid_math_bits_deBruijn64tab : DataW Unit) = Lib.tabData .u8 db64 := by kernel_rfl
    rw [e] at h3
    obtain ⟨g, t, cs, fuel, p, hg, hty, hvar, hd⟩ := h3
    obtain rfl := Option.some.inj ((show Tryz.prog.globalNamed "math/bits.deBruijn64tab" = some 5 by kernel_rfl).symm.trans hg)
    obtain rfl := Option.some.inj ((show (Tryz.prog.globals[5]?).map (·.type) = some 147 by kernel_rfl).symm.trans hty)
    have hcs := Lib.cells_of_tab Tryz.underlying147 Tryz.underlying5 (by kernel_rfl) (by kernel_rfl) hd
    have := World.var?_cell hg hvar 15
    rw [this, ← Array.getElem?_toList, hcs]
    rfl

/-! ### a world for the witness -/
def lit1 : DataW Unit → Value
  | .lit (.int k z) => .int k z
  | _ => undef
def flat1 : DataW Unit → List Value
  | .agg l => l.map lit1
  | _ => []
def flat2 : DataW Unit → List Value
  | .agg l => l.flatMap flat1
  | _ => []
def setCells (cs : List Value) : Obj → Obj
  | .cells _ t fz => .cells cs.toArray t fz
  | o => o
noncomputable def laidWorld (os : Os) : World :=
  { World.holding Tryz.prog os ⟨#[], #[], []⟩ with heap := ((((((World.holding Tryz.prog os ⟨#[], #[], []⟩).heap.modify 4 (setCells (flat1 Rows.laid_math_bits_deBruijn32tab))).modify 5 (setCells (flat1 Rows.laid_math_bits_deBruijn64tab))).modify
      3 (setCells (flat1 Rows.laid_internal_strconv_uint64pow10))).modify 2 (setCells (flat2 Rows.laid_unicode_utf8_acceptRanges))).modify 1 (setCells (flat1 Rows.laid_unicode_utf8_first))) }
end Go.Proofs.YtihoohhngiomdaaGreatDoor
