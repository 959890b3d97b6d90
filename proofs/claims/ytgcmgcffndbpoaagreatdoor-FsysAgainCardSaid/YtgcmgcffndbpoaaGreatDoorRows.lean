/-
  NARROWER THAN 'FOR EVERY INPUT', by the rows' own cells (each row's printed sentence says how): FsysDoes: laid · FsysOther: laid · FsysAtomic: laid · FsysBlocks: laid · FsysAgain: laid.
  DERIVED. THE GIVEN ROWS OF THIS SEAT. 5 by the template 'for every input the law returns true; each argument reads behind the call as it read before'; 0 by the template 'total and deterministic' (their statements: YtgcmgcffndbpoaaGreatDoorTotals.lean).
  GIVEN WITH THE SEED: the statements are not yours to turn. If you find one false, say at which input.
  Laid BY PROGRAM, IN A SANDBOX (cutbox-rows.mjs): the forced cells as the released guide's own fill.sh prints them over the translation e2b05b0ec82c1e82… (all of the seat's roots in one cut). By AI agents, Wed Nov 11 2026. No macro, syntax, notation, axiom, sorry.
-/
import Derived.Test.YtgcmgcffndbpoaaGreatDoorChecked
import GoSem.PinnedTables
import GoSem.Claim
import GoSem.ClaimJoined
import GoSem.ClaimMapViews
import Derived.JoinedTies
import Derived.KernelRfl
namespace Go.Proofs.YtgcmgcffndbpoaaGreatDoor
/- THE CELL 'sum', in the pinned program and in every row, IS THE sha256 OF THE DUMP (.gsa) THAT YtgcmgcffndbpoaaGreatDoorProg.lean LOADS. Nothing in Lean hashes anything: it is a label: what it is worth is what the hold of that sum in a sandbox is worth. -/
noncomputable def Tryz.pinned : Pinned := { name := "ytgcmgcffndbpoaagreatdoor", sum := "e2b05b0ec82c1e8221280d3d139eace863dee4518d9f9eceb885932fda658896", checked := Tryz.checked }
namespace Rows
def none {H : Type} : Left H := { results := [], args := [] }

/- WHAT THE LISTED PACKAGE-LEVEL VARIABLES READ AS WHEN THE CALL BEGINS. Each datum BY PROGRAM (the guide's laid-datum.mjs) off the statement by which the dump's own 'gosem.cut.vars' lays the variable. In a bare row this is a premise. The card (YtgcmgcffndbpoaaGreatDoorCards.lean) ties it to the program's text. -/
def laid_unicode_utf8_acceptRanges {H : Type} : DataW H := .agg [.agg [.lit (.int .u8 128), .lit (.int .u8 191)], .agg [.lit (.int .u8 160), .lit (.int .u8 191)], .agg [.lit (.int .u8 128), .lit (.int .u8 159)], .agg [.lit (.int .u8 144), .lit (.int .u8 191)], .agg [.lit (.int .u8 128), .lit (.int .u8 143)], .agg [.lit (.int .u8 0), .lit (.int .u8 0)], .agg [.lit (.int .u8 0), .lit (.int .u8 0)], .agg [.lit (.int .u8 0), .lit (.int .u8 0)], .agg [.lit (.int .u8 0), .lit (.int .u8 0)], .agg [.lit (.int .u8 0), .lit (.int .u8 0)], .agg [.lit (.int .u8 0), .lit (.int .u8 0)], .agg [.lit (.int .u8 0), .lit (.int .u8 0)], .agg [.lit (.int .u8 0), .lit (.int .u8 0)], .agg [.lit (.int .u8 0), .lit (.int .u8 0)], .agg [.lit (.int .u8 0), .lit (.int .u8 0)], .agg [.lit (.int .u8 0), .lit (.int .u8 0)]]
/-- One of Go's own tables, pinned by name: the form's constant. -/
def laid_unicode_utf8_first : DataW Unit := Go.Pinned.utf8First

/-- 'aqulaw16.FsysDoes': WHATEVER THE INPUT: true; the input reads as it did. -/
def fsysDoesSpec : ChangeSpec := { name := "fsysDoes", fn := fun _ => fun
  | [d1, d2, d3, d4, d5] => { results := [.lit (.bool true)], args := [d1, d2, d3, d4, d5] }
  | _ => none }
def fsysDoesRow : OpenClaim := { program := "ytgcmgcffndbpoaagreatdoor", sum := "e2b05b0ec82c1e8221280d3d139eace863dee4518d9f9eceb885932fda658896", func := "aquatint/aqulaw16.FsysDoes", spec := "fsysDoes", inPlace := ["internal/bytealg.MakeNoZero", "maps.clone"], unfollowed := true, recurses := true, named := ["unicode/utf8.first", "unicode/utf8.acceptRanges"], apart := false, laid := [("unicode/utf8.acceptRanges", laid_unicode_utf8_acceptRanges), ("unicode/utf8.first", laid_unicode_utf8_first)] }
def FsysDoesSaid : Prop := fsysDoesRow.holds Tryz.pinned (OpenSpec.ofChange fsysDoesSpec)

/-- ITS FALSE NEIGHBOUR: 'it returns false'. Refute it at one input. -/
def fsysDoesWrong : ChangeSpec := { name := "fsysDoes", fn := fun _ => fun
  | [d1, d2, d3, d4, d5] => { results := [.lit (.bool false)], args := [d1, d2, d3, d4, d5] }
  | _ => none }
def FsysDoesWrongFalsely : Prop := fsysDoesRow.holds Tryz.pinned (OpenSpec.ofChange fsysDoesWrong)

/-- 'aqulaw16.FsysOther': WHATEVER THE INPUT: true; the input reads as it did. -/
def fsysOtherSpec : ChangeSpec := { name := "fsysOther", fn := fun _ => fun
  | [d1, d2, d3, d4, d5, d6] => { results := [.lit (.bool true)], args := [d1, d2, d3, d4, d5, d6] }
  | _ => none }
def fsysOtherRow : OpenClaim := { program := "ytgcmgcffndbpoaagreatdoor", sum := "e2b05b0ec82c1e8221280d3d139eace863dee4518d9f9eceb885932fda658896", func := "aquatint/aqulaw16.FsysOther", spec := "fsysOther", inPlace := ["internal/bytealg.MakeNoZero", "maps.clone"], unfollowed := true, recurses := true, named := ["unicode/utf8.first", "unicode/utf8.acceptRanges"], apart := false, laid := [("unicode/utf8.acceptRanges", laid_unicode_utf8_acceptRanges), ("unicode/utf8.first", laid_unicode_utf8_first)] }
def FsysOtherSaid : Prop := fsysOtherRow.holds Tryz.pinned (OpenSpec.ofChange fsysOtherSpec)

/-- ITS FALSE NEIGHBOUR: 'it returns false'. Refute it at one input. -/
def fsysOtherWrong : ChangeSpec := { name := "fsysOther", fn := fun _ => fun
  | [d1, d2, d3, d4, d5, d6] => { results := [.lit (.bool false)], args := [d1, d2, d3, d4, d5, d6] }
  | _ => none }
def FsysOtherWrongFalsely : Prop := fsysOtherRow.holds Tryz.pinned (OpenSpec.ofChange fsysOtherWrong)

/-- 'aqulaw16.FsysAtomic': WHATEVER THE INPUT: true; the input reads as it did. -/
def fsysAtomicSpec : ChangeSpec := { name := "fsysAtomic", fn := fun _ => fun
  | [d1, d2, d3, d4, d5, d6, d7, d8, d9] => { results := [.lit (.bool true)], args := [d1, d2, d3, d4, d5, d6, d7, d8, d9] }
  | _ => none }
def fsysAtomicRow : OpenClaim := { program := "ytgcmgcffndbpoaagreatdoor", sum := "e2b05b0ec82c1e8221280d3d139eace863dee4518d9f9eceb885932fda658896", func := "aquatint/aqulaw16.FsysAtomic", spec := "fsysAtomic", inPlace := ["internal/bytealg.MakeNoZero", "maps.clone"], unfollowed := true, recurses := true, named := ["unicode/utf8.first", "unicode/utf8.acceptRanges"], apart := false, laid := [("unicode/utf8.acceptRanges", laid_unicode_utf8_acceptRanges), ("unicode/utf8.first", laid_unicode_utf8_first)] }
def FsysAtomicSaid : Prop := fsysAtomicRow.holds Tryz.pinned (OpenSpec.ofChange fsysAtomicSpec)

/-- ITS FALSE NEIGHBOUR: 'it returns false'. Refute it at one input. -/
def fsysAtomicWrong : ChangeSpec := { name := "fsysAtomic", fn := fun _ => fun
  | [d1, d2, d3, d4, d5, d6, d7, d8, d9] => { results := [.lit (.bool false)], args := [d1, d2, d3, d4, d5, d6, d7, d8, d9] }
  | _ => none }
def FsysAtomicWrongFalsely : Prop := fsysAtomicRow.holds Tryz.pinned (OpenSpec.ofChange fsysAtomicWrong)

/-- 'aqulaw16.FsysBlocks': WHATEVER THE INPUT: true; the input reads as it did. -/
def fsysBlocksSpec : ChangeSpec := { name := "fsysBlocks", fn := fun _ => fun
  | [d1, d2, d3, d4] => { results := [.lit (.bool true)], args := [d1, d2, d3, d4] }
  | _ => none }
def fsysBlocksRow : OpenClaim := { program := "ytgcmgcffndbpoaagreatdoor", sum := "e2b05b0ec82c1e8221280d3d139eace863dee4518d9f9eceb885932fda658896", func := "aquatint/aqulaw16.FsysBlocks", spec := "fsysBlocks", inPlace := ["internal/bytealg.MakeNoZero", "maps.clone"], unfollowed := true, recurses := true, named := ["unicode/utf8.first", "unicode/utf8.acceptRanges"], apart := false, laid := [("unicode/utf8.acceptRanges", laid_unicode_utf8_acceptRanges), ("unicode/utf8.first", laid_unicode_utf8_first)] }
def FsysBlocksSaid : Prop := fsysBlocksRow.holds Tryz.pinned (OpenSpec.ofChange fsysBlocksSpec)

/-- ITS FALSE NEIGHBOUR: 'it returns false'. Refute it at one input. -/
def fsysBlocksWrong : ChangeSpec := { name := "fsysBlocks", fn := fun _ => fun
  | [d1, d2, d3, d4] => { results := [.lit (.bool false)], args := [d1, d2, d3, d4] }
  | _ => none }
def FsysBlocksWrongFalsely : Prop := fsysBlocksRow.holds Tryz.pinned (OpenSpec.ofChange fsysBlocksWrong)

/-- 'aqulaw16.FsysAgain': WHATEVER THE INPUT: true; the input reads as it did. -/
def fsysAgainSpec : ChangeSpec := { name := "fsysAgain", fn := fun _ => fun
  | [d1, d2, d3, d4, d5] => { results := [.lit (.bool true)], args := [d1, d2, d3, d4, d5] }
  | _ => none }
def fsysAgainRow : OpenClaim := { program := "ytgcmgcffndbpoaagreatdoor", sum := "e2b05b0ec82c1e8221280d3d139eace863dee4518d9f9eceb885932fda658896", func := "aquatint/aqulaw16.FsysAgain", spec := "fsysAgain", inPlace := ["internal/bytealg.MakeNoZero", "maps.clone"], unfollowed := true, recurses := true, named := ["unicode/utf8.first", "unicode/utf8.acceptRanges"], apart := false, laid := [("unicode/utf8.acceptRanges", laid_unicode_utf8_acceptRanges), ("unicode/utf8.first", laid_unicode_utf8_first)] }
def FsysAgainSaid : Prop := fsysAgainRow.holds Tryz.pinned (OpenSpec.ofChange fsysAgainSpec)

/-- ITS FALSE NEIGHBOUR: 'it returns false'. Refute it at one input. -/
def fsysAgainWrong : ChangeSpec := { name := "fsysAgain", fn := fun _ => fun
  | [d1, d2, d3, d4, d5] => { results := [.lit (.bool false)], args := [d1, d2, d3, d4, d5] }
  | _ => none }
def FsysAgainWrongFalsely : Prop := fsysAgainRow.holds Tryz.pinned (OpenSpec.ofChange fsysAgainWrong)

/- THE SECOND FORM. 'bulk': how many values and letters a reading holds, each counted each time it is reached (what is shared counts as often as it is met; a slice's spare places count too). A statement '..UptoSaid' is the law's where the arguments, and the package variables that the reading takes, are together of bulk at most 1048576: NARROWER than '..Said'. Prove '..Said' where nothing that the law and all that it calls make is longer than what came in: it says more and counts as full. Else prove '..UptoSaid'. A law counts once. -/
mutual
def uptoBulk {H : Type} : DataW H → Nat
  | .lit (.string bytes) => bytes.length + 1
  | .lit _ => 1
  | .nil => 1
  | .ptr d => uptoBulk d + 1
  | .slice elems spare => uptoBulkAll elems + uptoBulkAll spare + 1
  | .agg parts => uptoBulkAll parts + 1
  | .iface _ d => uptoBulk d + 1
  | .map entries => uptoBulkEntries entries + 1
  | .held _ => 1
def uptoBulkAll {H : Type} : List (DataW H) → Nat
  | [] => 0
  | d :: r => uptoBulk d + uptoBulkAll r
def uptoBulkEntries {H : Type} : List (Lit × DataW H) → Nat
  | [] => 0
  | x :: r => uptoBulkEntry x + uptoBulkEntries r
def uptoBulkEntry {H : Type} : Lit × DataW H → Nat
  | (.string bytes, d) => bytes.length + uptoBulk d + 1
  | (_, d) => uptoBulk d + 1
 end
def uptoSmall : (H : Type) → List (DataW H) → Bool := fun _ ds => decide (uptoBulkAll ds ≤ 1048576)
def OpenSpec.upto (s : _root_.Go.ChangeSpec) : _root_.Go.OpenSpec := { _root_.Go.OpenSpec.ofChange s with cond := some uptoSmall }

/-- 'aqulaw16.FsysDoes', WHERE WHAT IT READS IS OF BULK AT MOST 1048576: true; the input reads as it did. -/
def fsysDoesUptoRow : OpenClaim := { program := "ytgcmgcffndbpoaagreatdoor", sum := "e2b05b0ec82c1e8221280d3d139eace863dee4518d9f9eceb885932fda658896", func := "aquatint/aqulaw16.FsysDoes", spec := "fsysDoes", inPlace := ["internal/bytealg.MakeNoZero", "maps.clone"], unfollowed := true, recurses := true, named := ["unicode/utf8.first", "unicode/utf8.acceptRanges"], apart := false, laid := [("unicode/utf8.acceptRanges", laid_unicode_utf8_acceptRanges), ("unicode/utf8.first", laid_unicode_utf8_first)], narrowed := true }
def FsysDoesUptoSaid : Prop := fsysDoesUptoRow.holds Tryz.pinned (OpenSpec.upto fsysDoesSpec)

/-- 'aqulaw16.FsysOther', WHERE WHAT IT READS IS OF BULK AT MOST 1048576: true; the input reads as it did. -/
def fsysOtherUptoRow : OpenClaim := { program := "ytgcmgcffndbpoaagreatdoor", sum := "e2b05b0ec82c1e8221280d3d139eace863dee4518d9f9eceb885932fda658896", func := "aquatint/aqulaw16.FsysOther", spec := "fsysOther", inPlace := ["internal/bytealg.MakeNoZero", "maps.clone"], unfollowed := true, recurses := true, named := ["unicode/utf8.first", "unicode/utf8.acceptRanges"], apart := false, laid := [("unicode/utf8.acceptRanges", laid_unicode_utf8_acceptRanges), ("unicode/utf8.first", laid_unicode_utf8_first)], narrowed := true }
def FsysOtherUptoSaid : Prop := fsysOtherUptoRow.holds Tryz.pinned (OpenSpec.upto fsysOtherSpec)

/-- 'aqulaw16.FsysAtomic', WHERE WHAT IT READS IS OF BULK AT MOST 1048576: true; the input reads as it did. -/
def fsysAtomicUptoRow : OpenClaim := { program := "ytgcmgcffndbpoaagreatdoor", sum := "e2b05b0ec82c1e8221280d3d139eace863dee4518d9f9eceb885932fda658896", func := "aquatint/aqulaw16.FsysAtomic", spec := "fsysAtomic", inPlace := ["internal/bytealg.MakeNoZero", "maps.clone"], unfollowed := true, recurses := true, named := ["unicode/utf8.first", "unicode/utf8.acceptRanges"], apart := false, laid := [("unicode/utf8.acceptRanges", laid_unicode_utf8_acceptRanges), ("unicode/utf8.first", laid_unicode_utf8_first)], narrowed := true }
def FsysAtomicUptoSaid : Prop := fsysAtomicUptoRow.holds Tryz.pinned (OpenSpec.upto fsysAtomicSpec)

/-- 'aqulaw16.FsysBlocks', WHERE WHAT IT READS IS OF BULK AT MOST 1048576: true; the input reads as it did. -/
def fsysBlocksUptoRow : OpenClaim := { program := "ytgcmgcffndbpoaagreatdoor", sum := "e2b05b0ec82c1e8221280d3d139eace863dee4518d9f9eceb885932fda658896", func := "aquatint/aqulaw16.FsysBlocks", spec := "fsysBlocks", inPlace := ["internal/bytealg.MakeNoZero", "maps.clone"], unfollowed := true, recurses := true, named := ["unicode/utf8.first", "unicode/utf8.acceptRanges"], apart := false, laid := [("unicode/utf8.acceptRanges", laid_unicode_utf8_acceptRanges), ("unicode/utf8.first", laid_unicode_utf8_first)], narrowed := true }
def FsysBlocksUptoSaid : Prop := fsysBlocksUptoRow.holds Tryz.pinned (OpenSpec.upto fsysBlocksSpec)

/-- 'aqulaw16.FsysAgain', WHERE WHAT IT READS IS OF BULK AT MOST 1048576: true; the input reads as it did. -/
def fsysAgainUptoRow : OpenClaim := { program := "ytgcmgcffndbpoaagreatdoor", sum := "e2b05b0ec82c1e8221280d3d139eace863dee4518d9f9eceb885932fda658896", func := "aquatint/aqulaw16.FsysAgain", spec := "fsysAgain", inPlace := ["internal/bytealg.MakeNoZero", "maps.clone"], unfollowed := true, recurses := true, named := ["unicode/utf8.first", "unicode/utf8.acceptRanges"], apart := false, laid := [("unicode/utf8.acceptRanges", laid_unicode_utf8_acceptRanges), ("unicode/utf8.first", laid_unicode_utf8_first)], narrowed := true }
def FsysAgainUptoSaid : Prop := fsysAgainUptoRow.holds Tryz.pinned (OpenSpec.upto fsysAgainSpec)

end Rows
end Go.Proofs.YtgcmgcffndbpoaaGreatDoor
