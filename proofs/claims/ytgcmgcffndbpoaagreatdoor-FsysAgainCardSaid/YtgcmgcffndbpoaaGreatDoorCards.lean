/-
  DERIVED. GIVEN WITH THE SEED: THE CARDS: each row of YtgcmgcffndbpoaaGreatDoorRows.lean that lists a variable, with what it lists TIED to the program's text (the seventh form; the later family's looks); each row that meets fmt, with fmt's text TOLD by the authors' own Lean function (tested against real Go, not proved from fmt's source: count such statements apart). THE CARD IS WHAT COUNTS. Prove the row's statement (the work); the ties are given (YtgcmgcffndbpoaaGreatDoorTie.lean); close each card by the builder's one call (the guide's Derived/Test/ToyasCard.lean, 'card_holds'). Laid BY PROGRAM, IN A SANDBOX (cutbox-door.mjs). By AI agents, Wed Nov 11 2026. No macro, syntax, notation, axiom, sorry.
-/
import Derived.Test.YtgcmgcffndbpoaaGreatDoorRows
import GoSem.ClaimSeven
namespace Go.Proofs.YtgcmgcffndbpoaaGreatDoor
namespace Rows

/-- THE TIED CARD OF 'aqulaw16.FsysDoes'. -/
def fsysDoesCard : Claim7 := { stood := { row := fsysDoesRow, standIns := [], harness := (true, "86b397b2dc079de6ec9200891531fbe7983955e898a83fcc0fb3fa67f08f02a1"), looks := true }, kinds := [], alts := [], laidByText := true, laidKinds := [.data, .pinned], laidTests := true, laidLooks := .later }
def FsysDoesCardSaid : Prop := Claim7.holds Tryz.pinned (.plain (OpenSpec.ofChange fsysDoesSpec)) fsysDoesCard

/-- THE TIED CARD OF 'aqulaw16.FsysOther'. -/
def fsysOtherCard : Claim7 := { stood := { row := fsysOtherRow, standIns := [], harness := (true, "86b397b2dc079de6ec9200891531fbe7983955e898a83fcc0fb3fa67f08f02a1"), looks := true }, kinds := [], alts := [], laidByText := true, laidKinds := [.data, .pinned], laidTests := true, laidLooks := .later }
def FsysOtherCardSaid : Prop := Claim7.holds Tryz.pinned (.plain (OpenSpec.ofChange fsysOtherSpec)) fsysOtherCard

/-- THE TIED CARD OF 'aqulaw16.FsysAtomic'. -/
def fsysAtomicCard : Claim7 := { stood := { row := fsysAtomicRow, standIns := [], harness := (true, "86b397b2dc079de6ec9200891531fbe7983955e898a83fcc0fb3fa67f08f02a1"), looks := true }, kinds := [], alts := [], laidByText := true, laidKinds := [.data, .pinned], laidTests := true, laidLooks := .later }
def FsysAtomicCardSaid : Prop := Claim7.holds Tryz.pinned (.plain (OpenSpec.ofChange fsysAtomicSpec)) fsysAtomicCard

/-- THE TIED CARD OF 'aqulaw16.FsysBlocks'. -/
def fsysBlocksCard : Claim7 := { stood := { row := fsysBlocksRow, standIns := [], harness := (true, "86b397b2dc079de6ec9200891531fbe7983955e898a83fcc0fb3fa67f08f02a1"), looks := true }, kinds := [], alts := [], laidByText := true, laidKinds := [.data, .pinned], laidTests := true, laidLooks := .later }
def FsysBlocksCardSaid : Prop := Claim7.holds Tryz.pinned (.plain (OpenSpec.ofChange fsysBlocksSpec)) fsysBlocksCard

/-- THE TIED CARD OF 'aqulaw16.FsysAgain'. -/
def fsysAgainCard : Claim7 := { stood := { row := fsysAgainRow, standIns := [], harness := (true, "86b397b2dc079de6ec9200891531fbe7983955e898a83fcc0fb3fa67f08f02a1"), looks := true }, kinds := [], alts := [], laidByText := true, laidKinds := [.data, .pinned], laidTests := true, laidLooks := .later }
def FsysAgainCardSaid : Prop := Claim7.holds Tryz.pinned (.plain (OpenSpec.ofChange fsysAgainSpec)) fsysAgainCard

/-- THE SECOND FORM's CARD OF 'aqulaw16.FsysDoes'. -/
def fsysDoesUptoCard : Claim7 := { stood := { row := fsysDoesUptoRow, standIns := [], harness := (true, "86b397b2dc079de6ec9200891531fbe7983955e898a83fcc0fb3fa67f08f02a1"), looks := true }, kinds := [], alts := [], laidByText := true, laidKinds := [.data, .pinned], laidTests := true, laidLooks := .later }
def FsysDoesUptoCardSaid : Prop := Claim7.holds Tryz.pinned (.plain (OpenSpec.upto fsysDoesSpec)) fsysDoesUptoCard

/-- THE SECOND FORM's CARD OF 'aqulaw16.FsysOther'. -/
def fsysOtherUptoCard : Claim7 := { stood := { row := fsysOtherUptoRow, standIns := [], harness := (true, "86b397b2dc079de6ec9200891531fbe7983955e898a83fcc0fb3fa67f08f02a1"), looks := true }, kinds := [], alts := [], laidByText := true, laidKinds := [.data, .pinned], laidTests := true, laidLooks := .later }
def FsysOtherUptoCardSaid : Prop := Claim7.holds Tryz.pinned (.plain (OpenSpec.upto fsysOtherSpec)) fsysOtherUptoCard

/-- THE SECOND FORM's CARD OF 'aqulaw16.FsysAtomic'. -/
def fsysAtomicUptoCard : Claim7 := { stood := { row := fsysAtomicUptoRow, standIns := [], harness := (true, "86b397b2dc079de6ec9200891531fbe7983955e898a83fcc0fb3fa67f08f02a1"), looks := true }, kinds := [], alts := [], laidByText := true, laidKinds := [.data, .pinned], laidTests := true, laidLooks := .later }
def FsysAtomicUptoCardSaid : Prop := Claim7.holds Tryz.pinned (.plain (OpenSpec.upto fsysAtomicSpec)) fsysAtomicUptoCard

/-- THE SECOND FORM's CARD OF 'aqulaw16.FsysBlocks'. -/
def fsysBlocksUptoCard : Claim7 := { stood := { row := fsysBlocksUptoRow, standIns := [], harness := (true, "86b397b2dc079de6ec9200891531fbe7983955e898a83fcc0fb3fa67f08f02a1"), looks := true }, kinds := [], alts := [], laidByText := true, laidKinds := [.data, .pinned], laidTests := true, laidLooks := .later }
def FsysBlocksUptoCardSaid : Prop := Claim7.holds Tryz.pinned (.plain (OpenSpec.upto fsysBlocksSpec)) fsysBlocksUptoCard

/-- THE SECOND FORM's CARD OF 'aqulaw16.FsysAgain'. -/
def fsysAgainUptoCard : Claim7 := { stood := { row := fsysAgainUptoRow, standIns := [], harness := (true, "86b397b2dc079de6ec9200891531fbe7983955e898a83fcc0fb3fa67f08f02a1"), looks := true }, kinds := [], alts := [], laidByText := true, laidKinds := [.data, .pinned], laidTests := true, laidLooks := .later }
def FsysAgainUptoCardSaid : Prop := Claim7.holds Tryz.pinned (.plain (OpenSpec.upto fsysAgainSpec)) fsysAgainUptoCard
end Rows
end Go.Proofs.YtgcmgcffndbpoaaGreatDoor
