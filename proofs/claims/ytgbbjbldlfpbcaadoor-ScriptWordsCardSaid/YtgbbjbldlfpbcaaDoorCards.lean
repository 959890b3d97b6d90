/-
  DERIVED. GIVEN WITH THE SEED: THE CARDS: each row of YtgbbjbldlfpbcaaDoorRows.lean that lists a variable, with what it lists TIED to the program's text (the seventh form; the later family's looks); each row that meets fmt, with fmt's text TOLD by the authors' own Lean function (tested against real Go, not proved from fmt's source: count such statements apart). THE CARD IS WHAT COUNTS. Prove the row's statement (the work); the ties are given (YtgbbjbldlfpbcaaDoorTie.lean); close each card by the builder's one call (the guide's Derived/Test/ToyasCard.lean, 'card_holds'). Laid BY PROGRAM, IN A SANDBOX (cutbox-door.mjs). By AI agents, Wed Nov 11 2026. No macro, syntax, notation, axiom, sorry.
-/
import Derived.Test.YtgbbjbldlfpbcaaDoorRows
import GoSem.ClaimSeven
namespace Go.Proofs.YtgbbjbldlfpbcaaDoor
namespace Rows

/-- THE TIED CARD OF 'aqulaw26.ScriptBytes'. -/
def scriptBytesCard : Claim7 := { stood := { row := scriptBytesRow, standIns := [], harness := (true, "9f78de2661f799ec0c19e5a21cb5b507573ea0da7fc92de7cb058e1b1519f8b3"), looks := true }, kinds := [], alts := [], laidByText := true, laidKinds := [.data, .data, .data, .data, .pinned], laidTests := true, laidLooks := .later }
def ScriptBytesCardSaid : Prop := Claim7.holds Tryd.pinned (.plain (OpenSpec.ofChange scriptBytesSpec)) scriptBytesCard

/-- THE TIED CARD OF 'aqulaw26.ScriptPics'. -/
def scriptPicsCard : Claim7 := { stood := { row := scriptPicsRow, standIns := [], harness := (true, "9f78de2661f799ec0c19e5a21cb5b507573ea0da7fc92de7cb058e1b1519f8b3"), looks := true }, kinds := [], alts := [], laidByText := true, laidKinds := [.data, .data, .data, .data, .pinned], laidTests := true, laidLooks := .later }
def ScriptPicsCardSaid : Prop := Claim7.holds Tryd.pinned (.plain (OpenSpec.ofChange scriptPicsSpec)) scriptPicsCard

/-- THE TIED CARD OF 'aqulaw26.ScriptWords'. -/
def scriptWordsCard : Claim7 := { stood := { row := scriptWordsRow, standIns := [], harness := (true, "9f78de2661f799ec0c19e5a21cb5b507573ea0da7fc92de7cb058e1b1519f8b3"), looks := true }, kinds := [], alts := [], laidByText := true, laidKinds := [.data, .data, .data, .data, .sentinel, .sentinel, .pinned], laidTests := true, laidLooks := .later }
def ScriptWordsCardSaid : Prop := Claim7.holds Tryd.pinned (.plain (OpenSpec.ofChange scriptWordsSpec)) scriptWordsCard

/-- THE SECOND FORM's CARD OF 'aqulaw26.ScriptBytes'. -/
def scriptBytesUptoCard : Claim7 := { stood := { row := scriptBytesUptoRow, standIns := [], harness := (true, "9f78de2661f799ec0c19e5a21cb5b507573ea0da7fc92de7cb058e1b1519f8b3"), looks := true }, kinds := [], alts := [], laidByText := true, laidKinds := [.data, .data, .data, .data, .pinned], laidTests := true, laidLooks := .later }
def ScriptBytesUptoCardSaid : Prop := Claim7.holds Tryd.pinned (.plain (OpenSpec.upto scriptBytesSpec)) scriptBytesUptoCard

/-- THE SECOND FORM's CARD OF 'aqulaw26.ScriptPics'. -/
def scriptPicsUptoCard : Claim7 := { stood := { row := scriptPicsUptoRow, standIns := [], harness := (true, "9f78de2661f799ec0c19e5a21cb5b507573ea0da7fc92de7cb058e1b1519f8b3"), looks := true }, kinds := [], alts := [], laidByText := true, laidKinds := [.data, .data, .data, .data, .pinned], laidTests := true, laidLooks := .later }
def ScriptPicsUptoCardSaid : Prop := Claim7.holds Tryd.pinned (.plain (OpenSpec.upto scriptPicsSpec)) scriptPicsUptoCard

/-- THE SECOND FORM's CARD OF 'aqulaw26.ScriptWords'. -/
def scriptWordsUptoCard : Claim7 := { stood := { row := scriptWordsUptoRow, standIns := [], harness := (true, "9f78de2661f799ec0c19e5a21cb5b507573ea0da7fc92de7cb058e1b1519f8b3"), looks := true }, kinds := [], alts := [], laidByText := true, laidKinds := [.data, .data, .data, .data, .sentinel, .sentinel, .pinned], laidTests := true, laidLooks := .later }
def ScriptWordsUptoCardSaid : Prop := Claim7.holds Tryd.pinned (.plain (OpenSpec.upto scriptWordsSpec)) scriptWordsUptoCard
end Rows
end Go.Proofs.YtgbbjbldlfpbcaaDoor
