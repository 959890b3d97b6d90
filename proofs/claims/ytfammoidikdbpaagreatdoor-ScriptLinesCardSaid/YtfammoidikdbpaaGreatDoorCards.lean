/-
  DERIVED. GIVEN WITH THE SEED: THE CARDS: each row of YtfammoidikdbpaaGreatDoorRows.lean that lists a variable, with what it lists TIED to the program's text (the seventh form; the later family's looks); each row that meets fmt, with fmt's text TOLD by the authors' own Lean function (tested against real Go, not proved from fmt's source: count such statements apart). THE CARD IS WHAT COUNTS. Prove the row's statement (the work); the ties are given (YtfammoidikdbpaaGreatDoorTie.lean); close each card by the builder's one call (the guide's Derived/Test/ToyasCard.lean, 'card_holds'). Laid BY PROGRAM, IN A SANDBOX (cutbox-door.mjs). By AI agents, Wed Nov 11 2026. No macro, syntax, notation, axiom, sorry.
-/
import Derived.Test.YtfammoidikdbpaaGreatDoorRows
import GoSem.ClaimSeven
namespace Go.Proofs.YtfammoidikdbpaaGreatDoor
namespace Rows

/-- THE TIED CARD OF 'aqulaw26.ScriptLines'. -/
def scriptLinesCard : Claim7 := { stood := { row := scriptLinesRow, standIns := [], harness := (true, "f0b0a9d550d22236ed26afa7db10345a077c0fca1b1175de2ccd28a5bfed6273"), looks := true }, kinds := [], alts := [], laidByText := true, laidKinds := [.data, .data, .data, .data, .sentinel, .sentinel, .pinned], laidTests := true, laidLooks := .later }
def ScriptLinesCardSaid : Prop := Claim7.holds Tryz.pinned (.plain (OpenSpec.ofChange scriptLinesSpec)) scriptLinesCard

/-- THE SECOND FORM's CARD OF 'aqulaw26.ScriptLines'. -/
def scriptLinesUptoCard : Claim7 := { stood := { row := scriptLinesUptoRow, standIns := [], harness := (true, "f0b0a9d550d22236ed26afa7db10345a077c0fca1b1175de2ccd28a5bfed6273"), looks := true }, kinds := [], alts := [], laidByText := true, laidKinds := [.data, .data, .data, .data, .sentinel, .sentinel, .pinned], laidTests := true, laidLooks := .later }
def ScriptLinesUptoCardSaid : Prop := Claim7.holds Tryz.pinned (.plain (OpenSpec.upto scriptLinesSpec)) scriptLinesUptoCard
end Rows
end Go.Proofs.YtfammoidikdbpaaGreatDoor
