/-
  DERIVED. GIVEN WITH THE SEED: THE CARDS: each row of YtlbdklaggalgfaaGreatDoorRows.lean that lists a variable, with what it lists TIED to the program's text (the seventh form; the later family's looks); each row that meets fmt, with fmt's text TOLD by the authors' own Lean function (tested against real Go, not proved from fmt's source: count such statements apart). THE CARD IS WHAT COUNTS. Prove the row's statement (the work); the ties are given (YtlbdklaggalgfaaGreatDoorTie.lean); close each card by the builder's one call (the guide's Derived/Test/ToyasCard.lean, 'card_holds'). Laid BY PROGRAM, IN A SANDBOX (cutbox-door.mjs). By AI agents, Wed Nov 11 2026. No macro, syntax, notation, axiom, sorry.
-/
import Derived.Test.YtlbdklaggalgfaaGreatDoorRows
import GoSem.ClaimSeven
namespace Go.Proofs.YtlbdklaggalgfaaGreatDoor
namespace Rows

/-- THE TIED CARD OF 'aqulaw21.RefsLoads'. -/
def refsLoadsCard : Claim7 := { stood := { row := refsLoadsRow, standIns := [], harness := (true, "8307663b13b819fe886056bf8509e15529abc4d9134e1075faec94f2af49dfc6"), looks := true }, kinds := [], alts := [], laidByText := true, laidKinds := [.data, .data, .data, .data, .pinned], laidTests := true, laidLooks := .later }
def RefsLoadsCardSaid : Prop := Claim7.holds Tryz.pinned (.plain (OpenSpec.ofChange refsLoadsSpec)) refsLoadsCard

/-- THE SECOND FORM's CARD OF 'aqulaw21.RefsLoads'. -/
def refsLoadsUptoCard : Claim7 := { stood := { row := refsLoadsUptoRow, standIns := [], harness := (true, "8307663b13b819fe886056bf8509e15529abc4d9134e1075faec94f2af49dfc6"), looks := true }, kinds := [], alts := [], laidByText := true, laidKinds := [.data, .data, .data, .data, .pinned], laidTests := true, laidLooks := .later }
def RefsLoadsUptoCardSaid : Prop := Claim7.holds Tryz.pinned (.plain (OpenSpec.upto refsLoadsSpec)) refsLoadsUptoCard
end Rows
end Go.Proofs.YtlbdklaggalgfaaGreatDoor
