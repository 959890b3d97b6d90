/-
  DERIVED. GIVEN WITH THE SEED: THE CARDS: each row of YtihoohhngiomdaaGreatDoorRows.lean that lists a variable, with what it lists TIED to the program's text (the seventh form; the later family's looks); each row that meets fmt, with fmt's text TOLD by the authors' own Lean function (tested against real Go, not proved from fmt's source: count such statements apart). THE CARD IS WHAT COUNTS. Prove the row's statement (the work); the ties are given (YtihoohhngiomdaaGreatDoorTie.lean); close each card by the builder's one call (the guide's Derived/Test/ToyasCard.lean, 'card_holds'). Laid BY PROGRAM, IN A SANDBOX (cutbox-door.mjs). By AI agents, Wed Nov 11 2026. No macro, syntax, notation, axiom, sorry.
-/
import Derived.Test.YtihoohhngiomdaaGreatDoorRows
import GoSem.ClaimSeven
namespace Go.Proofs.YtihoohhngiomdaaGreatDoor
namespace Rows

/-- THE TIED CARD OF 'aqulaw21.RefsAsks'. -/
def refsAsksCard : Claim7 := { stood := { row := refsAsksRow, standIns := [], harness := (true, "ca7746ff8ff117d2cb7d40a0b844ce271dd3472a81d4e892634a8e2813b2f2be"), looks := false }, kinds := [], alts := [], laidByText := true, laidKinds := [.data, .data, .data, .data, .pinned], laidTests := true, laidLooks := .later }
def RefsAsksCardSaid : Prop := Claim7.holds Tryz.pinned (.plain (OpenSpec.ofChange refsAsksSpec)) refsAsksCard

/-- THE SECOND FORM's CARD OF 'aqulaw21.RefsAsks'. -/
def refsAsksUptoCard : Claim7 := { stood := { row := refsAsksUptoRow, standIns := [], harness := (true, "ca7746ff8ff117d2cb7d40a0b844ce271dd3472a81d4e892634a8e2813b2f2be"), looks := false }, kinds := [], alts := [], laidByText := true, laidKinds := [.data, .data, .data, .data, .pinned], laidTests := true, laidLooks := .later }
def RefsAsksUptoCardSaid : Prop := Claim7.holds Tryz.pinned (.plain (OpenSpec.upto refsAsksSpec)) refsAsksUptoCard
end Rows
end Go.Proofs.YtihoohhngiomdaaGreatDoor
