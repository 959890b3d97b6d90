/-
  DERIVED. GIVEN WITH THE SEED: THE CARDS: each row of YtlidiclfpklliaaGreatDoorRows.lean that lists a variable, with what it lists TIED to the program's text (the seventh form; the later family's looks); each row that meets fmt, with fmt's text TOLD by the authors' own Lean function (tested against real Go, not proved from fmt's source: count such statements apart). THE CARD IS WHAT COUNTS. Prove the row's statement (the work); the ties are given (YtlidiclfpklliaaGreatDoorTie.lean); close each card by the builder's one call (the guide's Derived/Test/ToyasCard.lean, 'card_holds'). Laid BY PROGRAM, IN A SANDBOX (cutbox-door.mjs). By AI agents, Wed Nov 11 2026. No macro, syntax, notation, axiom, sorry.
-/
import Derived.Test.YtlidiclfpklliaaGreatDoorRows
import GoSem.ClaimSeven
namespace Go.Proofs.YtlidiclfpklliaaGreatDoor
namespace Rows

/-- THE TIED CARD OF 'aqulaw18.StorePlays'. -/
def storePlaysCard : Claim7 := { stood := { row := storePlaysRow, standIns := [], harness := (true, "3069cc7d4651d78001b5d719179951a6b108830bda2a4f61a6edf7915558c6ca"), looks := true }, kinds := [], alts := [], laidByText := true, laidKinds := [.data, .pinned], laidTests := true, laidLooks := .later }
def StorePlaysCardSaid : Prop := Claim7.holds Tryz.pinned (.plain (OpenSpec.ofChange storePlaysSpec)) storePlaysCard

/-- THE TIED CARD OF 'aqulaw18.StoreBack'. -/
def storeBackCard : Claim7 := { stood := { row := storeBackRow, standIns := [], harness := (true, "3069cc7d4651d78001b5d719179951a6b108830bda2a4f61a6edf7915558c6ca"), looks := true }, kinds := [], alts := [], laidByText := true, laidKinds := [.data, .pinned], laidTests := true, laidLooks := .later }
def StoreBackCardSaid : Prop := Claim7.holds Tryz.pinned (.plain (OpenSpec.ofChange storeBackSpec)) storeBackCard

/-- THE TIED CARD OF 'aqulaw18.StoreTwins'. -/
def storeTwinsCard : Claim7 := { stood := { row := storeTwinsRow, standIns := [], harness := (true, "3069cc7d4651d78001b5d719179951a6b108830bda2a4f61a6edf7915558c6ca"), looks := true }, kinds := [], alts := [], laidByText := true, laidKinds := [.data, .pinned], laidTests := true, laidLooks := .later }
def StoreTwinsCardSaid : Prop := Claim7.holds Tryz.pinned (.plain (OpenSpec.ofChange storeTwinsSpec)) storeTwinsCard

/-- THE TIED CARD OF 'aqulaw21.RefsLoads'. -/
def refsLoadsCard : Claim7 := { stood := { row := refsLoadsRow, standIns := [], harness := (true, "3069cc7d4651d78001b5d719179951a6b108830bda2a4f61a6edf7915558c6ca"), looks := true }, kinds := [], alts := [], laidByText := true, laidKinds := [.data, .data, .data, .data, .pinned], laidTests := true, laidLooks := .later }
def RefsLoadsCardSaid : Prop := Claim7.holds Tryz.pinned (.plain (OpenSpec.ofChange refsLoadsSpec)) refsLoadsCard

/-- THE SECOND FORM's CARD OF 'aqulaw18.StorePlays'. -/
def storePlaysUptoCard : Claim7 := { stood := { row := storePlaysUptoRow, standIns := [], harness := (true, "3069cc7d4651d78001b5d719179951a6b108830bda2a4f61a6edf7915558c6ca"), looks := true }, kinds := [], alts := [], laidByText := true, laidKinds := [.data, .pinned], laidTests := true, laidLooks := .later }
def StorePlaysUptoCardSaid : Prop := Claim7.holds Tryz.pinned (.plain (OpenSpec.upto storePlaysSpec)) storePlaysUptoCard

/-- THE SECOND FORM's CARD OF 'aqulaw18.StoreBack'. -/
def storeBackUptoCard : Claim7 := { stood := { row := storeBackUptoRow, standIns := [], harness := (true, "3069cc7d4651d78001b5d719179951a6b108830bda2a4f61a6edf7915558c6ca"), looks := true }, kinds := [], alts := [], laidByText := true, laidKinds := [.data, .pinned], laidTests := true, laidLooks := .later }
def StoreBackUptoCardSaid : Prop := Claim7.holds Tryz.pinned (.plain (OpenSpec.upto storeBackSpec)) storeBackUptoCard

/-- THE SECOND FORM's CARD OF 'aqulaw18.StoreTwins'. -/
def storeTwinsUptoCard : Claim7 := { stood := { row := storeTwinsUptoRow, standIns := [], harness := (true, "3069cc7d4651d78001b5d719179951a6b108830bda2a4f61a6edf7915558c6ca"), looks := true }, kinds := [], alts := [], laidByText := true, laidKinds := [.data, .pinned], laidTests := true, laidLooks := .later }
def StoreTwinsUptoCardSaid : Prop := Claim7.holds Tryz.pinned (.plain (OpenSpec.upto storeTwinsSpec)) storeTwinsUptoCard

/-- THE SECOND FORM's CARD OF 'aqulaw21.RefsLoads'. -/
def refsLoadsUptoCard : Claim7 := { stood := { row := refsLoadsUptoRow, standIns := [], harness := (true, "3069cc7d4651d78001b5d719179951a6b108830bda2a4f61a6edf7915558c6ca"), looks := true }, kinds := [], alts := [], laidByText := true, laidKinds := [.data, .data, .data, .data, .pinned], laidTests := true, laidLooks := .later }
def RefsLoadsUptoCardSaid : Prop := Claim7.holds Tryz.pinned (.plain (OpenSpec.upto refsLoadsSpec)) refsLoadsUptoCard
end Rows
end Go.Proofs.YtlidiclfpklliaaGreatDoor
