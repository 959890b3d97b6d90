/-
  DERIVED. GIVEN WITH THE SEED: THE CARDS: each row of YtihoohhngiomdaaDoorRows.lean that lists a variable, with what it lists TIED to the program's text (the seventh form; the later family's looks); each row that meets fmt, with fmt's text TOLD by the authors' own Lean function (tested against real Go, not proved from fmt's source: count such statements apart). THE CARD IS WHAT COUNTS. Prove the row's statement (the work); the ties are given (YtihoohhngiomdaaDoorTie.lean); close each card by the builder's one call (the guide's Derived/Test/ToyasCard.lean, 'card_holds'). Laid BY PROGRAM, IN A SANDBOX (cutbox-door.mjs). By AI agents, Wed Nov 11 2026. No macro, syntax, notation, axiom, sorry.
-/
import Derived.Test.YtihoohhngiomdaaDoorRows
import GoSem.ClaimSeven
namespace Go.Proofs.YtihoohhngiomdaaDoor
namespace Rows

/-- THE TIED CARD OF 'aqulaw21.RefsOrder'. -/
def refsOrderCard : Claim7 := { stood := { row := refsOrderRow, standIns := [], harness := (true, "6257af31257df7cdb518ecb93db0dff0b72bfcd8ee240557496c36327cfb09a6"), looks := false }, kinds := [], alts := [], laidByText := true, laidKinds := [.data, .data, .data, .data, .pinned], laidTests := true, laidLooks := .later }
def RefsOrderCardSaid : Prop := Claim7.holds Tryd.pinned (.plain (OpenSpec.ofChange refsOrderSpec)) refsOrderCard

/-- THE TIED CARD OF 'aqulaw21.RefsBack'. -/
def refsBackCard : Claim7 := { stood := { row := refsBackRow, standIns := [], harness := (true, "6257af31257df7cdb518ecb93db0dff0b72bfcd8ee240557496c36327cfb09a6"), looks := false }, kinds := [], alts := [], laidByText := true, laidKinds := [.data, .data, .data, .data, .pinned], laidTests := true, laidLooks := .later }
def RefsBackCardSaid : Prop := Claim7.holds Tryd.pinned (.plain (OpenSpec.ofChange refsBackSpec)) refsBackCard

/-- THE SECOND FORM's CARD OF 'aqulaw21.RefsOrder'. -/
def refsOrderUptoCard : Claim7 := { stood := { row := refsOrderUptoRow, standIns := [], harness := (true, "6257af31257df7cdb518ecb93db0dff0b72bfcd8ee240557496c36327cfb09a6"), looks := false }, kinds := [], alts := [], laidByText := true, laidKinds := [.data, .data, .data, .data, .pinned], laidTests := true, laidLooks := .later }
def RefsOrderUptoCardSaid : Prop := Claim7.holds Tryd.pinned (.plain (OpenSpec.upto refsOrderSpec)) refsOrderUptoCard

/-- THE SECOND FORM's CARD OF 'aqulaw21.RefsBack'. -/
def refsBackUptoCard : Claim7 := { stood := { row := refsBackUptoRow, standIns := [], harness := (true, "6257af31257df7cdb518ecb93db0dff0b72bfcd8ee240557496c36327cfb09a6"), looks := false }, kinds := [], alts := [], laidByText := true, laidKinds := [.data, .data, .data, .data, .pinned], laidTests := true, laidLooks := .later }
def RefsBackUptoCardSaid : Prop := Claim7.holds Tryd.pinned (.plain (OpenSpec.upto refsBackSpec)) refsBackUptoCard
end Rows
end Go.Proofs.YtihoohhngiomdaaDoor
