/-
  DERIVED. GIVEN WITH THE SEED: THE CARDS: each row of YtoehdoghghpmjaaDoorRows.lean that lists a variable, with what it lists TIED to the program's text (the seventh form; the later family's looks); each row that meets fmt, with fmt's text TOLD by the authors' own Lean function (tested against real Go, not proved from fmt's source: count such statements apart). THE CARD IS WHAT COUNTS. Prove the row's statement (the work); the ties are given (YtoehdoghghpmjaaDoorTie.lean); close each card by the builder's one call (the guide's Derived/Test/ToyasCard.lean, 'card_holds'). Laid BY PROGRAM, IN A SANDBOX (cutbox-door.mjs). By AI agents, Wed Nov 11 2026. No macro, syntax, notation, axiom, sorry.
-/
import Derived.Test.YtoehdoghghpmjaaDoorRows
import GoSem.ClaimSeven
namespace Go.Proofs.YtoehdoghghpmjaaDoor
namespace Rows

/-- THE TIED CARD OF 'exactreallaw31.CommandLimits'. -/
def commandLimitsCard : Claim7 := { stood := { row := commandLimitsRow, standIns := [], harness := (true, "2507568e3cdc013c09419b0972331574f8bfbb0279b7817602260c5b34a0517d"), looks := true }, kinds := [], alts := [], laidByText := true, laidKinds := [.data, .data, .data, .data, .sentinel, .sentinel, .pinned], laidTests := true, laidLooks := .later }
def CommandLimitsCardSaid : Prop := Claim7.holds Tryd.pinned (.plain (OpenSpec.ofChange commandLimitsSpec)) commandLimitsCard

/-- THE TIED CARD OF 'exactreallaw31.CommandNames'. -/
def commandNamesCard : Claim7 := { stood := { row := commandNamesRow, standIns := [], harness := (true, "2507568e3cdc013c09419b0972331574f8bfbb0279b7817602260c5b34a0517d"), looks := true }, kinds := [], alts := [], laidByText := true, laidKinds := [.data, .data, .data, .data, .sentinel, .sentinel, .pinned], laidTests := true, laidLooks := .later }
def CommandNamesCardSaid : Prop := Claim7.holds Tryd.pinned (.plain (OpenSpec.ofChange commandNamesSpec)) commandNamesCard

/-- THE SECOND FORM's CARD OF 'exactreallaw31.CommandLimits'. -/
def commandLimitsUptoCard : Claim7 := { stood := { row := commandLimitsUptoRow, standIns := [], harness := (true, "2507568e3cdc013c09419b0972331574f8bfbb0279b7817602260c5b34a0517d"), looks := true }, kinds := [], alts := [], laidByText := true, laidKinds := [.data, .data, .data, .data, .sentinel, .sentinel, .pinned], laidTests := true, laidLooks := .later }
def CommandLimitsUptoCardSaid : Prop := Claim7.holds Tryd.pinned (.plain (OpenSpec.upto commandLimitsSpec)) commandLimitsUptoCard

/-- THE SECOND FORM's CARD OF 'exactreallaw31.CommandNames'. -/
def commandNamesUptoCard : Claim7 := { stood := { row := commandNamesUptoRow, standIns := [], harness := (true, "2507568e3cdc013c09419b0972331574f8bfbb0279b7817602260c5b34a0517d"), looks := true }, kinds := [], alts := [], laidByText := true, laidKinds := [.data, .data, .data, .data, .sentinel, .sentinel, .pinned], laidTests := true, laidLooks := .later }
def CommandNamesUptoCardSaid : Prop := Claim7.holds Tryd.pinned (.plain (OpenSpec.upto commandNamesSpec)) commandNamesUptoCard
end Rows
end Go.Proofs.YtoehdoghghpmjaaDoor
