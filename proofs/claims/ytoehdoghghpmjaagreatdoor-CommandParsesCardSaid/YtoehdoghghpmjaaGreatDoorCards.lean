/-
  DERIVED. GIVEN WITH THE SEED: THE CARDS: each row of YtoehdoghghpmjaaGreatDoorRows.lean that lists a variable, with what it lists TIED to the program's text (the seventh form; the later family's looks); each row that meets fmt, with fmt's text TOLD by the authors' own Lean function (tested against real Go, not proved from fmt's source: count such statements apart). THE CARD IS WHAT COUNTS. Prove the row's statement (the work); the ties are given (YtoehdoghghpmjaaGreatDoorTie.lean); close each card by the builder's one call (the guide's Derived/Test/ToyasCard.lean, 'card_holds'). Laid BY PROGRAM, IN A SANDBOX (cutbox-door.mjs). By AI agents, Wed Nov 11 2026. No macro, syntax, notation, axiom, sorry.
-/
import Derived.Test.YtoehdoghghpmjaaGreatDoorRows
import GoSem.ClaimSeven
namespace Go.Proofs.YtoehdoghghpmjaaGreatDoor
namespace Rows

/-- THE TIED CARD OF 'exactreallaw31.CommandParses'. -/
def commandParsesCard : Claim7 := { stood := { row := commandParsesRow, standIns := [], harness := (true, "97a42e9e9abbc49125fd0ce86a05a2fd0470b541ac9a66feb5a705b355ff2023"), looks := true }, kinds := [], alts := [], laidByText := true, laidKinds := [.data, .data, .data, .data, .sentinel, .sentinel, .pinned], laidTests := true, laidLooks := .later }
def CommandParsesCardSaid : Prop := Claim7.holds Tryz.pinned (.plain (OpenSpec.ofChange commandParsesSpec)) commandParsesCard

/-- THE TIED CARD OF 'exactreallaw31.CommandFormats'. -/
def commandFormatsCard : Claim7 := { stood := { row := commandFormatsRow, standIns := [], harness := (true, "97a42e9e9abbc49125fd0ce86a05a2fd0470b541ac9a66feb5a705b355ff2023"), looks := true }, kinds := [], alts := [], laidByText := true, laidKinds := [.data, .data, .data, .data, .sentinel, .sentinel, .pinned], laidTests := true, laidLooks := .later }
def CommandFormatsCardSaid : Prop := Claim7.holds Tryz.pinned (.plain (OpenSpec.ofChange commandFormatsSpec)) commandFormatsCard

/-- THE TIED CARD OF 'exactreallaw31.CommandBack'. -/
def commandBackCard : Claim7 := { stood := { row := commandBackRow, standIns := [], harness := (true, "97a42e9e9abbc49125fd0ce86a05a2fd0470b541ac9a66feb5a705b355ff2023"), looks := true }, kinds := [], alts := [], laidByText := true, laidKinds := [.data, .data, .data, .data, .sentinel, .sentinel, .pinned], laidTests := true, laidLooks := .later }
def CommandBackCardSaid : Prop := Claim7.holds Tryz.pinned (.plain (OpenSpec.ofChange commandBackSpec)) commandBackCard

/-- THE SECOND FORM's CARD OF 'exactreallaw31.CommandParses'. -/
def commandParsesUptoCard : Claim7 := { stood := { row := commandParsesUptoRow, standIns := [], harness := (true, "97a42e9e9abbc49125fd0ce86a05a2fd0470b541ac9a66feb5a705b355ff2023"), looks := true }, kinds := [], alts := [], laidByText := true, laidKinds := [.data, .data, .data, .data, .sentinel, .sentinel, .pinned], laidTests := true, laidLooks := .later }
def CommandParsesUptoCardSaid : Prop := Claim7.holds Tryz.pinned (.plain (OpenSpec.upto commandParsesSpec)) commandParsesUptoCard

/-- THE SECOND FORM's CARD OF 'exactreallaw31.CommandFormats'. -/
def commandFormatsUptoCard : Claim7 := { stood := { row := commandFormatsUptoRow, standIns := [], harness := (true, "97a42e9e9abbc49125fd0ce86a05a2fd0470b541ac9a66feb5a705b355ff2023"), looks := true }, kinds := [], alts := [], laidByText := true, laidKinds := [.data, .data, .data, .data, .sentinel, .sentinel, .pinned], laidTests := true, laidLooks := .later }
def CommandFormatsUptoCardSaid : Prop := Claim7.holds Tryz.pinned (.plain (OpenSpec.upto commandFormatsSpec)) commandFormatsUptoCard

/-- THE SECOND FORM's CARD OF 'exactreallaw31.CommandBack'. -/
def commandBackUptoCard : Claim7 := { stood := { row := commandBackUptoRow, standIns := [], harness := (true, "97a42e9e9abbc49125fd0ce86a05a2fd0470b541ac9a66feb5a705b355ff2023"), looks := true }, kinds := [], alts := [], laidByText := true, laidKinds := [.data, .data, .data, .data, .sentinel, .sentinel, .pinned], laidTests := true, laidLooks := .later }
def CommandBackUptoCardSaid : Prop := Claim7.holds Tryz.pinned (.plain (OpenSpec.upto commandBackSpec)) commandBackUptoCard
end Rows
end Go.Proofs.YtoehdoghghpmjaaGreatDoor
