/-
  DERIVED. GIVEN WITH THE SEED: THE CARDS: each row of YtplmldkfgeiklaaGreatDoorRows.lean that lists a variable, with what it lists TIED to the program's text (the seventh form; the later family's looks); each row that meets fmt, with fmt's text TOLD by the authors' own Lean function (tested against real Go, not proved from fmt's source: count such statements apart). THE CARD IS WHAT COUNTS. Prove the row's statement (the work); the ties are given (YtplmldkfgeiklaaGreatDoorTie.lean); close each card by the builder's one call (the guide's Derived/Test/ToyasCard.lean, 'card_holds'). Laid BY PROGRAM, IN A SANDBOX (cutbox-door.mjs). By AI agents, Wed Nov 11 2026. No macro, syntax, notation, axiom, sorry.
-/
import Derived.Test.YtplmldkfgeiklaaGreatDoorRows
import GoSem.ClaimSeven
namespace Go.Proofs.YtplmldkfgeiklaaGreatDoor
namespace Rows

/-- THE TIED CARD OF 'exactreallaw07.RationalDecimals'. -/
def rationalDecimalsCard : Claim7 := { stood := { row := rationalDecimalsRow, standIns := [], harness := (true, "4cde1d03ba891b8bedefcd2d8fa554566484f03ac1d19b8f47c5d25aa5dc60f2"), looks := false }, kinds := [], alts := [], laidByText := true, laidKinds := [.data, .data, .pinned], laidTests := true, laidLooks := .later }
def RationalDecimalsCardSaid : Prop := Claim7.holds Tryz.pinned (.plain (OpenSpec.ofChange rationalDecimalsSpec)) rationalDecimalsCard

/-- THE TIED CARD OF 'exactreallaw07.RationalParses'. -/
def rationalParsesCard : Claim7 := { stood := { row := rationalParsesRow, standIns := [], harness := (true, "4cde1d03ba891b8bedefcd2d8fa554566484f03ac1d19b8f47c5d25aa5dc60f2"), looks := false }, kinds := [], alts := [], laidByText := true, laidKinds := [.data, .data, .pinned], laidTests := true, laidLooks := .later }
def RationalParsesCardSaid : Prop := Claim7.holds Tryz.pinned (.plain (OpenSpec.ofChange rationalParsesSpec)) rationalParsesCard

/-- THE TIED CARD OF 'exactreallaw07.RationalRoots'. -/
def rationalRootsCard : Claim7 := { stood := { row := rationalRootsRow, standIns := [], harness := (true, "4cde1d03ba891b8bedefcd2d8fa554566484f03ac1d19b8f47c5d25aa5dc60f2"), looks := false }, kinds := [], alts := [], laidByText := true, laidKinds := [.data, .data, .pinned], laidTests := true, laidLooks := .later }
def RationalRootsCardSaid : Prop := Claim7.holds Tryz.pinned (.plain (OpenSpec.ofChange rationalRootsSpec)) rationalRootsCard

/-- THE TIED CARD OF 'exactreallaw07.RationalMakes'. -/
def rationalMakesCard : Claim7 := { stood := { row := rationalMakesRow, standIns := [], harness := (true, "4cde1d03ba891b8bedefcd2d8fa554566484f03ac1d19b8f47c5d25aa5dc60f2"), looks := false }, kinds := [], alts := [], laidByText := true, laidKinds := [.data, .data, .pinned], laidTests := true, laidLooks := .later }
def RationalMakesCardSaid : Prop := Claim7.holds Tryz.pinned (.plain (OpenSpec.ofChange rationalMakesSpec)) rationalMakesCard

/-- THE TIED CARD OF 'exactreallaw07.RationalFloors'. -/
def rationalFloorsCard : Claim7 := { stood := { row := rationalFloorsRow, standIns := [], harness := (true, "4cde1d03ba891b8bedefcd2d8fa554566484f03ac1d19b8f47c5d25aa5dc60f2"), looks := false }, kinds := [], alts := [], laidByText := true, laidKinds := [.data, .data, .pinned], laidTests := true, laidLooks := .later }
def RationalFloorsCardSaid : Prop := Claim7.holds Tryz.pinned (.plain (OpenSpec.ofChange rationalFloorsSpec)) rationalFloorsCard

/-- THE TIED CARD OF 'exactreallaw07.RationalPowers'. -/
def rationalPowersCard : Claim7 := { stood := { row := rationalPowersRow, standIns := [], harness := (true, "4cde1d03ba891b8bedefcd2d8fa554566484f03ac1d19b8f47c5d25aa5dc60f2"), looks := false }, kinds := [], alts := [], laidByText := true, laidKinds := [.data, .data, .pinned], laidTests := true, laidLooks := .later }
def RationalPowersCardSaid : Prop := Claim7.holds Tryz.pinned (.plain (OpenSpec.ofChange rationalPowersSpec)) rationalPowersCard

/-- THE TIED CARD OF 'exactreallaw07.RationalLaws'. -/
def rationalLawsCard : Claim7 := { stood := { row := rationalLawsRow, standIns := [], harness := (true, "4cde1d03ba891b8bedefcd2d8fa554566484f03ac1d19b8f47c5d25aa5dc60f2"), looks := false }, kinds := [], alts := [], laidByText := true, laidKinds := [.data, .data, .pinned], laidTests := true, laidLooks := .later }
def RationalLawsCardSaid : Prop := Claim7.holds Tryz.pinned (.plain (OpenSpec.ofChange rationalLawsSpec)) rationalLawsCard

/-- THE TIED CARD OF 'exactreallaw07.RationalField'. -/
def rationalFieldCard : Claim7 := { stood := { row := rationalFieldRow, standIns := [], harness := (true, "4cde1d03ba891b8bedefcd2d8fa554566484f03ac1d19b8f47c5d25aa5dc60f2"), looks := false }, kinds := [], alts := [], laidByText := true, laidKinds := [.data, .data, .pinned], laidTests := true, laidLooks := .later }
def RationalFieldCardSaid : Prop := Claim7.holds Tryz.pinned (.plain (OpenSpec.ofChange rationalFieldSpec)) rationalFieldCard

/-- THE TIED CARD OF 'exactreallaw07.RationalOrders'. -/
def rationalOrdersCard : Claim7 := { stood := { row := rationalOrdersRow, standIns := [], harness := (true, "4cde1d03ba891b8bedefcd2d8fa554566484f03ac1d19b8f47c5d25aa5dc60f2"), looks := false }, kinds := [], alts := [], laidByText := true, laidKinds := [.data, .data, .pinned], laidTests := true, laidLooks := .later }
def RationalOrdersCardSaid : Prop := Claim7.holds Tryz.pinned (.plain (OpenSpec.ofChange rationalOrdersSpec)) rationalOrdersCard

/-- THE SECOND FORM's CARD OF 'exactreallaw07.RationalDecimals'. -/
def rationalDecimalsUptoCard : Claim7 := { stood := { row := rationalDecimalsUptoRow, standIns := [], harness := (true, "4cde1d03ba891b8bedefcd2d8fa554566484f03ac1d19b8f47c5d25aa5dc60f2"), looks := false }, kinds := [], alts := [], laidByText := true, laidKinds := [.data, .data, .pinned], laidTests := true, laidLooks := .later }
def RationalDecimalsUptoCardSaid : Prop := Claim7.holds Tryz.pinned (.plain (OpenSpec.upto rationalDecimalsSpec)) rationalDecimalsUptoCard

/-- THE SECOND FORM's CARD OF 'exactreallaw07.RationalParses'. -/
def rationalParsesUptoCard : Claim7 := { stood := { row := rationalParsesUptoRow, standIns := [], harness := (true, "4cde1d03ba891b8bedefcd2d8fa554566484f03ac1d19b8f47c5d25aa5dc60f2"), looks := false }, kinds := [], alts := [], laidByText := true, laidKinds := [.data, .data, .pinned], laidTests := true, laidLooks := .later }
def RationalParsesUptoCardSaid : Prop := Claim7.holds Tryz.pinned (.plain (OpenSpec.upto rationalParsesSpec)) rationalParsesUptoCard

/-- THE SECOND FORM's CARD OF 'exactreallaw07.RationalRoots'. -/
def rationalRootsUptoCard : Claim7 := { stood := { row := rationalRootsUptoRow, standIns := [], harness := (true, "4cde1d03ba891b8bedefcd2d8fa554566484f03ac1d19b8f47c5d25aa5dc60f2"), looks := false }, kinds := [], alts := [], laidByText := true, laidKinds := [.data, .data, .pinned], laidTests := true, laidLooks := .later }
def RationalRootsUptoCardSaid : Prop := Claim7.holds Tryz.pinned (.plain (OpenSpec.upto rationalRootsSpec)) rationalRootsUptoCard

/-- THE SECOND FORM's CARD OF 'exactreallaw07.RationalMakes'. -/
def rationalMakesUptoCard : Claim7 := { stood := { row := rationalMakesUptoRow, standIns := [], harness := (true, "4cde1d03ba891b8bedefcd2d8fa554566484f03ac1d19b8f47c5d25aa5dc60f2"), looks := false }, kinds := [], alts := [], laidByText := true, laidKinds := [.data, .data, .pinned], laidTests := true, laidLooks := .later }
def RationalMakesUptoCardSaid : Prop := Claim7.holds Tryz.pinned (.plain (OpenSpec.upto rationalMakesSpec)) rationalMakesUptoCard

/-- THE SECOND FORM's CARD OF 'exactreallaw07.RationalFloors'. -/
def rationalFloorsUptoCard : Claim7 := { stood := { row := rationalFloorsUptoRow, standIns := [], harness := (true, "4cde1d03ba891b8bedefcd2d8fa554566484f03ac1d19b8f47c5d25aa5dc60f2"), looks := false }, kinds := [], alts := [], laidByText := true, laidKinds := [.data, .data, .pinned], laidTests := true, laidLooks := .later }
def RationalFloorsUptoCardSaid : Prop := Claim7.holds Tryz.pinned (.plain (OpenSpec.upto rationalFloorsSpec)) rationalFloorsUptoCard

/-- THE SECOND FORM's CARD OF 'exactreallaw07.RationalPowers'. -/
def rationalPowersUptoCard : Claim7 := { stood := { row := rationalPowersUptoRow, standIns := [], harness := (true, "4cde1d03ba891b8bedefcd2d8fa554566484f03ac1d19b8f47c5d25aa5dc60f2"), looks := false }, kinds := [], alts := [], laidByText := true, laidKinds := [.data, .data, .pinned], laidTests := true, laidLooks := .later }
def RationalPowersUptoCardSaid : Prop := Claim7.holds Tryz.pinned (.plain (OpenSpec.upto rationalPowersSpec)) rationalPowersUptoCard

/-- THE SECOND FORM's CARD OF 'exactreallaw07.RationalLaws'. -/
def rationalLawsUptoCard : Claim7 := { stood := { row := rationalLawsUptoRow, standIns := [], harness := (true, "4cde1d03ba891b8bedefcd2d8fa554566484f03ac1d19b8f47c5d25aa5dc60f2"), looks := false }, kinds := [], alts := [], laidByText := true, laidKinds := [.data, .data, .pinned], laidTests := true, laidLooks := .later }
def RationalLawsUptoCardSaid : Prop := Claim7.holds Tryz.pinned (.plain (OpenSpec.upto rationalLawsSpec)) rationalLawsUptoCard

/-- THE SECOND FORM's CARD OF 'exactreallaw07.RationalField'. -/
def rationalFieldUptoCard : Claim7 := { stood := { row := rationalFieldUptoRow, standIns := [], harness := (true, "4cde1d03ba891b8bedefcd2d8fa554566484f03ac1d19b8f47c5d25aa5dc60f2"), looks := false }, kinds := [], alts := [], laidByText := true, laidKinds := [.data, .data, .pinned], laidTests := true, laidLooks := .later }
def RationalFieldUptoCardSaid : Prop := Claim7.holds Tryz.pinned (.plain (OpenSpec.upto rationalFieldSpec)) rationalFieldUptoCard

/-- THE SECOND FORM's CARD OF 'exactreallaw07.RationalOrders'. -/
def rationalOrdersUptoCard : Claim7 := { stood := { row := rationalOrdersUptoRow, standIns := [], harness := (true, "4cde1d03ba891b8bedefcd2d8fa554566484f03ac1d19b8f47c5d25aa5dc60f2"), looks := false }, kinds := [], alts := [], laidByText := true, laidKinds := [.data, .data, .pinned], laidTests := true, laidLooks := .later }
def RationalOrdersUptoCardSaid : Prop := Claim7.holds Tryz.pinned (.plain (OpenSpec.upto rationalOrdersSpec)) rationalOrdersUptoCard
end Rows
end Go.Proofs.YtplmldkfgeiklaaGreatDoor
