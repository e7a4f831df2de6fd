/-
  DERIVED. GIVEN WITH THE SEED: THE CARDS: each row of YtgbfppdkpolkdaaGreatDoorRows.lean that lists a variable, with what it lists TIED to the program's text (the seventh form; the later family's looks); each row that meets fmt, with fmt's text TOLD by the authors' own Lean function (tested against real Go, not proved from fmt's source: count such statements apart). THE CARD IS WHAT COUNTS. Prove the row's statement (the work); the ties are given (YtgbfppdkpolkdaaGreatDoorTie.lean); close each card by the builder's one call (the guide's Derived/Test/ToyasCard.lean, 'card_holds'). Laid BY PROGRAM, IN A SANDBOX (cutbox-door.mjs). By AI agents, Wed Nov 11 2026. No macro, syntax, notation, axiom, sorry.
-/
import Derived.Test.YtgbfppdkpolkdaaGreatDoorRows
import GoSem.ClaimSeven
namespace Go.Proofs.YtgbfppdkpolkdaaGreatDoor
namespace Rows

/-- THE TIED CARD OF 'exactreallaw19.ParserReads'. -/
def parserReadsCard : Claim7 := { stood := { row := parserReadsRow, standIns := [], harness := (true, "a2e358d552b5d469b8f93dca15647441ad627674a37032ee3361187a31b3f0d2"), looks := false }, kinds := [], alts := [], laidByText := true, laidKinds := [.data, .pinned], laidTests := true, laidLooks := .later }
def ParserReadsCardSaid : Prop := Claim7.holds Tryz.pinned (.plain (OpenSpec.ofChange parserReadsSpec)) parserReadsCard

/-- THE TIED CARD OF 'exactreallaw19.ParserTokens'. -/
def parserTokensCard : Claim7 := { stood := { row := parserTokensRow, standIns := [], harness := (true, "a2e358d552b5d469b8f93dca15647441ad627674a37032ee3361187a31b3f0d2"), looks := false }, kinds := [], alts := [], laidByText := true, laidKinds := [.data, .pinned], laidTests := true, laidLooks := .later }
def ParserTokensCardSaid : Prop := Claim7.holds Tryz.pinned (.plain (OpenSpec.ofChange parserTokensSpec)) parserTokensCard

/-- THE TIED CARD OF 'exactreallaw19.ParserSpaces'. -/
def parserSpacesCard : Claim7 := { stood := { row := parserSpacesRow, standIns := [], harness := (true, "a2e358d552b5d469b8f93dca15647441ad627674a37032ee3361187a31b3f0d2"), looks := false }, kinds := [], alts := [], laidByText := true, laidKinds := [.data, .pinned], laidTests := true, laidLooks := .later }
def ParserSpacesCardSaid : Prop := Claim7.holds Tryz.pinned (.plain (OpenSpec.ofChange parserSpacesSpec)) parserSpacesCard

/-- THE TIED CARD OF 'exactreallaw19.ParserLimits'. -/
def parserLimitsCard : Claim7 := { stood := { row := parserLimitsRow, standIns := [], harness := (true, "a2e358d552b5d469b8f93dca15647441ad627674a37032ee3361187a31b3f0d2"), looks := false }, kinds := [], alts := [], laidByText := true, laidKinds := [.data, .pinned], laidTests := true, laidLooks := .later }
def ParserLimitsCardSaid : Prop := Claim7.holds Tryz.pinned (.plain (OpenSpec.ofChange parserLimitsSpec)) parserLimitsCard

/-- THE TIED CARD OF 'exactreallaw19.ParserParts'. -/
def parserPartsCard : Claim7 := { stood := { row := parserPartsRow, standIns := [], harness := (true, "a2e358d552b5d469b8f93dca15647441ad627674a37032ee3361187a31b3f0d2"), looks := false }, kinds := [], alts := [], laidByText := true, laidKinds := [.data, .pinned], laidTests := true, laidLooks := .later }
def ParserPartsCardSaid : Prop := Claim7.holds Tryz.pinned (.plain (OpenSpec.ofChange parserPartsSpec)) parserPartsCard

/-- THE SECOND FORM's CARD OF 'exactreallaw19.ParserReads'. -/
def parserReadsUptoCard : Claim7 := { stood := { row := parserReadsUptoRow, standIns := [], harness := (true, "a2e358d552b5d469b8f93dca15647441ad627674a37032ee3361187a31b3f0d2"), looks := false }, kinds := [], alts := [], laidByText := true, laidKinds := [.data, .pinned], laidTests := true, laidLooks := .later }
def ParserReadsUptoCardSaid : Prop := Claim7.holds Tryz.pinned (.plain (OpenSpec.upto parserReadsSpec)) parserReadsUptoCard

/-- THE SECOND FORM's CARD OF 'exactreallaw19.ParserTokens'. -/
def parserTokensUptoCard : Claim7 := { stood := { row := parserTokensUptoRow, standIns := [], harness := (true, "a2e358d552b5d469b8f93dca15647441ad627674a37032ee3361187a31b3f0d2"), looks := false }, kinds := [], alts := [], laidByText := true, laidKinds := [.data, .pinned], laidTests := true, laidLooks := .later }
def ParserTokensUptoCardSaid : Prop := Claim7.holds Tryz.pinned (.plain (OpenSpec.upto parserTokensSpec)) parserTokensUptoCard

/-- THE SECOND FORM's CARD OF 'exactreallaw19.ParserSpaces'. -/
def parserSpacesUptoCard : Claim7 := { stood := { row := parserSpacesUptoRow, standIns := [], harness := (true, "a2e358d552b5d469b8f93dca15647441ad627674a37032ee3361187a31b3f0d2"), looks := false }, kinds := [], alts := [], laidByText := true, laidKinds := [.data, .pinned], laidTests := true, laidLooks := .later }
def ParserSpacesUptoCardSaid : Prop := Claim7.holds Tryz.pinned (.plain (OpenSpec.upto parserSpacesSpec)) parserSpacesUptoCard

/-- THE SECOND FORM's CARD OF 'exactreallaw19.ParserLimits'. -/
def parserLimitsUptoCard : Claim7 := { stood := { row := parserLimitsUptoRow, standIns := [], harness := (true, "a2e358d552b5d469b8f93dca15647441ad627674a37032ee3361187a31b3f0d2"), looks := false }, kinds := [], alts := [], laidByText := true, laidKinds := [.data, .pinned], laidTests := true, laidLooks := .later }
def ParserLimitsUptoCardSaid : Prop := Claim7.holds Tryz.pinned (.plain (OpenSpec.upto parserLimitsSpec)) parserLimitsUptoCard

/-- THE SECOND FORM's CARD OF 'exactreallaw19.ParserParts'. -/
def parserPartsUptoCard : Claim7 := { stood := { row := parserPartsUptoRow, standIns := [], harness := (true, "a2e358d552b5d469b8f93dca15647441ad627674a37032ee3361187a31b3f0d2"), looks := false }, kinds := [], alts := [], laidByText := true, laidKinds := [.data, .pinned], laidTests := true, laidLooks := .later }
def ParserPartsUptoCardSaid : Prop := Claim7.holds Tryz.pinned (.plain (OpenSpec.upto parserPartsSpec)) parserPartsUptoCard
end Rows
end Go.Proofs.YtgbfppdkpolkdaaGreatDoor
