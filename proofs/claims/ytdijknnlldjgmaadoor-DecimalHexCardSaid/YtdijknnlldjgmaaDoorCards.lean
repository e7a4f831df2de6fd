/-
  DERIVED. GIVEN WITH THE SEED: THE CARDS: each row of YtdijknnlldjgmaaDoorRows.lean that lists a variable, with what it lists TIED to the program's text (the seventh form; the later family's looks); each row that meets fmt, with fmt's text TOLD by the authors' own Lean function (tested against real Go, not proved from fmt's source: count such statements apart). THE CARD IS WHAT COUNTS. Prove the row's statement (the work); the ties are given (YtdijknnlldjgmaaDoorTie.lean); close each card by the builder's one call (the guide's Derived/Test/ToyasCard.lean, 'card_holds'). Laid BY PROGRAM, IN A SANDBOX (cutbox-door.mjs). By AI agents, Wed Nov 11 2026. No macro, syntax, notation, axiom, sorry.
-/
import Derived.Test.YtdijknnlldjgmaaDoorRows
import GoSem.ClaimSeven
namespace Go.Proofs.YtdijknnlldjgmaaDoor
namespace Rows

/-- THE TIED CARD OF 'exactreallaw06.DecimalFormats'. -/
def decimalFormatsCard : Claim7 := { stood := { row := decimalFormatsRow, standIns := [], harness := (true, "0ee50b827f400b76402bb15e98efc53938fc874e57bb250b86ebeb3a1e2e32d6"), looks := true }, kinds := [], alts := [], laidByText := true, laidKinds := [.data, .data, .data], laidTests := true, laidLooks := .later }
def DecimalFormatsCardSaid : Prop := Claim7.holds Tryd.pinned (.plain (OpenSpec.ofChange decimalFormatsSpec)) decimalFormatsCard

/-- THE TIED CARD OF 'exactreallaw06.DecimalBack'. -/
def decimalBackCard : Claim7 := { stood := { row := decimalBackRow, standIns := [], harness := (true, "0ee50b827f400b76402bb15e98efc53938fc874e57bb250b86ebeb3a1e2e32d6"), looks := true }, kinds := [], alts := [], laidByText := true, laidKinds := [.data, .data, .data], laidTests := true, laidLooks := .later }
def DecimalBackCardSaid : Prop := Claim7.holds Tryd.pinned (.plain (OpenSpec.ofChange decimalBackSpec)) decimalBackCard

/-- THE TIED CARD OF 'exactreallaw06.DecimalParses'. -/
def decimalParsesCard : Claim7 := { stood := { row := decimalParsesRow, standIns := [], harness := (true, "0ee50b827f400b76402bb15e98efc53938fc874e57bb250b86ebeb3a1e2e32d6"), looks := true }, kinds := [], alts := [], laidByText := true, laidKinds := [.data, .data, .data], laidTests := true, laidLooks := .later }
def DecimalParsesCardSaid : Prop := Claim7.holds Tryd.pinned (.plain (OpenSpec.ofChange decimalParsesSpec)) decimalParsesCard

/-- THE TIED CARD OF 'exactreallaw06.DecimalLong'. -/
def decimalLongCard : Claim7 := { stood := { row := decimalLongRow, standIns := [], harness := (true, "0ee50b827f400b76402bb15e98efc53938fc874e57bb250b86ebeb3a1e2e32d6"), looks := true }, kinds := [], alts := [], laidByText := true, laidKinds := [.data, .data, .data], laidTests := true, laidLooks := .later }
def DecimalLongCardSaid : Prop := Claim7.holds Tryd.pinned (.plain (OpenSpec.ofChange decimalLongSpec)) decimalLongCard

/-- THE TIED CARD OF 'exactreallaw06.DecimalSums'. -/
def decimalSumsCard : Claim7 := { stood := { row := decimalSumsRow, standIns := [], harness := (true, "0ee50b827f400b76402bb15e98efc53938fc874e57bb250b86ebeb3a1e2e32d6"), looks := true }, kinds := [], alts := [], laidByText := true, laidKinds := [.data, .data, .data], laidTests := true, laidLooks := .later }
def DecimalSumsCardSaid : Prop := Claim7.holds Tryd.pinned (.plain (OpenSpec.ofChange decimalSumsSpec)) decimalSumsCard

/-- THE TIED CARD OF 'exactreallaw06.DecimalHex'. -/
def decimalHexCard : Claim7 := { stood := { row := decimalHexRow, standIns := [], harness := (true, "0ee50b827f400b76402bb15e98efc53938fc874e57bb250b86ebeb3a1e2e32d6"), looks := true }, kinds := [], alts := [], laidByText := true, laidKinds := [.data, .data, .data, .sentinel, .sentinel], laidTests := true, laidLooks := .later }
def DecimalHexCardSaid : Prop := Claim7.holds Tryd.pinned (.plain (OpenSpec.ofChange decimalHexSpec)) decimalHexCard

/-- THE SECOND FORM's CARD OF 'exactreallaw06.DecimalFormats'. -/
def decimalFormatsUptoCard : Claim7 := { stood := { row := decimalFormatsUptoRow, standIns := [], harness := (true, "0ee50b827f400b76402bb15e98efc53938fc874e57bb250b86ebeb3a1e2e32d6"), looks := true }, kinds := [], alts := [], laidByText := true, laidKinds := [.data, .data, .data], laidTests := true, laidLooks := .later }
def DecimalFormatsUptoCardSaid : Prop := Claim7.holds Tryd.pinned (.plain (OpenSpec.upto decimalFormatsSpec)) decimalFormatsUptoCard

/-- THE SECOND FORM's CARD OF 'exactreallaw06.DecimalBack'. -/
def decimalBackUptoCard : Claim7 := { stood := { row := decimalBackUptoRow, standIns := [], harness := (true, "0ee50b827f400b76402bb15e98efc53938fc874e57bb250b86ebeb3a1e2e32d6"), looks := true }, kinds := [], alts := [], laidByText := true, laidKinds := [.data, .data, .data], laidTests := true, laidLooks := .later }
def DecimalBackUptoCardSaid : Prop := Claim7.holds Tryd.pinned (.plain (OpenSpec.upto decimalBackSpec)) decimalBackUptoCard

/-- THE SECOND FORM's CARD OF 'exactreallaw06.DecimalParses'. -/
def decimalParsesUptoCard : Claim7 := { stood := { row := decimalParsesUptoRow, standIns := [], harness := (true, "0ee50b827f400b76402bb15e98efc53938fc874e57bb250b86ebeb3a1e2e32d6"), looks := true }, kinds := [], alts := [], laidByText := true, laidKinds := [.data, .data, .data], laidTests := true, laidLooks := .later }
def DecimalParsesUptoCardSaid : Prop := Claim7.holds Tryd.pinned (.plain (OpenSpec.upto decimalParsesSpec)) decimalParsesUptoCard

/-- THE SECOND FORM's CARD OF 'exactreallaw06.DecimalLong'. -/
def decimalLongUptoCard : Claim7 := { stood := { row := decimalLongUptoRow, standIns := [], harness := (true, "0ee50b827f400b76402bb15e98efc53938fc874e57bb250b86ebeb3a1e2e32d6"), looks := true }, kinds := [], alts := [], laidByText := true, laidKinds := [.data, .data, .data], laidTests := true, laidLooks := .later }
def DecimalLongUptoCardSaid : Prop := Claim7.holds Tryd.pinned (.plain (OpenSpec.upto decimalLongSpec)) decimalLongUptoCard

/-- THE SECOND FORM's CARD OF 'exactreallaw06.DecimalSums'. -/
def decimalSumsUptoCard : Claim7 := { stood := { row := decimalSumsUptoRow, standIns := [], harness := (true, "0ee50b827f400b76402bb15e98efc53938fc874e57bb250b86ebeb3a1e2e32d6"), looks := true }, kinds := [], alts := [], laidByText := true, laidKinds := [.data, .data, .data], laidTests := true, laidLooks := .later }
def DecimalSumsUptoCardSaid : Prop := Claim7.holds Tryd.pinned (.plain (OpenSpec.upto decimalSumsSpec)) decimalSumsUptoCard

/-- THE SECOND FORM's CARD OF 'exactreallaw06.DecimalHex'. -/
def decimalHexUptoCard : Claim7 := { stood := { row := decimalHexUptoRow, standIns := [], harness := (true, "0ee50b827f400b76402bb15e98efc53938fc874e57bb250b86ebeb3a1e2e32d6"), looks := true }, kinds := [], alts := [], laidByText := true, laidKinds := [.data, .data, .data, .sentinel, .sentinel], laidTests := true, laidLooks := .later }
def DecimalHexUptoCardSaid : Prop := Claim7.holds Tryd.pinned (.plain (OpenSpec.upto decimalHexSpec)) decimalHexUptoCard
end Rows
end Go.Proofs.YtdijknnlldjgmaaDoor
