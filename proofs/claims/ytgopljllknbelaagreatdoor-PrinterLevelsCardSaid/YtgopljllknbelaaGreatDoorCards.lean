/-
  DERIVED. GIVEN WITH THE SEED: THE CARDS: each row of YtgopljllknbelaaGreatDoorRows.lean that lists a variable, with what it lists TIED to the program's text (the seventh form; the later family's looks); each row that meets fmt, with fmt's text TOLD by the authors' own Lean function (tested against real Go, not proved from fmt's source: count such statements apart). THE CARD IS WHAT COUNTS. Prove the row's statement (the work); the ties are given (YtgopljllknbelaaGreatDoorTie.lean); close each card by the builder's one call (the guide's Derived/Test/ToyasCard.lean, 'card_holds'). Laid BY PROGRAM, IN A SANDBOX (cutbox-door.mjs). By AI agents, Wed Nov 11 2026. No macro, syntax, notation, axiom, sorry.
-/
import Derived.Test.YtgopljllknbelaaGreatDoorRows
import GoSem.ClaimSeven
namespace Go.Proofs.YtgopljllknbelaaGreatDoor
namespace Rows

/-- THE TIED CARD OF 'exactreallaw19.ParserParts'. -/
def parserPartsCard : Claim7 := { stood := { row := parserPartsRow, standIns := [], harness := (true, "dcf82ae568a81fd7009adb4d76c58cd80f9824c0d401971c200a5d9b7b264ea4"), looks := false }, kinds := [], alts := [], laidByText := true, laidKinds := [.data, .pinned], laidTests := true, laidLooks := .later }
def ParserPartsCardSaid : Prop := Claim7.holds Tryz.pinned (.plain (OpenSpec.ofChange parserPartsSpec)) parserPartsCard

/-- THE TIED CARD OF 'exactreallaw20.PrinterFewest'. -/
def printerFewestCard : Claim7 := { stood := { row := printerFewestRow, standIns := [], harness := (true, "dcf82ae568a81fd7009adb4d76c58cd80f9824c0d401971c200a5d9b7b264ea4"), looks := false }, kinds := [], alts := [], laidByText := true, laidKinds := [.data, .data, .data, .data, .pinned], laidTests := true, laidLooks := .later }
def PrinterFewestCardSaid : Prop := Claim7.holds Tryz.pinned (.plain (OpenSpec.ofChange printerFewestSpec)) printerFewestCard

/-- THE TIED CARD OF 'exactreallaw20.PrinterLevels'. -/
def printerLevelsCard : Claim7 := { stood := { row := printerLevelsRow, standIns := [], harness := (true, "dcf82ae568a81fd7009adb4d76c58cd80f9824c0d401971c200a5d9b7b264ea4"), looks := false }, kinds := [], alts := [], laidByText := true, laidKinds := [.data, .data, .data, .data, .pinned], laidTests := true, laidLooks := .later }
def PrinterLevelsCardSaid : Prop := Claim7.holds Tryz.pinned (.plain (OpenSpec.ofChange printerLevelsSpec)) printerLevelsCard

/-- THE TIED CARD OF 'exactreallaw20.PrinterBack'. -/
def printerBackCard : Claim7 := { stood := { row := printerBackRow, standIns := [], harness := (true, "dcf82ae568a81fd7009adb4d76c58cd80f9824c0d401971c200a5d9b7b264ea4"), looks := false }, kinds := [], alts := [], laidByText := true, laidKinds := [.data, .data, .data, .data, .pinned], laidTests := true, laidLooks := .later }
def PrinterBackCardSaid : Prop := Claim7.holds Tryz.pinned (.plain (OpenSpec.ofChange printerBackSpec)) printerBackCard

/-- THE TIED CARD OF 'exactreallaw20.PrinterOnce'. -/
def printerOnceCard : Claim7 := { stood := { row := printerOnceRow, standIns := [], harness := (true, "dcf82ae568a81fd7009adb4d76c58cd80f9824c0d401971c200a5d9b7b264ea4"), looks := false }, kinds := [], alts := [], laidByText := true, laidKinds := [.data, .data, .data, .data, .pinned], laidTests := true, laidLooks := .later }
def PrinterOnceCardSaid : Prop := Claim7.holds Tryz.pinned (.plain (OpenSpec.ofChange printerOnceSpec)) printerOnceCard

/-- THE SECOND FORM's CARD OF 'exactreallaw19.ParserParts'. -/
def parserPartsUptoCard : Claim7 := { stood := { row := parserPartsUptoRow, standIns := [], harness := (true, "dcf82ae568a81fd7009adb4d76c58cd80f9824c0d401971c200a5d9b7b264ea4"), looks := false }, kinds := [], alts := [], laidByText := true, laidKinds := [.data, .pinned], laidTests := true, laidLooks := .later }
def ParserPartsUptoCardSaid : Prop := Claim7.holds Tryz.pinned (.plain (OpenSpec.upto parserPartsSpec)) parserPartsUptoCard

/-- THE SECOND FORM's CARD OF 'exactreallaw20.PrinterFewest'. -/
def printerFewestUptoCard : Claim7 := { stood := { row := printerFewestUptoRow, standIns := [], harness := (true, "dcf82ae568a81fd7009adb4d76c58cd80f9824c0d401971c200a5d9b7b264ea4"), looks := false }, kinds := [], alts := [], laidByText := true, laidKinds := [.data, .data, .data, .data, .pinned], laidTests := true, laidLooks := .later }
def PrinterFewestUptoCardSaid : Prop := Claim7.holds Tryz.pinned (.plain (OpenSpec.upto printerFewestSpec)) printerFewestUptoCard

/-- THE SECOND FORM's CARD OF 'exactreallaw20.PrinterLevels'. -/
def printerLevelsUptoCard : Claim7 := { stood := { row := printerLevelsUptoRow, standIns := [], harness := (true, "dcf82ae568a81fd7009adb4d76c58cd80f9824c0d401971c200a5d9b7b264ea4"), looks := false }, kinds := [], alts := [], laidByText := true, laidKinds := [.data, .data, .data, .data, .pinned], laidTests := true, laidLooks := .later }
def PrinterLevelsUptoCardSaid : Prop := Claim7.holds Tryz.pinned (.plain (OpenSpec.upto printerLevelsSpec)) printerLevelsUptoCard

/-- THE SECOND FORM's CARD OF 'exactreallaw20.PrinterBack'. -/
def printerBackUptoCard : Claim7 := { stood := { row := printerBackUptoRow, standIns := [], harness := (true, "dcf82ae568a81fd7009adb4d76c58cd80f9824c0d401971c200a5d9b7b264ea4"), looks := false }, kinds := [], alts := [], laidByText := true, laidKinds := [.data, .data, .data, .data, .pinned], laidTests := true, laidLooks := .later }
def PrinterBackUptoCardSaid : Prop := Claim7.holds Tryz.pinned (.plain (OpenSpec.upto printerBackSpec)) printerBackUptoCard

/-- THE SECOND FORM's CARD OF 'exactreallaw20.PrinterOnce'. -/
def printerOnceUptoCard : Claim7 := { stood := { row := printerOnceUptoRow, standIns := [], harness := (true, "dcf82ae568a81fd7009adb4d76c58cd80f9824c0d401971c200a5d9b7b264ea4"), looks := false }, kinds := [], alts := [], laidByText := true, laidKinds := [.data, .data, .data, .data, .pinned], laidTests := true, laidLooks := .later }
def PrinterOnceUptoCardSaid : Prop := Claim7.holds Tryz.pinned (.plain (OpenSpec.upto printerOnceSpec)) printerOnceUptoCard
end Rows
end Go.Proofs.YtgopljllknbelaaGreatDoor
