/-
  DERIVED. GIVEN WITH THE SEED: THE CARDS: each row of YtbmmnpggadakdaaDoorRows.lean that lists a variable, with what it lists TIED to the program's text (the seventh form; the later family's looks); each row that meets fmt, with fmt's text TOLD by the authors' own Lean function (tested against real Go, not proved from fmt's source: count such statements apart). THE CARD IS WHAT COUNTS. Prove the row's statement (the work); the ties are given (YtbmmnpggadakdaaDoorTie.lean); close each card by the builder's one call (the guide's Derived/Test/ToyasCard.lean, 'card_holds'). Laid BY PROGRAM, IN A SANDBOX (cutbox-door.mjs). By AI agents, Wed Nov 11 2026. No macro, syntax, notation, axiom, sorry.
-/
import Derived.Test.YtbmmnpggadakdaaDoorRows
import GoSem.ClaimSeven
namespace Go.Proofs.YtbmmnpggadakdaaDoor
namespace Rows

/-- THE TIED CARD OF 'exactreallaw34.RecordSums'. -/
def recordSumsCard : Claim7 := { stood := { row := recordSumsRow, standIns := [], harness := (true, "4ed68f026a9453e0da3eaa4c0796966095c4e16d6a0064700fcb4dd908fcb5ff"), looks := true }, kinds := [], alts := [], laidByText := true, laidKinds := [.data, .data, .data, .data, .pinned], laidTests := true, laidLooks := .later }
def RecordSumsCardSaid : Prop := Claim7.holds Tryd.pinned (.plain (OpenSpec.ofChange recordSumsSpec)) recordSumsCard

/-- THE TIED CARD OF 'exactreallaw34.RecordFields'. -/
def recordFieldsCard : Claim7 := { stood := { row := recordFieldsRow, standIns := [], harness := (true, "4ed68f026a9453e0da3eaa4c0796966095c4e16d6a0064700fcb4dd908fcb5ff"), looks := true }, kinds := [], alts := [], laidByText := true, laidKinds := [.data, .data, .data, .data, .pinned], laidTests := true, laidLooks := .later }
def RecordFieldsCardSaid : Prop := Claim7.holds Tryd.pinned (.plain (OpenSpec.ofChange recordFieldsSpec)) recordFieldsCard

/-- THE TIED CARD OF 'exactreallaw34.RecordNumbers'. -/
def recordNumbersCard : Claim7 := { stood := { row := recordNumbersRow, standIns := [], harness := (true, "4ed68f026a9453e0da3eaa4c0796966095c4e16d6a0064700fcb4dd908fcb5ff"), looks := true }, kinds := [], alts := [], laidByText := true, laidKinds := [.data, .data, .data, .data, .pinned], laidTests := true, laidLooks := .later }
def RecordNumbersCardSaid : Prop := Claim7.holds Tryd.pinned (.plain (OpenSpec.ofChange recordNumbersSpec)) recordNumbersCard

/-- THE TIED CARD OF 'exactreallaw34.RecordBack'. -/
def recordBackCard : Claim7 := { stood := { row := recordBackRow, standIns := [], harness := (true, "4ed68f026a9453e0da3eaa4c0796966095c4e16d6a0064700fcb4dd908fcb5ff"), looks := true }, kinds := [], alts := [], laidByText := true, laidKinds := [.data, .data, .data, .data, .sentinel, .sentinel, .pinned], laidTests := true, laidLooks := .later }
def RecordBackCardSaid : Prop := Claim7.holds Tryd.pinned (.plain (OpenSpec.ofChange recordBackSpec)) recordBackCard

/-- THE TIED CARD OF 'exactreallaw34.RecordOpens'. -/
def recordOpensCard : Claim7 := { stood := { row := recordOpensRow, standIns := [], harness := (true, "4ed68f026a9453e0da3eaa4c0796966095c4e16d6a0064700fcb4dd908fcb5ff"), looks := true }, kinds := [], alts := [], laidByText := true, laidKinds := [.data, .data, .data, .data, .sentinel, .sentinel, .pinned], laidTests := true, laidLooks := .later }
def RecordOpensCardSaid : Prop := Claim7.holds Tryd.pinned (.plain (OpenSpec.ofChange recordOpensSpec)) recordOpensCard

/-- THE SECOND FORM's CARD OF 'exactreallaw34.RecordSums'. -/
def recordSumsUptoCard : Claim7 := { stood := { row := recordSumsUptoRow, standIns := [], harness := (true, "4ed68f026a9453e0da3eaa4c0796966095c4e16d6a0064700fcb4dd908fcb5ff"), looks := true }, kinds := [], alts := [], laidByText := true, laidKinds := [.data, .data, .data, .data, .pinned], laidTests := true, laidLooks := .later }
def RecordSumsUptoCardSaid : Prop := Claim7.holds Tryd.pinned (.plain (OpenSpec.upto recordSumsSpec)) recordSumsUptoCard

/-- THE SECOND FORM's CARD OF 'exactreallaw34.RecordFields'. -/
def recordFieldsUptoCard : Claim7 := { stood := { row := recordFieldsUptoRow, standIns := [], harness := (true, "4ed68f026a9453e0da3eaa4c0796966095c4e16d6a0064700fcb4dd908fcb5ff"), looks := true }, kinds := [], alts := [], laidByText := true, laidKinds := [.data, .data, .data, .data, .pinned], laidTests := true, laidLooks := .later }
def RecordFieldsUptoCardSaid : Prop := Claim7.holds Tryd.pinned (.plain (OpenSpec.upto recordFieldsSpec)) recordFieldsUptoCard

/-- THE SECOND FORM's CARD OF 'exactreallaw34.RecordNumbers'. -/
def recordNumbersUptoCard : Claim7 := { stood := { row := recordNumbersUptoRow, standIns := [], harness := (true, "4ed68f026a9453e0da3eaa4c0796966095c4e16d6a0064700fcb4dd908fcb5ff"), looks := true }, kinds := [], alts := [], laidByText := true, laidKinds := [.data, .data, .data, .data, .pinned], laidTests := true, laidLooks := .later }
def RecordNumbersUptoCardSaid : Prop := Claim7.holds Tryd.pinned (.plain (OpenSpec.upto recordNumbersSpec)) recordNumbersUptoCard

/-- THE SECOND FORM's CARD OF 'exactreallaw34.RecordBack'. -/
def recordBackUptoCard : Claim7 := { stood := { row := recordBackUptoRow, standIns := [], harness := (true, "4ed68f026a9453e0da3eaa4c0796966095c4e16d6a0064700fcb4dd908fcb5ff"), looks := true }, kinds := [], alts := [], laidByText := true, laidKinds := [.data, .data, .data, .data, .sentinel, .sentinel, .pinned], laidTests := true, laidLooks := .later }
def RecordBackUptoCardSaid : Prop := Claim7.holds Tryd.pinned (.plain (OpenSpec.upto recordBackSpec)) recordBackUptoCard

/-- THE SECOND FORM's CARD OF 'exactreallaw34.RecordOpens'. -/
def recordOpensUptoCard : Claim7 := { stood := { row := recordOpensUptoRow, standIns := [], harness := (true, "4ed68f026a9453e0da3eaa4c0796966095c4e16d6a0064700fcb4dd908fcb5ff"), looks := true }, kinds := [], alts := [], laidByText := true, laidKinds := [.data, .data, .data, .data, .sentinel, .sentinel, .pinned], laidTests := true, laidLooks := .later }
def RecordOpensUptoCardSaid : Prop := Claim7.holds Tryd.pinned (.plain (OpenSpec.upto recordOpensSpec)) recordOpensUptoCard
end Rows
end Go.Proofs.YtbmmnpggadakdaaDoor
