/-
  DERIVED. GIVEN WITH THE SEED: THE CARDS: each row of YtkoaogkknnelaaaGreatDoorRows.lean that lists a variable, with what it lists TIED to the program's text (the seventh form; the later family's looks); each row that meets fmt, with fmt's text TOLD by the authors' own Lean function (tested against real Go, not proved from fmt's source: count such statements apart). THE CARD IS WHAT COUNTS. Prove the row's statement (the work); the ties are given (YtkoaogkknnelaaaGreatDoorTie.lean); close each card by the builder's one call (the guide's Derived/Test/ToyasCard.lean, 'card_holds'). Laid BY PROGRAM, IN A SANDBOX (cutbox-door.mjs). By AI agents, Wed Nov 11 2026. No macro, syntax, notation, axiom, sorry.
-/
import Derived.Test.YtkoaogkknnelaaaGreatDoorRows
import GoSem.ClaimSeven
namespace Go.Proofs.YtkoaogkknnelaaaGreatDoor
namespace Rows

/-- THE TIED CARD OF 'exactreallaw22.ExactSmall'. -/
def exactSmallCard : Claim7 := { stood := { row := exactSmallRow, standIns := [], harness := (true, "39e9549cc7ad8def82a62096f5c1e5209c3e8d55357ed9d6f726b7ae821a748b"), looks := true }, kinds := [], alts := [], laidByText := true, laidKinds := [.data, .pinned], laidTests := true, laidLooks := .later }
def ExactSmallCardSaid : Prop := Claim7.holds Tryz.pinned (.plain (OpenSpec.ofChange exactSmallSpec)) exactSmallCard

/-- THE TIED CARD OF 'exactreallaw22.ExactAlone'. -/
def exactAloneCard : Claim7 := { stood := { row := exactAloneRow, standIns := [], harness := (true, "39e9549cc7ad8def82a62096f5c1e5209c3e8d55357ed9d6f726b7ae821a748b"), looks := true }, kinds := [], alts := [], laidByText := true, laidKinds := [.data, .pinned], laidTests := true, laidLooks := .later }
def ExactAloneCardSaid : Prop := Claim7.holds Tryz.pinned (.plain (OpenSpec.ofChange exactAloneSpec)) exactAloneCard

/-- THE TIED CARD OF 'exactreallaw22.ExactTables'. -/
def exactTablesCard : Claim7 := { stood := { row := exactTablesRow, standIns := [], harness := (true, "39e9549cc7ad8def82a62096f5c1e5209c3e8d55357ed9d6f726b7ae821a748b"), looks := true }, kinds := [], alts := [], laidByText := true, laidKinds := [.data, .pinned], laidTests := true, laidLooks := .later }
def ExactTablesCardSaid : Prop := Claim7.holds Tryz.pinned (.plain (OpenSpec.ofChange exactTablesSpec)) exactTablesCard

/-- THE TIED CARD OF 'exactreallaw23.ClosureValid'. -/
def closureValidCard : Claim7 := { stood := { row := closureValidRow, standIns := [], harness := (true, "39e9549cc7ad8def82a62096f5c1e5209c3e8d55357ed9d6f726b7ae821a748b"), looks := true }, kinds := [], alts := [], laidByText := true, laidKinds := [.data, .pinned], laidTests := true, laidLooks := .later }
def ClosureValidCardSaid : Prop := Claim7.holds Tryz.pinned (.plain (OpenSpec.ofChange closureValidSpec)) closureValidCard

/-- THE TIED CARD OF 'exactreallaw23.ClosureCloses'. -/
def closureClosesCard : Claim7 := { stood := { row := closureClosesRow, standIns := [], harness := (true, "39e9549cc7ad8def82a62096f5c1e5209c3e8d55357ed9d6f726b7ae821a748b"), looks := true }, kinds := [], alts := [], laidByText := true, laidKinds := [.data, .pinned], laidTests := true, laidLooks := .later }
def ClosureClosesCardSaid : Prop := Claim7.holds Tryz.pinned (.plain (OpenSpec.ofChange closureClosesSpec)) closureClosesCard

/-- THE TIED CARD OF 'exactreallaw23.ClosureNeeds'. -/
def closureNeedsCard : Claim7 := { stood := { row := closureNeedsRow, standIns := [], harness := (true, "39e9549cc7ad8def82a62096f5c1e5209c3e8d55357ed9d6f726b7ae821a748b"), looks := true }, kinds := [], alts := [], laidByText := true, laidKinds := [.data, .pinned], laidTests := true, laidLooks := .later }
def ClosureNeedsCardSaid : Prop := Claim7.holds Tryz.pinned (.plain (OpenSpec.ofChange closureNeedsSpec)) closureNeedsCard

/-- THE TIED CARD OF 'exactreallaw23.ClosureCyclic'. -/
def closureCyclicCard : Claim7 := { stood := { row := closureCyclicRow, standIns := [], harness := (true, "39e9549cc7ad8def82a62096f5c1e5209c3e8d55357ed9d6f726b7ae821a748b"), looks := true }, kinds := [], alts := [], laidByText := true, laidKinds := [.data, .pinned], laidTests := true, laidLooks := .later }
def ClosureCyclicCardSaid : Prop := Claim7.holds Tryz.pinned (.plain (OpenSpec.ofChange closureCyclicSpec)) closureCyclicCard

/-- THE TIED CARD OF 'exactreallaw23.ClosureLimits'. -/
def closureLimitsCard : Claim7 := { stood := { row := closureLimitsRow, standIns := [], harness := (true, "39e9549cc7ad8def82a62096f5c1e5209c3e8d55357ed9d6f726b7ae821a748b"), looks := true }, kinds := [], alts := [], laidByText := true, laidKinds := [.data, .pinned], laidTests := true, laidLooks := .later }
def ClosureLimitsCardSaid : Prop := Claim7.holds Tryz.pinned (.plain (OpenSpec.ofChange closureLimitsSpec)) closureLimitsCard

/-- THE TIED CARD OF 'exactreallaw23.ClosureTexts'. -/
def closureTextsCard : Claim7 := { stood := { row := closureTextsRow, standIns := [], harness := (true, "39e9549cc7ad8def82a62096f5c1e5209c3e8d55357ed9d6f726b7ae821a748b"), looks := true }, kinds := [], alts := [], laidByText := true, laidKinds := [.data, .pinned], laidTests := true, laidLooks := .later }
def ClosureTextsCardSaid : Prop := Claim7.holds Tryz.pinned (.plain (OpenSpec.ofChange closureTextsSpec)) closureTextsCard

/-- THE SECOND FORM's CARD OF 'exactreallaw22.ExactSmall'. -/
def exactSmallUptoCard : Claim7 := { stood := { row := exactSmallUptoRow, standIns := [], harness := (true, "39e9549cc7ad8def82a62096f5c1e5209c3e8d55357ed9d6f726b7ae821a748b"), looks := true }, kinds := [], alts := [], laidByText := true, laidKinds := [.data, .pinned], laidTests := true, laidLooks := .later }
def ExactSmallUptoCardSaid : Prop := Claim7.holds Tryz.pinned (.plain (OpenSpec.upto exactSmallSpec)) exactSmallUptoCard

/-- THE SECOND FORM's CARD OF 'exactreallaw22.ExactAlone'. -/
def exactAloneUptoCard : Claim7 := { stood := { row := exactAloneUptoRow, standIns := [], harness := (true, "39e9549cc7ad8def82a62096f5c1e5209c3e8d55357ed9d6f726b7ae821a748b"), looks := true }, kinds := [], alts := [], laidByText := true, laidKinds := [.data, .pinned], laidTests := true, laidLooks := .later }
def ExactAloneUptoCardSaid : Prop := Claim7.holds Tryz.pinned (.plain (OpenSpec.upto exactAloneSpec)) exactAloneUptoCard

/-- THE SECOND FORM's CARD OF 'exactreallaw22.ExactTables'. -/
def exactTablesUptoCard : Claim7 := { stood := { row := exactTablesUptoRow, standIns := [], harness := (true, "39e9549cc7ad8def82a62096f5c1e5209c3e8d55357ed9d6f726b7ae821a748b"), looks := true }, kinds := [], alts := [], laidByText := true, laidKinds := [.data, .pinned], laidTests := true, laidLooks := .later }
def ExactTablesUptoCardSaid : Prop := Claim7.holds Tryz.pinned (.plain (OpenSpec.upto exactTablesSpec)) exactTablesUptoCard

/-- THE SECOND FORM's CARD OF 'exactreallaw23.ClosureValid'. -/
def closureValidUptoCard : Claim7 := { stood := { row := closureValidUptoRow, standIns := [], harness := (true, "39e9549cc7ad8def82a62096f5c1e5209c3e8d55357ed9d6f726b7ae821a748b"), looks := true }, kinds := [], alts := [], laidByText := true, laidKinds := [.data, .pinned], laidTests := true, laidLooks := .later }
def ClosureValidUptoCardSaid : Prop := Claim7.holds Tryz.pinned (.plain (OpenSpec.upto closureValidSpec)) closureValidUptoCard

/-- THE SECOND FORM's CARD OF 'exactreallaw23.ClosureCloses'. -/
def closureClosesUptoCard : Claim7 := { stood := { row := closureClosesUptoRow, standIns := [], harness := (true, "39e9549cc7ad8def82a62096f5c1e5209c3e8d55357ed9d6f726b7ae821a748b"), looks := true }, kinds := [], alts := [], laidByText := true, laidKinds := [.data, .pinned], laidTests := true, laidLooks := .later }
def ClosureClosesUptoCardSaid : Prop := Claim7.holds Tryz.pinned (.plain (OpenSpec.upto closureClosesSpec)) closureClosesUptoCard

/-- THE SECOND FORM's CARD OF 'exactreallaw23.ClosureNeeds'. -/
def closureNeedsUptoCard : Claim7 := { stood := { row := closureNeedsUptoRow, standIns := [], harness := (true, "39e9549cc7ad8def82a62096f5c1e5209c3e8d55357ed9d6f726b7ae821a748b"), looks := true }, kinds := [], alts := [], laidByText := true, laidKinds := [.data, .pinned], laidTests := true, laidLooks := .later }
def ClosureNeedsUptoCardSaid : Prop := Claim7.holds Tryz.pinned (.plain (OpenSpec.upto closureNeedsSpec)) closureNeedsUptoCard

/-- THE SECOND FORM's CARD OF 'exactreallaw23.ClosureCyclic'. -/
def closureCyclicUptoCard : Claim7 := { stood := { row := closureCyclicUptoRow, standIns := [], harness := (true, "39e9549cc7ad8def82a62096f5c1e5209c3e8d55357ed9d6f726b7ae821a748b"), looks := true }, kinds := [], alts := [], laidByText := true, laidKinds := [.data, .pinned], laidTests := true, laidLooks := .later }
def ClosureCyclicUptoCardSaid : Prop := Claim7.holds Tryz.pinned (.plain (OpenSpec.upto closureCyclicSpec)) closureCyclicUptoCard

/-- THE SECOND FORM's CARD OF 'exactreallaw23.ClosureLimits'. -/
def closureLimitsUptoCard : Claim7 := { stood := { row := closureLimitsUptoRow, standIns := [], harness := (true, "39e9549cc7ad8def82a62096f5c1e5209c3e8d55357ed9d6f726b7ae821a748b"), looks := true }, kinds := [], alts := [], laidByText := true, laidKinds := [.data, .pinned], laidTests := true, laidLooks := .later }
def ClosureLimitsUptoCardSaid : Prop := Claim7.holds Tryz.pinned (.plain (OpenSpec.upto closureLimitsSpec)) closureLimitsUptoCard

/-- THE SECOND FORM's CARD OF 'exactreallaw23.ClosureTexts'. -/
def closureTextsUptoCard : Claim7 := { stood := { row := closureTextsUptoRow, standIns := [], harness := (true, "39e9549cc7ad8def82a62096f5c1e5209c3e8d55357ed9d6f726b7ae821a748b"), looks := true }, kinds := [], alts := [], laidByText := true, laidKinds := [.data, .pinned], laidTests := true, laidLooks := .later }
def ClosureTextsUptoCardSaid : Prop := Claim7.holds Tryz.pinned (.plain (OpenSpec.upto closureTextsSpec)) closureTextsUptoCard
end Rows
end Go.Proofs.YtkoaogkknnelaaaGreatDoor
