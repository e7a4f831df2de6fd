/-
  NARROWER THAN 'FOR EVERY INPUT', by the rows' own cells (each row's printed sentence says how): ExactSmall: laid · ExactAlone: laid · ExactTables: laid · ClosureValid: laid · ClosureCloses: laid · ClosureNeeds: laid · ClosureCyclic: laid · ClosureLimits: laid · ClosureTexts: laid.
  DERIVED. THE GIVEN ROWS OF THIS SEAT. 9 by the template 'for every input the law returns true; each argument reads behind the call as it read before'; 0 by the template 'total and deterministic' (their statements: YtkoaogkknnelaaaGreatDoorTotals.lean).
  GIVEN WITH THE SEED: the statements are not yours to turn. If you find one false, say at which input.
  Laid BY PROGRAM, IN A SANDBOX (cutbox-rows.mjs): the forced cells as the released guide's own fill.sh prints them over the translation e94ba365399a0e36… (all of the seat's roots in one cut). By AI agents, Wed Nov 11 2026. No macro, syntax, notation, axiom, sorry.
-/
import Derived.Test.YtkoaogkknnelaaaGreatDoorChecked
import GoSem.PinnedTables
import GoSem.Claim
import GoSem.ClaimJoined
import GoSem.ClaimMapViews
import Derived.JoinedTies
import Derived.KernelRfl
namespace Go.Proofs.YtkoaogkknnelaaaGreatDoor
/- THE CELL 'sum', in the pinned program and in every row, IS THE sha256 OF THE DUMP (.gsa) THAT YtkoaogkknnelaaaGreatDoorProg.lean LOADS. Nothing in Lean hashes anything: it is a label: what it is worth is what the hold of that sum in a sandbox is worth. -/
noncomputable def Tryz.pinned : Pinned := { name := "ytkoaogkknnelaaagreatdoor", sum := "e94ba365399a0e364e4cd09e9da44738ab6f45d4a8647828fc11e06ac770106c", checked := Tryz.checked }
namespace Rows
def none {H : Type} : Left H := { results := [], args := [] }

/- WHAT THE LISTED PACKAGE-LEVEL VARIABLES READ AS WHEN THE CALL BEGINS. Each datum BY PROGRAM (the guide's laid-datum.mjs) off the statement by which the dump's own 'gosem.cut.vars' lays the variable. In a bare row this is a premise. The card (YtkoaogkknnelaaaGreatDoorCards.lean) ties it to the program's text. -/
def laid_unicode_utf8_acceptRanges {H : Type} : DataW H := .agg [.agg [.lit (.int .u8 128), .lit (.int .u8 191)], .agg [.lit (.int .u8 160), .lit (.int .u8 191)], .agg [.lit (.int .u8 128), .lit (.int .u8 159)], .agg [.lit (.int .u8 144), .lit (.int .u8 191)], .agg [.lit (.int .u8 128), .lit (.int .u8 143)], .agg [.lit (.int .u8 0), .lit (.int .u8 0)], .agg [.lit (.int .u8 0), .lit (.int .u8 0)], .agg [.lit (.int .u8 0), .lit (.int .u8 0)], .agg [.lit (.int .u8 0), .lit (.int .u8 0)], .agg [.lit (.int .u8 0), .lit (.int .u8 0)], .agg [.lit (.int .u8 0), .lit (.int .u8 0)], .agg [.lit (.int .u8 0), .lit (.int .u8 0)], .agg [.lit (.int .u8 0), .lit (.int .u8 0)], .agg [.lit (.int .u8 0), .lit (.int .u8 0)], .agg [.lit (.int .u8 0), .lit (.int .u8 0)], .agg [.lit (.int .u8 0), .lit (.int .u8 0)]]
/-- One of Go's own tables, pinned by name: the form's constant. -/
def laid_unicode_utf8_first : DataW Unit := Go.Pinned.utf8First

/-- 'exactreallaw22.ExactSmall': WHATEVER THE INPUT: true; the input reads as it did. -/
def exactSmallSpec : ChangeSpec := { name := "exactSmall", fn := fun _ => fun
  | [d1, d2, d3] => { results := [.lit (.bool true)], args := [d1, d2, d3] }
  | _ => none }
def exactSmallRow : OpenClaim := { program := "ytkoaogkknnelaaagreatdoor", sum := "e94ba365399a0e364e4cd09e9da44738ab6f45d4a8647828fc11e06ac770106c", func := "exactreal/exactreallaw22.ExactSmall", spec := "exactSmall", inPlace := ["internal/bytealg.IndexByteString", "internal/bytealg.IndexString"], unfollowed := true, recurses := true, named := ["internal/bytealg.MaxLen", "unicode/utf8.first", "unicode/utf8.acceptRanges"], plainKeys := false, apart := false, laid := [("unicode/utf8.acceptRanges", laid_unicode_utf8_acceptRanges), ("unicode/utf8.first", laid_unicode_utf8_first)] }
def ExactSmallSaid : Prop := exactSmallRow.holds Tryz.pinned (OpenSpec.ofChange exactSmallSpec)

/-- ITS FALSE NEIGHBOUR: 'it returns false'. Refute it at one input. -/
def exactSmallWrong : ChangeSpec := { name := "exactSmall", fn := fun _ => fun
  | [d1, d2, d3] => { results := [.lit (.bool false)], args := [d1, d2, d3] }
  | _ => none }
def ExactSmallWrongFalsely : Prop := exactSmallRow.holds Tryz.pinned (OpenSpec.ofChange exactSmallWrong)

/-- 'exactreallaw22.ExactAlone': WHATEVER THE INPUT: true; the input reads as it did. -/
def exactAloneSpec : ChangeSpec := { name := "exactAlone", fn := fun _ => fun
  | [d1, d2] => { results := [.lit (.bool true)], args := [d1, d2] }
  | _ => none }
def exactAloneRow : OpenClaim := { program := "ytkoaogkknnelaaagreatdoor", sum := "e94ba365399a0e364e4cd09e9da44738ab6f45d4a8647828fc11e06ac770106c", func := "exactreal/exactreallaw22.ExactAlone", spec := "exactAlone", inPlace := ["internal/bytealg.IndexByteString", "internal/bytealg.IndexString"], unfollowed := true, recurses := true, named := ["internal/bytealg.MaxLen", "unicode/utf8.first", "unicode/utf8.acceptRanges"], plainKeys := false, apart := false, laid := [("unicode/utf8.acceptRanges", laid_unicode_utf8_acceptRanges), ("unicode/utf8.first", laid_unicode_utf8_first)] }
def ExactAloneSaid : Prop := exactAloneRow.holds Tryz.pinned (OpenSpec.ofChange exactAloneSpec)

/-- ITS FALSE NEIGHBOUR: 'it returns false'. Refute it at one input. -/
def exactAloneWrong : ChangeSpec := { name := "exactAlone", fn := fun _ => fun
  | [d1, d2] => { results := [.lit (.bool false)], args := [d1, d2] }
  | _ => none }
def ExactAloneWrongFalsely : Prop := exactAloneRow.holds Tryz.pinned (OpenSpec.ofChange exactAloneWrong)

/-- 'exactreallaw22.ExactTables': WHATEVER THE INPUT: true; the input reads as it did. -/
def exactTablesSpec : ChangeSpec := { name := "exactTables", fn := fun _ => fun
  | [d1, d2] => { results := [.lit (.bool true)], args := [d1, d2] }
  | _ => none }
def exactTablesRow : OpenClaim := { program := "ytkoaogkknnelaaagreatdoor", sum := "e94ba365399a0e364e4cd09e9da44738ab6f45d4a8647828fc11e06ac770106c", func := "exactreal/exactreallaw22.ExactTables", spec := "exactTables", inPlace := ["internal/bytealg.IndexByteString", "internal/bytealg.IndexString"], unfollowed := true, recurses := true, named := ["internal/bytealg.MaxLen", "unicode/utf8.first", "unicode/utf8.acceptRanges"], plainKeys := false, apart := false, laid := [("unicode/utf8.acceptRanges", laid_unicode_utf8_acceptRanges), ("unicode/utf8.first", laid_unicode_utf8_first)] }
def ExactTablesSaid : Prop := exactTablesRow.holds Tryz.pinned (OpenSpec.ofChange exactTablesSpec)

/-- ITS FALSE NEIGHBOUR: 'it returns false'. Refute it at one input. -/
def exactTablesWrong : ChangeSpec := { name := "exactTables", fn := fun _ => fun
  | [d1, d2] => { results := [.lit (.bool false)], args := [d1, d2] }
  | _ => none }
def ExactTablesWrongFalsely : Prop := exactTablesRow.holds Tryz.pinned (OpenSpec.ofChange exactTablesWrong)

/-- 'exactreallaw23.ClosureValid': WHATEVER THE INPUT: true; the input reads as it did. -/
def closureValidSpec : ChangeSpec := { name := "closureValid", fn := fun _ => fun
  | [d1, d2, d3, d4, d5, d6] => { results := [.lit (.bool true)], args := [d1, d2, d3, d4, d5, d6] }
  | _ => none }
def closureValidRow : OpenClaim := { program := "ytkoaogkknnelaaagreatdoor", sum := "e94ba365399a0e364e4cd09e9da44738ab6f45d4a8647828fc11e06ac770106c", func := "exactreal/exactreallaw23.ClosureValid", spec := "closureValid", inPlace := ["internal/bytealg.IndexByteString", "internal/bytealg.IndexString", "maps.clone"], unfollowed := true, recurses := true, named := ["internal/bytealg.MaxLen", "unicode/utf8.first", "unicode/utf8.acceptRanges"], plainKeys := false, apart := false, laid := [("unicode/utf8.acceptRanges", laid_unicode_utf8_acceptRanges), ("unicode/utf8.first", laid_unicode_utf8_first)] }
def ClosureValidSaid : Prop := closureValidRow.holds Tryz.pinned (OpenSpec.ofChange closureValidSpec)

/-- ITS FALSE NEIGHBOUR: 'it returns false'. Refute it at one input. -/
def closureValidWrong : ChangeSpec := { name := "closureValid", fn := fun _ => fun
  | [d1, d2, d3, d4, d5, d6] => { results := [.lit (.bool false)], args := [d1, d2, d3, d4, d5, d6] }
  | _ => none }
def ClosureValidWrongFalsely : Prop := closureValidRow.holds Tryz.pinned (OpenSpec.ofChange closureValidWrong)

/-- 'exactreallaw23.ClosureCloses': WHATEVER THE INPUT: true; the input reads as it did. -/
def closureClosesSpec : ChangeSpec := { name := "closureCloses", fn := fun _ => fun
  | [d1, d2, d3] => { results := [.lit (.bool true)], args := [d1, d2, d3] }
  | _ => none }
def closureClosesRow : OpenClaim := { program := "ytkoaogkknnelaaagreatdoor", sum := "e94ba365399a0e364e4cd09e9da44738ab6f45d4a8647828fc11e06ac770106c", func := "exactreal/exactreallaw23.ClosureCloses", spec := "closureCloses", inPlace := ["internal/bytealg.IndexByteString", "internal/bytealg.IndexString", "maps.clone"], unfollowed := true, recurses := true, named := ["internal/bytealg.MaxLen", "unicode/utf8.first", "unicode/utf8.acceptRanges"], plainKeys := false, apart := false, laid := [("unicode/utf8.acceptRanges", laid_unicode_utf8_acceptRanges), ("unicode/utf8.first", laid_unicode_utf8_first)] }
def ClosureClosesSaid : Prop := closureClosesRow.holds Tryz.pinned (OpenSpec.ofChange closureClosesSpec)

/-- ITS FALSE NEIGHBOUR: 'it returns false'. Refute it at one input. -/
def closureClosesWrong : ChangeSpec := { name := "closureCloses", fn := fun _ => fun
  | [d1, d2, d3] => { results := [.lit (.bool false)], args := [d1, d2, d3] }
  | _ => none }
def ClosureClosesWrongFalsely : Prop := closureClosesRow.holds Tryz.pinned (OpenSpec.ofChange closureClosesWrong)

/-- 'exactreallaw23.ClosureNeeds': WHATEVER THE INPUT: true; the input reads as it did. -/
def closureNeedsSpec : ChangeSpec := { name := "closureNeeds", fn := fun _ => fun
  | [d1, d2, d3, d4] => { results := [.lit (.bool true)], args := [d1, d2, d3, d4] }
  | _ => none }
def closureNeedsRow : OpenClaim := { program := "ytkoaogkknnelaaagreatdoor", sum := "e94ba365399a0e364e4cd09e9da44738ab6f45d4a8647828fc11e06ac770106c", func := "exactreal/exactreallaw23.ClosureNeeds", spec := "closureNeeds", inPlace := ["internal/bytealg.IndexByteString", "internal/bytealg.IndexString", "maps.clone"], unfollowed := true, recurses := true, named := ["internal/bytealg.MaxLen", "unicode/utf8.first", "unicode/utf8.acceptRanges"], plainKeys := false, apart := false, laid := [("unicode/utf8.acceptRanges", laid_unicode_utf8_acceptRanges), ("unicode/utf8.first", laid_unicode_utf8_first)] }
def ClosureNeedsSaid : Prop := closureNeedsRow.holds Tryz.pinned (OpenSpec.ofChange closureNeedsSpec)

/-- ITS FALSE NEIGHBOUR: 'it returns false'. Refute it at one input. -/
def closureNeedsWrong : ChangeSpec := { name := "closureNeeds", fn := fun _ => fun
  | [d1, d2, d3, d4] => { results := [.lit (.bool false)], args := [d1, d2, d3, d4] }
  | _ => none }
def ClosureNeedsWrongFalsely : Prop := closureNeedsRow.holds Tryz.pinned (OpenSpec.ofChange closureNeedsWrong)

/-- 'exactreallaw23.ClosureCyclic': WHATEVER THE INPUT: true; the input reads as it did. -/
def closureCyclicSpec : ChangeSpec := { name := "closureCyclic", fn := fun _ => fun
  | [d1, d2, d3, d4] => { results := [.lit (.bool true)], args := [d1, d2, d3, d4] }
  | _ => none }
def closureCyclicRow : OpenClaim := { program := "ytkoaogkknnelaaagreatdoor", sum := "e94ba365399a0e364e4cd09e9da44738ab6f45d4a8647828fc11e06ac770106c", func := "exactreal/exactreallaw23.ClosureCyclic", spec := "closureCyclic", inPlace := ["internal/bytealg.IndexByteString", "internal/bytealg.IndexString", "maps.clone"], unfollowed := true, recurses := true, named := ["internal/bytealg.MaxLen", "unicode/utf8.first", "unicode/utf8.acceptRanges"], plainKeys := false, apart := false, laid := [("unicode/utf8.acceptRanges", laid_unicode_utf8_acceptRanges), ("unicode/utf8.first", laid_unicode_utf8_first)] }
def ClosureCyclicSaid : Prop := closureCyclicRow.holds Tryz.pinned (OpenSpec.ofChange closureCyclicSpec)

/-- ITS FALSE NEIGHBOUR: 'it returns false'. Refute it at one input. -/
def closureCyclicWrong : ChangeSpec := { name := "closureCyclic", fn := fun _ => fun
  | [d1, d2, d3, d4] => { results := [.lit (.bool false)], args := [d1, d2, d3, d4] }
  | _ => none }
def ClosureCyclicWrongFalsely : Prop := closureCyclicRow.holds Tryz.pinned (OpenSpec.ofChange closureCyclicWrong)

/-- 'exactreallaw23.ClosureLimits': WHATEVER THE INPUT: true; the input reads as it did. -/
def closureLimitsSpec : ChangeSpec := { name := "closureLimits", fn := fun _ => fun
  | [d] => { results := [.lit (.bool true)], args := [d] }
  | _ => none }
def closureLimitsRow : OpenClaim := { program := "ytkoaogkknnelaaagreatdoor", sum := "e94ba365399a0e364e4cd09e9da44738ab6f45d4a8647828fc11e06ac770106c", func := "exactreal/exactreallaw23.ClosureLimits", spec := "closureLimits", inPlace := ["internal/bytealg.IndexByteString", "internal/bytealg.IndexString", "maps.clone"], unfollowed := true, recurses := true, named := ["internal/bytealg.MaxLen", "unicode/utf8.first", "unicode/utf8.acceptRanges"], plainKeys := false, apart := false, laid := [("unicode/utf8.acceptRanges", laid_unicode_utf8_acceptRanges), ("unicode/utf8.first", laid_unicode_utf8_first)] }
def ClosureLimitsSaid : Prop := closureLimitsRow.holds Tryz.pinned (OpenSpec.ofChange closureLimitsSpec)

/-- ITS FALSE NEIGHBOUR: 'it returns false'. Refute it at one input. -/
def closureLimitsWrong : ChangeSpec := { name := "closureLimits", fn := fun _ => fun
  | [d] => { results := [.lit (.bool false)], args := [d] }
  | _ => none }
def ClosureLimitsWrongFalsely : Prop := closureLimitsRow.holds Tryz.pinned (OpenSpec.ofChange closureLimitsWrong)

/-- 'exactreallaw23.ClosureTexts': WHATEVER THE INPUT: true; the input reads as it did. -/
def closureTextsSpec : ChangeSpec := { name := "closureTexts", fn := fun _ => fun
  | [d1, d2, d3] => { results := [.lit (.bool true)], args := [d1, d2, d3] }
  | _ => none }
def closureTextsRow : OpenClaim := { program := "ytkoaogkknnelaaagreatdoor", sum := "e94ba365399a0e364e4cd09e9da44738ab6f45d4a8647828fc11e06ac770106c", func := "exactreal/exactreallaw23.ClosureTexts", spec := "closureTexts", inPlace := ["internal/bytealg.IndexByteString", "internal/bytealg.IndexString", "maps.clone"], unfollowed := true, recurses := true, named := ["internal/bytealg.MaxLen", "unicode/utf8.first", "unicode/utf8.acceptRanges"], plainKeys := false, apart := false, laid := [("unicode/utf8.acceptRanges", laid_unicode_utf8_acceptRanges), ("unicode/utf8.first", laid_unicode_utf8_first)] }
def ClosureTextsSaid : Prop := closureTextsRow.holds Tryz.pinned (OpenSpec.ofChange closureTextsSpec)

/-- ITS FALSE NEIGHBOUR: 'it returns false'. Refute it at one input. -/
def closureTextsWrong : ChangeSpec := { name := "closureTexts", fn := fun _ => fun
  | [d1, d2, d3] => { results := [.lit (.bool false)], args := [d1, d2, d3] }
  | _ => none }
def ClosureTextsWrongFalsely : Prop := closureTextsRow.holds Tryz.pinned (OpenSpec.ofChange closureTextsWrong)

/- THE SECOND FORM. 'bulk': how many values and letters a reading holds, each counted each time it is reached (what is shared counts as often as it is met; a slice's spare places count too). A statement '..UptoSaid' is the law's where the arguments, and the package variables that the reading takes, are together of bulk at most 1048576: NARROWER than '..Said'. Prove '..Said' where nothing that the law and all that it calls make is longer than what came in: it says more and counts as full. Else prove '..UptoSaid'. A law counts once. -/
mutual
def uptoBulk {H : Type} : DataW H → Nat
  | .lit (.string bytes) => bytes.length + 1
  | .lit _ => 1
  | .nil => 1
  | .ptr d => uptoBulk d + 1
  | .slice elems spare => uptoBulkAll elems + uptoBulkAll spare + 1
  | .agg parts => uptoBulkAll parts + 1
  | .iface _ d => uptoBulk d + 1
  | .map entries => uptoBulkEntries entries + 1
  | .held _ => 1
def uptoBulkAll {H : Type} : List (DataW H) → Nat
  | [] => 0
  | d :: r => uptoBulk d + uptoBulkAll r
def uptoBulkEntries {H : Type} : List (Lit × DataW H) → Nat
  | [] => 0
  | x :: r => uptoBulkEntry x + uptoBulkEntries r
def uptoBulkEntry {H : Type} : Lit × DataW H → Nat
  | (.string bytes, d) => bytes.length + uptoBulk d + 1
  | (_, d) => uptoBulk d + 1
 end
def uptoSmall : (H : Type) → List (DataW H) → Bool := fun _ ds => decide (uptoBulkAll ds ≤ 1048576)
def OpenSpec.upto (s : _root_.Go.ChangeSpec) : _root_.Go.OpenSpec := { _root_.Go.OpenSpec.ofChange s with cond := some uptoSmall }

/-- 'exactreallaw22.ExactSmall', WHERE WHAT IT READS IS OF BULK AT MOST 1048576: true; the input reads as it did. -/
def exactSmallUptoRow : OpenClaim := { program := "ytkoaogkknnelaaagreatdoor", sum := "e94ba365399a0e364e4cd09e9da44738ab6f45d4a8647828fc11e06ac770106c", func := "exactreal/exactreallaw22.ExactSmall", spec := "exactSmall", inPlace := ["internal/bytealg.IndexByteString", "internal/bytealg.IndexString"], unfollowed := true, recurses := true, named := ["internal/bytealg.MaxLen", "unicode/utf8.first", "unicode/utf8.acceptRanges"], plainKeys := false, apart := false, laid := [("unicode/utf8.acceptRanges", laid_unicode_utf8_acceptRanges), ("unicode/utf8.first", laid_unicode_utf8_first)], narrowed := true }
def ExactSmallUptoSaid : Prop := exactSmallUptoRow.holds Tryz.pinned (OpenSpec.upto exactSmallSpec)

/-- 'exactreallaw22.ExactAlone', WHERE WHAT IT READS IS OF BULK AT MOST 1048576: true; the input reads as it did. -/
def exactAloneUptoRow : OpenClaim := { program := "ytkoaogkknnelaaagreatdoor", sum := "e94ba365399a0e364e4cd09e9da44738ab6f45d4a8647828fc11e06ac770106c", func := "exactreal/exactreallaw22.ExactAlone", spec := "exactAlone", inPlace := ["internal/bytealg.IndexByteString", "internal/bytealg.IndexString"], unfollowed := true, recurses := true, named := ["internal/bytealg.MaxLen", "unicode/utf8.first", "unicode/utf8.acceptRanges"], plainKeys := false, apart := false, laid := [("unicode/utf8.acceptRanges", laid_unicode_utf8_acceptRanges), ("unicode/utf8.first", laid_unicode_utf8_first)], narrowed := true }
def ExactAloneUptoSaid : Prop := exactAloneUptoRow.holds Tryz.pinned (OpenSpec.upto exactAloneSpec)

/-- 'exactreallaw22.ExactTables', WHERE WHAT IT READS IS OF BULK AT MOST 1048576: true; the input reads as it did. -/
def exactTablesUptoRow : OpenClaim := { program := "ytkoaogkknnelaaagreatdoor", sum := "e94ba365399a0e364e4cd09e9da44738ab6f45d4a8647828fc11e06ac770106c", func := "exactreal/exactreallaw22.ExactTables", spec := "exactTables", inPlace := ["internal/bytealg.IndexByteString", "internal/bytealg.IndexString"], unfollowed := true, recurses := true, named := ["internal/bytealg.MaxLen", "unicode/utf8.first", "unicode/utf8.acceptRanges"], plainKeys := false, apart := false, laid := [("unicode/utf8.acceptRanges", laid_unicode_utf8_acceptRanges), ("unicode/utf8.first", laid_unicode_utf8_first)], narrowed := true }
def ExactTablesUptoSaid : Prop := exactTablesUptoRow.holds Tryz.pinned (OpenSpec.upto exactTablesSpec)

/-- 'exactreallaw23.ClosureValid', WHERE WHAT IT READS IS OF BULK AT MOST 1048576: true; the input reads as it did. -/
def closureValidUptoRow : OpenClaim := { program := "ytkoaogkknnelaaagreatdoor", sum := "e94ba365399a0e364e4cd09e9da44738ab6f45d4a8647828fc11e06ac770106c", func := "exactreal/exactreallaw23.ClosureValid", spec := "closureValid", inPlace := ["internal/bytealg.IndexByteString", "internal/bytealg.IndexString", "maps.clone"], unfollowed := true, recurses := true, named := ["internal/bytealg.MaxLen", "unicode/utf8.first", "unicode/utf8.acceptRanges"], plainKeys := false, apart := false, laid := [("unicode/utf8.acceptRanges", laid_unicode_utf8_acceptRanges), ("unicode/utf8.first", laid_unicode_utf8_first)], narrowed := true }
def ClosureValidUptoSaid : Prop := closureValidUptoRow.holds Tryz.pinned (OpenSpec.upto closureValidSpec)

/-- 'exactreallaw23.ClosureCloses', WHERE WHAT IT READS IS OF BULK AT MOST 1048576: true; the input reads as it did. -/
def closureClosesUptoRow : OpenClaim := { program := "ytkoaogkknnelaaagreatdoor", sum := "e94ba365399a0e364e4cd09e9da44738ab6f45d4a8647828fc11e06ac770106c", func := "exactreal/exactreallaw23.ClosureCloses", spec := "closureCloses", inPlace := ["internal/bytealg.IndexByteString", "internal/bytealg.IndexString", "maps.clone"], unfollowed := true, recurses := true, named := ["internal/bytealg.MaxLen", "unicode/utf8.first", "unicode/utf8.acceptRanges"], plainKeys := false, apart := false, laid := [("unicode/utf8.acceptRanges", laid_unicode_utf8_acceptRanges), ("unicode/utf8.first", laid_unicode_utf8_first)], narrowed := true }
def ClosureClosesUptoSaid : Prop := closureClosesUptoRow.holds Tryz.pinned (OpenSpec.upto closureClosesSpec)

/-- 'exactreallaw23.ClosureNeeds', WHERE WHAT IT READS IS OF BULK AT MOST 1048576: true; the input reads as it did. -/
def closureNeedsUptoRow : OpenClaim := { program := "ytkoaogkknnelaaagreatdoor", sum := "e94ba365399a0e364e4cd09e9da44738ab6f45d4a8647828fc11e06ac770106c", func := "exactreal/exactreallaw23.ClosureNeeds", spec := "closureNeeds", inPlace := ["internal/bytealg.IndexByteString", "internal/bytealg.IndexString", "maps.clone"], unfollowed := true, recurses := true, named := ["internal/bytealg.MaxLen", "unicode/utf8.first", "unicode/utf8.acceptRanges"], plainKeys := false, apart := false, laid := [("unicode/utf8.acceptRanges", laid_unicode_utf8_acceptRanges), ("unicode/utf8.first", laid_unicode_utf8_first)], narrowed := true }
def ClosureNeedsUptoSaid : Prop := closureNeedsUptoRow.holds Tryz.pinned (OpenSpec.upto closureNeedsSpec)

/-- 'exactreallaw23.ClosureCyclic', WHERE WHAT IT READS IS OF BULK AT MOST 1048576: true; the input reads as it did. -/
def closureCyclicUptoRow : OpenClaim := { program := "ytkoaogkknnelaaagreatdoor", sum := "e94ba365399a0e364e4cd09e9da44738ab6f45d4a8647828fc11e06ac770106c", func := "exactreal/exactreallaw23.ClosureCyclic", spec := "closureCyclic", inPlace := ["internal/bytealg.IndexByteString", "internal/bytealg.IndexString", "maps.clone"], unfollowed := true, recurses := true, named := ["internal/bytealg.MaxLen", "unicode/utf8.first", "unicode/utf8.acceptRanges"], plainKeys := false, apart := false, laid := [("unicode/utf8.acceptRanges", laid_unicode_utf8_acceptRanges), ("unicode/utf8.first", laid_unicode_utf8_first)], narrowed := true }
def ClosureCyclicUptoSaid : Prop := closureCyclicUptoRow.holds Tryz.pinned (OpenSpec.upto closureCyclicSpec)

/-- 'exactreallaw23.ClosureLimits', WHERE WHAT IT READS IS OF BULK AT MOST 1048576: true; the input reads as it did. -/
def closureLimitsUptoRow : OpenClaim := { program := "ytkoaogkknnelaaagreatdoor", sum := "e94ba365399a0e364e4cd09e9da44738ab6f45d4a8647828fc11e06ac770106c", func := "exactreal/exactreallaw23.ClosureLimits", spec := "closureLimits", inPlace := ["internal/bytealg.IndexByteString", "internal/bytealg.IndexString", "maps.clone"], unfollowed := true, recurses := true, named := ["internal/bytealg.MaxLen", "unicode/utf8.first", "unicode/utf8.acceptRanges"], plainKeys := false, apart := false, laid := [("unicode/utf8.acceptRanges", laid_unicode_utf8_acceptRanges), ("unicode/utf8.first", laid_unicode_utf8_first)], narrowed := true }
def ClosureLimitsUptoSaid : Prop := closureLimitsUptoRow.holds Tryz.pinned (OpenSpec.upto closureLimitsSpec)

/-- 'exactreallaw23.ClosureTexts', WHERE WHAT IT READS IS OF BULK AT MOST 1048576: true; the input reads as it did. -/
def closureTextsUptoRow : OpenClaim := { program := "ytkoaogkknnelaaagreatdoor", sum := "e94ba365399a0e364e4cd09e9da44738ab6f45d4a8647828fc11e06ac770106c", func := "exactreal/exactreallaw23.ClosureTexts", spec := "closureTexts", inPlace := ["internal/bytealg.IndexByteString", "internal/bytealg.IndexString", "maps.clone"], unfollowed := true, recurses := true, named := ["internal/bytealg.MaxLen", "unicode/utf8.first", "unicode/utf8.acceptRanges"], plainKeys := false, apart := false, laid := [("unicode/utf8.acceptRanges", laid_unicode_utf8_acceptRanges), ("unicode/utf8.first", laid_unicode_utf8_first)], narrowed := true }
def ClosureTextsUptoSaid : Prop := closureTextsUptoRow.holds Tryz.pinned (OpenSpec.upto closureTextsSpec)

end Rows
end Go.Proofs.YtkoaogkknnelaaaGreatDoor
