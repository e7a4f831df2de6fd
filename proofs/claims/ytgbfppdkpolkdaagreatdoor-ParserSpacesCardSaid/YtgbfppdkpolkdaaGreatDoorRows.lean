/-
  NARROWER THAN 'FOR EVERY INPUT', by the rows' own cells (each row's printed sentence says how): ParserReads: laid · ParserTokens: laid · ParserSpaces: laid · ParserLimits: laid · ParserParts: laid.
  DERIVED. THE GIVEN ROWS OF THIS SEAT. 5 by the template 'for every input the law returns true; each argument reads behind the call as it read before'; 0 by the template 'total and deterministic' (their statements: YtgbfppdkpolkdaaGreatDoorTotals.lean).
  GIVEN WITH THE SEED: the statements are not yours to turn. If you find one false, say at which input.
  Laid BY PROGRAM, IN A SANDBOX (cutbox-rows.mjs): the forced cells as the released guide's own fill.sh prints them over the translation fb9af176f6ab6f95… (all of the seat's roots in one cut). By AI agents, Wed Nov 11 2026. No macro, syntax, notation, axiom, sorry.
-/
import Derived.Test.YtgbfppdkpolkdaaGreatDoorChecked
import GoSem.PinnedTables
import GoSem.Claim
import GoSem.ClaimJoined
import GoSem.ClaimMapViews
import Derived.JoinedTies
import Derived.KernelRfl
namespace Go.Proofs.YtgbfppdkpolkdaaGreatDoor
/- THE CELL 'sum', in the pinned program and in every row, IS THE sha256 OF THE DUMP (.gsa) THAT YtgbfppdkpolkdaaGreatDoorProg.lean LOADS. Nothing in Lean hashes anything: it is a label: what it is worth is what the hold of that sum in a sandbox is worth. -/
noncomputable def Tryz.pinned : Pinned := { name := "ytgbfppdkpolkdaagreatdoor", sum := "fb9af176f6ab6f95de16ec76489ed17fe0a0e3211a993dd0f365cbe83972a5e9", checked := Tryz.checked }
namespace Rows
def none {H : Type} : Left H := { results := [], args := [] }

/- WHAT THE LISTED PACKAGE-LEVEL VARIABLES READ AS WHEN THE CALL BEGINS. Each datum BY PROGRAM (the guide's laid-datum.mjs) off the statement by which the dump's own 'gosem.cut.vars' lays the variable. In a bare row this is a premise. The card (YtgbfppdkpolkdaaGreatDoorCards.lean) ties it to the program's text. -/
def laid_unicode_utf8_acceptRanges {H : Type} : DataW H := .agg [.agg [.lit (.int .u8 128), .lit (.int .u8 191)], .agg [.lit (.int .u8 160), .lit (.int .u8 191)], .agg [.lit (.int .u8 128), .lit (.int .u8 159)], .agg [.lit (.int .u8 144), .lit (.int .u8 191)], .agg [.lit (.int .u8 128), .lit (.int .u8 143)], .agg [.lit (.int .u8 0), .lit (.int .u8 0)], .agg [.lit (.int .u8 0), .lit (.int .u8 0)], .agg [.lit (.int .u8 0), .lit (.int .u8 0)], .agg [.lit (.int .u8 0), .lit (.int .u8 0)], .agg [.lit (.int .u8 0), .lit (.int .u8 0)], .agg [.lit (.int .u8 0), .lit (.int .u8 0)], .agg [.lit (.int .u8 0), .lit (.int .u8 0)], .agg [.lit (.int .u8 0), .lit (.int .u8 0)], .agg [.lit (.int .u8 0), .lit (.int .u8 0)], .agg [.lit (.int .u8 0), .lit (.int .u8 0)], .agg [.lit (.int .u8 0), .lit (.int .u8 0)]]
/-- One of Go's own tables, pinned by name: the form's constant. -/
def laid_unicode_utf8_first : DataW Unit := Go.Pinned.utf8First

/-- 'exactreallaw19.ParserReads': WHATEVER THE INPUT: true; the input reads as it did. -/
def parserReadsSpec : ChangeSpec := { name := "parserReads", fn := fun _ => fun
  | [d1, d2, d3, d4, d5] => { results := [.lit (.bool true)], args := [d1, d2, d3, d4, d5] }
  | _ => none }
def parserReadsRow : OpenClaim := { program := "ytgbfppdkpolkdaagreatdoor", sum := "fb9af176f6ab6f95de16ec76489ed17fe0a0e3211a993dd0f365cbe83972a5e9", func := "exactreal/exactreallaw19.ParserReads", spec := "parserReads", inPlace := ["internal/bytealg.IndexByteString", "internal/bytealg.IndexString"], unfollowed := true, recurses := true, named := ["internal/bytealg.MaxLen", "unicode/utf8.first", "unicode/utf8.acceptRanges"], apart := false, laid := [("unicode/utf8.acceptRanges", laid_unicode_utf8_acceptRanges), ("unicode/utf8.first", laid_unicode_utf8_first)] }
def ParserReadsSaid : Prop := parserReadsRow.holds Tryz.pinned (OpenSpec.ofChange parserReadsSpec)

/-- ITS FALSE NEIGHBOUR: 'it returns false'. Refute it at one input. -/
def parserReadsWrong : ChangeSpec := { name := "parserReads", fn := fun _ => fun
  | [d1, d2, d3, d4, d5] => { results := [.lit (.bool false)], args := [d1, d2, d3, d4, d5] }
  | _ => none }
def ParserReadsWrongFalsely : Prop := parserReadsRow.holds Tryz.pinned (OpenSpec.ofChange parserReadsWrong)

/-- 'exactreallaw19.ParserTokens': WHATEVER THE INPUT: true; the input reads as it did. -/
def parserTokensSpec : ChangeSpec := { name := "parserTokens", fn := fun _ => fun
  | [d] => { results := [.lit (.bool true)], args := [d] }
  | _ => none }
def parserTokensRow : OpenClaim := { program := "ytgbfppdkpolkdaagreatdoor", sum := "fb9af176f6ab6f95de16ec76489ed17fe0a0e3211a993dd0f365cbe83972a5e9", func := "exactreal/exactreallaw19.ParserTokens", spec := "parserTokens", inPlace := ["internal/bytealg.IndexByteString", "internal/bytealg.IndexString"], unfollowed := true, recurses := true, named := ["internal/bytealg.MaxLen", "unicode/utf8.first", "unicode/utf8.acceptRanges"], apart := false, laid := [("unicode/utf8.acceptRanges", laid_unicode_utf8_acceptRanges), ("unicode/utf8.first", laid_unicode_utf8_first)] }
def ParserTokensSaid : Prop := parserTokensRow.holds Tryz.pinned (OpenSpec.ofChange parserTokensSpec)

/-- ITS FALSE NEIGHBOUR: 'it returns false'. Refute it at one input. -/
def parserTokensWrong : ChangeSpec := { name := "parserTokens", fn := fun _ => fun
  | [d] => { results := [.lit (.bool false)], args := [d] }
  | _ => none }
def ParserTokensWrongFalsely : Prop := parserTokensRow.holds Tryz.pinned (OpenSpec.ofChange parserTokensWrong)

/-- 'exactreallaw19.ParserSpaces': WHATEVER THE INPUT: true; the input reads as it did. -/
def parserSpacesSpec : ChangeSpec := { name := "parserSpaces", fn := fun _ => fun
  | [d1, d2] => { results := [.lit (.bool true)], args := [d1, d2] }
  | _ => none }
def parserSpacesRow : OpenClaim := { program := "ytgbfppdkpolkdaagreatdoor", sum := "fb9af176f6ab6f95de16ec76489ed17fe0a0e3211a993dd0f365cbe83972a5e9", func := "exactreal/exactreallaw19.ParserSpaces", spec := "parserSpaces", inPlace := ["internal/bytealg.IndexByteString", "internal/bytealg.IndexString"], unfollowed := true, recurses := true, named := ["internal/bytealg.MaxLen", "unicode/utf8.first", "unicode/utf8.acceptRanges"], apart := false, laid := [("unicode/utf8.acceptRanges", laid_unicode_utf8_acceptRanges), ("unicode/utf8.first", laid_unicode_utf8_first)] }
def ParserSpacesSaid : Prop := parserSpacesRow.holds Tryz.pinned (OpenSpec.ofChange parserSpacesSpec)

/-- ITS FALSE NEIGHBOUR: 'it returns false'. Refute it at one input. -/
def parserSpacesWrong : ChangeSpec := { name := "parserSpaces", fn := fun _ => fun
  | [d1, d2] => { results := [.lit (.bool false)], args := [d1, d2] }
  | _ => none }
def ParserSpacesWrongFalsely : Prop := parserSpacesRow.holds Tryz.pinned (OpenSpec.ofChange parserSpacesWrong)

/-- 'exactreallaw19.ParserLimits': WHATEVER THE INPUT: true; the input reads as it did. -/
def parserLimitsSpec : ChangeSpec := { name := "parserLimits", fn := fun _ => fun
  | [d1, d2] => { results := [.lit (.bool true)], args := [d1, d2] }
  | _ => none }
def parserLimitsRow : OpenClaim := { program := "ytgbfppdkpolkdaagreatdoor", sum := "fb9af176f6ab6f95de16ec76489ed17fe0a0e3211a993dd0f365cbe83972a5e9", func := "exactreal/exactreallaw19.ParserLimits", spec := "parserLimits", inPlace := ["internal/bytealg.IndexByteString", "internal/bytealg.IndexString"], unfollowed := true, recurses := true, named := ["internal/bytealg.MaxLen", "unicode/utf8.first", "unicode/utf8.acceptRanges"], apart := false, laid := [("unicode/utf8.acceptRanges", laid_unicode_utf8_acceptRanges), ("unicode/utf8.first", laid_unicode_utf8_first)] }
def ParserLimitsSaid : Prop := parserLimitsRow.holds Tryz.pinned (OpenSpec.ofChange parserLimitsSpec)

/-- ITS FALSE NEIGHBOUR: 'it returns false'. Refute it at one input. -/
def parserLimitsWrong : ChangeSpec := { name := "parserLimits", fn := fun _ => fun
  | [d1, d2] => { results := [.lit (.bool false)], args := [d1, d2] }
  | _ => none }
def ParserLimitsWrongFalsely : Prop := parserLimitsRow.holds Tryz.pinned (OpenSpec.ofChange parserLimitsWrong)

/-- 'exactreallaw19.ParserParts': WHATEVER THE INPUT: true; the input reads as it did. -/
def parserPartsSpec : ChangeSpec := { name := "parserParts", fn := fun _ => fun
  | [d1, d2] => { results := [.lit (.bool true)], args := [d1, d2] }
  | _ => none }
def parserPartsRow : OpenClaim := { program := "ytgbfppdkpolkdaagreatdoor", sum := "fb9af176f6ab6f95de16ec76489ed17fe0a0e3211a993dd0f365cbe83972a5e9", func := "exactreal/exactreallaw19.ParserParts", spec := "parserParts", inPlace := ["internal/bytealg.IndexByteString", "internal/bytealg.IndexString"], unfollowed := true, recurses := true, named := ["internal/bytealg.MaxLen", "unicode/utf8.first", "unicode/utf8.acceptRanges"], apart := false, laid := [("unicode/utf8.acceptRanges", laid_unicode_utf8_acceptRanges), ("unicode/utf8.first", laid_unicode_utf8_first)] }
def ParserPartsSaid : Prop := parserPartsRow.holds Tryz.pinned (OpenSpec.ofChange parserPartsSpec)

/-- ITS FALSE NEIGHBOUR: 'it returns false'. Refute it at one input. -/
def parserPartsWrong : ChangeSpec := { name := "parserParts", fn := fun _ => fun
  | [d1, d2] => { results := [.lit (.bool false)], args := [d1, d2] }
  | _ => none }
def ParserPartsWrongFalsely : Prop := parserPartsRow.holds Tryz.pinned (OpenSpec.ofChange parserPartsWrong)

/- THE SECOND FORM. 'bulk': how many values and letters a reading holds, each counted each time it is reached (what is shared counts as often as it is met; a slice's spare places count too). A statement '..UptoSaid' is the law's where the arguments, and the package variables that the reading takes, are together of bulk at most 1048576: NARROWER than '..Said'. Prove '..Said' where nothing that the law and all that it calls make is longer than what came in: it says more and counts as full. Else prove '..UptoSaid'. A law counts once. -/
mutual
def uptoBulk {H : Type} : DataW H → Nat
  | .lit (.string bytes) => bytes.length + 1
  | .lit _ => 1
  | .nil => 1
  | .ptr d => uptoBulk d + 1
  | .slice elems spare => uptoBulkAll elems + uptoBulkAll spare + 1
  | .agg parts => uptoBulkAll parts + 1
  | .iface _ d => uptoBulk d + 1
  | .map entries => uptoBulkEntries entries + 1
  | .held _ => 1
def uptoBulkAll {H : Type} : List (DataW H) → Nat
  | [] => 0
  | d :: r => uptoBulk d + uptoBulkAll r
def uptoBulkEntries {H : Type} : List (Lit × DataW H) → Nat
  | [] => 0
  | x :: r => uptoBulkEntry x + uptoBulkEntries r
def uptoBulkEntry {H : Type} : Lit × DataW H → Nat
  | (.string bytes, d) => bytes.length + uptoBulk d + 1
  | (_, d) => uptoBulk d + 1
 end
def uptoSmall : (H : Type) → List (DataW H) → Bool := fun _ ds => decide (uptoBulkAll ds ≤ 1048576)
def OpenSpec.upto (s : _root_.Go.ChangeSpec) : _root_.Go.OpenSpec := { _root_.Go.OpenSpec.ofChange s with cond := some uptoSmall }

/-- 'exactreallaw19.ParserReads', WHERE WHAT IT READS IS OF BULK AT MOST 1048576: true; the input reads as it did. -/
def parserReadsUptoRow : OpenClaim := { program := "ytgbfppdkpolkdaagreatdoor", sum := "fb9af176f6ab6f95de16ec76489ed17fe0a0e3211a993dd0f365cbe83972a5e9", func := "exactreal/exactreallaw19.ParserReads", spec := "parserReads", inPlace := ["internal/bytealg.IndexByteString", "internal/bytealg.IndexString"], unfollowed := true, recurses := true, named := ["internal/bytealg.MaxLen", "unicode/utf8.first", "unicode/utf8.acceptRanges"], apart := false, laid := [("unicode/utf8.acceptRanges", laid_unicode_utf8_acceptRanges), ("unicode/utf8.first", laid_unicode_utf8_first)], narrowed := true }
def ParserReadsUptoSaid : Prop := parserReadsUptoRow.holds Tryz.pinned (OpenSpec.upto parserReadsSpec)

/-- 'exactreallaw19.ParserTokens', WHERE WHAT IT READS IS OF BULK AT MOST 1048576: true; the input reads as it did. -/
def parserTokensUptoRow : OpenClaim := { program := "ytgbfppdkpolkdaagreatdoor", sum := "fb9af176f6ab6f95de16ec76489ed17fe0a0e3211a993dd0f365cbe83972a5e9", func := "exactreal/exactreallaw19.ParserTokens", spec := "parserTokens", inPlace := ["internal/bytealg.IndexByteString", "internal/bytealg.IndexString"], unfollowed := true, recurses := true, named := ["internal/bytealg.MaxLen", "unicode/utf8.first", "unicode/utf8.acceptRanges"], apart := false, laid := [("unicode/utf8.acceptRanges", laid_unicode_utf8_acceptRanges), ("unicode/utf8.first", laid_unicode_utf8_first)], narrowed := true }
def ParserTokensUptoSaid : Prop := parserTokensUptoRow.holds Tryz.pinned (OpenSpec.upto parserTokensSpec)

/-- 'exactreallaw19.ParserSpaces', WHERE WHAT IT READS IS OF BULK AT MOST 1048576: true; the input reads as it did. -/
def parserSpacesUptoRow : OpenClaim := { program := "ytgbfppdkpolkdaagreatdoor", sum := "fb9af176f6ab6f95de16ec76489ed17fe0a0e3211a993dd0f365cbe83972a5e9", func := "exactreal/exactreallaw19.ParserSpaces", spec := "parserSpaces", inPlace := ["internal/bytealg.IndexByteString", "internal/bytealg.IndexString"], unfollowed := true, recurses := true, named := ["internal/bytealg.MaxLen", "unicode/utf8.first", "unicode/utf8.acceptRanges"], apart := false, laid := [("unicode/utf8.acceptRanges", laid_unicode_utf8_acceptRanges), ("unicode/utf8.first", laid_unicode_utf8_first)], narrowed := true }
def ParserSpacesUptoSaid : Prop := parserSpacesUptoRow.holds Tryz.pinned (OpenSpec.upto parserSpacesSpec)

/-- 'exactreallaw19.ParserLimits', WHERE WHAT IT READS IS OF BULK AT MOST 1048576: true; the input reads as it did. -/
def parserLimitsUptoRow : OpenClaim := { program := "ytgbfppdkpolkdaagreatdoor", sum := "fb9af176f6ab6f95de16ec76489ed17fe0a0e3211a993dd0f365cbe83972a5e9", func := "exactreal/exactreallaw19.ParserLimits", spec := "parserLimits", inPlace := ["internal/bytealg.IndexByteString", "internal/bytealg.IndexString"], unfollowed := true, recurses := true, named := ["internal/bytealg.MaxLen", "unicode/utf8.first", "unicode/utf8.acceptRanges"], apart := false, laid := [("unicode/utf8.acceptRanges", laid_unicode_utf8_acceptRanges), ("unicode/utf8.first", laid_unicode_utf8_first)], narrowed := true }
def ParserLimitsUptoSaid : Prop := parserLimitsUptoRow.holds Tryz.pinned (OpenSpec.upto parserLimitsSpec)

/-- 'exactreallaw19.ParserParts', WHERE WHAT IT READS IS OF BULK AT MOST 1048576: true; the input reads as it did. -/
def parserPartsUptoRow : OpenClaim := { program := "ytgbfppdkpolkdaagreatdoor", sum := "fb9af176f6ab6f95de16ec76489ed17fe0a0e3211a993dd0f365cbe83972a5e9", func := "exactreal/exactreallaw19.ParserParts", spec := "parserParts", inPlace := ["internal/bytealg.IndexByteString", "internal/bytealg.IndexString"], unfollowed := true, recurses := true, named := ["internal/bytealg.MaxLen", "unicode/utf8.first", "unicode/utf8.acceptRanges"], apart := false, laid := [("unicode/utf8.acceptRanges", laid_unicode_utf8_acceptRanges), ("unicode/utf8.first", laid_unicode_utf8_first)], narrowed := true }
def ParserPartsUptoSaid : Prop := parserPartsUptoRow.holds Tryz.pinned (OpenSpec.upto parserPartsSpec)

end Rows
end Go.Proofs.YtgbfppdkpolkdaaGreatDoor
