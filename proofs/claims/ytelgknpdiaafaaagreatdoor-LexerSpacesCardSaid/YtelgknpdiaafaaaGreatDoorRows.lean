/-
  NARROWER THAN 'FOR EVERY INPUT', by the rows' own cells (each row's printed sentence says how): LexerScans: laid · LexerCovers: laid · LexerSpaces: laid.
  DERIVED. THE GIVEN ROWS OF THIS SEAT. 3 by the template 'for every input the law returns true; each argument reads behind the call as it read before'; 0 by the template 'total and deterministic' (their statements: YtelgknpdiaafaaaGreatDoorTotals.lean).
  GIVEN WITH THE SEED: the statements are not yours to turn. If you find one false, say at which input.
  Laid BY PROGRAM, IN A SANDBOX (cutbox-rows.mjs): the forced cells as the released guide's own fill.sh prints them over the translation e8e1863a2b6d0164… (all of the seat's roots in one cut). By AI agents, Wed Nov 11 2026. No macro, syntax, notation, axiom, sorry.
-/
import Derived.Test.YtelgknpdiaafaaaGreatDoorChecked
import GoSem.PinnedTables
import GoSem.Claim
import GoSem.ClaimJoined
import GoSem.ClaimMapViews
import Derived.JoinedTies
import Derived.KernelRfl
namespace Go.Proofs.YtelgknpdiaafaaaGreatDoor
/- THE CELL 'sum', in the pinned program and in every row, IS THE sha256 OF THE DUMP (.gsa) THAT YtelgknpdiaafaaaGreatDoorProg.lean LOADS. Nothing in Lean hashes anything: it is a label: what it is worth is what the hold of that sum in a sandbox is worth. -/
noncomputable def Tryz.pinned : Pinned := { name := "ytelgknpdiaafaaagreatdoor", sum := "e8e1863a2b6d0164622c268f5d194b15f7e05317b9bc3dcb28b45d53fea15389", checked := Tryz.checked }
namespace Rows
def none {H : Type} : Left H := { results := [], args := [] }

/- WHAT THE LISTED PACKAGE-LEVEL VARIABLES READ AS WHEN THE CALL BEGINS. Each datum BY PROGRAM (the guide's laid-datum.mjs) off the statement by which the dump's own 'gosem.cut.vars' lays the variable. In a bare row this is a premise. The card (YtelgknpdiaafaaaGreatDoorCards.lean) ties it to the program's text. -/
def laid_unicode_utf8_acceptRanges {H : Type} : DataW H := .agg [.agg [.lit (.int .u8 128), .lit (.int .u8 191)], .agg [.lit (.int .u8 160), .lit (.int .u8 191)], .agg [.lit (.int .u8 128), .lit (.int .u8 159)], .agg [.lit (.int .u8 144), .lit (.int .u8 191)], .agg [.lit (.int .u8 128), .lit (.int .u8 143)], .agg [.lit (.int .u8 0), .lit (.int .u8 0)], .agg [.lit (.int .u8 0), .lit (.int .u8 0)], .agg [.lit (.int .u8 0), .lit (.int .u8 0)], .agg [.lit (.int .u8 0), .lit (.int .u8 0)], .agg [.lit (.int .u8 0), .lit (.int .u8 0)], .agg [.lit (.int .u8 0), .lit (.int .u8 0)], .agg [.lit (.int .u8 0), .lit (.int .u8 0)], .agg [.lit (.int .u8 0), .lit (.int .u8 0)], .agg [.lit (.int .u8 0), .lit (.int .u8 0)], .agg [.lit (.int .u8 0), .lit (.int .u8 0)], .agg [.lit (.int .u8 0), .lit (.int .u8 0)]]
/-- One of Go's own tables, pinned by name: the form's constant. -/
def laid_unicode_utf8_first : DataW Unit := Go.Pinned.utf8First

/-- 'exactreallaw18.LexerScans': WHATEVER THE INPUT: true; the input reads as it did. -/
def lexerScansSpec : ChangeSpec := { name := "lexerScans", fn := fun _ => fun
  | [d1, d2, d3, d4] => { results := [.lit (.bool true)], args := [d1, d2, d3, d4] }
  | _ => none }
def lexerScansRow : OpenClaim := { program := "ytelgknpdiaafaaagreatdoor", sum := "e8e1863a2b6d0164622c268f5d194b15f7e05317b9bc3dcb28b45d53fea15389", func := "exactreal/exactreallaw18.LexerScans", spec := "lexerScans", inPlace := ["internal/bytealg.IndexByteString", "internal/bytealg.IndexString"], unfollowed := true, recurses := true, named := ["internal/bytealg.MaxLen", "unicode/utf8.first", "unicode/utf8.acceptRanges"], apart := false, laid := [("unicode/utf8.acceptRanges", laid_unicode_utf8_acceptRanges), ("unicode/utf8.first", laid_unicode_utf8_first)] }
def LexerScansSaid : Prop := lexerScansRow.holds Tryz.pinned (OpenSpec.ofChange lexerScansSpec)

/-- ITS FALSE NEIGHBOUR: 'it returns false'. Refute it at one input. -/
def lexerScansWrong : ChangeSpec := { name := "lexerScans", fn := fun _ => fun
  | [d1, d2, d3, d4] => { results := [.lit (.bool false)], args := [d1, d2, d3, d4] }
  | _ => none }
def LexerScansWrongFalsely : Prop := lexerScansRow.holds Tryz.pinned (OpenSpec.ofChange lexerScansWrong)

/-- 'exactreallaw18.LexerCovers': WHATEVER THE INPUT: true; the input reads as it did. -/
def lexerCoversSpec : ChangeSpec := { name := "lexerCovers", fn := fun _ => fun
  | [d1, d2] => { results := [.lit (.bool true)], args := [d1, d2] }
  | _ => none }
def lexerCoversRow : OpenClaim := { program := "ytelgknpdiaafaaagreatdoor", sum := "e8e1863a2b6d0164622c268f5d194b15f7e05317b9bc3dcb28b45d53fea15389", func := "exactreal/exactreallaw18.LexerCovers", spec := "lexerCovers", inPlace := ["internal/bytealg.IndexByteString", "internal/bytealg.IndexString"], unfollowed := true, recurses := true, named := ["internal/bytealg.MaxLen", "unicode/utf8.first", "unicode/utf8.acceptRanges"], apart := false, laid := [("unicode/utf8.acceptRanges", laid_unicode_utf8_acceptRanges), ("unicode/utf8.first", laid_unicode_utf8_first)] }
def LexerCoversSaid : Prop := lexerCoversRow.holds Tryz.pinned (OpenSpec.ofChange lexerCoversSpec)

/-- ITS FALSE NEIGHBOUR: 'it returns false'. Refute it at one input. -/
def lexerCoversWrong : ChangeSpec := { name := "lexerCovers", fn := fun _ => fun
  | [d1, d2] => { results := [.lit (.bool false)], args := [d1, d2] }
  | _ => none }
def LexerCoversWrongFalsely : Prop := lexerCoversRow.holds Tryz.pinned (OpenSpec.ofChange lexerCoversWrong)

/-- 'exactreallaw18.LexerSpaces': WHATEVER THE INPUT: true; the input reads as it did. -/
def lexerSpacesSpec : ChangeSpec := { name := "lexerSpaces", fn := fun _ => fun
  | [d1, d2] => { results := [.lit (.bool true)], args := [d1, d2] }
  | _ => none }
def lexerSpacesRow : OpenClaim := { program := "ytelgknpdiaafaaagreatdoor", sum := "e8e1863a2b6d0164622c268f5d194b15f7e05317b9bc3dcb28b45d53fea15389", func := "exactreal/exactreallaw18.LexerSpaces", spec := "lexerSpaces", inPlace := ["internal/bytealg.IndexByteString", "internal/bytealg.IndexString"], unfollowed := true, recurses := true, named := ["internal/bytealg.MaxLen", "unicode/utf8.first", "unicode/utf8.acceptRanges"], apart := false, laid := [("unicode/utf8.acceptRanges", laid_unicode_utf8_acceptRanges), ("unicode/utf8.first", laid_unicode_utf8_first)] }
def LexerSpacesSaid : Prop := lexerSpacesRow.holds Tryz.pinned (OpenSpec.ofChange lexerSpacesSpec)

/-- ITS FALSE NEIGHBOUR: 'it returns false'. Refute it at one input. -/
def lexerSpacesWrong : ChangeSpec := { name := "lexerSpaces", fn := fun _ => fun
  | [d1, d2] => { results := [.lit (.bool false)], args := [d1, d2] }
  | _ => none }
def LexerSpacesWrongFalsely : Prop := lexerSpacesRow.holds Tryz.pinned (OpenSpec.ofChange lexerSpacesWrong)

/- THE SECOND FORM. 'bulk': how many values and letters a reading holds, each counted each time it is reached (what is shared counts as often as it is met; a slice's spare places count too). A statement '..UptoSaid' is the law's where the arguments, and the package variables that the reading takes, are together of bulk at most 1048576: NARROWER than '..Said'. Prove '..Said' where nothing that the law and all that it calls make is longer than what came in: it says more and counts as full. Else prove '..UptoSaid'. A law counts once. -/
mutual
def uptoBulk {H : Type} : DataW H → Nat
  | .lit (.string bytes) => bytes.length + 1
  | .lit _ => 1
  | .nil => 1
  | .ptr d => uptoBulk d + 1
  | .slice elems spare => uptoBulkAll elems + uptoBulkAll spare + 1
  | .agg parts => uptoBulkAll parts + 1
  | .iface _ d => uptoBulk d + 1
  | .map entries => uptoBulkEntries entries + 1
  | .held _ => 1
def uptoBulkAll {H : Type} : List (DataW H) → Nat
  | [] => 0
  | d :: r => uptoBulk d + uptoBulkAll r
def uptoBulkEntries {H : Type} : List (Lit × DataW H) → Nat
  | [] => 0
  | x :: r => uptoBulkEntry x + uptoBulkEntries r
def uptoBulkEntry {H : Type} : Lit × DataW H → Nat
  | (.string bytes, d) => bytes.length + uptoBulk d + 1
  | (_, d) => uptoBulk d + 1
 end
def uptoSmall : (H : Type) → List (DataW H) → Bool := fun _ ds => decide (uptoBulkAll ds ≤ 1048576)
def OpenSpec.upto (s : _root_.Go.ChangeSpec) : _root_.Go.OpenSpec := { _root_.Go.OpenSpec.ofChange s with cond := some uptoSmall }

/-- 'exactreallaw18.LexerScans', WHERE WHAT IT READS IS OF BULK AT MOST 1048576: true; the input reads as it did. -/
def lexerScansUptoRow : OpenClaim := { program := "ytelgknpdiaafaaagreatdoor", sum := "e8e1863a2b6d0164622c268f5d194b15f7e05317b9bc3dcb28b45d53fea15389", func := "exactreal/exactreallaw18.LexerScans", spec := "lexerScans", inPlace := ["internal/bytealg.IndexByteString", "internal/bytealg.IndexString"], unfollowed := true, recurses := true, named := ["internal/bytealg.MaxLen", "unicode/utf8.first", "unicode/utf8.acceptRanges"], apart := false, laid := [("unicode/utf8.acceptRanges", laid_unicode_utf8_acceptRanges), ("unicode/utf8.first", laid_unicode_utf8_first)], narrowed := true }
def LexerScansUptoSaid : Prop := lexerScansUptoRow.holds Tryz.pinned (OpenSpec.upto lexerScansSpec)

/-- 'exactreallaw18.LexerCovers', WHERE WHAT IT READS IS OF BULK AT MOST 1048576: true; the input reads as it did. -/
def lexerCoversUptoRow : OpenClaim := { program := "ytelgknpdiaafaaagreatdoor", sum := "e8e1863a2b6d0164622c268f5d194b15f7e05317b9bc3dcb28b45d53fea15389", func := "exactreal/exactreallaw18.LexerCovers", spec := "lexerCovers", inPlace := ["internal/bytealg.IndexByteString", "internal/bytealg.IndexString"], unfollowed := true, recurses := true, named := ["internal/bytealg.MaxLen", "unicode/utf8.first", "unicode/utf8.acceptRanges"], apart := false, laid := [("unicode/utf8.acceptRanges", laid_unicode_utf8_acceptRanges), ("unicode/utf8.first", laid_unicode_utf8_first)], narrowed := true }
def LexerCoversUptoSaid : Prop := lexerCoversUptoRow.holds Tryz.pinned (OpenSpec.upto lexerCoversSpec)

/-- 'exactreallaw18.LexerSpaces', WHERE WHAT IT READS IS OF BULK AT MOST 1048576: true; the input reads as it did. -/
def lexerSpacesUptoRow : OpenClaim := { program := "ytelgknpdiaafaaagreatdoor", sum := "e8e1863a2b6d0164622c268f5d194b15f7e05317b9bc3dcb28b45d53fea15389", func := "exactreal/exactreallaw18.LexerSpaces", spec := "lexerSpaces", inPlace := ["internal/bytealg.IndexByteString", "internal/bytealg.IndexString"], unfollowed := true, recurses := true, named := ["internal/bytealg.MaxLen", "unicode/utf8.first", "unicode/utf8.acceptRanges"], apart := false, laid := [("unicode/utf8.acceptRanges", laid_unicode_utf8_acceptRanges), ("unicode/utf8.first", laid_unicode_utf8_first)], narrowed := true }
def LexerSpacesUptoSaid : Prop := lexerSpacesUptoRow.holds Tryz.pinned (OpenSpec.upto lexerSpacesSpec)

end Rows
end Go.Proofs.YtelgknpdiaafaaaGreatDoor
