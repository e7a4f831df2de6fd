/-
  NARROWER THAN 'FOR EVERY INPUT', by the rows' own cells (each row's printed sentence says how): RationalDecimals: laid · RationalParses: laid · RationalRoots: laid · RationalMakes: laid · RationalFloors: laid · RationalPowers: laid · RationalLaws: laid · RationalField: laid · RationalOrders: laid.
  DERIVED. THE GIVEN ROWS OF THIS SEAT. 9 by the template 'for every input the law returns true; each argument reads behind the call as it read before'; 0 by the template 'total and deterministic' (their statements: YtplmldkfgeiklaaGreatDoorTotals.lean).
  GIVEN WITH THE SEED: the statements are not yours to turn. If you find one false, say at which input.
  Laid BY PROGRAM, IN A SANDBOX (cutbox-rows.mjs): the forced cells as the released guide's own fill.sh prints them over the translation 13317f67da787f7b… (all of the seat's roots in one cut). By AI agents, Wed Nov 11 2026. No macro, syntax, notation, axiom, sorry.
-/
import Derived.Test.YtplmldkfgeiklaaGreatDoorChecked
import GoSem.PinnedTables
import GoSem.Claim
import GoSem.ClaimJoined
import GoSem.ClaimMapViews
import Derived.JoinedTies
import Derived.KernelRfl
namespace Go.Proofs.YtplmldkfgeiklaaGreatDoor
/- THE CELL 'sum', in the pinned program and in every row, IS THE sha256 OF THE DUMP (.gsa) THAT YtplmldkfgeiklaaGreatDoorProg.lean LOADS. Nothing in Lean hashes anything: it is a label: what it is worth is what the hold of that sum in a sandbox is worth. -/
noncomputable def Tryz.pinned : Pinned := { name := "ytplmldkfgeiklaagreatdoor", sum := "13317f67da787f7bc94327c8f02a8954afa0447dc4ed85e62d6716c231ff6b1f", checked := Tryz.checked }
namespace Rows
def none {H : Type} : Left H := { results := [], args := [] }

/- WHAT THE LISTED PACKAGE-LEVEL VARIABLES READ AS WHEN THE CALL BEGINS. Each datum BY PROGRAM (the guide's laid-datum.mjs) off the statement by which the dump's own 'gosem.cut.vars' lays the variable. In a bare row this is a premise. The card (YtplmldkfgeiklaaGreatDoorCards.lean) ties it to the program's text. -/
def laid_math_bits_deBruijn32tab {H : Type} : DataW H := .agg [.lit (.int .u8 0), .lit (.int .u8 1), .lit (.int .u8 28), .lit (.int .u8 2), .lit (.int .u8 29), .lit (.int .u8 14), .lit (.int .u8 24), .lit (.int .u8 3), .lit (.int .u8 30), .lit (.int .u8 22), .lit (.int .u8 20), .lit (.int .u8 15), .lit (.int .u8 25), .lit (.int .u8 17), .lit (.int .u8 4), .lit (.int .u8 8), .lit (.int .u8 31), .lit (.int .u8 27), .lit (.int .u8 13), .lit (.int .u8 23), .lit (.int .u8 21), .lit (.int .u8 19), .lit (.int .u8 16), .lit (.int .u8 7), .lit (.int .u8 26), .lit (.int .u8 12), .lit (.int .u8 18), .lit (.int .u8 6), .lit (.int .u8 11), .lit (.int .u8 5), .lit (.int .u8 10), .lit (.int .u8 9)]
def laid_unicode_utf8_acceptRanges {H : Type} : DataW H := .agg [.agg [.lit (.int .u8 128), .lit (.int .u8 191)], .agg [.lit (.int .u8 160), .lit (.int .u8 191)], .agg [.lit (.int .u8 128), .lit (.int .u8 159)], .agg [.lit (.int .u8 144), .lit (.int .u8 191)], .agg [.lit (.int .u8 128), .lit (.int .u8 143)], .agg [.lit (.int .u8 0), .lit (.int .u8 0)], .agg [.lit (.int .u8 0), .lit (.int .u8 0)], .agg [.lit (.int .u8 0), .lit (.int .u8 0)], .agg [.lit (.int .u8 0), .lit (.int .u8 0)], .agg [.lit (.int .u8 0), .lit (.int .u8 0)], .agg [.lit (.int .u8 0), .lit (.int .u8 0)], .agg [.lit (.int .u8 0), .lit (.int .u8 0)], .agg [.lit (.int .u8 0), .lit (.int .u8 0)], .agg [.lit (.int .u8 0), .lit (.int .u8 0)], .agg [.lit (.int .u8 0), .lit (.int .u8 0)], .agg [.lit (.int .u8 0), .lit (.int .u8 0)]]
/-- One of Go's own tables, pinned by name: the form's constant. -/
def laid_unicode_utf8_first : DataW Unit := Go.Pinned.utf8First

/-- 'exactreallaw07.RationalDecimals': WHATEVER THE INPUT: true; the input reads as it did. -/
def rationalDecimalsSpec : ChangeSpec := { name := "rationalDecimals", fn := fun _ => fun
  | [d1, d2, d3] => { results := [.lit (.bool true)], args := [d1, d2, d3] }
  | _ => none }
def rationalDecimalsRow : OpenClaim := { program := "ytplmldkfgeiklaagreatdoor", sum := "13317f67da787f7bc94327c8f02a8954afa0447dc4ed85e62d6716c231ff6b1f", func := "exactreal/exactreallaw07.RationalDecimals", spec := "rationalDecimals", inPlace := ["internal/abi.NoEscape", "internal/bytealg.MakeNoZero", "internal/bytealg.IndexByteString", "internal/bytealg.IndexString"], recurses := true, named := ["math/bits.deBruijn32tab", "internal/bytealg.MaxLen", "unicode/utf8.first", "unicode/utf8.acceptRanges"], apart := false, laid := [("math/bits.deBruijn32tab", laid_math_bits_deBruijn32tab), ("unicode/utf8.acceptRanges", laid_unicode_utf8_acceptRanges), ("unicode/utf8.first", laid_unicode_utf8_first)] }
def RationalDecimalsSaid : Prop := rationalDecimalsRow.holds Tryz.pinned (OpenSpec.ofChange rationalDecimalsSpec)

/-- ITS FALSE NEIGHBOUR: 'it returns false'. Refute it at one input. -/
def rationalDecimalsWrong : ChangeSpec := { name := "rationalDecimals", fn := fun _ => fun
  | [d1, d2, d3] => { results := [.lit (.bool false)], args := [d1, d2, d3] }
  | _ => none }
def RationalDecimalsWrongFalsely : Prop := rationalDecimalsRow.holds Tryz.pinned (OpenSpec.ofChange rationalDecimalsWrong)

/-- 'exactreallaw07.RationalParses': WHATEVER THE INPUT: true; the input reads as it did. -/
def rationalParsesSpec : ChangeSpec := { name := "rationalParses", fn := fun _ => fun
  | [d1, d2] => { results := [.lit (.bool true)], args := [d1, d2] }
  | _ => none }
def rationalParsesRow : OpenClaim := { program := "ytplmldkfgeiklaagreatdoor", sum := "13317f67da787f7bc94327c8f02a8954afa0447dc4ed85e62d6716c231ff6b1f", func := "exactreal/exactreallaw07.RationalParses", spec := "rationalParses", inPlace := ["internal/abi.NoEscape", "internal/bytealg.MakeNoZero", "internal/bytealg.IndexByteString", "internal/bytealg.IndexString"], named := ["math/bits.deBruijn32tab", "internal/bytealg.MaxLen", "unicode/utf8.first", "unicode/utf8.acceptRanges"], apart := false, laid := [("math/bits.deBruijn32tab", laid_math_bits_deBruijn32tab), ("unicode/utf8.acceptRanges", laid_unicode_utf8_acceptRanges), ("unicode/utf8.first", laid_unicode_utf8_first)] }
def RationalParsesSaid : Prop := rationalParsesRow.holds Tryz.pinned (OpenSpec.ofChange rationalParsesSpec)

/-- ITS FALSE NEIGHBOUR: 'it returns false'. Refute it at one input. -/
def rationalParsesWrong : ChangeSpec := { name := "rationalParses", fn := fun _ => fun
  | [d1, d2] => { results := [.lit (.bool false)], args := [d1, d2] }
  | _ => none }
def RationalParsesWrongFalsely : Prop := rationalParsesRow.holds Tryz.pinned (OpenSpec.ofChange rationalParsesWrong)

/-- 'exactreallaw07.RationalRoots': WHATEVER THE INPUT: true; the input reads as it did. -/
def rationalRootsSpec : ChangeSpec := { name := "rationalRoots", fn := fun _ => fun
  | [d] => { results := [.lit (.bool true)], args := [d] }
  | _ => none }
def rationalRootsRow : OpenClaim := { program := "ytplmldkfgeiklaagreatdoor", sum := "13317f67da787f7bc94327c8f02a8954afa0447dc4ed85e62d6716c231ff6b1f", func := "exactreal/exactreallaw07.RationalRoots", spec := "rationalRoots", inPlace := ["internal/abi.NoEscape", "internal/bytealg.MakeNoZero", "internal/bytealg.IndexByteString", "internal/bytealg.IndexString"], named := ["math/bits.deBruijn32tab", "internal/bytealg.MaxLen", "unicode/utf8.first", "unicode/utf8.acceptRanges"], apart := false, laid := [("math/bits.deBruijn32tab", laid_math_bits_deBruijn32tab), ("unicode/utf8.acceptRanges", laid_unicode_utf8_acceptRanges), ("unicode/utf8.first", laid_unicode_utf8_first)] }
def RationalRootsSaid : Prop := rationalRootsRow.holds Tryz.pinned (OpenSpec.ofChange rationalRootsSpec)

/-- ITS FALSE NEIGHBOUR: 'it returns false'. Refute it at one input. -/
def rationalRootsWrong : ChangeSpec := { name := "rationalRoots", fn := fun _ => fun
  | [d] => { results := [.lit (.bool false)], args := [d] }
  | _ => none }
def RationalRootsWrongFalsely : Prop := rationalRootsRow.holds Tryz.pinned (OpenSpec.ofChange rationalRootsWrong)

/-- 'exactreallaw07.RationalMakes': WHATEVER THE INPUT: true; the input reads as it did. -/
def rationalMakesSpec : ChangeSpec := { name := "rationalMakes", fn := fun _ => fun
  | [d1, d2, d3] => { results := [.lit (.bool true)], args := [d1, d2, d3] }
  | _ => none }
def rationalMakesRow : OpenClaim := { program := "ytplmldkfgeiklaagreatdoor", sum := "13317f67da787f7bc94327c8f02a8954afa0447dc4ed85e62d6716c231ff6b1f", func := "exactreal/exactreallaw07.RationalMakes", spec := "rationalMakes", inPlace := ["internal/abi.NoEscape", "internal/bytealg.MakeNoZero", "internal/bytealg.IndexByteString", "internal/bytealg.IndexString"], named := ["math/bits.deBruijn32tab", "internal/bytealg.MaxLen", "unicode/utf8.first", "unicode/utf8.acceptRanges"], apart := false, laid := [("math/bits.deBruijn32tab", laid_math_bits_deBruijn32tab), ("unicode/utf8.acceptRanges", laid_unicode_utf8_acceptRanges), ("unicode/utf8.first", laid_unicode_utf8_first)] }
def RationalMakesSaid : Prop := rationalMakesRow.holds Tryz.pinned (OpenSpec.ofChange rationalMakesSpec)

/-- ITS FALSE NEIGHBOUR: 'it returns false'. Refute it at one input. -/
def rationalMakesWrong : ChangeSpec := { name := "rationalMakes", fn := fun _ => fun
  | [d1, d2, d3] => { results := [.lit (.bool false)], args := [d1, d2, d3] }
  | _ => none }
def RationalMakesWrongFalsely : Prop := rationalMakesRow.holds Tryz.pinned (OpenSpec.ofChange rationalMakesWrong)

/-- 'exactreallaw07.RationalFloors': WHATEVER THE INPUT: true; the input reads as it did. -/
def rationalFloorsSpec : ChangeSpec := { name := "rationalFloors", fn := fun _ => fun
  | [d] => { results := [.lit (.bool true)], args := [d] }
  | _ => none }
def rationalFloorsRow : OpenClaim := { program := "ytplmldkfgeiklaagreatdoor", sum := "13317f67da787f7bc94327c8f02a8954afa0447dc4ed85e62d6716c231ff6b1f", func := "exactreal/exactreallaw07.RationalFloors", spec := "rationalFloors", inPlace := ["internal/abi.NoEscape", "internal/bytealg.MakeNoZero", "internal/bytealg.IndexByteString", "internal/bytealg.IndexString"], named := ["math/bits.deBruijn32tab", "internal/bytealg.MaxLen", "unicode/utf8.first", "unicode/utf8.acceptRanges"], apart := false, laid := [("math/bits.deBruijn32tab", laid_math_bits_deBruijn32tab), ("unicode/utf8.acceptRanges", laid_unicode_utf8_acceptRanges), ("unicode/utf8.first", laid_unicode_utf8_first)] }
def RationalFloorsSaid : Prop := rationalFloorsRow.holds Tryz.pinned (OpenSpec.ofChange rationalFloorsSpec)

/-- ITS FALSE NEIGHBOUR: 'it returns false'. Refute it at one input. -/
def rationalFloorsWrong : ChangeSpec := { name := "rationalFloors", fn := fun _ => fun
  | [d] => { results := [.lit (.bool false)], args := [d] }
  | _ => none }
def RationalFloorsWrongFalsely : Prop := rationalFloorsRow.holds Tryz.pinned (OpenSpec.ofChange rationalFloorsWrong)

/-- 'exactreallaw07.RationalPowers': WHATEVER THE INPUT: true; the input reads as it did. -/
def rationalPowersSpec : ChangeSpec := { name := "rationalPowers", fn := fun _ => fun
  | [d1, d2, d3] => { results := [.lit (.bool true)], args := [d1, d2, d3] }
  | _ => none }
def rationalPowersRow : OpenClaim := { program := "ytplmldkfgeiklaagreatdoor", sum := "13317f67da787f7bc94327c8f02a8954afa0447dc4ed85e62d6716c231ff6b1f", func := "exactreal/exactreallaw07.RationalPowers", spec := "rationalPowers", inPlace := ["internal/abi.NoEscape", "internal/bytealg.MakeNoZero", "internal/bytealg.IndexByteString", "internal/bytealg.IndexString"], recurses := true, named := ["math/bits.deBruijn32tab", "internal/bytealg.MaxLen", "unicode/utf8.first", "unicode/utf8.acceptRanges"], apart := false, laid := [("math/bits.deBruijn32tab", laid_math_bits_deBruijn32tab), ("unicode/utf8.acceptRanges", laid_unicode_utf8_acceptRanges), ("unicode/utf8.first", laid_unicode_utf8_first)] }
def RationalPowersSaid : Prop := rationalPowersRow.holds Tryz.pinned (OpenSpec.ofChange rationalPowersSpec)

/-- ITS FALSE NEIGHBOUR: 'it returns false'. Refute it at one input. -/
def rationalPowersWrong : ChangeSpec := { name := "rationalPowers", fn := fun _ => fun
  | [d1, d2, d3] => { results := [.lit (.bool false)], args := [d1, d2, d3] }
  | _ => none }
def RationalPowersWrongFalsely : Prop := rationalPowersRow.holds Tryz.pinned (OpenSpec.ofChange rationalPowersWrong)

/-- 'exactreallaw07.RationalLaws': WHATEVER THE INPUT: true; the input reads as it did. -/
def rationalLawsSpec : ChangeSpec := { name := "rationalLaws", fn := fun _ => fun
  | [d1, d2, d3] => { results := [.lit (.bool true)], args := [d1, d2, d3] }
  | _ => none }
def rationalLawsRow : OpenClaim := { program := "ytplmldkfgeiklaagreatdoor", sum := "13317f67da787f7bc94327c8f02a8954afa0447dc4ed85e62d6716c231ff6b1f", func := "exactreal/exactreallaw07.RationalLaws", spec := "rationalLaws", inPlace := ["internal/abi.NoEscape", "internal/bytealg.MakeNoZero", "internal/bytealg.IndexByteString", "internal/bytealg.IndexString"], named := ["math/bits.deBruijn32tab", "internal/bytealg.MaxLen", "unicode/utf8.first", "unicode/utf8.acceptRanges"], apart := false, laid := [("math/bits.deBruijn32tab", laid_math_bits_deBruijn32tab), ("unicode/utf8.acceptRanges", laid_unicode_utf8_acceptRanges), ("unicode/utf8.first", laid_unicode_utf8_first)] }
def RationalLawsSaid : Prop := rationalLawsRow.holds Tryz.pinned (OpenSpec.ofChange rationalLawsSpec)

/-- ITS FALSE NEIGHBOUR: 'it returns false'. Refute it at one input. -/
def rationalLawsWrong : ChangeSpec := { name := "rationalLaws", fn := fun _ => fun
  | [d1, d2, d3] => { results := [.lit (.bool false)], args := [d1, d2, d3] }
  | _ => none }
def RationalLawsWrongFalsely : Prop := rationalLawsRow.holds Tryz.pinned (OpenSpec.ofChange rationalLawsWrong)

/-- 'exactreallaw07.RationalField': WHATEVER THE INPUT: true; the input reads as it did. -/
def rationalFieldSpec : ChangeSpec := { name := "rationalField", fn := fun _ => fun
  | [d1, d2, d3] => { results := [.lit (.bool true)], args := [d1, d2, d3] }
  | _ => none }
def rationalFieldRow : OpenClaim := { program := "ytplmldkfgeiklaagreatdoor", sum := "13317f67da787f7bc94327c8f02a8954afa0447dc4ed85e62d6716c231ff6b1f", func := "exactreal/exactreallaw07.RationalField", spec := "rationalField", inPlace := ["internal/abi.NoEscape", "internal/bytealg.MakeNoZero", "internal/bytealg.IndexByteString", "internal/bytealg.IndexString"], named := ["math/bits.deBruijn32tab", "internal/bytealg.MaxLen", "unicode/utf8.first", "unicode/utf8.acceptRanges"], apart := false, laid := [("math/bits.deBruijn32tab", laid_math_bits_deBruijn32tab), ("unicode/utf8.acceptRanges", laid_unicode_utf8_acceptRanges), ("unicode/utf8.first", laid_unicode_utf8_first)] }
def RationalFieldSaid : Prop := rationalFieldRow.holds Tryz.pinned (OpenSpec.ofChange rationalFieldSpec)

/-- ITS FALSE NEIGHBOUR: 'it returns false'. Refute it at one input. -/
def rationalFieldWrong : ChangeSpec := { name := "rationalField", fn := fun _ => fun
  | [d1, d2, d3] => { results := [.lit (.bool false)], args := [d1, d2, d3] }
  | _ => none }
def RationalFieldWrongFalsely : Prop := rationalFieldRow.holds Tryz.pinned (OpenSpec.ofChange rationalFieldWrong)

/-- 'exactreallaw07.RationalOrders': WHATEVER THE INPUT: true; the input reads as it did. -/
def rationalOrdersSpec : ChangeSpec := { name := "rationalOrders", fn := fun _ => fun
  | [d1, d2] => { results := [.lit (.bool true)], args := [d1, d2] }
  | _ => none }
def rationalOrdersRow : OpenClaim := { program := "ytplmldkfgeiklaagreatdoor", sum := "13317f67da787f7bc94327c8f02a8954afa0447dc4ed85e62d6716c231ff6b1f", func := "exactreal/exactreallaw07.RationalOrders", spec := "rationalOrders", inPlace := ["internal/abi.NoEscape", "internal/bytealg.MakeNoZero", "internal/bytealg.IndexByteString", "internal/bytealg.IndexString"], named := ["math/bits.deBruijn32tab", "internal/bytealg.MaxLen", "unicode/utf8.first", "unicode/utf8.acceptRanges"], apart := false, laid := [("math/bits.deBruijn32tab", laid_math_bits_deBruijn32tab), ("unicode/utf8.acceptRanges", laid_unicode_utf8_acceptRanges), ("unicode/utf8.first", laid_unicode_utf8_first)] }
def RationalOrdersSaid : Prop := rationalOrdersRow.holds Tryz.pinned (OpenSpec.ofChange rationalOrdersSpec)

/-- ITS FALSE NEIGHBOUR: 'it returns false'. Refute it at one input. -/
def rationalOrdersWrong : ChangeSpec := { name := "rationalOrders", fn := fun _ => fun
  | [d1, d2] => { results := [.lit (.bool false)], args := [d1, d2] }
  | _ => none }
def RationalOrdersWrongFalsely : Prop := rationalOrdersRow.holds Tryz.pinned (OpenSpec.ofChange rationalOrdersWrong)

/- THE SECOND FORM. 'bulk': how many values and letters a reading holds, each counted each time it is reached (what is shared counts as often as it is met; a slice's spare places count too). A statement '..UptoSaid' is the law's where the arguments, and the package variables that the reading takes, are together of bulk at most 1048576: NARROWER than '..Said'. Prove '..Said' where nothing that the law and all that it calls make is longer than what came in: it says more and counts as full. Else prove '..UptoSaid'. A law counts once. -/
mutual
def uptoBulk {H : Type} : DataW H → Nat
  | .lit (.string bytes) => bytes.length + 1
  | .lit _ => 1
  | .nil => 1
  | .ptr d => uptoBulk d + 1
  | .slice elems spare => uptoBulkAll elems + uptoBulkAll spare + 1
  | .agg parts => uptoBulkAll parts + 1
  | .iface _ d => uptoBulk d + 1
  | .map entries => uptoBulkEntries entries + 1
  | .held _ => 1
def uptoBulkAll {H : Type} : List (DataW H) → Nat
  | [] => 0
  | d :: r => uptoBulk d + uptoBulkAll r
def uptoBulkEntries {H : Type} : List (Lit × DataW H) → Nat
  | [] => 0
  | x :: r => uptoBulkEntry x + uptoBulkEntries r
def uptoBulkEntry {H : Type} : Lit × DataW H → Nat
  | (.string bytes, d) => bytes.length + uptoBulk d + 1
  | (_, d) => uptoBulk d + 1
 end
def uptoSmall : (H : Type) → List (DataW H) → Bool := fun _ ds => decide (uptoBulkAll ds ≤ 1048576)
def OpenSpec.upto (s : _root_.Go.ChangeSpec) : _root_.Go.OpenSpec := { _root_.Go.OpenSpec.ofChange s with cond := some uptoSmall }

/-- 'exactreallaw07.RationalDecimals', WHERE WHAT IT READS IS OF BULK AT MOST 1048576: true; the input reads as it did. -/
def rationalDecimalsUptoRow : OpenClaim := { program := "ytplmldkfgeiklaagreatdoor", sum := "13317f67da787f7bc94327c8f02a8954afa0447dc4ed85e62d6716c231ff6b1f", func := "exactreal/exactreallaw07.RationalDecimals", spec := "rationalDecimals", inPlace := ["internal/abi.NoEscape", "internal/bytealg.MakeNoZero", "internal/bytealg.IndexByteString", "internal/bytealg.IndexString"], recurses := true, named := ["math/bits.deBruijn32tab", "internal/bytealg.MaxLen", "unicode/utf8.first", "unicode/utf8.acceptRanges"], apart := false, laid := [("math/bits.deBruijn32tab", laid_math_bits_deBruijn32tab), ("unicode/utf8.acceptRanges", laid_unicode_utf8_acceptRanges), ("unicode/utf8.first", laid_unicode_utf8_first)], narrowed := true }
def RationalDecimalsUptoSaid : Prop := rationalDecimalsUptoRow.holds Tryz.pinned (OpenSpec.upto rationalDecimalsSpec)

/-- 'exactreallaw07.RationalParses', WHERE WHAT IT READS IS OF BULK AT MOST 1048576: true; the input reads as it did. -/
def rationalParsesUptoRow : OpenClaim := { program := "ytplmldkfgeiklaagreatdoor", sum := "13317f67da787f7bc94327c8f02a8954afa0447dc4ed85e62d6716c231ff6b1f", func := "exactreal/exactreallaw07.RationalParses", spec := "rationalParses", inPlace := ["internal/abi.NoEscape", "internal/bytealg.MakeNoZero", "internal/bytealg.IndexByteString", "internal/bytealg.IndexString"], named := ["math/bits.deBruijn32tab", "internal/bytealg.MaxLen", "unicode/utf8.first", "unicode/utf8.acceptRanges"], apart := false, laid := [("math/bits.deBruijn32tab", laid_math_bits_deBruijn32tab), ("unicode/utf8.acceptRanges", laid_unicode_utf8_acceptRanges), ("unicode/utf8.first", laid_unicode_utf8_first)], narrowed := true }
def RationalParsesUptoSaid : Prop := rationalParsesUptoRow.holds Tryz.pinned (OpenSpec.upto rationalParsesSpec)

/-- 'exactreallaw07.RationalRoots', WHERE WHAT IT READS IS OF BULK AT MOST 1048576: true; the input reads as it did. -/
def rationalRootsUptoRow : OpenClaim := { program := "ytplmldkfgeiklaagreatdoor", sum := "13317f67da787f7bc94327c8f02a8954afa0447dc4ed85e62d6716c231ff6b1f", func := "exactreal/exactreallaw07.RationalRoots", spec := "rationalRoots", inPlace := ["internal/abi.NoEscape", "internal/bytealg.MakeNoZero", "internal/bytealg.IndexByteString", "internal/bytealg.IndexString"], named := ["math/bits.deBruijn32tab", "internal/bytealg.MaxLen", "unicode/utf8.first", "unicode/utf8.acceptRanges"], apart := false, laid := [("math/bits.deBruijn32tab", laid_math_bits_deBruijn32tab), ("unicode/utf8.acceptRanges", laid_unicode_utf8_acceptRanges), ("unicode/utf8.first", laid_unicode_utf8_first)], narrowed := true }
def RationalRootsUptoSaid : Prop := rationalRootsUptoRow.holds Tryz.pinned (OpenSpec.upto rationalRootsSpec)

/-- 'exactreallaw07.RationalMakes', WHERE WHAT IT READS IS OF BULK AT MOST 1048576: true; the input reads as it did. -/
def rationalMakesUptoRow : OpenClaim := { program := "ytplmldkfgeiklaagreatdoor", sum := "13317f67da787f7bc94327c8f02a8954afa0447dc4ed85e62d6716c231ff6b1f", func := "exactreal/exactreallaw07.RationalMakes", spec := "rationalMakes", inPlace := ["internal/abi.NoEscape", "internal/bytealg.MakeNoZero", "internal/bytealg.IndexByteString", "internal/bytealg.IndexString"], named := ["math/bits.deBruijn32tab", "internal/bytealg.MaxLen", "unicode/utf8.first", "unicode/utf8.acceptRanges"], apart := false, laid := [("math/bits.deBruijn32tab", laid_math_bits_deBruijn32tab), ("unicode/utf8.acceptRanges", laid_unicode_utf8_acceptRanges), ("unicode/utf8.first", laid_unicode_utf8_first)], narrowed := true }
def RationalMakesUptoSaid : Prop := rationalMakesUptoRow.holds Tryz.pinned (OpenSpec.upto rationalMakesSpec)

/-- 'exactreallaw07.RationalFloors', WHERE WHAT IT READS IS OF BULK AT MOST 1048576: true; the input reads as it did. -/
def rationalFloorsUptoRow : OpenClaim := { program := "ytplmldkfgeiklaagreatdoor", sum := "13317f67da787f7bc94327c8f02a8954afa0447dc4ed85e62d6716c231ff6b1f", func := "exactreal/exactreallaw07.RationalFloors", spec := "rationalFloors", inPlace := ["internal/abi.NoEscape", "internal/bytealg.MakeNoZero", "internal/bytealg.IndexByteString", "internal/bytealg.IndexString"], named := ["math/bits.deBruijn32tab", "internal/bytealg.MaxLen", "unicode/utf8.first", "unicode/utf8.acceptRanges"], apart := false, laid := [("math/bits.deBruijn32tab", laid_math_bits_deBruijn32tab), ("unicode/utf8.acceptRanges", laid_unicode_utf8_acceptRanges), ("unicode/utf8.first", laid_unicode_utf8_first)], narrowed := true }
def RationalFloorsUptoSaid : Prop := rationalFloorsUptoRow.holds Tryz.pinned (OpenSpec.upto rationalFloorsSpec)

/-- 'exactreallaw07.RationalPowers', WHERE WHAT IT READS IS OF BULK AT MOST 1048576: true; the input reads as it did. -/
def rationalPowersUptoRow : OpenClaim := { program := "ytplmldkfgeiklaagreatdoor", sum := "13317f67da787f7bc94327c8f02a8954afa0447dc4ed85e62d6716c231ff6b1f", func := "exactreal/exactreallaw07.RationalPowers", spec := "rationalPowers", inPlace := ["internal/abi.NoEscape", "internal/bytealg.MakeNoZero", "internal/bytealg.IndexByteString", "internal/bytealg.IndexString"], recurses := true, named := ["math/bits.deBruijn32tab", "internal/bytealg.MaxLen", "unicode/utf8.first", "unicode/utf8.acceptRanges"], apart := false, laid := [("math/bits.deBruijn32tab", laid_math_bits_deBruijn32tab), ("unicode/utf8.acceptRanges", laid_unicode_utf8_acceptRanges), ("unicode/utf8.first", laid_unicode_utf8_first)], narrowed := true }
def RationalPowersUptoSaid : Prop := rationalPowersUptoRow.holds Tryz.pinned (OpenSpec.upto rationalPowersSpec)

/-- 'exactreallaw07.RationalLaws', WHERE WHAT IT READS IS OF BULK AT MOST 1048576: true; the input reads as it did. -/
def rationalLawsUptoRow : OpenClaim := { program := "ytplmldkfgeiklaagreatdoor", sum := "13317f67da787f7bc94327c8f02a8954afa0447dc4ed85e62d6716c231ff6b1f", func := "exactreal/exactreallaw07.RationalLaws", spec := "rationalLaws", inPlace := ["internal/abi.NoEscape", "internal/bytealg.MakeNoZero", "internal/bytealg.IndexByteString", "internal/bytealg.IndexString"], named := ["math/bits.deBruijn32tab", "internal/bytealg.MaxLen", "unicode/utf8.first", "unicode/utf8.acceptRanges"], apart := false, laid := [("math/bits.deBruijn32tab", laid_math_bits_deBruijn32tab), ("unicode/utf8.acceptRanges", laid_unicode_utf8_acceptRanges), ("unicode/utf8.first", laid_unicode_utf8_first)], narrowed := true }
def RationalLawsUptoSaid : Prop := rationalLawsUptoRow.holds Tryz.pinned (OpenSpec.upto rationalLawsSpec)

/-- 'exactreallaw07.RationalField', WHERE WHAT IT READS IS OF BULK AT MOST 1048576: true; the input reads as it did. -/
def rationalFieldUptoRow : OpenClaim := { program := "ytplmldkfgeiklaagreatdoor", sum := "13317f67da787f7bc94327c8f02a8954afa0447dc4ed85e62d6716c231ff6b1f", func := "exactreal/exactreallaw07.RationalField", spec := "rationalField", inPlace := ["internal/abi.NoEscape", "internal/bytealg.MakeNoZero", "internal/bytealg.IndexByteString", "internal/bytealg.IndexString"], named := ["math/bits.deBruijn32tab", "internal/bytealg.MaxLen", "unicode/utf8.first", "unicode/utf8.acceptRanges"], apart := false, laid := [("math/bits.deBruijn32tab", laid_math_bits_deBruijn32tab), ("unicode/utf8.acceptRanges", laid_unicode_utf8_acceptRanges), ("unicode/utf8.first", laid_unicode_utf8_first)], narrowed := true }
def RationalFieldUptoSaid : Prop := rationalFieldUptoRow.holds Tryz.pinned (OpenSpec.upto rationalFieldSpec)

/-- 'exactreallaw07.RationalOrders', WHERE WHAT IT READS IS OF BULK AT MOST 1048576: true; the input reads as it did. -/
def rationalOrdersUptoRow : OpenClaim := { program := "ytplmldkfgeiklaagreatdoor", sum := "13317f67da787f7bc94327c8f02a8954afa0447dc4ed85e62d6716c231ff6b1f", func := "exactreal/exactreallaw07.RationalOrders", spec := "rationalOrders", inPlace := ["internal/abi.NoEscape", "internal/bytealg.MakeNoZero", "internal/bytealg.IndexByteString", "internal/bytealg.IndexString"], named := ["math/bits.deBruijn32tab", "internal/bytealg.MaxLen", "unicode/utf8.first", "unicode/utf8.acceptRanges"], apart := false, laid := [("math/bits.deBruijn32tab", laid_math_bits_deBruijn32tab), ("unicode/utf8.acceptRanges", laid_unicode_utf8_acceptRanges), ("unicode/utf8.first", laid_unicode_utf8_first)], narrowed := true }
def RationalOrdersUptoSaid : Prop := rationalOrdersUptoRow.holds Tryz.pinned (OpenSpec.upto rationalOrdersSpec)

end Rows
end Go.Proofs.YtplmldkfgeiklaaGreatDoor
