/-
  DERIVED. GIVEN WITH THE SEED: THE CARDS: each row of YtaccjdbbkmhanaaGreatDoorRows.lean that lists a variable, with what it lists TIED to the program's text (the seventh form; the later family's looks); each row that meets fmt, with fmt's text TOLD by the authors' own Lean function (tested against real Go, not proved from fmt's source: count such statements apart). THE CARD IS WHAT COUNTS. Prove the row's statement (the work); the ties are given (YtaccjdbbkmhanaaGreatDoorTie.lean); close each card by the builder's one call (the guide's Derived/Test/ToyasCard.lean, 'card_holds'). Laid BY PROGRAM, IN A SANDBOX (cutbox-door.mjs). By AI agents, Wed Nov 11 2026. No macro, syntax, notation, axiom, sorry.
-/
import Derived.Test.YtaccjdbbkmhanaaGreatDoorRows
import GoSem.ClaimSeven
namespace Go.Proofs.YtaccjdbbkmhanaaGreatDoor
namespace Rows

/-- THE TIED CARD OF 'exactreallaw21.GraphShares'. -/
def graphSharesCard : Claim7 := { stood := { row := graphSharesRow, standIns := [], harness := (true, "deed51678651a1b43fdd5b40ae5ebd209ea2b3d9490bf0ce0578fc060d65b4cc"), looks := true }, kinds := [], alts := [], laidByText := true, laidKinds := [.data, .pinned], laidTests := true, laidLooks := .later }
def GraphSharesCardSaid : Prop := Claim7.holds Tryz.pinned (.plain (OpenSpec.ofChange graphSharesSpec)) graphSharesCard

/-- THE TIED CARD OF 'exactreallaw21.GraphCopies'. -/
def graphCopiesCard : Claim7 := { stood := { row := graphCopiesRow, standIns := [], harness := (true, "deed51678651a1b43fdd5b40ae5ebd209ea2b3d9490bf0ce0578fc060d65b4cc"), looks := true }, kinds := [], alts := [], laidByText := true, laidKinds := [.data, .pinned], laidTests := true, laidLooks := .later }
def GraphCopiesCardSaid : Prop := Claim7.holds Tryz.pinned (.plain (OpenSpec.ofChange graphCopiesSpec)) graphCopiesCard

/-- THE TIED CARD OF 'exactreallaw21.GraphExprs'. -/
def graphExprsCard : Claim7 := { stood := { row := graphExprsRow, standIns := [], harness := (true, "deed51678651a1b43fdd5b40ae5ebd209ea2b3d9490bf0ce0578fc060d65b4cc"), looks := true }, kinds := [], alts := [], laidByText := true, laidKinds := [.data, .pinned], laidTests := true, laidLooks := .later }
def GraphExprsCardSaid : Prop := Claim7.holds Tryz.pinned (.plain (OpenSpec.ofChange graphExprsSpec)) graphExprsCard

/-- THE SECOND FORM's CARD OF 'exactreallaw21.GraphShares'. -/
def graphSharesUptoCard : Claim7 := { stood := { row := graphSharesUptoRow, standIns := [], harness := (true, "deed51678651a1b43fdd5b40ae5ebd209ea2b3d9490bf0ce0578fc060d65b4cc"), looks := true }, kinds := [], alts := [], laidByText := true, laidKinds := [.data, .pinned], laidTests := true, laidLooks := .later }
def GraphSharesUptoCardSaid : Prop := Claim7.holds Tryz.pinned (.plain (OpenSpec.upto graphSharesSpec)) graphSharesUptoCard

/-- THE SECOND FORM's CARD OF 'exactreallaw21.GraphCopies'. -/
def graphCopiesUptoCard : Claim7 := { stood := { row := graphCopiesUptoRow, standIns := [], harness := (true, "deed51678651a1b43fdd5b40ae5ebd209ea2b3d9490bf0ce0578fc060d65b4cc"), looks := true }, kinds := [], alts := [], laidByText := true, laidKinds := [.data, .pinned], laidTests := true, laidLooks := .later }
def GraphCopiesUptoCardSaid : Prop := Claim7.holds Tryz.pinned (.plain (OpenSpec.upto graphCopiesSpec)) graphCopiesUptoCard

/-- THE SECOND FORM's CARD OF 'exactreallaw21.GraphExprs'. -/
def graphExprsUptoCard : Claim7 := { stood := { row := graphExprsUptoRow, standIns := [], harness := (true, "deed51678651a1b43fdd5b40ae5ebd209ea2b3d9490bf0ce0578fc060d65b4cc"), looks := true }, kinds := [], alts := [], laidByText := true, laidKinds := [.data, .pinned], laidTests := true, laidLooks := .later }
def GraphExprsUptoCardSaid : Prop := Claim7.holds Tryz.pinned (.plain (OpenSpec.upto graphExprsSpec)) graphExprsUptoCard
end Rows
end Go.Proofs.YtaccjdbbkmhanaaGreatDoor
