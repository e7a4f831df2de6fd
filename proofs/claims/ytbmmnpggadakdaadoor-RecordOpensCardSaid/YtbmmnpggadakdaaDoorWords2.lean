import Derived.Test.YtbmmnpggadakdaaDoorW2
/- More words: structs of two cells in a block of the call's own. -/
namespace Go.Proofs.YtbmmnpggadakdaaDoor
namespace Big
open Go.RowKit
theorem two_set' {w : World} {g : Nat} {t : TypeId} {a b : Value} (h : Blk w g t #[a, b]) (a' b' : Value) :
    (w.setCell ⟨g, 0, none⟩ a').cell? ⟨g, 0, none⟩ = some a' ∧ ((w.setCell ⟨g, 0, none⟩ a').setCell ⟨g, 1, none⟩ b').cell? ⟨g, 1, none⟩ = some b' :=
  ⟨(h.set_ 0 a').cell 0, ((h.set_ 0 a').set_ 1 b').cell 1⟩
theorem two_set {w : World} {g : Nat} {t : TypeId} {a b : Value} (h : Blk w g t #[a, b]) (a' b' : Value) :
    ((w.setCell ⟨g, 0, none⟩ a').setCell ⟨g, 1, none⟩ b').cell? ⟨g, 0, none⟩ = some a' ∧ ((w.setCell ⟨g, 0, none⟩ a').setCell ⟨g, 1, none⟩ b').cell? ⟨g, 1, none⟩ = some b' :=
  ⟨((h.set_ 0 a').set_ 1 b').cell 0, ((h.set_ 0 a').set_ 1 b').cell 1⟩
end Big
end Go.Proofs.YtbmmnpggadakdaaDoor
