import Derived.Test.YtbmmnpggadakdaaDoorW2
namespace Go.Proofs.YtbmmnpggadakdaaDoor
namespace Big
open Go.RowKit

/-- What quotient.Small holds with the digits below k still to come. -/
def QuoAt (w0 wr : World) (xs : List Nat) (d k r : Nat) : Prop :=
  ∃ qs : List Nat, k + qs.length = xs.length ∧ Ok qs ∧ val qs * d + r = val (xs.drop k) ∧
    Blk wr w0.heap.size 78 (cells (List.replicate k 0 ++ qs)) ∧ Ext w0 wr

theorem QuoAt.step {w0 wr : World} {xs qs : List Nat} {d k r y : Nat} (hl : k + 1 + qs.length = xs.length) (hok : Ok qs) (hy : y < 4294967296)
    (hv : val (y :: qs) * d + r = val (xs.drop k))
    (hb : Blk wr w0.heap.size 78 (cells (List.replicate (k + 1) 0 ++ qs))) (he : Ext w0 wr) :
    QuoAt w0 (wr.setCell ⟨w0.heap.size, k, none⟩ (d32 y)) xs d k r := by
  refine ⟨y :: qs, by simp; omega, ok_cons hy hok, hv, ?_, he.setCell (Nat.le_refl _) _⟩
  have h1 := hb.set_ k (d32 y)
  rw [set_cells, set_back] at h1
  exact h1

end Big
end Go.Proofs.YtbmmnpggadakdaaDoor
