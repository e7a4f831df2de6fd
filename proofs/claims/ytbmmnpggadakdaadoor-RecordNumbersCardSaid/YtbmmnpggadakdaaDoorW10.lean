import Derived.Test.YtbmmnpggadakdaaDoorW9
import Derived.Test.YtbmmnpggadakdaaDoorPlain2
namespace Go.Proofs.YtbmmnpggadakdaaDoor
namespace Big
open Go.RowKit

/-- What the long division holds with the digits below k still to come. -/
def DivAt (w0 wr : World) (rv : Value) (xs : List Nat) (b k r : Nat) : Prop :=
  ∃ qs : List Nat, k + qs.length = xs.length ∧ Ok qs ∧ val qs * b + r = val (xs.drop k) ∧
    Blk wr w0.heap.size 78 (cells (List.replicate k 0 ++ qs)) ∧ Arr wr rv (limbs r) ∧ Ext w0 wr

end Big
end Go.Proofs.YtbmmnpggadakdaaDoor
