import Derived.Test.YtbmmnpggadakdaaDoorW13
import Derived.Test.YtbmmnpggadakdaaDoorW14
import Derived.Test.YtbmmnpggadakdaaDoorW15
namespace Go.Proofs.YtbmmnpggadakdaaDoor
namespace Big
open Go.RowKit

/-- The text of an integer. -/
def fmtI (z : Int) : List UInt8 := if z < 0 then 45 :: dec z.natAbs else dec z.natAbs
theorem length_dec_le {n k : Nat} (hk : 1 ≤ k) (h : (low n).length ≤ k) : (dec n).length ≤ k := by
  unfold dec
  split
  · simpa using hk
  · simpa using h
theorem dec_len (N : Nat) (h : (limbs N).length ≤ 67108864) : (dec N).length ≤ 1073741823 := by
  refine length_dec_le (by omega) ?_
  have := length_low_val (ok_limbs N)
  rw [val_limbs] at this
  omega

end Big
end Go.Proofs.YtbmmnpggadakdaaDoor
