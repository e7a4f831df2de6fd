import Derived.Test.YtbmmnpggadakdaaDoorPlain
namespace Go.Proofs.YtbmmnpggadakdaaDoor
namespace Big
theorem limbs_len_step {ys : List Nat} {n : Nat} (h : Ok ys) (hn : n < val ys * 4294967296) : (limbs n).length ≤ ys.length + 1 := by
  refine length_limbs_le ?_
  rw [Nat.pow_succ]
  exact Nat.lt_of_lt_of_le hn (Nat.mul_le_mul_right _ (Nat.le_of_lt (val_lt h)))
theorem div_bound {x r b : Nat} (hr : r < b) (hx : x < 4294967296) : x + 4294967296 * r < b * 4294967296 := by
  have : 4294967296 * (r + 1) ≤ 4294967296 * b := Nat.mul_le_mul_left _ hr
  omega
end Big
end Go.Proofs.YtbmmnpggadakdaaDoor
