import Derived.Test.YtoehdoghghpmjaaDoorM9
import Derived.Test.YtoehdoghghpmjaaDoorM10
import Derived.Test.YtoehdoghghpmjaaDoorM1
import Derived.Test.YtoehdoghghpmjaaDoorM7
namespace Go.Proofs.YtoehdoghghpmjaaDoor
namespace Big
open Go.RowKit

theorem low_split_len {l a b : List UInt8} {n : Nat} (h : l = a ++ b) (hn : l.length ≤ n) : a.length ≤ n := by
  rw [h, List.length_append] at hn; omega
theorem d8_ofNat (r : Nat) : (((48 + (r : Int) % 10 % 256) % 256 : Int)) = ((UInt8.ofNat (48 + r % 10)).toNat : Int) := by
  rw [UInt8.toNat_ofNat']; omega

/-- What decimal.Digits holds in a group, with k digits of it taken. -/
def DigAt (w0 wr : World) (out : Value) (N q k r : Nat) : Prop :=
  ∃ bs : List UInt8, Own8 w0.heap.size wr out bs ∧ low N = bs ++ low (q * 10 ^ (9 - k) + r) ∧ r < 10 ^ (9 - k) ∧ Ext w0 wr

theorem DigAt.step {w0 wr' : World} {out' : Value} {N q k r : Nat} {bs : List UInt8} (hl : low N = bs ++ low (q * 10 ^ (9 - k) + r)) (hr : r < 10 ^ (9 - k)) (hk : k < 9) (h0 : q ≠ 0 ∨ r ≠ 0)
    (ho : Own8 w0.heap.size wr' out' (bs ++ [UInt8.ofNat (48 + r % 10)])) (he : Ext w0 wr') : DigAt w0 wr' out' N q (k + 1) (r / 10) := by
  obtain ⟨h1, h2⟩ := low_group q r k hk hr h0
  exact ⟨_, ho, by rw [hl, h1, List.append_assoc]; rfl, h2, he⟩
theorem DigAt.done {w0 wr : World} {out : Value} {N q k r : Nat} (h : DigAt w0 wr out N q k r) (hk : k = 9 ∨ q = 0 ∧ r = 0) : ∃ bs, Own8 w0.heap.size wr out bs ∧ low N = bs ++ low q ∧ Ext w0 wr := by
  obtain ⟨bs, h1, h2, h3, h4⟩ := h
  refine ⟨bs, h1, ?_, h4⟩
  rcases hk with rfl | ⟨rfl, rfl⟩
  · rw [h2, group_end q r h3]
  · rw [h2, Nat.zero_mul]

end Big
end Go.Proofs.YtoehdoghghpmjaaDoor
namespace Go.Proofs.YtoehdoghghpmjaaDoor
namespace Big
open Go.RowKit
end Big
end Go.Proofs.YtoehdoghghpmjaaDoor
namespace Go.Proofs.YtoehdoghghpmjaaDoor
namespace Big
open Go.RowKit
end Big
end Go.Proofs.YtoehdoghghpmjaaDoor
namespace Go.Proofs.YtoehdoghghpmjaaDoor
namespace Big
open Go.RowKit

/-- What the long division holds with the digits below k still to come. -/
def DivAt (w0 wr : World) (rv : Value) (xs : List Nat) (b k r : Nat) : Prop :=
  ∃ qs : List Nat, k + qs.length = xs.length ∧ Ok qs ∧ val qs * b + r = val (xs.drop k) ∧
    Blk wr w0.heap.size 80 (cells (List.replicate k 0 ++ qs)) ∧ Arr wr rv (limbs r) ∧ Ext w0 wr

end Big
end Go.Proofs.YtoehdoghghpmjaaDoor
