import Derived.Test.YtbmmnpggadakdaaDoorBytes
import Derived.RegionTactic
import Derived.ChangeAlike
namespace Go.Proofs.YtbmmnpggadakdaaDoor
namespace Big
open Go.RowKit

/-- What slices.Reverse holds after k exchanges. -/
def RevAt (w0 wr : World) (B g : Nat) (bs : List UInt8) (c k : Nat) : Prop :=
  ∃ cur : Array Value, Blk wr g 5 cur ∧ cur.size = c ∧ Below B w0 wr ∧
    (∀ p, p < bs.length → cur[p]? = some (d8 (if p < k ∨ bs.length - k ≤ p then bs.getD (bs.length - 1 - p) 0 else bs.getD p 0)))

theorem RevAt.step {w0 wr : World} {B g : Nat} {bs : List UInt8} {c k : Nat} (h : RevAt w0 wr B g bs c k) (hB : B ≤ g) (hc : bs.length ≤ c) (hk : k < bs.length - 1 - k) :
    RevAt w0 (((wr.setCell ⟨g, k, none⟩ (d8 (bs.getD (bs.length - 1 - k) 0))).setCell ⟨g, bs.length - 1 - k, none⟩ (d8 (bs.getD k 0)))).drew B g bs c (k + 1) := by
  obtain ⟨cur, h1, h2, h3, h4⟩ := h
  refine ⟨_, ((h1.set_ k _).set_ (bs.length - 1 - k) _).drew, by simp [h2], ((h3.setCell hB _).setCell hB _).drew, fun p hp => ?_⟩
  rw [Array.getElem?_setIfInBounds, Array.getElem?_setIfInBounds]
  by_cases e1 : bs.length - 1 - k = p
  · subst e1
    rw [if_pos rfl, if_pos (by simp; omega)]
    rw [if_pos (by omega)]
    congr 3
    omega
  · rw [if_neg e1]
    by_cases e2 : k = p
    · subst e2
      rw [if_pos rfl, if_pos (by omega), if_pos (by omega)]
    · rw [if_neg e2, h4 p hp]
      by_cases e3 : p < k ∨ bs.length - k ≤ p
      · rw [if_pos e3, if_pos (by omega)]
      · rw [if_neg e3, if_neg (by omega)]

end Big
end Go.Proofs.YtbmmnpggadakdaaDoor
