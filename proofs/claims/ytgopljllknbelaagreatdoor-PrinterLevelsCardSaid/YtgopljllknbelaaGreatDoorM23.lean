import Derived.Test.YtgopljllknbelaaGreatDoorM22
import Derived.Laws.StructEq
import Derived.Laws.OwnMore
import Derived.Test.YtgopljllknbelaaGreatDoorM5
import Derived.Test.YtgopljllknbelaaGreatDoorM16
import Derived.Test.YtgopljllknbelaaGreatDoorM7
/- The reference's Same. -/
namespace Go.Proofs.YtgopljllknbelaaGreatDoor
namespace Big
open Go.RowKit
/-- A value reads as a list of tokens. -/
def TokRow (w : World) (v : Value) (ts : List Tok) : Prop := ∃ B, w.ownsRow B 79 3 v ts.length (toksC ts)
theorem TokRow.ext {w w' : World} {v : Value} {ts : List Tok} (h : TokRow w v ts) (hx : Ext w w') : TokRow w' v ts := by
  obtain ⟨B, h⟩ := h
  exact ⟨B, ownsRow_below h (fun g _ hg => Below.block hx g hg)⟩
theorem toksC_get (ts : List Tok) (i j : Nat) (hi : i < ts.length) (hj : j < 3) : (toksC ts)[i * 3 + j]? = (tokC ts[i])[j]? := by
  induction ts generalizing i with
  | nil => simp at hi
  | cons t ts ih =>
    have hl : (tokC t).length = 3 := rfl
    unfold toksC at *
    rw [List.flatMap_cons]
    cases i with
    | zero =>
      rw [Nat.zero_mul, Nat.zero_add, List.getElem?_append_left (by omega)]
      rfl
    | succ i =>
      rw [List.getElem?_append_right (by omega), hl, show (i + 1) * 3 + j - 3 = i * 3 + j by omega, ih i (by simpa using hi)]
      rfl
theorem TokRow.cells {w : World} {v : Value} {ts : List Tok} (h : TokRow w v ts) : ∃ A c, v = .slice A ts.length c ∧ (0 < ts.length → ∃ g, A = some ⟨g, 0, none⟩ ∧ ∀ i (hi : i < ts.length), w.cell? ⟨g, i * 3, none⟩ = some (.int .i64 (ts[i].kind : Int)) ∧ w.cell? ⟨g, i * 3 + 1, none⟩ = some (.int .i64 (ts[i].at_ : Int)) ∧ w.cell? ⟨g, i * 3 + 2, none⟩ = some (str ts[i].text)) := by
  obtain ⟨B, h⟩ := h
  rcases h.2 with ⟨h1, h2⟩ | ⟨g, cap, cur, rfl, _⟩
  · exact ⟨none, 0, by rw [h1, h2], fun h3 => by omega⟩
  · refine ⟨_, _, rfl, fun _ => ⟨g, rfl, fun i hi => ⟨?_, ?_, ?_⟩⟩⟩
    · have h3 := h.cellAt (i * 3 + 0) (by omega)
      rw [toksC_get ts i 0 hi (by omega)] at h3
      exact h3
    · have h3 := h.cellAt (i * 3 + 1) (by omega)
      rw [toksC_get ts i 1 hi (by omega)] at h3
      exact h3
    · have h3 := h.cellAt (i * 3 + 2) (by omega)
      rw [toksC_get ts i 2 hi (by omega)] at h3
      exact h3
end Big
end Go.Proofs.YtgopljllknbelaaGreatDoor
/- A slice of bytes that is made. -/
namespace Go.Proofs.YtgopljllknbelaaGreatDoor
namespace Big
open Go.RowKit
def cells8 (bs : List UInt8) : Array Value := (bs.map d8).toArray
theorem Arr8.block {w : World} {g : Nat} {bs : List UInt8} (h : Blk w g 5 (cells8 bs)) (hm : bs.length ≤ 2147483648) : Arr8 w (.slice (some ⟨g, 0, none⟩) bs.length bs.length) bs := by
  refine ⟨some ⟨g, 0, none⟩, bs.length, by rw [List.length_map], by rw [List.length_map]; omega, (bound32 hm).1, fun _ => ⟨g, 0, rfl, h.lt, fun j u hj => ?_⟩⟩
  rw [h.cell, Nat.zero_add]
  unfold cells8
  rw [List.getElem?_toArray]
  exact hj
end Big
end Go.Proofs.YtgopljllknbelaaGreatDoor
/- The sanity check of chapter 18; LexerWords. -/
namespace Go.Proofs.YtgopljllknbelaaGreatDoor
namespace Big
open Go.RowKit
end Big
end Go.Proofs.YtgopljllknbelaaGreatDoor
/- LexerLimits. -/
namespace Go.Proofs.YtgopljllknbelaaGreatDoor
namespace Big
open Go.RowKit
theorem TokRow.of {w : World} {B : Nat} {v : Value} {ts : List Tok} (h : w.ownsRow B 79 3 v ts.length (toksC ts)) : TokRow w v ts := ⟨B, h⟩
theorem scanF_len (f : Nat) (l : List UInt8) : ∀ (a : Nat) (ts : List Tok), ts.length ≤ a → (scanF f l a ts).1.length ≤ a + f * (l.length + 1) := by
  induction f with
  | zero => intro a ts _; simp [scanF]
  | succ f ih =>
    intro a ts h
    rw [Nat.add_mul, Nat.one_mul]
    unfold scanF
    split
    · simp; omega
    · split
      · have := ih (a + 1) ts (by omega)
        omega
      · split
        · simp
        · rename_i k n ht
          have h1 := tokLen_pos ht
          rw [List.length_drop] at h1
          have := ih (a + n) (ts ++ [⟨k, a, (l.drop a).take n⟩]) (by rw [List.length_append, List.length_singleton]; omega)
          omega
theorem scanT_len (l : List UInt8) : (scanT l).1.length ≤ 1000000 := by
  unfold scanT
  split
  · simp
  · have := scanF_len (l.length + 1) l 0 [] (by simp)
    have h2 : (l.length + 1) * (l.length + 1) ≤ 401 * 401 := Nat.mul_le_mul (by omega) (by omega)
    omega
theorem TokRow.dr {w w' : World} {v : Value} {ts : List Tok} (h : TokRow w v ts) (hd : Dr w w') : TokRow w' v ts := by
  obtain ⟨B, h⟩ := h
  exact ⟨B, ownsRow_below h (fun g _ _ => by rw [hd.heap])⟩
theorem Dr.ext {w w' : World} (h : Dr w w') : Ext w w' := h.below w.heap.size
end Big
end Go.Proofs.YtgopljllknbelaaGreatDoor
