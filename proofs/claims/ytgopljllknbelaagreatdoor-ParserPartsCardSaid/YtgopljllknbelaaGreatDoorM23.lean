import Derived.Test.YtgopljllknbelaaGreatDoorM22
import Derived.Laws.StructEq
import Derived.Laws.OwnMore
import Derived.Test.YtgopljllknbelaaGreatDoorM5
import Derived.Test.YtgopljllknbelaaGreatDoorM16
import Derived.Test.YtgopljllknbelaaGreatDoorM7
/- The reference's Same. -/
namespace Go.Proofs.YtgopljllknbelaaGreatDoor
namespace Big
open Go.RowKit
/-- A value reads as a list of tokens. -/
def TokRow (w : World) (v : Value) (ts : List Tok) : Prop := ∃ B, w.ownsRow B 79 3 v ts.length (toksC ts)
theorem TokRow.ext {w w' : World} {v : Value} {ts : List Tok} (h : TokRow w v ts) (hx : Ext w w') : TokRow w' v ts := by
  obtain ⟨B, h⟩ := h
  exact ⟨B, ownsRow_below h (fun g _ hg => Below.block hx g hg)⟩
theorem toksC_get (ts : List Tok) (i j : Nat) (hi : i < ts.length) (hj : j < 3) : (toksC ts)[i * 3 + j]? = (tokC ts[i])[j]? := by
  induction ts generalizing i with
  | nil => simp at hi
  | cons t ts ih =>
    have hl : (tokC t).length = 3 := rfl
    unfold toksC at *
    rw [List.flatMap_cons]
    cases i with
    | zero =>
      rw [Nat.zero_mul, Nat.zero_add, List.getElem?_append_left (by omega)]
      rfl
    | succ i =>
      rw [List.getElem?_append_right (by omega), hl, show (i + 1) * 3 + j - 3 = i * 3 + j by omega, ih i (by simpa using hi)]
      rfl
theorem TokRow.cells {w : World} {v : Value} {ts : List Tok} (h : TokRow w v ts) : ∃ A c, v = .slice A ts.length c ∧ (0 < ts.length → ∃ g, A = some ⟨g, 0, none⟩ ∧ ∀ i (hi : i < ts.length), w.cell? ⟨g, i * 3, none⟩ = some (.int .i64 (ts[i].kind : Int)) ∧ w.cell? ⟨g, i * 3 + 1, none⟩ = some (.int .i64 (ts[i].at_ : Int)) ∧ w.cell? ⟨g, i * 3 + 2, none⟩ = some (str ts[i].text)) := by
  obtain ⟨B, h⟩ := h
  rcases h.2 with ⟨h1, h2⟩ | ⟨g, cap, cur, rfl, _⟩
  · exact ⟨none, 0, by rw [h1, h2], fun h3 => by omega⟩
  · refine ⟨_, _, rfl, fun _ => ⟨g, rfl, fun i hi => ⟨?_, ?_, ?_⟩⟩⟩
    · have h3 := h.cellAt (i * 3 + 0) (by omega)
      rw [toksC_get ts i 0 hi (by omega)] at h3
      exact h3
    · have h3 := h.cellAt (i * 3 + 1) (by omega)
      rw [toksC_get ts i 1 hi (by omega)] at h3
      exact h3
    · have h3 := h.cellAt (i * 3 + 2) (by omega)
      rw [toksC_get ts i 2 hi (by omega)] at h3
      exact h3
end Big
end Go.Proofs.YtgopljllknbelaaGreatDoor
/- A slice of bytes that is made. -/
namespace Go.Proofs.YtgopljllknbelaaGreatDoor
namespace Big
open Go.RowKit
def cells8 (bs : List UInt8) : Array Value := (bs.map d8).toArray
theorem set_cells8 (bs : List UInt8) (i : Nat) (b : UInt8) : (cells8 bs).setIfInBounds i (d8 b) = cells8 (bs.set i b) := by
  apply Array.ext'
  simp [cells8, List.map_set]
theorem get_cells8 (bs : List UInt8) (i : Nat) (h : i < bs.length) : (cells8 bs)[i]? = some (d8 bs[i]) := by
  unfold cells8; simp [h]
theorem Arr8.block {w : World} {g : Nat} {bs : List UInt8} (h : Blk w g 5 (cells8 bs)) (hm : bs.length ≤ 2147483648) : Arr8 w (.slice (some ⟨g, 0, none⟩) bs.length bs.length) bs := by
  refine ⟨some ⟨g, 0, none⟩, bs.length, by rw [List.length_map], by rw [List.length_map]; omega, (bound32 hm).1, fun _ => ⟨g, 0, rfl, h.lt, fun j u hj => ?_⟩⟩
  rw [h.cell, Nat.zero_add]
  unfold cells8
  rw [List.getElem?_toArray]
  exact hj
theorem run_make8 (n : Nat) (hn : n ≤ 2147483648) (W : World) : (Instr.makeSlice 65 (.int .i64 (n : Int)) (.int .i64 (n : Int))).run Tryz.prog W =
    .ok (.slice (some ⟨W.heap.size, 0, none⟩) n n) (W.alloc (.cells (cells8 (List.replicate n 0)) 5)) := by
  obtain ⟨i0, hi, hz0, hz1, hz2⟩ := info_parts info_u8
  have hr := run_make (P := Tryz.prog) W 65 5 i0 _ Tryz.underlying65 hi hz0 .i64 .i64 (n : Int) (n : Int) (by omega) (Int.le_refl _) (by rw [hz2]; omega) (by omega)
  have hm : madeCells (Value.cells (.int .u8 0)) (n * 1) = cells8 (List.replicate n 0) := by
    apply Array.ext'
    apply List.ext_getElem?
    intro i
    simp only [madeCells, cells8, Value.cells]
    rw [Array.getElem?_toList, Array.getElem?_map, List.getElem?_map, List.getElem?_replicate]
    rcases Nat.lt_or_ge i n with h | h
    · rw [Array.getElem?_range, if_pos (by omega), if_pos h]
      simp [d8, Nat.mod_one]
    · rw [Array.getElem?_range, if_neg (by omega), if_neg (by omega)]
      rfl
  rw [hz1, Int.toNat_natCast, hm] at hr
  exact hr

end Big
end Go.Proofs.YtgopljllknbelaaGreatDoor
/- The sanity check of chapter 18; LexerWords. -/
namespace Go.Proofs.YtgopljllknbelaaGreatDoor
namespace Big
open Go.RowKit
theorem scan_1 : scanT [120, 49, 32, 43, 50, 46, 53] = ([⟨2, 0, [120, 49]⟩, ⟨3, 3, [43]⟩, ⟨1, 4, [50, 46, 53]⟩], 7, 0) := by decide +kernel
theorem scan_2 : scanT [50, 46, 46, 53] = ([], 0, 6) := by decide +kernel
theorem scan_3 : scanT [97, 36] = ([], 1, 6) := by decide +kernel
theorem ownsRow_cells {w : World} {base : Nat} {e : TypeId} {size n : Nat} {v : Value} {xs : List Value} (h : w.ownsRow base e size v n xs) (hp : 0 < n) : ∃ g c, v = .slice (some ⟨g, 0, none⟩) n c ∧ base ≤ g ∧ g < w.heap.size ∧ n ≤ c ∧ c ≤ maxLen ∧ ∀ j u, xs[j]? = some u → w.cell? ⟨g, j, none⟩ = some u := by
  obtain ⟨h1, h2⟩ := h
  rcases h2 with ⟨_, h2⟩ | ⟨g, cap, cur, rfl, hg, hh, r1, r2, r3, r4⟩
  · omega
  · refine ⟨g, cap, rfl, hg, ?_, r1, r2, fun j u hj => ?_⟩
    · rcases Nat.lt_or_ge g w.heap.size with h | h
      · exact h
      · rw [Array.getElem?_eq_none h] at hh; cases hh
    · rw [cell_of_row w g j cur e (0, 0) hh]
      exact take_at r4 hj
end Big
end Go.Proofs.YtgopljllknbelaaGreatDoor
/- LexerLimits. -/
namespace Go.Proofs.YtgopljllknbelaaGreatDoor
namespace Big
open Go.RowKit
theorem TokRow.of {w : World} {B : Nat} {v : Value} {ts : List Tok} (h : w.ownsRow B 79 3 v ts.length (toksC ts)) : TokRow w v ts := ⟨B, h⟩
theorem scanF_len (f : Nat) (l : List UInt8) : ∀ (a : Nat) (ts : List Tok), ts.length ≤ a → (scanF f l a ts).1.length ≤ a + f * (l.length + 1) := by
  induction f with
  | zero => intro a ts _; simp [scanF]
  | succ f ih =>
    intro a ts h
    rw [Nat.add_mul, Nat.one_mul]
    unfold scanF
    split
    · simp; omega
    · split
      · have := ih (a + 1) ts (by omega)
        omega
      · split
        · simp
        · rename_i k n ht
          have h1 := tokLen_pos ht
          rw [List.length_drop] at h1
          have := ih (a + n) (ts ++ [⟨k, a, (l.drop a).take n⟩]) (by rw [List.length_append, List.length_singleton]; omega)
          omega
theorem scanT_len (l : List UInt8) : (scanT l).1.length ≤ 1000000 := by
  unfold scanT
  split
  · simp
  · have := scanF_len (l.length + 1) l 0 [] (by simp)
    have h2 : (l.length + 1) * (l.length + 1) ≤ 401 * 401 := Nat.mul_le_mul (by omega) (by omega)
    omega
theorem TokRow.dr {w w' : World} {v : Value} {ts : List Tok} (h : TokRow w v ts) (hd : Dr w w') : TokRow w' v ts := by
  obtain ⟨B, h⟩ := h
  exact ⟨B, ownsRow_below h (fun g _ _ => by rw [hd.heap])⟩
theorem Dr.ext {w w' : World} (h : Dr w w') : Ext w w' := h.below w.heap.size
end Big
end Go.Proofs.YtgopljllknbelaaGreatDoor
