import Derived.Test.YtglmfalabkdplaaDoorW21
namespace Go.Proofs.YtglmfalabkdplaaDoor
namespace Big
open Go.RowKit

theorem mod6_any (w : World) (v : Int) (h1 : -9223372036854775808 ≤ v) (h2 : v ≤ 9223372036854775807) :
    Calls Tryd.prog 21 #[.int .i64 v, .int .i64 6] w fun e w' => e = .returned (.int .i64 (v % 6)) ∧ w = w' := by
  rcases Int.lt_or_le v 0 with hv | hv
  · have ht : v.tmod 6 = -((-v) % 6) := by
      have h3 := Int.neg_tmod (-v) 6
      rw [Int.neg_neg] at h3
      rw [h3, Int.tmod_eq_emod_of_nonneg (by omega)]
    obtain ⟨r, hr⟩ : ∃ r, v.tmod 6 = r := ⟨_, rfl⟩
    rw [hr] at ht
    have HR := Lib.hid ht
    have hb : -6 < r ∧ r ≤ 0 := by omega
    obtain ⟨hb1, hb2⟩ := hb
    clear ht
    by_cases h0 : r < 0
    · have HF := Lib.hid (show r + 6 = v % 6 by have := HR.out; omega)
      go_enter Tryd.func21, Tryd.ntmps21
      go_wp2_with fail
      go_ret
      exact ⟨congrArg (fun z => Ending.returned (.int .i64 z)) HF.out, rfl⟩
    · have HF := Lib.hid (show r = v % 6 by have := HR.out; omega)
      go_enter Tryd.func21, Tryd.ntmps21
      go_wp2_with fail
      go_ret
      exact ⟨congrArg (fun z => Ending.returned (.int .i64 z)) HF.out, rfl⟩
  · go_enter Tryd.func21, Tryd.ntmps21
    go_wp2_with fail
    go_ret
    exact ⟨rfl, rfl⟩

def cells8 (bs : List UInt8) : Array Value := (bs.map d8).toArray
theorem set_cells8 (bs : List UInt8) (i : Nat) (b : UInt8) : (cells8 bs).setIfInBounds i (d8 b) = cells8 (bs.set i b) := by
  apply Array.ext'
  simp [cells8, List.map_set]
theorem get_cells8 (bs : List UInt8) (i : Nat) (h : i < bs.length) : (cells8 bs)[i]? = some (d8 bs[i]) := by
  unfold cells8; simp [h]
theorem Arr8.block {w : World} {g : Nat} {bs : List UInt8} (h : Blk w g 5 (cells8 bs)) (hm : bs.length ≤ 2147483648) : Arr8 w (.slice (some ⟨g, 0, none⟩) bs.length bs.length) bs := by
  refine ⟨some ⟨g, 0, none⟩, bs.length, by rw [List.length_map], by rw [List.length_map]; omega, (bound32 hm).1, fun _ => ⟨g, 0, rfl, h.lt, fun j u hj => ?_⟩⟩
  rw [h.cell, Nat.zero_add]
  unfold cells8
  rw [List.getElem?_toArray]
  exact hj
theorem run_make8 (n : Nat) (hn : n ≤ 2147483648) (W : World) : (Instr.makeSlice 40 (.int .i64 (n : Int)) (.int .i64 (n : Int))).run Tryd.prog W =
    .ok (.slice (some ⟨W.heap.size, 0, none⟩) n n) (W.alloc (.cells (cells8 (List.replicate n 0)) 5)) := by
  obtain ⟨i0, hi, hz0, hz1, hz2⟩ := info_parts info_u8
  have hr := run_make (P := Tryd.prog) W 40 5 i0 _ Tryd.underlying40 hi hz0 .i64 .i64 (n : Int) (n : Int) (by omega) (Int.le_refl _) (by rw [hz2]; omega) (by omega)
  have hm : madeCells (Value.cells (.int .u8 0)) (n * 1) = cells8 (List.replicate n 0) := by
    apply Array.ext'
    apply List.ext_getElem?
    intro i
    simp only [madeCells, cells8, Value.cells]
    rw [Array.getElem?_toList, Array.getElem?_map, List.getElem?_map, List.getElem?_replicate]
    rcases Nat.lt_or_ge i n with h | h
    · rw [Array.getElem?_range, if_pos (by omega), if_pos h]
      simp [d8, Nat.mod_one]
    · rw [Array.getElem?_range, if_neg (by omega), if_neg (by omega)]
      rfl
  rw [hz1, Int.toNat_natCast, hm] at hr
  exact hr

theorem natural_bad {l : List UInt8} (h : l.length ≤ 20001) (hb : l.all isDig = false) : natural l = (0, 6) := by
  unfold natural
  rw [if_neg (by omega)]
  split
  · rfl
  · split
    · rfl
    · rw [if_neg (by rw [hb]; decide)]
theorem natural_too {l : List UInt8} (h : 20001 < l.length) : natural l = (0, 7) := if_pos h
theorem parse_too {l : List UInt8} (h : 20001 < l.length) : parseI l = (0, 7) := if_pos h
theorem parse_bad {l : List UInt8} (h : l.length ≤ 20001) (hb : l.all isDig = false) (ht : l.tail.all isDig = false) : parseI l = (0, 6) := by
  unfold parseI
  rw [if_neg (by omega)]
  have h1 := natural_bad h hb
  have h2 := natural_bad (l := l.tail) (by simp; omega) ht
  cases (l.head? == some 45)
  · simp [h1]
  · simp [h2]

/-- The texts of the statement on long numbers. -/
def longL (n : Nat) (d : UInt8) (neg : Bool) : List UInt8 :=
  if neg then ((List.replicate n 49).set (n - 1) d).set 0 45 else (List.replicate n 49).set (n - 1) d
theorem longL_length (n : Nat) (d : UInt8) (neg : Bool) : (longL n d neg).length = n := by unfold longL; split <;> simp
theorem longL_last (n : Nat) (d : UInt8) (neg : Bool) (h : 2 ≤ n) : (longL n d neg)[n - 1]? = some d := by
  unfold longL
  split
  · rw [List.getElem?_set_ne (by omega), List.getElem?_set_self (by simp; omega)]
  · rw [List.getElem?_set_self (by simp; omega)]
theorem all_bad {l : List UInt8} {i : Nat} {d : UInt8} (h : l[i]? = some d) (hd : isDig d = false) : l.all isDig = false := by
  rw [List.all_eq_false]
  exact ⟨d, List.mem_of_getElem? h, by simp [hd]⟩
theorem longL_bad {n : Nat} {d : UInt8} {neg : Bool} (h : 2 ≤ n) (hd : isDig d = false) : (longL n d neg).all isDig = false ∧ (longL n d neg).tail.all isDig = false := by
  have h1 := longL_last n d neg h
  refine ⟨all_bad h1 hd, all_bad (i := n - 2) (d := d) ?_ hd⟩
  rw [List.getElem?_tail, show n - 2 + 1 = n - 1 by omega]
  exact h1
end Big
end Go.Proofs.YtglmfalabkdplaaDoor
