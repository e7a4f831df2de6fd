import Derived.Test.YtplmldkfgeiklaaGreatDoorM4
import Derived.Test.YtplmldkfgeiklaaGreatDoorM14
import Derived.Test.YtplmldkfgeiklaaGreatDoorM6
/- mill.Mod. -/
namespace Go.Proofs.YtplmldkfgeiklaaGreatDoor
namespace Big
open Go.RowKit

theorem tmod_mod (v n : Int) (hn : 1 ≤ n) : (if v.tmod n < 0 then v.tmod n + n else v.tmod n) = v % n := by
  have h := Int.tmod_eq_emod (a := v) (b := n)
  have h1 := Int.emod_nonneg v (show n ≠ 0 by omega)
  have h2 := Int.emod_lt_of_pos v (show 0 < n by omega)
  rw [h]
  split <;> split <;> omega
theorem mod_any (w : World) (v n : Int) (_h1 : -9223372036854775808 ≤ v) (_h2 : v ≤ 9223372036854775807) (hn : 1 ≤ n) (hn2 : n ≤ 4611686018427387904) :
    Calls Tryz.prog 16 #[.int .i64 v, .int .i64 n] w fun e w' => e = .returned (.int .i64 (v % n)) ∧ w = w' := by
  have hT := tmod_mod v n hn
  have hne : (n == 0) = false := by rw [beq_eq_false_iff_ne]; omega
  obtain ⟨r, hr⟩ : ∃ r, v.tmod n = r := ⟨_, rfl⟩
  rw [hr] at hT
  have hm1 := Int.emod_nonneg v (show n ≠ 0 by omega)
  have hm2 := Int.emod_lt_of_pos v (show 0 < n by omega)
  by_cases h0 : r < 0
  · rw [if_pos h0] at hT
    have hb1 : -n ≤ r := by omega
    have HT := Lib.hid hT
    clear hT hm1 hm2
    go_enter Tryz.func16, Tryz.ntmps16
    go_wp2_with fail
    go_ret
    exact ⟨congrArg (fun z => Ending.returned (.int .i64 z)) HT.out, rfl⟩
  · rw [if_neg h0] at hT
    have hb1 : r < n := by omega
    have HT := Lib.hid hT
    clear hT hm1 hm2
    go_enter Tryz.func16, Tryz.ntmps16
    go_wp2_with fail
    go_ret
    exact ⟨congrArg (fun z => Ending.returned (.int .i64 z)) HT.out, rfl⟩

end Big
end Go.Proofs.YtplmldkfgeiklaaGreatDoor
/- A slice of bytes that is made. -/
namespace Go.Proofs.YtplmldkfgeiklaaGreatDoor
namespace Big
open Go.RowKit
def cells8 (bs : List UInt8) : Array Value := (bs.map d8).toArray
theorem set_cells8 (bs : List UInt8) (i : Nat) (b : UInt8) : (cells8 bs).setIfInBounds i (d8 b) = cells8 (bs.set i b) := by
  apply Array.ext'
  simp [cells8, List.map_set]
theorem get_cells8 (bs : List UInt8) (i : Nat) (h : i < bs.length) : (cells8 bs)[i]? = some (d8 bs[i]) := by
  unfold cells8; simp [h]
theorem Arr8.block {w : World} {g : Nat} {bs : List UInt8} (h : Blk w g 5 (cells8 bs)) (hm : bs.length ≤ 2147483648) : Arr8 w (.slice (some ⟨g, 0, none⟩) bs.length bs.length) bs := by
  refine ⟨some ⟨g, 0, none⟩, bs.length, by rw [List.length_map], by rw [List.length_map]; omega, (bound32 hm).1, fun _ => ⟨g, 0, rfl, h.lt, fun j u hj => ?_⟩⟩
  rw [h.cell, Nat.zero_add]
  unfold cells8
  rw [List.getElem?_toArray]
  exact hj
theorem run_make8 (n : Nat) (hn : n ≤ 2147483648) (W : World) : (Instr.makeSlice 43 (.int .i64 (n : Int)) (.int .i64 (n : Int))).run Tryz.prog W =
    .ok (.slice (some ⟨W.heap.size, 0, none⟩) n n) (W.alloc (.cells (cells8 (List.replicate n 0)) 5)) := by
  obtain ⟨i0, hi, hz0, hz1, hz2⟩ := info_parts info_u8
  have hr := run_make (P := Tryz.prog) W 43 5 i0 _ Tryz.underlying43 hi hz0 .i64 .i64 (n : Int) (n : Int) (by omega) (Int.le_refl _) (by rw [hz2]; omega) (by omega)
  have hm : madeCells (Value.cells (.int .u8 0)) (n * 1) = cells8 (List.replicate n 0) := by
    apply Array.ext'
    apply List.ext_getElem?
    intro i
    simp only [madeCells, cells8, Value.cells]
    rw [Array.getElem?_toList, Array.getElem?_map, List.getElem?_map, List.getElem?_replicate]
    rcases Nat.lt_or_ge i n with h | h
    · rw [Array.getElem?_range, if_pos (by omega), if_pos h]
      simp [d8, Nat.mod_one]
    · rw [Array.getElem?_range, if_neg (by omega), if_neg (by omega)]
      rfl
  rw [hz1, Int.toNat_natCast, hm] at hr
  exact hr

end Big
end Go.Proofs.YtplmldkfgeiklaaGreatDoor
/- Words for lists of texts. -/
namespace Go.Proofs.YtplmldkfgeiklaaGreatDoor
namespace Big
open Go.RowKit
theorem info_str : (Tryz.prog.info? 9).map (fun i => (i.zero, i.size, i.bytes)) = some (some (.string ⟨#[]⟩), 1, 16) := by kernel_rfl
/-- v reads as the list ls of texts. -/
def ArrS (w : World) (v : Value) (ls : List (List UInt8)) : Prop := RArr w v (ls.map str)
def OwnS (B : Nat) (w : World) (v : Value) (ls : List (List UInt8)) : Prop := ROwn 9 B w v (ls.map str)
section
variable {w w' : World} {v : Value} {ls : List (List UInt8)} {B B' : Nat}
theorem ArrS.ext (h : ArrS w v ls) (hb : Ext w w') : ArrS w' v ls := RArr.ext h hb
theorem OwnS.ext (h : OwnS B w v ls) (hb : Ext w w') : OwnS B w' v ls := ROwn.ext h hb
theorem OwnS.mono (h : OwnS B w v ls) (hB : B' ≤ B) : OwnS B' w v ls := ROwn.mono h hB
theorem OwnS.arr (h : OwnS B w v ls) : ArrS w v ls := ROwn.arr h
theorem OwnS.none_ (B : Nat) (w : World) : OwnS B w (.slice none 0 0) [] := ROwn.none_ _ B w
theorem map_str_get {j : Nat} (hj : j < ls.length) : (ls.map str)[j]? = some (str ls[j]) := by
  rw [List.getElem?_map, List.getElem?_eq_getElem hj]; rfl
theorem ArrS.open (h : ArrS w v ls) : ∃ A c, v = .slice A ls.length c ∧ ls.length ≤ c ∧ c ≤ maxLen ∧
    (0 < ls.length → ∃ b o, A = some ⟨b, o, none⟩ ∧ b < w.heap.size ∧ ∀ j (hj : j < ls.length), w.cell? ⟨b, o + j, none⟩ = some (str ls[j])) := by
  obtain ⟨A, c, rfl, h2, h3, h4⟩ := h
  rw [List.length_map] at h2 h4
  refine ⟨A, c, by rw [List.length_map], h2, h3, fun hp => ?_⟩
  obtain ⟨b, o, rfl, hlt, hc⟩ := h4 hp
  exact ⟨b, o, rfl, hlt, fun j hj => hc j _ (map_str_get hj)⟩
theorem ArrS.shape (h : ArrS w v ls) : ∃ n A c, v = .slice A n c := RArr.shape h
theorem ArrS.len {n c : Nat} {A : Option Addr} (h : ArrS w (.slice A n c) ls) : n = ls.length := by
  obtain ⟨A', c', he, _⟩ := h
  injection he with _ h2 _
  rw [h2, List.length_map]
theorem ones_str : ∀ u ∈ ls.map str, u.oneCell' = true := fun u hu => by
  obtain ⟨x, _, rfl⟩ := List.mem_map.1 hu
  rfl
/-- A slice over a whole block of texts. -/
theorem OwnS.block {g : Nat} (h : Blk w g 9 (ls.map str).toArray) (hg : B ≤ g) (hm : ls.length ≤ 2147483648) : OwnS B w (.slice (some ⟨g, 0, none⟩) ls.length ls.length) ls := by
  refine ⟨some ⟨g, 0, none⟩, ls.length, by rw [List.length_map], by rw [List.length_map]; omega, by unfold maxLen; omega, .inr ⟨g, _, rfl, hg, h, by simp, ?_⟩⟩
  rw [List.length_map]
  show (ls.map str).take ls.length = _
  rw [List.take_of_length_le (by simp)]
end
theorem wpList_appendS {w : World} {v src : Value} {xs ys : List (List UInt8)} {B : Nat} {ops : Array Oper} {rest : List Oper} {o : Oper} {a : Act} {Q : Exit → Act → World → Prop} (hgd : o.guard = none) (s x : Operand)
    (ho : o.op = .call { callee := .builtin .append, args := #[s, x], argTypes := #[44, 44] })
    (hs : a.eval s = v) (hown : OwnS B w v xs) (hx : a.eval x = src) (hsrc : ArrS w src ys) (hn : xs.length + ys.length ≤ 2147483648) (hbase : B ≤ w.heap.size)
    (h : ∀ v' w', OwnS B w' v' (xs ++ ys) → w.grownBy w' (rowOf v) → Below B w w' → wpList Tryz.prog ops Q rest (a.put o.dst v') w') : wpList Tryz.prog ops Q (o :: rest) a w := by
  obtain ⟨i0, hi, hz0, hz1, hz2⟩ := info_parts info_str
  refine wpList_append_any hgd s x 44 ho 9 i0 _ 16 Tryz.underlying44 hi hz0 hz1 hz2 rfl hs hown hx hsrc ones_str (by simp only [List.length_map]; unfold maxLen; omega) (by simp only [List.length_map]; omega) hbase (fun v' w' h1 h2 h3 => h v' w' ?_ h2 h3)
  unfold OwnS
  rw [List.map_append]
  exact h1
theorem ArrS.fresh1 (w : World) (l : List UInt8) : ArrS (w.alloc (.cells #[str l] 9)) (.slice (some ⟨w.heap.size, 0, none⟩) 1 1) [l] := RArr.one (by simp)

/-- Do two lists of texts agree up to k? -/
theorem take_step {ls ms : List (List UInt8)} {k : Nat} (h : ls.take k = ms.take k) (h1 : k < ls.length) (h2 : k < ms.length) (he : ls[k] = ms[k]) : ls.take (k + 1) = ms.take (k + 1) := by
  rw [List.take_succ_eq_append_getElem h1, List.take_succ_eq_append_getElem h2, h, he]

end Big
end Go.Proofs.YtplmldkfgeiklaaGreatDoor
namespace Go.Proofs.YtplmldkfgeiklaaGreatDoor
namespace Big
open Go.RowKit
@[go_sem high] theorem cells_match_str2 (l : List UInt8) : Value.cells.match_1 (fun _ => Array Value) (str l) (fun cs => cs) (fun v => #[v]) = #[str l] := rfl
end Big
end Go.Proofs.YtplmldkfgeiklaaGreatDoor
