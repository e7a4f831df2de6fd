import Derived.Test.YtoehdoghghpmjaaDoorM5
import Derived.Test.YtoehdoghghpmjaaDoorM7
import Derived.Lib.ConvBytes
/- A slice of bytes that is made. -/
namespace Go.Proofs.YtoehdoghghpmjaaDoor
namespace Big
open Go.RowKit
def cells8 (bs : List UInt8) : Array Value := (bs.map d8).toArray
theorem set_cells8 (bs : List UInt8) (i : Nat) (b : UInt8) : (cells8 bs).setIfInBounds i (d8 b) = cells8 (bs.set i b) := by
  apply Array.ext'
  simp [cells8, List.map_set]
theorem get_cells8 (bs : List UInt8) (i : Nat) (h : i < bs.length) : (cells8 bs)[i]? = some (d8 bs[i]) := by
  unfold cells8; simp [h]
theorem Arr8.block {w : World} {g : Nat} {bs : List UInt8} (h : Blk w g 5 (cells8 bs)) (hm : bs.length ≤ 2147483648) : Arr8 w (.slice (some ⟨g, 0, none⟩) bs.length bs.length) bs := by
  refine ⟨some ⟨g, 0, none⟩, bs.length, by rw [List.length_map], by rw [List.length_map]; omega, (bound32 hm).1, fun _ => ⟨g, 0, rfl, h.lt, fun j u hj => ?_⟩⟩
  rw [h.cell, Nat.zero_add]
  unfold cells8
  rw [List.getElem?_toArray]
  exact hj
theorem run_make8 (n : Nat) (hn : n ≤ 2147483648) (W : World) : (Instr.makeSlice 23 (.int .i64 (n : Int)) (.int .i64 (n : Int))).run Tryd.prog W =
    .ok (.slice (some ⟨W.heap.size, 0, none⟩) n n) (W.alloc (.cells (cells8 (List.replicate n 0)) 5)) := by
  obtain ⟨i0, hi, hz0, hz1, hz2⟩ := info_parts info_u8
  have hr := run_make (P := Tryd.prog) W 23 5 i0 _ Tryd.underlying23 hi hz0 .i64 .i64 (n : Int) (n : Int) (by omega) (Int.le_refl _) (by rw [hz2]; omega) (by omega)
  have hm : madeCells (Value.cells (.int .u8 0)) (n * 1) = cells8 (List.replicate n 0) := by
    apply Array.ext'
    apply List.ext_getElem?
    intro i
    simp only [madeCells, cells8, Value.cells]
    rw [Array.getElem?_toList, Array.getElem?_map, List.getElem?_map, List.getElem?_replicate]
    rcases Nat.lt_or_ge i n with h | h
    · rw [Array.getElem?_range, if_pos (by omega), if_pos h]
      simp [d8, Nat.mod_one]
    · rw [Array.getElem?_range, if_neg (by omega), if_neg (by omega)]
      rfl
  rw [hz1, Int.toNat_natCast, hm] at hr
  exact hr

end Big
end Go.Proofs.YtoehdoghghpmjaaDoor
/- The bytes of a text, laid in memory. -/
namespace Go.Proofs.YtoehdoghghpmjaaDoor
namespace Big
open Go.RowKit
/-- '[]byte(s)'. -/
def bytesAt (w : World) (l : List UInt8) : World := Lib.bytesWorld w 5 ⟨l.toArray⟩
theorem bytesAt_ext (w : World) (l : List UInt8) : Ext w (bytesAt w l) := by
  refine ⟨?_, ?_, ?_, ?_, fun k hk => Lib.bytesWorld_at_old w _ _ k hk⟩
  · simp [bytesAt, Lib.bytesWorld, World.freeze, World.alloc, World.drew, -World.alloc_eq, -World.drew_eq]
  · simp [bytesAt, Lib.bytesWorld, World.freeze, World.alloc, World.drew, -World.alloc_eq, -World.drew_eq]
  · simp [bytesAt, Lib.bytesWorld, World.freeze, World.alloc, World.drew, -World.alloc_eq, -World.drew_eq]
  · unfold bytesAt; rw [Lib.bytesWorld_size]; omega
theorem bytesAt_cell (w : World) (l : List UInt8) (j : Nat) (h : j < l.length) : (bytesAt w l).cell? ⟨w.heap.size, j, none⟩ = some (.int .u8 (byteAt l j : Int)) := by
  unfold bytesAt byteAt
  rw [Lib.bytesWorld_cell w _ _ j (by rw [size_str]; exact h)]
theorem bytesAt_lt (w : World) (l : List UInt8) : w.heap.size < (bytesAt w l).heap.size := by unfold bytesAt; rw [Lib.bytesWorld_size]; omega
theorem run_bytesAt (w : World) (l : List UInt8) : ∃ c, (convert 9 23 (str l)).run Tryd.prog w = .ok (.slice (some ⟨w.heap.size, 0, none⟩) l.length c) (bytesAt w l) ∧ l.length ≤ c := by
  have := Lib.run_convert_string_bytes (P := Tryd.prog) w 9 23 5 ⟨l.toArray⟩ Tryd.underlying9 Tryd.underlying23 Tryd.underlying5
  rw [size_str] at this
  exact ⟨_, this, grownCap_ge w l.length 0 _⟩

end Big
end Go.Proofs.YtoehdoghghpmjaaDoor
/- Bytes of a text in memory, one of them set. -/
namespace Go.Proofs.YtoehdoghghpmjaaDoor
namespace Big
open Go.RowKit
theorem bytesAt_frozen (w : World) (l : List UInt8) (j : Nat) (h : j < l.length) : (bytesAt w l).frozen? ⟨w.heap.size, j, none⟩ = false := by
  have hs : l.length ≤ (Lib.bytesCells w 5 ⟨l.toArray⟩).size := by
    unfold Lib.bytesCells
    simp
  unfold bytesAt World.frozen?
  rw [Lib.bytesWorld_at_new]
  simp
  omega
theorem RArr.set {w : World} {g o n c i : Nat} {vs : List Value} {u : Value} (h : RArr w (.slice (some ⟨g, o, none⟩) n c) vs) (hi : i < vs.length) :
    RArr (w.setCell ⟨g, o + i, none⟩ u) (.slice (some ⟨g, o, none⟩) n c) (vs.set i u) := by
  obtain ⟨A, c', he, h2, h3, h4⟩ := h
  injection he with he1 he2 he3
  subst he1
  subst he3
  subst he2
  refine ⟨_, c, by rw [List.length_set], by rw [List.length_set]; exact h2, h3, fun hp => ?_⟩
  obtain ⟨b, o', ha, hlt, hc⟩ := h4 (by omega)
  injection ha with ha
  injection ha with ha1 ha2 _
  subst ha1
  subst ha2
  refine ⟨g, o, rfl, by simpa [World.setCell] using hlt, fun j v hj => ?_⟩
  rw [List.getElem?_set] at hj
  by_cases hij : i = j
  · subst hij
    rw [if_pos rfl, if_pos hi] at hj
    injection hj with hj
    subst hj
    exact World.cell?_setCell_same _ _ _ (hc i _ (List.getElem?_eq_getElem hi))
  · rw [if_neg hij] at hj
    rw [World.cell?_setCell_other _ _ _ _ (fun e => hij (by injection e with _ e _; omega))]
    exact hc j v hj
theorem bytesAt_arr (w : World) (l : List UInt8) (c : Nat) (hl : l.length ≤ 1073741824) (hc : l.length ≤ c) (hm : c ≤ maxLen) : Arr8 (bytesAt w l) (.slice (some ⟨w.heap.size, 0, none⟩) l.length c) l := by
  refine ⟨_, c, by rw [List.length_map], by rw [List.length_map]; exact hc, hm, fun _ => ⟨w.heap.size, 0, rfl, bytesAt_lt w l, fun j u hj => ?_⟩⟩
  have hjl : j < l.length := by
    rcases Nat.lt_or_ge j l.length with h | h
    · exact h
    · rw [List.getElem?_eq_none (by simpa using h)] at hj; cases hj
  rw [map_d8_get hjl] at hj
  injection hj with hj
  subst hj
  rw [Nat.zero_add, bytesAt_cell w l j hjl, byteAt_eq l j hjl]
  rfl
theorem run_bytesAt2 (w : World) (l : List UInt8) (hl : l.length ≤ 1073741824) : ∃ c, (convert 9 23 (str l)).run Tryd.prog w = .ok (.slice (some ⟨w.heap.size, 0, none⟩) l.length c) (bytesAt w l) ∧
    Arr8 (bytesAt w l) (.slice (some ⟨w.heap.size, 0, none⟩) l.length c) l := by
  have := Lib.run_convert_string_bytes (P := Tryd.prog) w 9 23 5 ⟨l.toArray⟩ Tryd.underlying9 Tryd.underlying23 Tryd.underlying5
  rw [size_str] at this
  exact ⟨_, this, bytesAt_arr w l _ hl (grownCap_ge w l.length 0 _) (grownCap_le_maxLen w l.length 0 _ (by unfold maxLen; omega))⟩
theorem Arr8.set {w : World} {g n c i : Nat} {l : List UInt8} {b : UInt8} (h : Arr8 w (.slice (some ⟨g, 0, none⟩) n c) l) (hi : i < l.length) :
    Arr8 (w.setCell ⟨g, i, none⟩ (d8 b)) (.slice (some ⟨g, 0, none⟩) n c) (l.set i b) := by
  have h1 := RArr.set (u := d8 b) h (i := i) (by simpa using hi)
  rw [Nat.zero_add] at h1
  unfold Arr8
  rw [List.map_set]
  exact h1
/-- A row that was there before these bytes was written: they stand. -/
theorem Arr8.kept {w w' wa : World} {g n c B : Nat} {l : List UInt8} {t : TypeId} {u : Value} {us : List Value} (h : Arr8 w (.slice (some ⟨g, 0, none⟩) n c) l) (k : ROwn t B wa u us) (hg : wa.heap.size ≤ g) (hgr : w.grownBy w' (rowOf u)) :
    Arr8 w' (.slice (some ⟨g, 0, none⟩) n c) l := by
  obtain ⟨A, c', he, h2, h3, h4⟩ := h
  injection he with he1 he2 he3
  subst he1
  subst he3
  subst he2
  refine ⟨_, c, rfl, h2, h3, fun hp => ?_⟩
  obtain ⟨b, o, hbo, hlt, hc⟩ := h4 hp
  injection hbo with hbo
  injection hbo with hb ho _
  subst hb
  subst ho
  have hne : some g ≠ rowOf u := by
    obtain ⟨A', c', rfl, k2, k3, k4⟩ := k
    rcases k4 with ⟨_, rfl⟩ | ⟨g', cur', rfl, _, kblk, _, _⟩
    · rcases A' with _ | a <;> simp [rowOf]
    · simp only [rowOf]
      split
      · simp
      · intro he
        injection he with he
        have := kblk.lt
        omega
  exact ⟨g, 0, rfl, Nat.lt_of_lt_of_le hlt hgr.size, fun j v hj => (World.cell?_of_block (w := w) (a := ⟨g, 0 + j, none⟩) (hgr.block g hlt hne)).trans (hc j v hj)⟩
end Big
end Go.Proofs.YtoehdoghghpmjaaDoor
/- Words for lists of texts. -/
namespace Go.Proofs.YtoehdoghghpmjaaDoor
namespace Big
open Go.RowKit
theorem info_str : (Tryd.prog.info? 9).map (fun i => (i.zero, i.size, i.bytes)) = some (some (.string ⟨#[]⟩), 1, 16) := by kernel_rfl
/-- v reads as the list ls of texts. -/
def ArrS (w : World) (v : Value) (ls : List (List UInt8)) : Prop := RArr w v (ls.map str)
def OwnS (B : Nat) (w : World) (v : Value) (ls : List (List UInt8)) : Prop := ROwn 9 B w v (ls.map str)
section
variable {w w' : World} {v : Value} {ls : List (List UInt8)} {B B' : Nat}
theorem ArrS.ext (h : ArrS w v ls) (hb : Ext w w') : ArrS w' v ls := RArr.ext h hb
theorem OwnS.ext (h : OwnS B w v ls) (hb : Ext w w') : OwnS B w' v ls := ROwn.ext h hb
theorem OwnS.mono (h : OwnS B w v ls) (hB : B' ≤ B) : OwnS B' w v ls := ROwn.mono h hB
theorem OwnS.arr (h : OwnS B w v ls) : ArrS w v ls := ROwn.arr h
theorem OwnS.none_ (B : Nat) (w : World) : OwnS B w (.slice none 0 0) [] := ROwn.none_ _ B w
theorem map_str_get {j : Nat} (hj : j < ls.length) : (ls.map str)[j]? = some (str ls[j]) := by
  rw [List.getElem?_map, List.getElem?_eq_getElem hj]; rfl
theorem ArrS.open (h : ArrS w v ls) : ∃ A c, v = .slice A ls.length c ∧ ls.length ≤ c ∧ c ≤ maxLen ∧
    (0 < ls.length → ∃ b o, A = some ⟨b, o, none⟩ ∧ b < w.heap.size ∧ ∀ j (hj : j < ls.length), w.cell? ⟨b, o + j, none⟩ = some (str ls[j])) := by
  obtain ⟨A, c, rfl, h2, h3, h4⟩ := h
  rw [List.length_map] at h2 h4
  refine ⟨A, c, by rw [List.length_map], h2, h3, fun hp => ?_⟩
  obtain ⟨b, o, rfl, hlt, hc⟩ := h4 hp
  exact ⟨b, o, rfl, hlt, fun j hj => hc j _ (map_str_get hj)⟩
theorem ArrS.shape (h : ArrS w v ls) : ∃ n A c, v = .slice A n c := RArr.shape h
theorem ArrS.len {n c : Nat} {A : Option Addr} (h : ArrS w (.slice A n c) ls) : n = ls.length := by
  obtain ⟨A', c', he, _⟩ := h
  injection he with _ h2 _
  rw [h2, List.length_map]
theorem ones_str : ∀ u ∈ ls.map str, u.oneCell' = true := fun u hu => by
  obtain ⟨x, _, rfl⟩ := List.mem_map.1 hu
  rfl
/-- A slice over a whole block of texts. -/
theorem OwnS.block {g : Nat} (h : Blk w g 9 (ls.map str).toArray) (hg : B ≤ g) (hm : ls.length ≤ 2147483648) : OwnS B w (.slice (some ⟨g, 0, none⟩) ls.length ls.length) ls := by
  refine ⟨some ⟨g, 0, none⟩, ls.length, by rw [List.length_map], by rw [List.length_map]; omega, by unfold maxLen; omega, .inr ⟨g, _, rfl, hg, h, by simp, ?_⟩⟩
  rw [List.length_map]
  show (ls.map str).take ls.length = _
  rw [List.take_of_length_le (by simp)]
end
theorem wpList_appendS {w : World} {v src : Value} {xs ys : List (List UInt8)} {B : Nat} {ops : Array Oper} {rest : List Oper} {o : Oper} {a : Act} {Q : Exit → Act → World → Prop} (hgd : o.guard = none) (s x : Operand)
    (ho : o.op = .call { callee := .builtin .append, args := #[s, x], argTypes := #[25, 25] })
    (hs : a.eval s = v) (hown : OwnS B w v xs) (hx : a.eval x = src) (hsrc : ArrS w src ys) (hn : xs.length + ys.length ≤ 2147483648) (hbase : B ≤ w.heap.size)
    (h : ∀ v' w', OwnS B w' v' (xs ++ ys) → w.grownBy w' (rowOf v) → Below B w w' → wpList Tryd.prog ops Q rest (a.put o.dst v') w') : wpList Tryd.prog ops Q (o :: rest) a w := by
  obtain ⟨i0, hi, hz0, hz1, hz2⟩ := info_parts info_str
  refine wpList_append_any hgd s x 25 ho 9 i0 _ 16 Tryd.underlying25 hi hz0 hz1 hz2 rfl hs hown hx hsrc ones_str (by simp only [List.length_map]; unfold maxLen; omega) (by simp only [List.length_map]; omega) hbase (fun v' w' h1 h2 h3 => h v' w' ?_ h2 h3)
  unfold OwnS
  rw [List.map_append]
  exact h1
theorem ArrS.fresh1 (w : World) (l : List UInt8) : ArrS (w.alloc (.cells #[str l] 9)) (.slice (some ⟨w.heap.size, 0, none⟩) 1 1) [l] := RArr.one (by simp)

/-- Do two lists of texts agree up to k? -/
theorem take_step {ls ms : List (List UInt8)} {k : Nat} (h : ls.take k = ms.take k) (h1 : k < ls.length) (h2 : k < ms.length) (he : ls[k] = ms[k]) : ls.take (k + 1) = ms.take (k + 1) := by
  rw [List.take_succ_eq_append_getElem h1, List.take_succ_eq_append_getElem h2, h, he]

end Big
end Go.Proofs.YtoehdoghghpmjaaDoor
