import Derived.Test.YtbmmnpggadakdaaDoorBytes2
import Derived.Lib.Strings
import Derived.WalkSpells
import Derived.Laws.Entries
/- Rules of the walk for texts: 'str l' is taken as it stands, by the list of its bytes. -/
namespace Go.Proofs.YtbmmnpggadakdaaDoor
namespace Big
open Go.RowKit

/-- The byte at a place of a text. -/
def byteAt (l : List UInt8) (i : Nat) : Nat := (l.getD i 0).toNat
theorem byteAt_lt (l : List UInt8) (i : Nat) : byteAt l i < 256 := UInt8.toNat_lt _
theorem byteAt_eq (l : List UInt8) (i : Nat) (h : i < l.length) : byteAt l i = l[i].toNat := by
  unfold byteAt; rw [List.getD_eq_getElem?_getD, List.getElem?_eq_getElem h]; rfl
theorem size_str (l : List UInt8) : (⟨l.toArray⟩ : ByteArray).size = l.length := by simp [ByteArray.size]
@[go_sem] theorem run_len_str (l : List UInt8) (ty : TypeId) (W : World) : (Builtin.len_ #[9] ty #[str l]).run Tryd.prog W = .ok (.int .i64 (l.length : Int)) W := by
  have := run_len_string (P := Tryd.prog) W 9 ty ⟨l.toArray⟩ Tryd.underlying9
  rw [size_str] at this
  exact this
@[go_sem] theorem run_idx_str (l : List UInt8) (k : IntKind) (i : Int) (W : World) :
    (Instr.index 9 (str l) (.int k i)).run Tryd.prog W = if 0 ≤ i ∧ i < (l.length : Int) then .ok (.int .u8 (byteAt l i.toNat : Int)) W else (boundsPanic k i (l.length : Int) .index).run Tryd.prog W := by
  have h2 := run_index_string (P := Tryd.prog) W 9 ⟨l.toArray⟩ k i Tryd.underlying9
  by_cases h : 0 ≤ i ∧ i < (l.length : Int)
  · rw [dif_pos ⟨h.1, by rw [size_str]; exact h.2⟩] at h2
    have h3 : i.toNat < l.length := by omega
    rw [if_pos h, byteAt_eq l _ h3]
    exact h2
  · rw [dif_neg (by rw [size_str]; exact h), size_str] at h2
    rw [if_neg h]
    exact h2
@[go_sem] theorem eqGuard_str (op : BinOp) (t : TypeId) (x y : Operand) (a : List UInt8) (v : Value) : eqGuard op t x y (str a) v = pure () := by
  unfold str; cases op <;> cases v <;> rfl
@[go_sem] theorem eqGuard_str_const (op : BinOp) (t : TypeId) (x y : Operand) (a : List UInt8) (s : ByteArray) : eqGuard op t x y (.string s) (str a) = pure () := by
  unfold str; cases op <;> rfl
@[go_sem] theorem eql_str (a b : List UInt8) : binOp .eql 9 (str a) (str b) = pure (.bool (a == b)) := by
  unfold str; rw [binOp_string_eql, ByteArray.toList_mk, ByteArray.toList_mk]
@[go_sem] theorem neq_str (a b : List UInt8) : binOp .neq 9 (str a) (str b) = pure (.bool !(a == b)) := by
  unfold str; rw [binOp_string_neq, ByteArray.toList_mk, ByteArray.toList_mk]
@[go_sem] theorem eql_str_const (a b : List UInt8) : binOp .eql 9 (str a) (.string ⟨b.toArray⟩) = pure (.bool (a == b)) := eql_str a b
@[go_sem] theorem neq_str_const (a b : List UInt8) : binOp .neq 9 (str a) (.string ⟨b.toArray⟩) = pure (.bool !(a == b)) := neq_str a b
theorem extract_str (l : List UInt8) (a b : Nat) : (⟨l.toArray⟩ : ByteArray).extract a b = ⟨((l.drop a).take (b - a)).toArray⟩ := by
  apply ByteArray.ext
  apply Array.ext'
  rw [Lib.extract_data]
@[go_sem] theorem run_slice_str (l : List UInt8) (k k' : IntKind) (i j : Int) (W : World) :
    (Instr.slice 9 (str l) (some (.int k i)) (some (.int k' j)) none).run Tryd.prog W =
      if 0 ≤ j ∧ j ≤ (l.length : Int) then
        (if 0 ≤ i ∧ i ≤ j then .ok (str ((l.take j.toNat).drop i.toNat)) W
         else ((boundsPanic k i j.toNat .sliceB : Sem Nat).run Tryd.prog W).andThen fun a w' => .ok (str ((l.take j.toNat).drop a)) w')
      else ((boundsPanic k' j l.length .sliceAlen : Sem Nat).run Tryd.prog W).andThen fun b w' =>
        ((Instr.sliceBound (.int k i) b .sliceB).run Tryd.prog w').andThen fun a w'' => .ok (str ((l.take b).drop a)) w'' := by
  unfold str
  rw [run_slice_string_if (P := Tryd.prog) W 9 ⟨l.toArray⟩ k k' i j Tryd.underlying9]
  simp only [size_str, extract_str, List.drop_take]
@[go_sem] theorem run_slice_str_from (l : List UInt8) (k : IntKind) (i : Int) (W : World) :
    (Instr.slice 9 (str l) (some (.int k i)) none none).run Tryd.prog W =
      if 0 ≤ i ∧ i ≤ (l.length : Int) then .ok (str (l.drop i.toNat)) W else ((boundsPanic k i l.length .sliceB : Sem Nat).run Tryd.prog W).andThen fun a w' => .ok (str (l.drop a)) w' := by
  unfold str
  rw [run_slice_string_from_if (P := Tryd.prog) W 9 ⟨l.toArray⟩ k i Tryd.underlying9]
  have hd : ∀ a, (l.drop a).take (l.length - a) = l.drop a := fun a => List.take_of_length_le (by simp)
  simp only [size_str, extract_str, hd]
@[go_sem] theorem run_slice_str_to (l : List UInt8) (k : IntKind) (j : Int) (W : World) :
    (Instr.slice 9 (str l) none (some (.int k j)) none).run Tryd.prog W =
      if 0 ≤ j ∧ j ≤ (l.length : Int) then .ok (str (l.take j.toNat)) W else ((boundsPanic k j l.length .sliceAlen : Sem Nat).run Tryd.prog W).andThen fun a w' => .ok (str (l.take a)) w' := by
  unfold str
  rw [run_slice_string_to_if (P := Tryd.prog) W 9 ⟨l.toArray⟩ k j Tryd.underlying9]
  simp only [size_str, extract_str, List.drop_zero, Nat.sub_zero]
@[go_sem high] theorem run_store_str (P : Program) (w : World) (a : Addr) (l : List UInt8) (m : Mode) : (store a (str l) m).run P w = stored P w a (str l) m := run_store P w a _ m rfl
@[go_sem high] theorem cells_str (l : List UInt8) : (str l).cells = #[str l] := rfl
@[go_sem high] theorem cells_match_str (l : List UInt8) : (match str l with | Value.agg cs => cs | v => #[v]) = #[str l] := rfl
@[go_sem high] theorem oneCell_str (l : List UInt8) : (str l).oneCell' = true := rfl
end Big
end Go.Proofs.YtbmmnpggadakdaaDoor
