import Derived.Test.YtbmmnpggadakdaaDoorW2
import Derived.Laws.BytesArg
/- Words for bytes and texts. -/
namespace Go.Proofs.YtbmmnpggadakdaaDoor
namespace Big
open Go.RowKit

def d8 (b : UInt8) : Value := .int .u8 (b.toNat : Int)
/-- The text with these bytes. -/
def str (l : List UInt8) : Value := .string ⟨l.toArray⟩
theorem ones_d8 {bs : List UInt8} : ∀ u ∈ bs.map d8, u.oneCell' = true := fun u hu => by
  obtain ⟨x, _, rfl⟩ := List.mem_map.1 hu
  rfl
theorem info_u8 : (Tryd.prog.info? 5).map (fun i => (i.zero, i.size, i.bytes)) = some (some (.int .u8 0), 1, 1) := by kernel_rfl

/-- v reads as the bytes bs. -/
def Arr8 (w : World) (v : Value) (bs : List UInt8) : Prop := RArr w v (bs.map d8)
def Own8 (B : Nat) (w : World) (v : Value) (bs : List UInt8) : Prop := ROwn 5 B w v (bs.map d8)
section
variable {w w' : World} {v : Value} {bs : List UInt8} {B B' : Nat}
theorem Arr8.ext (h : Arr8 w v bs) (hb : Ext w w') : Arr8 w' v bs := RArr.ext h hb
theorem Own8.ext (h : Own8 B w v bs) (hb : Ext w w') : Own8 B w' v bs := ROwn.ext h hb
theorem Own8.mono (h : Own8 B w v bs) (hB : B' ≤ B) : Own8 B' w v bs := ROwn.mono h hB
theorem Own8.arr (h : Own8 B w v bs) : Arr8 w v bs := ROwn.arr h
theorem Own8.none_ (B : Nat) (w : World) : Own8 B w (.slice none 0 0) [] := ROwn.none_ _ B w
theorem Arr8.fresh1 (w : World) (t : Int) (y : UInt8) (ht : t = (y.toNat : Int)) : Arr8 (w.alloc (.cells #[.int .u8 t] 5)) (.slice (some ⟨w.heap.size, 0, none⟩) 1 1) [y] := by
  subst ht; exact RArr.one (by simp [d8])
theorem map_d8_get {j : Nat} (hj : j < bs.length) : (bs.map d8)[j]? = some (d8 bs[j]) := by
  rw [List.getElem?_map, List.getElem?_eq_getElem hj]; rfl
theorem Arr8.open (h : Arr8 w v bs) : ∃ A c, v = .slice A bs.length c ∧ bs.length ≤ c ∧ c ≤ maxLen ∧
    (0 < bs.length → ∃ b o, A = some ⟨b, o, none⟩ ∧ b < w.heap.size ∧ ∀ j (hj : j < bs.length), w.cell? ⟨b, o + j, none⟩ = some (d8 bs[j])) := by
  obtain ⟨A, c, rfl, h2, h3, h4⟩ := h
  rw [List.length_map] at h2 h4
  refine ⟨A, c, by rw [List.length_map], h2, h3, fun hp => ?_⟩
  obtain ⟨b, o, rfl, hlt, hc⟩ := h4 hp
  exact ⟨b, o, rfl, hlt, fun j hj => hc j _ (map_d8_get hj)⟩
end

theorem wpList_append8 {w : World} {v src : Value} {xs ys : List UInt8} {B : Nat} {ops : Array Oper} {rest : List Oper} {o : Oper} {a : Act} {Q : Exit → Act → World → Prop} (hgd : o.guard = none) (s x : Operand)
    (ho : o.op = .call { callee := .builtin .append, args := #[s, x], argTypes := #[37, 37] })
    (hs : a.eval s = v) (hown : Own8 B w v xs) (hx : a.eval x = src) (hsrc : Arr8 w src ys) (hn : xs.length + ys.length ≤ 2147483648) (hbase : B ≤ w.heap.size)
    (h : ∀ v' w', Own8 B w' v' (xs ++ ys) → w.grownBy w' (rowOf v) → Below B w w' → wpList Tryd.prog ops Q rest (a.put o.dst v') w') : wpList Tryd.prog ops Q (o :: rest) a w := by
  obtain ⟨i0, hi, hz0, hz1, hz2⟩ := info_parts info_u8
  have hb := bound32 hn
  refine wpList_append_any hgd s x 37 ho 5 i0 _ 1 Tryd.underlying37 hi hz0 hz1 hz2 rfl hs hown hx hsrc ones_d8 (by simpa using hb.1) (by simp only [List.length_map]; omega) hbase (fun v' w' h1 h2 h3 => h v' w' ?_ h2 h3)
  unfold Own8
  rw [List.map_append]
  exact h1

theorem u8_back (bs : List UInt8) : strOfNums (bs.map fun b => (b.toNat : Int)) = ⟨bs.toArray⟩ := by
  unfold strOfNums
  congr 1
  apply Array.ext'
  simp [List.map_map, Function.comp_def]

/-- 'string(b)' -/
theorem run_string8 {w : World} {v : Value} {bs : List UInt8} (h : Arr8 w v bs) : (convert 37 9 v).run Tryd.prog w = .ok (str bs) w := by
  obtain ⟨A, c, rfl, h2, h3, h4⟩ := h.open
  rcases Nat.eq_zero_or_pos bs.length with h0 | h0
  · have := List.eq_nil_of_length_eq_zero h0
    subst this
    rcases A with _ | a
    · exact run_convert_bytes_nil w 37 5 Tryd.underlying37 Tryd.underlying5 0 c 9 Tryd.underlying9
    · rw [run_convert_bytes_string w 37 9 5 _ _ c Tryd.underlying37 Tryd.underlying5 Tryd.underlying9]
      have := run_bytesToString (P := Tryd.prog) w a 0 c [] (by simp [loadCells, loadCellsFrom])
      exact this
  · obtain ⟨b, o, rfl, hlt, hc⟩ := h4 h0
    have := run_convert_bytes_arg (P := Tryd.prog) w 37 5 Tryd.underlying37 Tryd.underlying5 b o bs.length c (bs.map fun b => (b.toNat : Int)) (by simp) (fun i hi => by
      rw [hc i hi]
      simp [d8, hi]) 9 Tryd.underlying9
    rw [u8_back] at this
    exact this
end Big
end Go.Proofs.YtbmmnpggadakdaaDoor
