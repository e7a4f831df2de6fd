import Derived.Test.YtbmmnpggadakdaaDoorFrame
import Derived.Test.YtbmmnpggadakdaaDoorTexts
/- A list of texts that came in. -/
namespace Go.Proofs.YtbmmnpggadakdaaDoor
open Go.ChangeShapes Go.WideShapes Go.ChangeAt Go.RowKit
theorem cellsOf_str : Tryd.prog.cellsOf 9 = 1 := by kernel_rfl
section
variable {H : Type} {enc : TypeId × Value → H} {W : World} {v : Value} {d : DataW H} {p : List MemPlace} {r : Reach} {b0 : Nat}
theorem texts_of_trod {fuel : Nat} {y : DataW H × List MemPlace} (h : DataW.trod enc Tryd.prog W 0 (fun _ => true) true fuel 27 [v] = some y) : ∃ ls, Big.ArrS W v ls := by
  rcases Deep.open_strs Tryd.underlying27 Tryd.underlying9 cellsOf_str h with ⟨hv, _⟩ | ⟨a, len, cap, m, Sx, hv, _, hl, hm, hmm, _, hc⟩
  · injection hv with hv
    subst hv
    exact ⟨[], Big.RArr.none_ W⟩
  · injection hv with hv
    subst hv
    simp only [if_true] at hmm
    refine ⟨(List.range len).map (fun i => (Sx i).data.toList), some a, cap, by simp, by simpa using hl, hm, fun hp => ?_⟩
    simp only [List.length_map, List.length_range] at hp
    have h0 := (hc 0 (by omega)).1
    obtain ⟨b, off, spot⟩ := a
    have hspot : spot = none := by simpa [Addr.add] using World.cell?_spot h0
    subst hspot
    have hlt := World.block_lt_of_cell? W _ h0
    have hlt' : b < W.heap.size := by simpa [Addr.add] using hlt
    refine ⟨b, off, rfl, hlt', fun j u hj => ?_⟩
    rw [List.getElem?_map, List.getElem?_map] at hj
    have hjl : j < len := by
      rcases Nat.lt_or_ge j len with h | h
      · exact h
      · rw [List.getElem?_eq_none (by simpa using h)] at hj; cases hj
    rw [List.getElem?_range hjl] at hj
    injection hj with hj
    subst hj
    have := (hc j (by omega)).1
    rw [Go.WideShapes.add_plain] at this
    exact this
set_option maxRecDepth 100000 in
theorem open_texts (hv : Value.okWide Tryd.prog W r b0 27 v) (h : DataW.Trod enc Tryd.prog W 0 (fun _ => true) true 27 v d p) : ∃ ls, Big.ArrS W v ls := by
  obtain ⟨a, len, cap, rfl⟩ := okWide_slice Tryd.underlying27 hv
  obtain ⟨fuel, hf⟩ := h
  exact texts_of_trod (by simpa [Value.cells] using hf)
end
end Go.Proofs.YtbmmnpggadakdaaDoor
