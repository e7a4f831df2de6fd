import Derived.Test.YtplmldkfgeiklaaGreatDoorM23
/- An integer of the program's own type that came in. -/
namespace Go.Proofs.YtplmldkfgeiklaaGreatDoor
open Go.ChangeShapes Go.WideShapes Go.ChangeAt Go.RowKit
theorem cellsInt : Tryz.prog.cellsOf 24 = 2 := by kernel_rfl
section
variable {H : Type} {enc : TypeId × Value → H} {W : World} {v : Value} {d : DataW H} {p : List MemPlace} {r : Reach} {b0 : Nat}
set_option maxRecDepth 100000 in
theorem open_Int (hv : Value.okWide Tryz.prog W r b0 24 v) (h : DataW.Trod enc Tryz.prog W 0 (fun _ => true) true 24 v d p) : ∃ neg m xs, v = .agg #[.bool neg, m] ∧ Big.Arr W m xs := by
  have key := fun ho => Joins.open_agg2 Tryz.underlying24 ho cellsInt hv h
  obtain ⟨v0, v1, y0, y1, n, rfl, _, _, h0, h1⟩ := key (by kernel_rfl)
  obtain ⟨b, rfl⟩ := bool_of_trod h0
  obtain ⟨xs, hxs⟩ := arr_of_trod h1
  exact ⟨b, v1, xs, rfl, hxs⟩
end
end Go.Proofs.YtplmldkfgeiklaaGreatDoor
/- A fraction of the program's own type that came in: any sign, any two lists of digits. -/
namespace Go.Proofs.YtplmldkfgeiklaaGreatDoor
open Go.ChangeShapes Go.WideShapes Go.ChangeAt Go.RowKit
theorem cellsRat : Tryz.prog.cellsOf 26 = 3 := by kernel_rfl
theorem cellsSl : Tryz.prog.cellsOf 22 = 1 := by kernel_rfl
theorem cellsBo : Tryz.prog.cellsOf 4 = 1 := by kernel_rfl
section
variable {H : Type} {enc : TypeId × Value → H} {W : World} {v : Value} {d : DataW H} {p : List MemPlace} {r : Reach} {b0 : Nat}
theorem arr3 {α : Type} {cs : Array α} (h : cs.size = 3) : ∃ c0 c1 c2, cs = #[c0, c1, c2] := by
  obtain ⟨l⟩ := cs
  match l, h with
  | [c0, c1, c2], _ => exact ⟨c0, c1, c2, rfl⟩
set_option maxRecDepth 100000 in
theorem open_Rat (hv : Value.okWide Tryz.prog W r b0 26 v) (h : DataW.Trod enc Tryz.prog W 0 (fun _ => true) true 26 v d p) : ∃ neg m xs u ys, v = .agg #[.bool neg, m, u] ∧ Big.Arr W m xs ∧ Big.Arr W u ys := by
  obtain ⟨cs, rfl, hsz⟩ := okWide_struct Tryz.underlying26 hv
  obtain ⟨c0, c1, c2, rfl⟩ := arr3 (hsz.trans cellsRat)
  obtain ⟨fuel, hf⟩ := h
  obtain ⟨y0, y1, n, _, _, h0, h1⟩ := trod_struct2 Tryz.underlying26 hf
  simp only [cellsInt, cellsSl, Value.cells] at h0 h1
  obtain ⟨z0, z1, m, _, _, g0, g1⟩ := trod_struct2 Tryz.underlying24 h0
  simp only [cellsBo, cellsSl] at g0 g1
  obtain ⟨b, rfl⟩ := bool_of_trod (v := c0) g0
  obtain ⟨xs, hxs⟩ := arr_of_trod (v := c1) g1
  obtain ⟨ys, hys⟩ := arr_of_trod (v := c2) h1
  exact ⟨b, c1, xs, c2, ys, rfl, hxs, hys⟩
end
end Go.Proofs.YtplmldkfgeiklaaGreatDoor
