import Derived.Test.YtdijknnlldjgmaaDoorFrame
/- An integer of the program's own type that came in. -/
namespace Go.Proofs.YtdijknnlldjgmaaDoor
open Go.ChangeShapes Go.WideShapes Go.ChangeAt Go.RowKit
theorem cellsInt : Tryd.prog.cellsOf 24 = 2 := by kernel_rfl
section
variable {H : Type} {enc : TypeId × Value → H} {W : World} {v : Value} {d : DataW H} {p : List MemPlace} {r : Reach} {b0 : Nat}
set_option maxRecDepth 100000 in
theorem open_Int (hv : Value.okWide Tryd.prog W r b0 24 v) (h : DataW.Trod enc Tryd.prog W 0 (fun _ => true) true 24 v d p) : ∃ neg m xs, v = .agg #[.bool neg, m] ∧ Big.Arr W m xs := by
  have key := fun ho => Joins.open_agg2 Tryd.underlying24 ho cellsInt hv h
  obtain ⟨v0, v1, y0, y1, n, rfl, _, _, h0, h1⟩ := key (by kernel_rfl)
  obtain ⟨b, rfl⟩ := bool_of_trod h0
  obtain ⟨xs, hxs⟩ := arr_of_trod h1
  exact ⟨b, v1, xs, rfl, hxs⟩
end
end Go.Proofs.YtdijknnlldjgmaaDoor
