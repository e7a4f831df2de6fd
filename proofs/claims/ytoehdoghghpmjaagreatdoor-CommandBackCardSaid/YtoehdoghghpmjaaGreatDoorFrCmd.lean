import Derived.Test.YtoehdoghghpmjaaGreatDoorM32
import Derived.Test.YtoehdoghghpmjaaGreatDoorM16
/- A command that came in. -/
namespace Go.Proofs.YtoehdoghghpmjaaGreatDoor
open Go.ChangeShapes Go.WideShapes Go.ChangeAt Go.RowKit
theorem array5 {α : Type} {cs : Array α} (h : cs.size = 5) : ∃ c0 c1 c2 c3 c4, cs = #[c0, c1, c2, c3, c4] := by
  obtain ⟨l⟩ := cs
  match l, h with
  | [c0, c1, c2, c3, c4], _ => exact ⟨c0, c1, c2, c3, c4, rfl⟩
section
variable {H : Type} {enc : TypeId × Value → H} {P : Program} {w : World} {base : Nat} {spare : Nat → Bool} {held : Bool}
theorem open_agg5 {r : Reach} {b0 : Nat} {t : TypeId} {f0 f1 f2 f3 f4 : Field} {v : Value} {d : DataW H} {p : List MemPlace} (hs : P.underlying t = some (.struct #[f0, f1, f2, f3, f4])) (hone : Go.Deep.oneCellFields P #[f0, f1, f2, f3, f4] = true) (hC : P.cellsOf t = 5)
    (hv : Value.okWide P w r b0 t v) (h : DataW.Trod enc P w base spare held t v d p) :
    ∃ (v0 v1 v2 v3 v4 : Value) (y0 y1 y2 y3 y4 : DataW H × List MemPlace) (n : Nat), v = .agg #[v0, v1, v2, v3, v4] ∧
      DataW.trod enc P w base spare held n f0.type [v0] = some y0 ∧ DataW.trod enc P w base spare held n f1.type [v1] = some y1 ∧ DataW.trod enc P w base spare held n f2.type [v2] = some y2 ∧ DataW.trod enc P w base spare held n f3.type [v3] = some y3 ∧ DataW.trod enc P w base spare held n f4.type [v4] = some y4 := by
  obtain ⟨cs, rfl, hsz⟩ := okWide_struct hs hv
  obtain ⟨c0, c1, c2, c3, c4, rfl⟩ := array5 (hsz.trans hC)
  obtain ⟨fuel, hf⟩ := h
  obtain ⟨xs, n, _, _, _, hlen, hx⟩ := DataW.trod_struct hs hf
  obtain ⟨o0, k0⟩ := Go.Deep.hone_of hone 0 f0 rfl
  obtain ⟨o1, k1⟩ := Go.Deep.hone_of hone 1 f1 rfl
  obtain ⟨o2, k2⟩ := Go.Deep.hone_of hone 2 f2 rfl
  obtain ⟨o3, k3⟩ := Go.Deep.hone_of hone 3 f3 rfl
  obtain ⟨o4, k4⟩ := Go.Deep.hone_of hone 4 f4 rfl
  have x0 := hx 0 f0 rfl
  have x1 := hx 1 f1 rfl
  have x2 := hx 2 f2 rfl
  have x3 := hx 3 f3 rfl
  have x4 := hx 4 f4 rfl
  rw [o0, k0] at x0
  rw [o1, k1] at x1
  rw [o2, k2] at x2
  rw [o3, k3] at x3
  rw [o4, k4] at x4
  have hl : xs.length = 5 := hlen
  clear hx hlen hone hs hf
  match xs, hl with
  | [y0, y1, y2, y3, y4], _ => exact ⟨c0, c1, c2, c3, c4, y0, y1, y2, y3, y4, n, rfl, by simpa [Value.cells] using x0, by simpa [Value.cells] using x1, by simpa [Value.cells] using x2, by simpa [Value.cells] using x3, by simpa [Value.cells] using x4⟩
end
theorem cellsCmd : Tryz.prog.cellsOf 31 = 5 := by kernel_rfl
section
variable {H : Type} {enc : TypeId × Value → H} {W : World} {fuel : Nat} {v : Value} {y : DataW H × List MemPlace}
theorem int_of_trod (h : DataW.trod enc Tryz.prog W 0 (fun _ => true) true fuel 3 [v] = some y) : ∃ n, v = .int .i64 n ∧ -9223372036854775808 ≤ n ∧ n ≤ 9223372036854775807 := by
  obtain ⟨n, hn, _, hw⟩ := DataW.trod_int Tryz.underlying3 h
  injection hn with hn
  have := bounds_i64 hw
  exact ⟨n, hn, this.1, this.2⟩
theorem text_of_trod (h : DataW.trod enc Tryz.prog W 0 (fun _ => true) true fuel 9 [v] = some y) : ∃ l, v = Big.str l ∧ l.length ≤ maxLen := by
  obtain ⟨s, hn, _, hw⟩ := DataW.trod_string Tryz.underlying9 h
  injection hn with hn
  obtain ⟨l, hl, rfl⟩ := str_of_bytes hw
  exact ⟨l, hn, hl⟩
end
section
variable {H : Type} {enc : TypeId × Value → H} {W : World} {v : Value} {d : DataW H} {p : List MemPlace} {r : Reach} {b0 : Nat}
set_option maxRecDepth 100000 in
theorem open_Cmd (hv : Value.okWide Tryz.prog W r b0 31 v) (h : DataW.Trod enc Tryz.prog W 0 (fun _ => true) true 31 v d p) :
    ∃ c : Big.Cmd, v = Big.cmdV c ∧ (-9223372036854775808 ≤ c.op ∧ c.op ≤ 9223372036854775807) ∧ (c.name.length ≤ maxLen ∧ c.other.length ≤ maxLen ∧ c.text.length ≤ maxLen) ∧ (-9223372036854775808 ≤ c.n ∧ c.n ≤ 9223372036854775807) := by
  have key := fun ho => open_agg5 Tryz.underlying31 ho cellsCmd hv h
  obtain ⟨v0, v1, v2, v3, v4, y0, y1, y2, y3, y4, n, rfl, h0, h1, h2, h3, h4⟩ := key (by kernel_rfl)
  obtain ⟨a0, rfl, b0, b1⟩ := int_of_trod h0
  obtain ⟨l1, rfl, e1⟩ := text_of_trod h1
  obtain ⟨l2, rfl, e2⟩ := text_of_trod h2
  obtain ⟨l3, rfl, e3⟩ := text_of_trod h3
  obtain ⟨a4, rfl, d0, d1⟩ := int_of_trod h4
  exact ⟨⟨a0, l1, l2, l3, a4⟩, rfl, ⟨b0, b1⟩, ⟨e1, e2, e3⟩, ⟨d0, d1⟩⟩
end
end Go.Proofs.YtoehdoghghpmjaaGreatDoor
