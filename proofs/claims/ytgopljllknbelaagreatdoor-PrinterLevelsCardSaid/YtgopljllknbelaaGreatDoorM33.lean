import Derived.Test.YtgopljllknbelaaGreatDoorM32
import Derived.Test.YtgopljllknbelaaGreatDoorM7
import Derived.Test.YtgopljllknbelaaGreatDoorM9
import Derived.Test.YtgopljllknbelaaGreatDoorM19
import Derived.Test.YtgopljllknbelaaGreatDoorRows
import Derived.Test.YtgopljllknbelaaGreatDoorM25
import Derived.ProofKit
import Derived.LaidMore
import Derived.OpenShut
import Derived.Stop.Joined
import Derived.Lib.LaidTab
import Derived.LaidLaws
/- A list of integers that came in. -/
namespace Go.Proofs.YtgopljllknbelaaGreatDoor
open Go.ChangeShapes Go.WideShapes Go.ChangeAt Go.RowKit
theorem cellsOf_i64 : Tryz.prog.cellsOf 3 = 1 := by kernel_rfl
section
variable {H : Type} {enc : TypeId × Value → H} {W : World} {v : Value} {d : DataW H} {p : List MemPlace} {r : Reach} {b0 : Nat}
theorem nums_of_trod {fuel : Nat} {y : DataW H × List MemPlace} (h : DataW.trod enc Tryz.prog W 0 (fun _ => true) true fuel 22 [v] = some y) : ∃ xs, Big.ArrI W v xs := by
  rcases open_ints Tryz.underlying22 Tryz.underlying3 cellsOf_i64 h with ⟨hv, _⟩ | ⟨a, len, cap, zs, hv, _, hl, hm, hz, _, hc, hw⟩
  · injection hv with hv
    subst hv
    exact ⟨[], ⟨(fun x hx => by cases hx), Big.RArr.none_ W⟩⟩
  · injection hv with hv
    subst hv
    simp only [if_true] at hz
    refine ⟨zs.take len, fun x hx => bounds_i64 (hw x (List.mem_of_mem_take hx)), some a, cap, by simp; omega, by simp; omega, hm, fun hp => ?_⟩
    simp only [List.length_map, List.length_take] at hp
    obtain ⟨b, off, rfl, hcell⟩ := ints_at hc (by omega)
    have h0 := hcell 0 (by omega)
    refine ⟨b, off, rfl, World.block_lt_of_cell? W _ h0, fun j u hj => ?_⟩
    rw [List.getElem?_map] at hj
    have hjl : j < len := by
      rcases Nat.lt_or_ge j len with h | h
      · exact h
      · rw [List.getElem?_eq_none (by simp; omega)] at hj; cases hj
    have hj2 : j < zs.length := by omega
    rw [List.getElem?_take_of_lt hjl, List.getElem?_eq_getElem hj2] at hj
    injection hj with hj
    subst hj
    rw [hcell j (by omega)]
    have e1 : zs.getD j 0 = zs[j] := by rw [List.getD_eq_getElem?_getD, List.getElem?_eq_getElem hj2]; rfl
    rw [e1]
    rfl
set_option maxRecDepth 100000 in
theorem open_nums (hv : Value.okWide Tryz.prog W r b0 22 v) (h : DataW.Trod enc Tryz.prog W 0 (fun _ => true) true 22 v d p) : ∃ xs, Big.ArrI W v xs := by
  obtain ⟨a, len, cap, rfl⟩ := okWide_slice Tryz.underlying22 hv
  obtain ⟨fuel, hf⟩ := h
  obtain ⟨xs, hxs⟩ := nums_of_trod (by simpa [Value.cells] using hf)
  exact ⟨xs, hxs⟩
end
end Go.Proofs.YtgopljllknbelaaGreatDoor
/- A list of texts that came in. -/
namespace Go.Proofs.YtgopljllknbelaaGreatDoor
open Go.ChangeShapes Go.WideShapes Go.ChangeAt Go.RowKit
theorem cellsOf_str : Tryz.prog.cellsOf 9 = 1 := by kernel_rfl
section
variable {H : Type} {enc : TypeId × Value → H} {W : World} {v : Value} {d : DataW H} {p : List MemPlace} {r : Reach} {b0 : Nat}
theorem texts_of_trod {fuel : Nat} {y : DataW H × List MemPlace} (h : DataW.trod enc Tryz.prog W 0 (fun _ => true) true fuel 32 [v] = some y) : ∃ ls, Big.ArrS W v ls := by
  rcases Deep.open_strs Tryz.underlying32 Tryz.underlying9 cellsOf_str h with ⟨hv, _⟩ | ⟨a, len, cap, m, Sx, hv, _, hl, hm, hmm, _, hc⟩
  · injection hv with hv
    subst hv
    exact ⟨[], Big.RArr.none_ W⟩
  · injection hv with hv
    subst hv
    simp only [if_true] at hmm
    refine ⟨(List.range len).map (fun i => (Sx i).data.toList), some a, cap, by simp, by simpa using hl, hm, fun hp => ?_⟩
    simp only [List.length_map, List.length_range] at hp
    have h0 := (hc 0 (by omega)).1
    obtain ⟨b, off, spot⟩ := a
    have hspot : spot = none := by simpa [Addr.add] using World.cell?_spot h0
    subst hspot
    have hlt := World.block_lt_of_cell? W _ h0
    have hlt' : b < W.heap.size := by simpa [Addr.add] using hlt
    refine ⟨b, off, rfl, hlt', fun j u hj => ?_⟩
    rw [List.getElem?_map, List.getElem?_map] at hj
    have hjl : j < len := by
      rcases Nat.lt_or_ge j len with h | h
      · exact h
      · rw [List.getElem?_eq_none (by simpa using h)] at hj; cases hj
    rw [List.getElem?_range hjl] at hj
    injection hj with hj
    subst hj
    have := (hc j (by omega)).1
    rw [Go.WideShapes.add_plain] at this
    exact this
set_option maxRecDepth 100000 in
theorem open_texts (hv : Value.okWide Tryz.prog W r b0 32 v) (h : DataW.Trod enc Tryz.prog W 0 (fun _ => true) true 32 v d p) : ∃ ls, Big.ArrS W v ls := by
  obtain ⟨a, len, cap, rfl⟩ := okWide_slice Tryz.underlying32 hv
  obtain ⟨fuel, hf⟩ := h
  exact texts_of_trod (by simpa [Value.cells] using hf)
end
end Go.Proofs.YtgopljllknbelaaGreatDoor
/- A node that came in. -/
namespace Go.Proofs.YtgopljllknbelaaGreatDoor
open Go.ChangeShapes Go.WideShapes Go.ChangeAt Go.RowKit
theorem array5 {α : Type} {cs : Array α} (h : cs.size = 5) : ∃ c0 c1 c2 c3 c4, cs = #[c0, c1, c2, c3, c4] := by
  obtain ⟨l⟩ := cs
  match l, h with
  | [c0, c1, c2, c3, c4], _ => exact ⟨c0, c1, c2, c3, c4, rfl⟩
section
variable {H : Type} {enc : TypeId × Value → H} {P : Program} {w : World} {base : Nat} {spare : Nat → Bool} {held : Bool}
theorem open_agg5 {r : Reach} {b0 : Nat} {t : TypeId} {f0 f1 f2 f3 f4 : Field} {v : Value} {d : DataW H} {p : List MemPlace} (hs : P.underlying t = some (.struct #[f0, f1, f2, f3, f4])) (hone : Go.Deep.oneCellFields P #[f0, f1, f2, f3, f4] = true) (hC : P.cellsOf t = 5)
    (hv : Value.okWide P w r b0 t v) (h : DataW.Trod enc P w base spare held t v d p) :
    ∃ (v0 v1 v2 v3 v4 : Value) (y0 y1 y2 y3 y4 : DataW H × List MemPlace) (n : Nat), v = .agg #[v0, v1, v2, v3, v4] ∧
      DataW.trod enc P w base spare held n f0.type [v0] = some y0 ∧ DataW.trod enc P w base spare held n f1.type [v1] = some y1 ∧ DataW.trod enc P w base spare held n f2.type [v2] = some y2 ∧ DataW.trod enc P w base spare held n f3.type [v3] = some y3 ∧ DataW.trod enc P w base spare held n f4.type [v4] = some y4 := by
  obtain ⟨cs, rfl, hsz⟩ := okWide_struct hs hv
  obtain ⟨c0, c1, c2, c3, c4, rfl⟩ := array5 (hsz.trans hC)
  obtain ⟨fuel, hf⟩ := h
  obtain ⟨xs, n, _, _, _, hlen, hx⟩ := DataW.trod_struct hs hf
  obtain ⟨o0, k0⟩ := Go.Deep.hone_of hone 0 f0 rfl
  obtain ⟨o1, k1⟩ := Go.Deep.hone_of hone 1 f1 rfl
  obtain ⟨o2, k2⟩ := Go.Deep.hone_of hone 2 f2 rfl
  obtain ⟨o3, k3⟩ := Go.Deep.hone_of hone 3 f3 rfl
  obtain ⟨o4, k4⟩ := Go.Deep.hone_of hone 4 f4 rfl
  have x0 := hx 0 f0 rfl
  have x1 := hx 1 f1 rfl
  have x2 := hx 2 f2 rfl
  have x3 := hx 3 f3 rfl
  have x4 := hx 4 f4 rfl
  rw [o0, k0] at x0
  rw [o1, k1] at x1
  rw [o2, k2] at x2
  rw [o3, k3] at x3
  rw [o4, k4] at x4
  have hl : xs.length = 5 := hlen
  clear hx hlen hone hs hf
  match xs, hl with
  | [y0, y1, y2, y3, y4], _ => exact ⟨c0, c1, c2, c3, c4, y0, y1, y2, y3, y4, n, rfl, by simpa [Value.cells] using x0, by simpa [Value.cells] using x1, by simpa [Value.cells] using x2, by simpa [Value.cells] using x3, by simpa [Value.cells] using x4⟩
end
theorem cellsNode : Tryz.prog.cellsOf 42 = 5 := by kernel_rfl
section
variable {H : Type} {enc : TypeId × Value → H} {W : World} {fuel : Nat} {v : Value} {y : DataW H × List MemPlace}
theorem int_of_trod (h : DataW.trod enc Tryz.prog W 0 (fun _ => true) true fuel 3 [v] = some y) : ∃ n, v = .int .i64 n ∧ -9223372036854775808 ≤ n ∧ n ≤ 9223372036854775807 := by
  obtain ⟨n, hn, _, hw⟩ := DataW.trod_int Tryz.underlying3 h
  injection hn with hn
  have := bounds_i64 hw
  exact ⟨n, hn, this.1, this.2⟩
theorem text_of_trod (h : DataW.trod enc Tryz.prog W 0 (fun _ => true) true fuel 9 [v] = some y) : ∃ l, v = Big.str l ∧ l.length ≤ maxLen := by
  obtain ⟨s, hn, _, hw⟩ := DataW.trod_string Tryz.underlying9 h
  injection hn with hn
  obtain ⟨l, hl, rfl⟩ := str_of_bytes hw
  exact ⟨l, hn, hl⟩
end
section
variable {H : Type} {enc : TypeId × Value → H} {W : World} {v : Value} {d : DataW H} {p : List MemPlace} {r : Reach} {b0 : Nat}
set_option maxRecDepth 100000 in
theorem open_Node (hv : Value.okWide Tryz.prog W r b0 42 v) (h : DataW.Trod enc Tryz.prog W 0 (fun _ => true) true 42 v d p) :
    ∃ c : Big.Nd, v = Big.ndV c ∧ (-9223372036854775808 ≤ c.kind ∧ c.kind ≤ 9223372036854775807) ∧ c.text.length ≤ maxLen := by
  have key := fun ho => open_agg5 Tryz.underlying42 ho cellsNode hv h
  obtain ⟨v0, v1, v2, v3, v4, y0, y1, y2, y3, y4, n, rfl, h0, h1, h2, h3, h4⟩ := key (by kernel_rfl)
  obtain ⟨a0, rfl, b0, b1⟩ := int_of_trod h0
  obtain ⟨a1, rfl, _, _⟩ := int_of_trod h1
  obtain ⟨a2, rfl, _, _⟩ := int_of_trod h2
  obtain ⟨a3, rfl, _, _⟩ := int_of_trod h3
  obtain ⟨l4, rfl, e4⟩ := text_of_trod h4
  exact ⟨⟨a0, a1, a2, a3, l4⟩, rfl, ⟨b0, b1⟩, e4⟩
end
end Go.Proofs.YtgopljllknbelaaGreatDoor
/- What the condition on the listed variables gives: the table that Itoa reads. -/
namespace Go.Proofs.YtgopljllknbelaaGreatDoor
open Go.ChangeShapes Go.WideShapes Go.ChangeAt Go.RowKit
theorem gPow : Tryz.prog.globalNamed "internal/strconv.uint64pow10" = some 1 := by kernel_rfl
theorem tPow : (Tryz.prog.globals[1]?).map (·.type) = some 185 := by kernel_rfl
theorem cellsPow : Tryz.prog.cellsOf 185 = 20 := by kernel_rfl
theorem cellsU64 : Tryz.prog.cellsOf 128 = 1 := by kernel_rfl
theorem pow_of_laid {W : World} {l : List (String × DataW Unit)} (k : Nat) (h : laidMetH Tryz.prog l W) (hp : (l.all fun x => x.2.handleName?.isNone) = true) (hk : l[k]? = some ("internal/strconv.uint64pow10", Rows.laid_internal_strconv_uint64pow10)) : Big.Pow10 W := by
  obtain ⟨g1, t1, cs1, f1, p1, hg1, ht1, hv1, hd1⟩ := laid_at k h hp hk
  obtain rfl := Option.some.inj (gPow.symm.trans hg1)
  obtain rfl := Option.some.inj (tPow.symm.trans ht1)
  have hcs := Lib.cells_of_tab (zs := Lib.pow10Tab) (k := .u64) Tryz.underlying185 Tryz.underlying128 cellsU64 cellsPow (show DataW.trod _ Tryz.prog W 0 _ false f1 185 cs1.toList = some (Lib.tabData .u64 Lib.pow10Tab, p1) from hd1)
  show W.var? Tryz.prog "internal/strconv.uint64pow10" = some _
  rw [hv1]
  congr 1
  apply Array.ext'
  rw [hcs]
end Go.Proofs.YtgopljllknbelaaGreatDoor
