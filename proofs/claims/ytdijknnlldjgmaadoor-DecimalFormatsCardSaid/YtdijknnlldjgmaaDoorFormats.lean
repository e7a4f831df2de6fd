import Derived.Test.YtdijknnlldjgmaaDoorW21
import Derived.Test.YtdijknnlldjgmaaDoorW27
import Derived.Test.YtdijknnlldjgmaaDoorWk
import Derived.Deep.RegionHeld3
/- DecimalFormats: what the texts of numbers are. -/
namespace Go.Proofs.YtdijknnlldjgmaaDoor
namespace Big
open Go.RowKit

/-- What a region of loads of one struct of two cells and of calls that make memory keeps. -/
def Two (wo : World) (g : Nat) (a b : Value) (w : World) : Prop := Ext wo w ∧ w.cell? ⟨g, 0, none⟩ = some a ∧ w.cell? ⟨g, 1, none⟩ = some b
theorem two_step {wo w1 w2 : World} {g : Nat} {a b : Value} (h : Ext wo w1 ∧ w1.cell? ⟨g, 0, none⟩ = some a ∧ w1.cell? ⟨g, 1, none⟩ = some b) (hx : Ext w1 w2) : Ext wo w2 ∧ w2.cell? ⟨g, 0, none⟩ = some a ∧ w2.cell? ⟨g, 1, none⟩ = some b :=
  have hlt := World.block_lt_of_cell? w1 _ h.2.1
  ⟨h.1.trans hx, (hx.cell hlt).trans h.2.1, (hx.cell hlt).trans h.2.2⟩
set_option maxRecDepth 100000 in
theorem formats_small (w : World) (neg : Bool) (v : Value) (xs : List Nat) (h : Arr w v xs) (hle : xs.length ≤ 25) (hT : Tab16 w) :
    Calls Tryd.prog 3 #[.agg #[.bool neg, v]] w fun e w' => e = .returned (.bool true) ∧ Ext w w' := by
  have HT := Lib.hid hT
  have HM := Lib.hid (fun W hx => mint_any W neg v xs 25 (h.ext hx) (by omega) (by omega))
  have hlz : (limbs (val xs)).length ≤ 25 := Nat.le_trans (length_limbs_val h.ok) hle
  obtain ⟨z, hz⟩ : ∃ z, sgn neg (val xs) = z := ⟨_, rfl⟩
  have hzn : z.natAbs = val xs := by rw [← hz, natAbs_sgn]
  rw [← hzn] at hlz
  rw [hz] at HM
  have HF := Lib.hid (fun W v h => format_any W v z h (by omega))
  have HRF := Lib.hid (fun W v h => rformat_any W v z h (by omega))
  have HD := Lib.hid (fun W v h => digits_any W v (limbs z.natAbs) h (by omega))
  rw [val_limbs] at HD
  have HRD := Lib.hid (fun W v h => rdigits_any W v z.natAbs h (by omega))
  obtain ⟨nx, A, c, rfl⟩ := h.shape
  clear hT h hz hzn hle hlz
  generalize fmtI z = lf at *
  generalize dec z.natAbs = ld at *
  go_enter Tryd.func3, Tryd.ntmps3
  go_wp2_with fail
  refine (awake_any _ (HT.out.ext ((Ext.refl w).alloc _))).mono ?_
  rintro e1 w1 ⟨rfl, hx1⟩
  obtain ⟨hc0, hc1, hf0, hf1, hlt⟩ := ((Blk.new w 24 #[Value.bool neg, Value.slice A nx c]).ext hx1).two
  have HX1 := Lib.hid (((Ext.refl w).alloc _).trans hx1); clear hx1
  go_wp2_with fail
  refine (HM.out _ HX1.out).mono ?_
  rintro e2 w2 ⟨v2, rfl, hi2, hx2⟩
  have HX2 := Lib.hid (HX1.out.trans hx2); clear hx2
  have HI2 := Lib.hid hi2
  obtain ⟨b2, n2, A2, c2, rfl⟩ := hi2.shape
  clear hi2 hc0 hc1 hf0 hf1 hlt
  go_wp2_with fail
  have hbk := Blk.new w2 24 #[Value.bool b2, Value.slice A2 n2 c2]
  have hxo := (Ext.refl w2).alloc (.cells #[Value.bool b2, Value.slice A2 n2 c2] 24)
  generalize w2.alloc (.cells #[Value.bool b2, Value.slice A2 n2 c2] 24) = wo at *
  have HXO := Lib.hid hxo; clear hxo
  have h0 := hbk.cell 0
  have h1 := hbk.cell 1
  generalize w2.heap.size = g at *
  have H0 : wo.cell? ⟨g, 0, none⟩ = some (.bool b2) := h0
  have H1 : wo.cell? ⟨g, 1, none⟩ = some (.slice A2 n2 c2) := h1
  clear hbk h0 h1
  go_region_held3 (fun w' => Ext wo w' ∧ w'.cell? ⟨g, 0, none⟩ = some (.bool b2) ∧ w'.cell? ⟨g, 1, none⟩ = some (.slice A2 n2 c2))
    (first | (exact ⟨(Ext.refl wo).drew, (World.cell?_drew wo _).trans H0, (World.cell?_drew wo _).trans H1⟩) | (exact two_step (by assumption) (by assumption)))
    (first
      | (go_at_call 11; refine (HF.out _ _ ?_).mono ?_; (exact HI2.out.arr.ext (HXO.out.trans (And.left (by assumption)))); rintro e w' ⟨rfl, hx⟩)
      | (go_at_call 12; refine (HRF.out _ _ ?_).mono ?_; (exact HI2.out.arr.ext (HXO.out.trans (And.left (by assumption)))); rintro e w' ⟨rfl, hx⟩)
      | (go_at_call 13; refine (HD.out _ _ ?_).mono ?_; (exact HI2.out.mag.arr.ext (HXO.out.trans (And.left (by assumption)))); rintro e w' ⟨rfl, hx⟩)
      | (go_at_call 14; refine (HRD.out _ _ ?_).mono ?_; (exact HI2.out.mag.arr.ext (HXO.out.trans (And.left (by assumption)))); rintro e w' ⟨rfl, hx⟩))
  go_wp2_with fail
  go_ret
  exact ⟨rfl, HX2.out.trans (HXO.out.trans (And.left (by assumption)))⟩

theorem formats_big (w : World) (neg : Bool) (A : Option Addr) (len c : Nat) (h : 25 < len) (hT : Tab16 w) :
    Calls Tryd.prog 3 #[.agg #[.bool neg, .slice A len c]] w fun e w' => e = .returned (.bool true) ∧ Ext w w' := by
  have HT := Lib.hid hT
  have HM := Lib.hid (fun W => mint_big2 W neg A len c 25 (by omega))
  clear hT h
  go_enter Tryd.func3, Tryd.ntmps3
  go_wp2_with fail
  refine (awake_any _ (HT.out.ext ((Ext.refl w).alloc _))).mono ?_
  rintro e1 w1 ⟨rfl, hx1⟩
  obtain ⟨hc0, hc1, hf0, hf1, hlt⟩ := ((Blk.new w 24 #[Value.bool neg, Value.slice A len c]).ext hx1).two
  have HX1 := Lib.hid (((Ext.refl w).alloc _).trans hx1); clear hx1
  go_wp2_with fail
  refine (HM.out _).mono ?_
  rintro e2 w2 ⟨rfl, hx2⟩
  have HX2 := Lib.hid (HX1.out.trans hx2); clear hx2
  go_wp2_with fail
  go_ret
  exact ⟨rfl, HX2.out.alloc _⟩

theorem formats_any (w : World) (neg : Bool) (v : Value) (xs : List Nat) (h : Arr w v xs) (hT : Tab16 w) :
    Calls Tryd.prog 3 #[.agg #[.bool neg, v]] w fun e w' => e = .returned (.bool true) ∧ Ext w w' := by
  rcases Nat.lt_or_ge 25 xs.length with hb | hs
  · obtain ⟨n, A, c, rfl⟩ := h.shape
    have := h.len
    exact formats_big w neg A n c (by omega) hT
  · exact formats_small w neg v xs h hs hT
end Big
end Go.Proofs.YtdijknnlldjgmaaDoor
