import Derived.Test.YtdijknnlldjgmaaDoorW27
import Derived.Test.YtdijknnlldjgmaaDoorWk
namespace Go.Proofs.YtdijknnlldjgmaaDoor
namespace Big
open Go.RowKit
set_option maxRecDepth 100000 in
theorem back_big (w : World) (neg : Bool) (A : Option Addr) (len c : Nat) (h : 120 < len) (hT : Tab16 w) :
    Calls Tryd.prog 4 #[.agg #[.bool neg, .slice A len c]] w fun e w' => e = .returned (.bool true) ∧ Ext w w' := by
  have HT := Lib.hid hT
  have HM := Lib.hid (fun W => mint_big2 W neg A len c 120 (by omega))
  clear hT h
  go_enter Tryd.func4, Tryd.ntmps4
  go_wp2_with fail
  refine (awake_any _ (HT.out.ext ((Ext.refl w).alloc _))).mono ?_
  rintro e1 w1 ⟨rfl, hx1⟩
  have hbk := (Blk.new w 24 #[Value.bool neg, Value.slice A len c]).ext hx1
  have HX1 := Lib.hid (((Ext.refl w).alloc _).trans hx1); clear hx1
  have hc0 : w1.cell? ⟨w.heap.size, 0, none⟩ = some (.bool neg) := hbk.cell 0
  have hc1 : w1.cell? ⟨w.heap.size, 1, none⟩ = some (.slice A len c) := hbk.cell 1
  clear hbk
  go_wp2_with fail
  refine (HM.out _).mono ?_
  rintro e2 w2 ⟨rfl, hx2⟩
  have HX2 := Lib.hid (HX1.out.trans hx2); clear hx2
  go_wp2_with fail
  go_ret
  exact ⟨rfl, HX2.out.alloc _⟩

set_option maxRecDepth 100000 in
theorem back_small (w : World) (neg : Bool) (v : Value) (xs : List Nat) (h : Arr w v xs) (hle : xs.length ≤ 120) (hT : Tab16 w) :
    Calls Tryd.prog 4 #[.agg #[.bool neg, v]] w fun e w' => e = .returned (.bool true) ∧ Ext w w' := by
  have HT := Lib.hid hT
  have HM := Lib.hid (fun W hx => mint_any W neg v xs 120 (h.ext hx) (by omega) (by omega))
  have hlz : (limbs (val xs)).length ≤ 120 := Nat.le_trans (length_limbs_val h.ok) hle
  have hld : (dec (val xs)).length ≤ 1200 := length_dec_le (by omega) (Nat.le_trans (length_low_val h.ok) (by omega))
  obtain ⟨z, hz⟩ : ∃ z, sgn neg (val xs) = z := ⟨_, rfl⟩
  have hzn : z.natAbs = val xs := by rw [← hz, natAbs_sgn]
  rw [← hzn] at hlz hld
  rw [hz] at HM
  have HF := Lib.hid (fun W v h => format_any W v z h (by omega))
  have HP := Lib.hid (fun W => parse_any W (fmtI z))
  rw [parse_fmt z (by omega)] at HP
  have HD := Lib.hid (fun W v h => digits_any W v (limbs z.natAbs) h (by omega))
  rw [val_limbs] at HD
  have HNA := Lib.hid (fun W => natural_any W (dec z.natAbs))
  rw [natural_dec _ (by omega)] at HNA
  have HS := Lib.hid (fun W v u h h' => same5_any W v u z z h h' (by omega) (by omega))
  have HR := Lib.hid (fun W v u h h' => rsame_self W v u z.natAbs h h' (by omega))
  obtain ⟨nx, A, c, rfl⟩ := h.shape
  clear hT h hz hzn hle hlz hld
  generalize fmtI z = lf at *
  generalize dec z.natAbs = ld at *
  go_enter Tryd.func4, Tryd.ntmps4
  go_wp2_with fail
  refine (awake_any _ (HT.out.ext ((Ext.refl w).alloc _))).mono ?_
  rintro e1 w1 ⟨rfl, hx1⟩
  obtain ⟨hc0, hc1, hf0, hf1, hlt⟩ := ((Blk.new w 24 #[Value.bool neg, Value.slice A nx c]).ext hx1).two
  have HX1 := Lib.hid (((Ext.refl w).alloc _).trans hx1); clear hx1
  go_wp2_with fail
  refine (HM.out _ HX1.out).mono ?_
  rintro e2 w2 ⟨v2, rfl, hi2, hx2⟩
  have HX2 := Lib.hid (HX1.out.trans hx2); clear hx2
  have HI2 := Lib.hid hi2
  obtain ⟨b2, n2, A2, c2, rfl⟩ := hi2.shape
  clear hi2 hc0 hc1 hf0 hf1 hlt
  go_wp2_with fail
  refine (HF.out _ _ (HI2.out.arr.ext ((Ext.refl w2).alloc _))).mono ?_
  rintro e3 w3 ⟨rfl, hx3⟩
  have HB3 := Lib.hid ((Blk.new w2 24 #[Value.bool b2, Value.slice A2 n2 c2]).ext hx3)
  have HX3 := Lib.hid (((Ext.refl w2).alloc _).trans hx3); clear hx3
  go_wp2_with fail
  refine (HP.out _).mono ?_
  rintro e4 w4 ⟨v4, rfl, hi4, hx4⟩
  have HB4 := Lib.hid (HB3.out.ext hx4)
  have HX4 := Lib.hid (HX3.out.trans hx4); clear hx4
  have HI4 := Lib.hid hi4
  obtain ⟨b4, n4, A4, c4, rfl⟩ := hi4.shape
  obtain ⟨hc0, hc1, hf0, hf1, hlt⟩ := HB4.out.two
  clear hi4
  go_wp2_with fail
  refine (HD.out _ _ (HI2.out.mag.arr.ext (HX4.out.alloc _))).mono ?_
  rintro e5 w5 ⟨rfl, hx5⟩
  have HB5 := Lib.hid ((Blk.new w4 24 #[Value.bool b4, Value.slice A4 n4 c4]).ext hx5)
  have HX45 := Lib.hid (((Ext.refl w4).alloc _).trans hx5); clear hx5
  clear hc0 hc1 hf0 hf1 hlt
  go_wp2_with fail
  refine (HNA.out _).mono ?_
  rintro e6 w6 ⟨v6, rfl, ho6, hx6⟩
  have HO6 := Lib.hid ho6.arr
  obtain ⟨n6, A6, c6, rfl⟩ := ho6.shape
  clear ho6
  have HX6 := Lib.hid (HX4.out.trans (HX45.out.trans hx6))
  have HX46 := Lib.hid (HX45.out.trans hx6)
  have HB6 := Lib.hid (HB4.out.ext HX46.out)
  obtain ⟨hc0, hc1, hf0, hf1, hlt⟩ := HB6.out.two
  obtain ⟨hd0, hd1, hg0, hg1, hlt2⟩ := (HB5.out.ext hx6).two
  clear hx6
  go_wp2_with fail
  refine (HS.out _ _ _ (HI2.out.arr.ext HX6.out) (HI4.out.arr.ext HX46.out)).mono ?_
  rintro e7 w7 ⟨rfl, hx7⟩
  clear hc0 hc1 hf0 hf1 hlt hd0 hd1 hg0 hg1 hlt2
  obtain ⟨hc0, hc1, hf0, hf1, hlt⟩ := (HB6.out.ext hx7).two
  have HX67 := Lib.hid hx7
  clear hx7
  simp only [decide_true]
  go_wp2_with fail
  refine (HR.out _ _ _ (HO6.out.ext HX67.out) (HI2.out.mag.arr.ext (HX6.out.trans HX67.out))).mono ?_
  rintro e8 w8 ⟨rfl, rfl⟩
  go_wp2_with fail
  go_ret
  exact ⟨rfl, HX2.out.trans (HX6.out.trans HX67.out)⟩

end Big
end Go.Proofs.YtdijknnlldjgmaaDoor
