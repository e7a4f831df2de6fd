import Derived.Test.YtdijknnlldjgmaaDoorW13
import Derived.Test.YtdijknnlldjgmaaDoorW14
import Derived.Test.YtdijknnlldjgmaaDoorW15
namespace Go.Proofs.YtdijknnlldjgmaaDoor
namespace Big
open Go.RowKit

/-- The text of an integer. -/
def fmtI (z : Int) : List UInt8 := if z < 0 then 45 :: dec z.natAbs else dec z.natAbs
theorem length_dec_le {n k : Nat} (hk : 1 ≤ k) (h : (low n).length ≤ k) : (dec n).length ≤ k := by
  unfold dec
  split
  · simpa using hk
  · simpa using h
theorem dec_len (N : Nat) (h : (limbs N).length ≤ 67108864) : (dec N).length ≤ 1073741823 := by
  refine length_dec_le (by omega) ?_
  have := length_low_val (ok_limbs N)
  rw [val_limbs] at this
  omega

theorem format_any (w : World) (v : Value) (z : Int) (h : ArrInt w v z) (hn : (limbs z.natAbs).length ≤ 67108864) :
    Calls Tryd.prog 11 #[v] w fun e w' => e = .returned (str (fmtI z)) ∧ Ext w w' := by
  obtain ⟨m, rfl, ha⟩ := h
  have hl := dec_len z.natAbs hn
  have HD := Lib.hid (fun W hx => digits_any W m (limbs z.natAbs) (ha.ext hx) hn)
  obtain ⟨_, A, c, rfl, _⟩ := ha.open
  clear ha
  have hF : fmtI z = if z < 0 then [45] ++ dec z.natAbs else dec z.natAbs := rfl
  have HF := Lib.hid hF; clear hF
  have hadd := run_add_str [45] (dec z.natAbs) (by simp; omega)
  rcases Int.lt_or_le z 0 with hz | hz
  · rw [decide_eq_true hz]
    rw [val_limbs] at HD
    have HZ := Lib.hid (show (if z < 0 then [45] ++ dec z.natAbs else dec z.natAbs) = [45] ++ dec z.natAbs from if_pos hz)
    clear hz
    generalize dec z.natAbs = dz at *
    generalize (limbs z.natAbs).length = ln at *
    go_enter Tryd.func11, Tryd.ntmps11
    go_wp2_with fail
    refine (HD.out _ ((Ext.refl w).alloc _)).mono ?_
    rintro e w1 ⟨rfl, hx⟩
    simp only [str, List.cons_append, List.nil_append] at hadd ⊢
    go_wp2_with fail
    go_ret
    exact ⟨congrArg (fun l => Ending.returned (str l)) (HF.out.trans HZ.out).symm, ((Ext.refl w).alloc _).trans hx⟩
  · rw [decide_eq_false (by omega)]
    rw [val_limbs] at HD
    have HZ := Lib.hid (show (if z < 0 then [45] ++ dec z.natAbs else dec z.natAbs) = dec z.natAbs from if_neg (show ¬ z < 0 by omega))
    clear hz
    generalize dec z.natAbs = dz at *
    generalize (limbs z.natAbs).length = ln at *
    go_enter Tryd.func11, Tryd.ntmps11
    go_wp2_with fail
    refine (HD.out _ ((Ext.refl w).alloc _)).mono ?_
    rintro e w1 ⟨rfl, hx⟩
    go_wp2_with fail
    go_ret
    exact ⟨congrArg (fun l => Ending.returned (str l)) (HF.out.trans HZ.out).symm, ((Ext.refl w).alloc _).trans hx⟩
theorem rformat_any (w : World) (v : Value) (z : Int) (h : ArrInt w v z) (hn : (limbs z.natAbs).length ≤ 67108864) :
    Calls Tryd.prog 12 #[v] w fun e w' => e = .returned (str (fmtI z)) ∧ Ext w w' := by
  obtain ⟨m, rfl, ha⟩ := h
  have hl := dec_len z.natAbs hn
  have HD := Lib.hid (fun W hx => rdigits_any W m z.natAbs (ha.ext hx) hn)
  obtain ⟨_, A, c, rfl, _⟩ := ha.open
  clear ha
  have hF : fmtI z = if z < 0 then [45] ++ dec z.natAbs else dec z.natAbs := rfl
  have HF := Lib.hid hF; clear hF
  have hadd := run_add_str [45] (dec z.natAbs) (by simp; omega)
  rcases Int.lt_or_le z 0 with hz | hz
  · rw [decide_eq_true hz]
    have HZ := Lib.hid (show (if z < 0 then [45] ++ dec z.natAbs else dec z.natAbs) = [45] ++ dec z.natAbs from if_pos hz)
    clear hz
    generalize dec z.natAbs = dz at *
    generalize (limbs z.natAbs).length = ln at *
    go_enter Tryd.func12, Tryd.ntmps12
    go_wp2_with fail
    refine (HD.out _ ((Ext.refl w).alloc _)).mono ?_
    rintro e w1 ⟨rfl, hx⟩
    simp only [str, List.cons_append, List.nil_append] at hadd ⊢
    go_wp2_with fail
    go_ret
    exact ⟨congrArg (fun l => Ending.returned (str l)) (HF.out.trans HZ.out).symm, ((Ext.refl w).alloc _).trans hx⟩
  · rw [decide_eq_false (by omega)]
    have HZ := Lib.hid (show (if z < 0 then [45] ++ dec z.natAbs else dec z.natAbs) = dec z.natAbs from if_neg (show ¬ z < 0 by omega))
    clear hz
    generalize dec z.natAbs = dz at *
    generalize (limbs z.natAbs).length = ln at *
    go_enter Tryd.func12, Tryd.ntmps12
    go_wp2_with fail
    refine (HD.out _ ((Ext.refl w).alloc _)).mono ?_
    rintro e w1 ⟨rfl, hx⟩
    go_wp2_with fail
    go_ret
    exact ⟨congrArg (fun l => Ending.returned (str l)) (HF.out.trans HZ.out).symm, ((Ext.refl w).alloc _).trans hx⟩
end Big
end Go.Proofs.YtdijknnlldjgmaaDoor
