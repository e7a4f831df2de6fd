import Derived.Test.YtdijknnlldjgmaaDoorW16
import Derived.Test.YtdijknnlldjgmaaDoorW17
import Derived.Test.YtdijknnlldjgmaaDoorW20
namespace Go.Proofs.YtdijknnlldjgmaaDoor
namespace Big
open Go.RowKit

theorem parse_m0 : parseI [45, 48] = (0, 6) := by decide
theorem parse_01 : parseI [48, 49] = (0, 6) := by decide
theorem fmt_m12 : fmtI (-12) = [45, 49, 50] := by decide
theorem hex_255 : hex16 255 = [48, 48, 48, 48, 48, 48, 48, 48, 48, 48, 48, 48, 48, 48, 102, 102] := by decide

theorem parse_m0_any (w : World) : Calls Tryd.prog 15 #[str [45, 48]] w (ParseRes w (0, 6)) := by
  have h1 := parse_any w [45, 48]
  rwa [parse_m0] at h1
theorem parse_01_any (w : World) : Calls Tryd.prog 15 #[str [48, 49]] w (ParseRes w (0, 6)) := by
  have h1 := parse_any w [48, 49]
  rwa [parse_01] at h1
theorem format_m12_any (w : World) (v : Value) (h : ArrInt w v (-12)) : Calls Tryd.prog 11 #[v] w fun e w' => e = .returned (str [45, 49, 50]) ∧ Ext w w' := by
  have h1 := format_any w v (-12) h (by decide)
  rwa [fmt_m12] at h1
theorem hex_255_any (w : World) (h : Tab16 w) : Calls Tryd.prog 27 #[.int .u64 255] w fun e w' => e = .returned (str [48, 48, 48, 48, 48, 48, 48, 48, 48, 48, 48, 48, 48, 48, 102, 102]) ∧ Ext w w' := by
  have h1 := hex_any w 255 (by omega) h
  rwa [hex_255] at h1

theorem awake_any (w : World) (hT : Tab16 w) : Calls Tryd.prog 9 #[] w fun e w' => e = .returned (.bool true) ∧ Ext w w' := by
  have HT := Lib.hid hT
  clear hT
  go_enter Tryd.func9, Tryd.ntmps9
  go_wp2_with fail
  refine (parse_m0_any _).mono ?_
  rintro e1 w1 ⟨v1, rfl, hi1, hx1⟩
  have HX1 := Lib.hid hx1
  obtain ⟨m1, hv1, ho1⟩ := hi1
  obtain ⟨A1, c1, hm1, _⟩ := ho1.2
  subst hm1
  subst hv1
  clear ho1 hx1
  go_wp2_with fail
  generalize (limbs (Int.natAbs 0)).length = n1
  refine (parse_01_any _).mono ?_
  rintro e2 w2 ⟨v2, rfl, hi2, hx2⟩
  have HX2 := Lib.hid ((HX1.out.alloc _).trans hx2)
  obtain ⟨m2, hv2, ho2⟩ := hi2
  obtain ⟨A2, c2, hm2, _⟩ := ho2.2
  subst hm2
  subst hv2
  clear ho2 hx2
  go_wp2_with fail
  refine (iof_neg _ (-12) (by omega) (by omega)).mono ?_
  rintro e3 w3 ⟨v3, rfl, hi3, hx3⟩
  have HX3 := Lib.hid ((HX2.out.alloc _).trans hx3)
  have HI3 := Lib.hid hi3.arr
  clear hx3 hi3
  go_wp2_with fail
  refine (format_m12_any _ _ HI3.out).mono ?_
  rintro e4 w4 ⟨rfl, hx4⟩
  have HX4 := Lib.hid (HX3.out.trans hx4)
  clear hx4
  go_wp2_with fail
  refine (hex_255_any _ (HT.out.ext HX4.out)).mono ?_
  rintro e5 w5 ⟨rfl, hx5⟩
  have HX5 := Lib.hid (HX4.out.trans hx5)
  clear hx5
  go_wp2_with fail
  go_ret
  exact ⟨rfl, HX5.out⟩
end Big
end Go.Proofs.YtdijknnlldjgmaaDoor
