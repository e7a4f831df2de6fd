import Derived.Test.YtglmfalabkdplaaDoorRows
import Derived.Test.YtglmfalabkdplaaDoorW17
import Derived.ProofKit
import Derived.LaidMore
import Derived.OpenShut
import Derived.Stop.Joined
import Derived.Lib.LaidTab
/- What the condition on the listed variables gives the walks. -/
namespace Go.Proofs.YtglmfalabkdplaaDoor
open Go.ChangeShapes Go.WideShapes Go.ChangeAt Go.RowKit

theorem own : ownKnob Tryd.prog.godebug = none := by kernel_rfl
theorem g64 : Tryd.prog.globalNamed "math/bits.deBruijn64tab" = some 4 := by kernel_rfl
theorem t64 : (Tryd.prog.globals[4]?).map (·.type) = some 104 := by kernel_rfl
theorem cells64 : Tryd.prog.cellsOf 104 = 64 := by kernel_rfl
theorem cells8 : Tryd.prog.cellsOf 5 = 1 := by kernel_rfl

/-- The three tables that the rows list. -/
def laid3 : List (String × DataW Unit) := [("math/bits.deBruijn32tab", Rows.laid_math_bits_deBruijn32tab), ("math/bits.deBruijn64tab", Rows.laid_math_bits_deBruijn64tab), ("internal/strconv.uint64pow10", Rows.laid_internal_strconv_uint64pow10)]

theorem door_met (os : Os) (args : Array Value) : laidMetH Tryd.prog laid3 ((World.doorLaid Tryd.prog 400 os).forCall (fun _ _ => 0) ⟨#[], args, []⟩).memory :=
  laidMetH_of_parts3 (fuel := 8) (laidMet_of_run' 8 (by kernel_rfl) (by kernel_rfl)) (by kernel_rfl) (by kernel_rfl)

def tab64 : List Int := [0, 1, 56, 2, 57, 49, 28, 3, 61, 58, 42, 50, 38, 29, 17, 4, 62, 47, 59, 36, 45, 43, 51, 22, 53, 39, 33, 30, 24, 18, 12, 5, 63, 55, 48, 27, 60, 41, 37, 16, 46, 35, 44, 21, 52, 32, 23, 11, 54, 26, 40, 15, 34, 20, 31, 10, 25, 14, 19, 9, 13, 8, 7, 6]

theorem tab16_of_laid {W : World} (h : laidMetH Tryd.prog laid3 W) : Big.Tab16 W := by
  rw [MakeChecks.laidMetH_plain _ _ _ (by kernel_rfl)] at h
  obtain ⟨ps, ⟨g0, t0, cs0, f0, p0, q0, hg0, ht0, hv0, hd0, ⟨g1, t1, cs1, f1, p1, q1, hg1, ht1, hv1, hd1, _, _⟩, _⟩, _, _⟩ := h
  obtain rfl := Option.some.inj (g64.symm.trans hg1)
  obtain rfl := Option.some.inj (t64.symm.trans ht1)
  have hcs := Lib.cells_of_tab (zs := tab64) (k := .u8) Tryd.underlying104 Tryd.underlying5 cells8 cells64 (show DataW.trod _ Tryd.prog W 0 _ false f1 104 cs1.toList = some (Lib.tabData .u8 tab64, p1) from hd1)
  have hc := World.var?_cell hg1 hv1 15
  have h15 : cs1[15]? = some (.int .u8 4) := by
    rw [← Array.getElem?_toList, hcs]
    rfl
  rw [h15] at hc
  exact ⟨hc, World.block_lt_of_cell? W _ hc⟩
end Go.Proofs.YtglmfalabkdplaaDoor
