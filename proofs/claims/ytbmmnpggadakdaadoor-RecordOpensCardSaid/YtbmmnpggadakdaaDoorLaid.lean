import Derived.Test.YtbmmnpggadakdaaDoorRows
import Derived.Test.YtbmmnpggadakdaaDoorFrame
import Derived.Test.YtbmmnpggadakdaaDoorW17
import Derived.ProofKit
import Derived.LaidMore
import Derived.OpenShut
import Derived.Stop.Joined
import Derived.Lib.LaidTab
/- What the condition on the listed variables gives the walks. -/
namespace Go.Proofs.YtbmmnpggadakdaaDoor
open Go.ChangeShapes Go.WideShapes Go.ChangeAt Go.RowKit

theorem g64 : Tryd.prog.globalNamed "math/bits.deBruijn64tab" = some 7 := by kernel_rfl
theorem t64 : (Tryd.prog.globals[7]?).map (·.type) = some 122 := by kernel_rfl
theorem cells64 : Tryd.prog.cellsOf 122 = 64 := by kernel_rfl
theorem cells8 : Tryd.prog.cellsOf 5 = 1 := by kernel_rfl

def tab64 : List Int := [0, 1, 56, 2, 57, 49, 28, 3, 61, 58, 42, 50, 38, 29, 17, 4, 62, 47, 59, 36, 45, 43, 51, 22, 53, 39, 33, 30, 24, 18, 12, 5, 63, 55, 48, 27, 60, 41, 37, 16, 46, 35, 44, 21, 52, 32, 23, 11, 54, 26, 40, 15, 34, 20, 31, 10, 25, 14, 19, 9, 13, 8, 7, 6]

theorem tab16_of_laid {W : World} {l : List (String × DataW Unit)} (i : Nat) (h : laidMetH Tryd.prog l W) (hp : (l.all fun x => x.2.handleName?.isNone) = true) (hn : l[i]? = some ("math/bits.deBruijn64tab", Rows.laid_math_bits_deBruijn64tab)) : Big.Tab16 W := by
  obtain ⟨g1, t1, cs1, f1, p1, hg1, ht1, hv1, hd1⟩ := laid_at i h hp hn
  obtain rfl := Option.some.inj (g64.symm.trans hg1)
  obtain rfl := Option.some.inj (t64.symm.trans ht1)
  have hcs := Lib.cells_of_tab (zs := tab64) (k := .u8) Tryd.underlying122 Tryd.underlying5 cells8 cells64 (show DataW.trod _ Tryd.prog W 0 _ false f1 122 cs1.toList = some (Lib.tabData .u8 tab64, p1) from hd1)
  have hc := World.var?_cell hg1 hv1 15
  have h15 : cs1[15]? = some (.int .u8 4) := by
    rw [← Array.getElem?_toList, hcs]
    rfl
  rw [h15] at hc
  exact ⟨hc, World.block_lt_of_cell? W _ hc⟩
end Go.Proofs.YtbmmnpggadakdaaDoor
