import Derived.Test.YtbmmnpggadakdaaDoorW16
import Derived.Test.YtbmmnpggadakdaaDoorW17
import Derived.Test.YtbmmnpggadakdaaDoorW20
namespace Go.Proofs.YtbmmnpggadakdaaDoor
namespace Big
open Go.RowKit

theorem parse_m0 : parseI [45, 48] = (0, 6) := by decide
theorem parse_01 : parseI [48, 49] = (0, 6) := by decide
theorem fmt_m12 : fmtI (-12) = [45, 49, 50] := by decide
theorem hex_255 : hex16 255 = [48, 48, 48, 48, 48, 48, 48, 48, 48, 48, 48, 48, 48, 48, 102, 102] := by decide

theorem parse_m0_any (w : World) : Calls Tryd.prog 28 #[str [45, 48]] w (ParseRes w (0, 6)) := by
  have h1 := parse_any w [45, 48]
  rwa [parse_m0] at h1
theorem parse_01_any (w : World) : Calls Tryd.prog 28 #[str [48, 49]] w (ParseRes w (0, 6)) := by
  have h1 := parse_any w [48, 49]
  rwa [parse_01] at h1
theorem hex_255_any (w : World) (h : Tab16 w) : Calls Tryd.prog 24 #[.int .u64 255] w fun e w' => e = .returned (str [48, 48, 48, 48, 48, 48, 48, 48, 48, 48, 48, 48, 48, 48, 102, 102]) ∧ Ext w w' := by
  have h1 := hex_any w 255 (by omega) h
  rwa [hex_255] at h1

end Big
end Go.Proofs.YtbmmnpggadakdaaDoor
