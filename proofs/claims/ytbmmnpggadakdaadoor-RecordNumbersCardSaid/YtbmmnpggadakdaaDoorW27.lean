import Derived.Test.YtbmmnpggadakdaaDoorW21
import Derived.Test.YtbmmnpggadakdaaDoorNum2
import Derived.Test.YtbmmnpggadakdaaDoorNum3
/- DecimalBack: what is written reads back; sameness of integers. -/
namespace Go.Proofs.YtbmmnpggadakdaaDoor
namespace Big
open Go.RowKit

theorem parse_fmt (z : Int) (h : (dec z.natAbs).length ≤ 20000) : parseI (fmtI z) = (z, 0) := by
  have hn := natural_dec z.natAbs (by omega)
  unfold parseI fmtI
  by_cases hz : z < 0
  · rw [if_pos hz, if_neg (by rw [List.length_cons]; omega)]
    simp only [List.head?_cons, List.tail_cons, beq_self_eq_true, if_true, hn]
    rw [if_neg (by simp; omega)]
    simp [sgn]
    omega
  · rw [if_neg hz, if_neg (by omega)]
    obtain ⟨c, rest, e, hc⟩ := dec_head z.natAbs
    have hne : ((dec z.natAbs).head? == some (45 : UInt8)) = false := by
      rw [e, List.head?_cons]
      rw [beq_eq_false_iff_ne]
      intro hh
      cases hh
      simp at hc
    simp only [hne, Bool.false_eq_true, if_false, hn]
    rw [if_neg (by simp)]
    simp [sgn]
    omega

end Big
end Go.Proofs.YtbmmnpggadakdaaDoor
