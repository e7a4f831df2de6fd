import Derived.Test.YtbmmnpggadakdaaDoorFrame
import Derived.Test.YtbmmnpggadakdaaDoorW32
import Derived.LaidLaws
/- The two variables of the library's errors, as the row lists them. -/
namespace Go.Proofs.YtbmmnpggadakdaaDoor
open Go.ChangeShapes Go.WideShapes Go.ChangeAt Go.RowKit
theorem gSyn : Tryd.prog.globalNamed "strconv.ErrSyntax" = some 2 := by kernel_rfl
theorem tSyn : (Tryd.prog.globals[2]?).map (·.type) = some 64 := by kernel_rfl
theorem gRan : Tryd.prog.globalNamed "strconv.ErrRange" = some 3 := by kernel_rfl
theorem tRan : (Tryd.prog.globals[3]?).map (·.type) = some 64 := by kernel_rfl
theorem errs_of_laid {W : World} {l : List (String × DataW Unit)} (i j : Nat) (h : laidMetH Tryd.prog l W) (hp : (l.all fun x => x.2.handleName?.isNone) = true) (hi : l[i]? = some ("strconv.ErrRange", Rows.laid_strconv_ErrRange)) (hj : l[j]? = some ("strconv.ErrSyntax", Rows.laid_strconv_ErrSyntax)) : Big.ErrVars W := by
  have key : ∀ (n : String) (g : Nat) (d : DataW Unit) (k : Nat) (nm : String) (x : DataW Unit), d = .iface nm x → Tryd.prog.globalNamed n = some g → (Tryd.prog.globals[g]?).map (·.type) = some 64 → l[k]? = some (n, d) → Big.ErrVar W g := by
    rintro n g d k nm x rfl hg ht hk
    obtain ⟨g1, t1, cs1, f1, p1, hg1, ht1, hv1, hd1⟩ := laid_at k h hp hk
    obtain rfl := Option.some.inj (hg.symm.trans hg1)
    obtain rfl := Option.some.inj (ht.symm.trans ht1)
    obtain ⟨_, u, v, hcs, _, _⟩ := iface_of_trod Tryd.underlying64 hd1
    have hc := World.var?_cell hg1 hv1 0
    have h0 : cs1[0]? = some (.iface u v) := by
      rw [← Array.getElem?_toList, hcs]
      rfl
    rw [h0] at hc
    exact ⟨_, hc, .inr ⟨u, v, rfl⟩⟩
  exact ⟨key _ _ _ j _ _ rfl gSyn tSyn hj, key _ _ _ i _ _ rfl gRan tRan hi⟩
end Go.Proofs.YtbmmnpggadakdaaDoor
