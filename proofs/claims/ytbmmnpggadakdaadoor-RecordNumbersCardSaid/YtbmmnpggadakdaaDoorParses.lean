import Derived.Test.YtbmmnpggadakdaaDoorW26
import Derived.Test.YtbmmnpggadakdaaDoorW27
import Derived.Test.YtbmmnpggadakdaaDoorWk
/- DecimalParses: which texts are numbers. -/
namespace Go.Proofs.YtbmmnpggadakdaaDoor
namespace Big
open Go.RowKit

theorem head_tail (l : List UInt8) (h : l.head? = some 45) : l = 45 :: l.tail := by
  cases l with
  | nil => cases h
  | cons a t => injection h with h; subst h; rfl
theorem parse_back {l : List UInt8} {z : Int} (h : parseI l = (z, 0)) : fmtI z = l := by
  unfold parseI at h
  split at h
  · cases h
  · by_cases h45 : (l.head? == some 45) = true
    · simp only [h45, if_true] at h
      obtain ⟨n, e, hr⟩ : ∃ n e, natural l.tail = (n, e) := ⟨_, _, rfl⟩
      rw [hr] at h
      split at h
      · cases h
      · rename_i hn
        injection h with h1 h2
        have he : e = 0 := by
          by_cases he : e = 0
          · exact he
          · exact absurd (Or.inl he) hn
        subst he
        have hn0 : n ≠ 0 := fun h0 => hn (Or.inr ⟨by simp, h0⟩)
        have hb := natural_back hr
        have hz : z.natAbs = n := by rw [← h1]; exact natAbs_sgn _ _
        have hneg : z < 0 := by rw [← h1]; unfold sgn; simp; omega
        unfold fmtI
        rw [if_pos hneg, hz, hb]
        exact (head_tail l (by simpa using h45)).symm
    · have h45' : (l.head? == some 45) = false := by simpa using h45
      simp only [h45', Bool.false_eq_true, if_false] at h
      obtain ⟨n, e, hr⟩ : ∃ n e, natural l = (n, e) := ⟨_, _, rfl⟩
      rw [hr] at h
      split at h
      · cases h
      · rename_i hn
        injection h with h1 h2
        have he : e = 0 := by
          by_cases he : e = 0
          · exact he
          · exact absurd (Or.inl he) hn
        subst he
        have hb := natural_back hr
        have hz : z.natAbs = n := by rw [← h1]; exact natAbs_sgn _ _
        have hneg : ¬ z < 0 := by rw [← h1]; unfold sgn; simp
        unfold fmtI
        rw [if_neg hneg, hz, hb]
theorem parseI_limbs {l : List UInt8} {z : Int} {e : Nat} (h : parseI l = (z, e)) : (limbs z.natAbs).length ≤ 20001 := by
  have key : ∀ (d : List UInt8) (b : Bool), (if (natural d).2 ≠ 0 ∨ (b = true ∧ (natural d).1 = 0) then ((0 : Int), 6) else (sgn b (natural d).1, 0)) = (z, e) → (limbs z.natAbs).length ≤ 20001 := by
    intro d b h
    obtain ⟨n, k, hr⟩ : ∃ n k, natural d = (n, k) := ⟨_, _, rfl⟩
    have hb := natural_limbs _ hr
    rw [hr] at h
    split at h
    · injection h with h1 h2; subst h1; simp [limbs_zero]
    · injection h with h1 h2
      subst h1
      rw [natAbs_sgn]
      exact hb
  unfold parseI at h
  split at h
  · injection h with h1 h2; subst h1; simp [limbs_zero]
  · exact key _ _ h

end Big
end Go.Proofs.YtbmmnpggadakdaaDoor
