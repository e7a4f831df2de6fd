import Derived.Test.YtdijknnlldjgmaaDoorW21
import Derived.Test.YtdijknnlldjgmaaDoorNum2
import Derived.Test.YtdijknnlldjgmaaDoorNum3
/- DecimalBack: what is written reads back; sameness of integers. -/
namespace Go.Proofs.YtdijknnlldjgmaaDoor
namespace Big
open Go.RowKit

theorem parse_fmt (z : Int) (h : (dec z.natAbs).length ≤ 20000) : parseI (fmtI z) = (z, 0) := by
  have hn := natural_dec z.natAbs (by omega)
  unfold parseI fmtI
  by_cases hz : z < 0
  · rw [if_pos hz, if_neg (by rw [List.length_cons]; omega)]
    simp only [List.head?_cons, List.tail_cons, beq_self_eq_true, if_true, hn]
    rw [if_neg (by simp; omega)]
    simp [sgn]
    omega
  · rw [if_neg hz, if_neg (by omega)]
    obtain ⟨c, rest, e, hc⟩ := dec_head z.natAbs
    have hne : ((dec z.natAbs).head? == some (45 : UInt8)) = false := by
      rw [e, List.head?_cons]
      rw [beq_eq_false_iff_ne]
      intro hh
      cases hh
      simp at hc
    simp only [hne, Bool.false_eq_true, if_false, hn]
    rw [if_neg (by simp)]
    simp [sgn]
    omega

theorem rsame_self (w : World) (v u : Value) (n : Nat) (h : Arr w v (limbs n)) (h' : Arr w u (limbs n)) (hn : (limbs n).length ≤ 1073741824) :
    Calls Tryd.prog 18 #[v, u] w fun e w' => e = .returned (.bool true) ∧ w = w' := by
  have := rsame_any w v u _ _ h h' hn hn
  simpa using this

theorem rsame_limbs (w : World) (v u : Value) (m n : Nat) (h : Arr w v (limbs m)) (h' : Arr w u (limbs n)) (hm : (limbs m).length ≤ 1073741824) (hn : (limbs n).length ≤ 1073741824) :
    Calls Tryd.prog 18 #[v, u] w fun e w' => e = .returned (.bool (decide (m = n))) ∧ w = w' := by
  have := rsame_any w v u _ _ h h' hm hn
  rw [val_limbs, val_limbs] at this
  have e : (decide ((limbs m).length = (limbs n).length) && decide (m = n)) = decide (m = n) := by
    by_cases hmn : m = n
    · subst hmn; simp
    · simp [hmn]
  rwa [e] at this

theorem same5_any (w : World) (v u : Value) (z y : Int) (h : ArrInt w v z) (h' : ArrInt w u y) (hn : (limbs z.natAbs).length ≤ 1073741824) (hn' : (limbs y.natAbs).length ≤ 1073741824) :
    Calls Tryd.prog 17 #[v, u] w fun e w' => e = .returned (.bool (decide (z = y))) ∧ Ext w w' := by
  obtain ⟨m, rfl, ha⟩ := h
  obtain ⟨m', rfl, ha'⟩ := h'
  have HS := Lib.hid (fun W hx => rsame_limbs W m m' z.natAbs y.natAbs (ha.ext hx) (ha'.ext hx) hn hn')
  obtain ⟨_, A, c, rfl, _⟩ := ha.open
  obtain ⟨_, A', c', rfl, _⟩ := ha'.open
  clear ha ha' hn hn'
  have HX := Lib.hid (fun t v1 t2 v2 => ((Ext.refl w).alloc (.cells v1 t)).alloc (.cells v2 t2))
  have HE := Lib.hid (show decide (z = y) = ((decide (z < 0) == decide (y < 0)) && decide (z.natAbs = y.natAbs)) by
    by_cases h1 : z < 0 <;> by_cases h2 : y < 0 <;> simp only [h1, h2, decide_true, decide_false, beq_self_eq_true, Bool.true_and, Bool.false_and, decide_eq_decide] <;> first | omega | (simp; omega))
  generalize decide (z = y) = r at *
  generalize decide (z < 0) = b at *
  generalize decide (y < 0) = b' at *
  generalize decide (z.natAbs = y.natAbs) = q at *
  generalize (limbs z.natAbs).length = n1 at *
  generalize (limbs y.natAbs).length = n2 at *
  go_enter Tryd.func17, Tryd.ntmps17
  cases b <;> cases b'
  all_goals
    go_wp2_with fail
    first
      | (refine (HS.out _ (HX.out _ _ _ _)).mono ?_
         rintro e w1 ⟨rfl, rfl⟩
         go_wp2_with fail
         go_ret
         exact ⟨congrArg (fun z => Ending.returned (.bool z)) HE.out.symm, HX.out _ _ _ _⟩)
      | (go_ret
         exact ⟨congrArg (fun z => Ending.returned (.bool z)) HE.out.symm, HX.out _ _ _ _⟩)

theorem mint_big2 (w : World) (neg : Bool) (A : Option Addr) (len c : Nat) (n : Int) (h : n < len) :
    Calls Tryd.prog 10 #[.agg #[.bool neg, .slice A len c], .int .i64 n] w fun e w' => e = .returned (.tuple #[.agg #[.bool false, .slice none 0 0], .bool false]) ∧ Ext w w' := by
  go_enter Tryd.func10, Tryd.ntmps10
  go_wp2_with fail
  refine bodyPost_ret (v := .tuple #[.agg #[.bool false, .slice none 0 0], .bool false]) (by simp [results, Tryd.results10, go_sem]) rfl ?_
  exact ⟨rfl, ((Ext.refl w).alloc _).alloc _⟩

end Big
end Go.Proofs.YtdijknnlldjgmaaDoor
