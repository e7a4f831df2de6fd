import Derived.Test.YtplmldkfgeiklaaGreatDoorM11
import Derived.Test.YtplmldkfgeiklaaGreatDoorM10
import Derived.Test.YtplmldkfgeiklaaGreatDoorM4
/- Sameness of integers; an integer too long for mill.Int (in W27 too, which reaches more). -/
namespace Go.Proofs.YtplmldkfgeiklaaGreatDoor
namespace Big
open Go.RowKit
theorem rsame_limbs (w : World) (v u : Value) (m n : Nat) (h : Arr w v (limbs m)) (h' : Arr w u (limbs n)) (hm : (limbs m).length ≤ 1073741824) (hn : (limbs n).length ≤ 1073741824) :
    Calls Tryz.prog 69 #[v, u] w fun e w' => e = .returned (.bool (decide (m = n))) ∧ w = w' := by
  have := rsame_any w v u _ _ h h' hm hn
  rw [val_limbs, val_limbs] at this
  have e : (decide ((limbs m).length = (limbs n).length) && decide (m = n)) = decide (m = n) := by
    by_cases hmn : m = n
    · subst hmn; simp
    · simp [hmn]
  rwa [e] at this

theorem same5_any (w : World) (v u : Value) (z y : Int) (h : ArrInt w v z) (h' : ArrInt w u y) (hn : (limbs z.natAbs).length ≤ 1073741824) (hn' : (limbs y.natAbs).length ≤ 1073741824) :
    Calls Tryz.prog 36 #[v, u] w fun e w' => e = .returned (.bool (decide (z = y))) ∧ Ext w w' := by
  obtain ⟨m, rfl, ha⟩ := h
  obtain ⟨m', rfl, ha'⟩ := h'
  have HS := Lib.hid (fun W hx => rsame_limbs W m m' z.natAbs y.natAbs (ha.ext hx) (ha'.ext hx) hn hn')
  obtain ⟨_, A, c, rfl, _⟩ := ha.open
  obtain ⟨_, A', c', rfl, _⟩ := ha'.open
  clear ha ha' hn hn'
  have HX := Lib.hid (fun t v1 t2 v2 => ((Ext.refl w).alloc (.cells v1 t)).alloc (.cells v2 t2))
  have HE := Lib.hid (show decide (z = y) = ((decide (z < 0) == decide (y < 0)) && decide (z.natAbs = y.natAbs)) by
    by_cases h1 : z < 0 <;> by_cases h2 : y < 0 <;> simp only [h1, h2, decide_true, decide_false, beq_self_eq_true, Bool.true_and, decide_eq_decide] <;> first | omega | (simp; omega))
  generalize decide (z = y) = r at *
  generalize decide (z < 0) = b at *
  generalize decide (y < 0) = b' at *
  generalize decide (z.natAbs = y.natAbs) = q at *
  generalize (limbs z.natAbs).length = n1 at *
  generalize (limbs y.natAbs).length = n2 at *
  go_enter Tryz.func36, Tryz.ntmps36
  cases b <;> cases b'
  all_goals
    go_wp2_with fail
    first
      | (refine (HS.out _ (HX.out _ _ _ _)).mono ?_
         rintro e w1 ⟨rfl, rfl⟩
         go_wp2_with fail
         go_ret
         exact ⟨congrArg (fun z => Ending.returned (.bool z)) HE.out.symm, HX.out _ _ _ _⟩)
      | (go_ret
         exact ⟨congrArg (fun z => Ending.returned (.bool z)) HE.out.symm, HX.out _ _ _ _⟩)

theorem mint_big2 (w : World) (neg : Bool) (A : Option Addr) (len c : Nat) (n : Int) (h : n < len) :
    Calls Tryz.prog 29 #[.agg #[.bool neg, .slice A len c], .int .i64 n] w fun e w' => e = .returned (.tuple #[.agg #[.bool false, .slice none 0 0], .bool false]) ∧ Ext w w' := by
  go_enter Tryz.func29, Tryz.ntmps29
  go_wp2_with fail
  refine bodyPost_ret (v := .tuple #[.agg #[.bool false, .slice none 0 0], .bool false]) (by simp [results, Tryz.results29, go_sem]) rfl ?_
  exact ⟨rfl, ((Ext.refl w).alloc _).alloc _⟩

end Big
end Go.Proofs.YtplmldkfgeiklaaGreatDoor
/- Fractions in lowest terms: plain. -/
namespace Go.Proofs.YtplmldkfgeiklaaGreatDoor
namespace Big
/-- p / q is in lowest terms. -/
def Low (p : Int) (q : Nat) : Prop := 0 < q ∧ Nat.gcd p.natAbs q = 1
theorem sgn_mul_nat (b : Bool) (m n : Nat) : sgn b m * (n : Int) = sgn b (m * n) := by
  unfold sgn
  cases b <;> simp [Int.neg_mul]
theorem ipow_two (p : Int) : p ^ 2 = p * p := by rw [show (2 : Nat) = 0 + 1 + 1 from rfl, Int.pow_succ, Int.pow_succ, Int.pow_zero, Int.one_mul]
theorem sgn_natAbs (z : Int) : sgn (decide (z < 0)) z.natAbs = z := by
  unfold sgn
  by_cases h : z < 0 <;> simp [h] <;> omega
theorem lowD_pos {z : Int} {d : Nat} (h : 0 < d) : 0 < lowD z d := by
  unfold lowD
  exact Nat.div_gcd_pos_of_pos_right _ h
theorem lowN_natAbs (z : Int) (d : Nat) : (lowN z d).natAbs = z.natAbs / Nat.gcd z.natAbs d := by unfold lowN; rw [natAbs_sgn]
theorem low_of (z : Int) {d : Nat} (h : 0 < d) : Low (lowN z d) (lowD z d) := by
  refine ⟨lowD_pos h, ?_⟩
  rw [lowN_natAbs]
  unfold lowD
  exact Nat.coprime_div_gcd_div_gcd (Nat.gcd_pos_of_pos_right _ h)
theorem lowN_gcd (z : Int) (d : Nat) : lowN z d * (Nat.gcd z.natAbs d : Nat) = z := by
  unfold lowN
  rw [sgn_mul_nat, Nat.div_mul_cancel (Nat.gcd_dvd_left _ _), sgn_natAbs]
theorem lowD_gcd (z : Int) (d : Nat) : lowD z d * Nat.gcd z.natAbs d = d := by
  unfold lowD
  rw [Nat.div_mul_cancel (Nat.gcd_dvd_right _ _)]
/-- The fraction in lowest terms is the same fraction. -/
theorem low_cross (z : Int) (d : Nat) : lowN z d * (d : Int) = z * (lowD z d : Int) := by
  have h1 := lowN_gcd z d
  have h2 := lowD_gcd z d
  generalize lowN z d = p at *
  generalize lowD z d = q at *
  generalize Nat.gcd z.natAbs d = g at *
  subst h1
  subst h2
  rw [Int.natCast_mul, Int.mul_assoc, Int.mul_comm (g : Int)]
theorem low_uniq {p p' : Int} {q q' : Nat} (h : Low p q) (h' : Low p' q') (he : p * (q' : Int) = p' * (q : Int)) : p = p' ∧ q = q' := by
  have ha : p.natAbs * q' = p'.natAbs * q := by
    have := congrArg Int.natAbs he
    rw [Int.natAbs_mul, Int.natAbs_mul, Int.natAbs_natCast, Int.natAbs_natCast] at this
    exact this
  have hq : q = q' := by
    refine Nat.dvd_antisymm ?_ ?_
    · have h1 : Nat.Coprime q p.natAbs := by unfold Nat.Coprime; rw [Nat.gcd_comm]; exact h.2
      refine h1.dvd_of_dvd_mul_left ?_
      rw [ha]; exact Nat.dvd_mul_left _ _
    · have h1 : Nat.Coprime q' p'.natAbs := by unfold Nat.Coprime; rw [Nat.gcd_comm]; exact h'.2
      refine h1.dvd_of_dvd_mul_left ?_
      rw [← ha]; exact Nat.dvd_mul_left _ _
  subst hq
  exact ⟨Int.eq_of_mul_eq_mul_right (by have := h.1; omega) he, rfl⟩
theorem low_same {z z' : Int} {d d' : Nat} (hd : 0 < d) (hd' : 0 < d') (he : z * (d' : Int) = z' * (d : Int)) : lowN z d = lowN z' d' ∧ lowD z d = lowD z' d' := by
  refine low_uniq (low_of z hd) (low_of z' hd') ?_
  have h1 := low_cross z d
  have h2 := low_cross z' d'
  generalize lowN z d = p at *
  generalize lowN z' d' = p' at *
  generalize lowD z d = q at *
  generalize lowD z' d' = q' at *
  have hdd : ((d : Int) * (d' : Int)) ≠ 0 := Int.mul_ne_zero (by omega) (by omega)
  refine Int.eq_of_mul_eq_mul_right hdd ?_
  calc p * (q' : Int) * ((d : Int) * d') = (p * d) * q' * d' := by ac_rfl
    _ = z * q * q' * d' := by rw [h1]
    _ = (z * d') * q * q' := by ac_rfl
    _ = (z' * d) * q * q' := by rw [he]
    _ = (z' * q') * q * d := by ac_rfl
    _ = (p' * d') * q * d := by rw [h2]
    _ = p' * q * ((d : Int) * d') := by ac_rfl
theorem low_self {p : Int} {q : Nat} (h : Low p q) : lowN p q = p ∧ lowD p q = q := by
  unfold lowN lowD
  rw [h.2, Nat.div_one, Nat.div_one, sgn_natAbs]
  exact ⟨rfl, rfl⟩
/-- Two fractions are equal where they are equal crosswise. -/
theorem low_eq {z p : Int} {d q : Nat} (hd : 0 < d) (h : Low p q) (he : z * (q : Int) = p * (d : Int)) : lowN z d = p ∧ lowD z d = q := by
  have h1 := low_same hd h.1 he
  have h2 := low_self h
  rw [h2.1, h2.2] at h1
  exact h1
theorem low7_zero {p : Int} {q : Nat} (h : Low p q) : p = 0 ↔ p = 0 ∧ q = 1 := by
  constructor
  · rintro rfl
    have := h.2
    rw [show (0 : Int).natAbs = 0 from rfl, Nat.gcd_zero_left] at this
    exact ⟨rfl, this⟩
  · exact And.left
theorem low_int (z : Int) : Low z 1 := ⟨by decide, Nat.gcd_one_right _⟩
theorem low_neg {p : Int} {q : Nat} (h : Low p q) : Low (-p) q := ⟨h.1, by rw [Int.natAbs_neg]; exact h.2⟩
/-! ### The four operations -/
def addNum (p : Int) (q : Nat) (p' : Int) (q' : Nat) : Int := p * (q' : Int) + p' * (q : Int)
def addP (p : Int) (q : Nat) (p' : Int) (q' : Nat) : Int := lowN (addNum p q p' q') (q * q')
def addQ (p : Int) (q : Nat) (p' : Int) (q' : Nat) : Nat := lowD (addNum p q p' q') (q * q')
def mulP (p : Int) (q : Nat) (p' : Int) (q' : Nat) : Int := lowN (p * p') (q * q')
def mulQ (p : Int) (q : Nat) (p' : Int) (q' : Nat) : Nat := lowD (p * p') (q * q')
/-- 1 over a fraction. -/
def invP (p : Int) (q : Nat) : Int := sgn (decide (p < 0)) q
theorem low_inv {p : Int} {q : Nat} (h : Low p q) (hp : p ≠ 0) : Low (invP p q) p.natAbs := by
  refine ⟨by omega, ?_⟩
  unfold invP
  rw [natAbs_sgn, Nat.gcd_comm]
  exact h.2
theorem inv_cross (p : Int) (q : Nat) : invP p q * p = (q : Int) * (p.natAbs : Int) := by
  unfold invP sgn
  by_cases h : p < 0
  · simp only [h, decide_true, if_true]
    rw [show (p.natAbs : Int) = -p by omega, Int.neg_mul, Int.mul_neg]
  · simp only [h, decide_false, Bool.false_eq_true, if_false]
    rw [show (p.natAbs : Int) = p by omega]
theorem low_add {p p' : Int} {q q' : Nat} (h : Low p q) (h' : Low p' q') : Low (addP p q p' q') (addQ p q p' q') := low_of _ (Nat.mul_pos h.1 h'.1)
theorem low_mul {p p' : Int} {q q' : Nat} (h : Low p q) (h' : Low p' q') : Low (mulP p q p' q') (mulQ p q p' q') := low_of _ (Nat.mul_pos h.1 h'.1)
theorem add_cross (p : Int) (q : Nat) (p' : Int) (q' : Nat) : addP p q p' q' * ((q : Int) * q') = addNum p q p' q' * (addQ p q p' q' : Int) := by
  have := low_cross (addNum p q p' q') (q * q')
  rw [Int.natCast_mul] at this
  exact this
theorem mul_cross (p : Int) (q : Nat) (p' : Int) (q' : Nat) : mulP p q p' q' * ((q : Int) * q') = p * p' * (mulQ p q p' q' : Int) := by
  have := low_cross (p * p') (q * q')
  rw [Int.natCast_mul] at this
  exact this
/-! ### The laws of a field -/
section
variable {p p' r : Int} {q q' s : Nat}
theorem nat_ne {q : Nat} (h : 0 < q) : (q : Int) ≠ 0 := by omega
theorem distrib7 (h : Low p q) (h' : Low p' q') (h'' : Low r s) :
    mulP p q (addP p' q' r s) (addQ p' q' r s) = addP (mulP p q p' q') (mulQ p q p' q') (mulP p q r s) (mulQ p q r s) ∧
    mulQ p q (addP p' q' r s) (addQ p' q' r s) = addQ (mulP p q p' q') (mulQ p q p' q') (mulP p q r s) (mulQ p q r s) := by
  have hA := low_add h' h''
  have hM := low_mul h h'
  have hM' := low_mul h h''
  have e1 := add_cross p' q' r s
  have e2 := mul_cross p q p' q'
  have e3 := mul_cross p q r s
  have l1 := low_same (z := p * addP p' q' r s) (d := q * addQ p' q' r s) (z' := addNum (mulP p q p' q') (mulQ p q p' q') (mulP p q r s) (mulQ p q r s)) (d' := mulQ p q p' q' * mulQ p q r s) (Nat.mul_pos h.1 hA.1) (Nat.mul_pos hM.1 hM'.1) ?_
  · exact l1
  · unfold addNum at *
    have n1 := nat_ne h.1
    have n2 := nat_ne h'.1
    have n3 := nat_ne h''.1
    generalize addP p' q' r s = A at *
    generalize addQ p' q' r s = B at *
    generalize mulP p q p' q' = C at *
    generalize mulQ p q p' q' = D at *
    generalize mulP p q r s = E at *
    generalize mulQ p q r s = F at *
    simp only [Int.natCast_mul] at *
    refine Int.eq_of_mul_eq_mul_right (Int.mul_ne_zero (Int.mul_ne_zero n1 n2) n3) ?_
    calc p * A * ((D : Int) * F) * (q * q' * s) = (A * (q' * s)) * (p * D * F * q) := by ac_rfl
      _ = ((p' * s + r * q') * B) * (p * D * F * q) := by rw [e1]
      _ = (p * p' * D) * (F * s * (q * B)) + (p * r * F) * (D * q' * (q * B)) := by
        rw [Int.add_mul, Int.add_mul]
        congr 1 <;> ac_rfl
      _ = (C * (q * q')) * (F * s * (q * B)) + (E * (q * s)) * (D * q' * (q * B)) := by rw [e2, e3]
      _ = (C * F + E * D) * (q * B) * (q * q' * s) := by
        rw [Int.add_mul, Int.add_mul]
        congr 1 <;> ac_rfl
theorem assoc7 (h : Low p q) (h' : Low p' q') (h'' : Low r s) :
    addP (addP p q p' q') (addQ p q p' q') r s = addP p q (addP p' q' r s) (addQ p' q' r s) ∧
    addQ (addP p q p' q') (addQ p q p' q') r s = addQ p q (addP p' q' r s) (addQ p' q' r s) := by
  have hA := low_add h h'
  have hB := low_add h' h''
  have e1 := add_cross p q p' q'
  have e2 := add_cross p' q' r s
  have l1 := low_same (z := addNum (addP p q p' q') (addQ p q p' q') r s) (d := addQ p q p' q' * s) (z' := addNum p q (addP p' q' r s) (addQ p' q' r s)) (d' := q * addQ p' q' r s) (Nat.mul_pos hA.1 h''.1) (Nat.mul_pos h.1 hB.1) ?_
  · exact l1
  · unfold addNum at *
    have n1 := nat_ne h.1
    have n2 := nat_ne h'.1
    have n3 := nat_ne h''.1
    generalize addP p q p' q' = A at *
    generalize addQ p q p' q' = B at *
    generalize addP p' q' r s = C at *
    generalize addQ p' q' r s = D at *
    simp only [Int.natCast_mul] at *
    refine Int.eq_of_mul_eq_mul_right n2 ?_
    calc (A * s + r * B) * ((q : Int) * D) * q' = (A * (q * q')) * (s * D) + r * B * q * D * q' := by
          rw [Int.add_mul, Int.add_mul]
          congr 1 <;> ac_rfl
      _ = ((p * q' + p' * q) * B) * (s * D) + r * B * q * D * q' := by rw [e1]
      _ = p * D * B * s * q' + ((p' * s + r * q') * D) * (q * B) := by
        simp only [Int.add_mul, Int.add_assoc]
        congr 1
        · ac_rfl
        · congr 1 <;> ac_rfl
      _ = p * D * B * s * q' + (C * (q' * s)) * (q * B) := by rw [e2]
      _ = (p * D + C * q) * ((B : Int) * s) * q' := by
        rw [Int.add_mul, Int.add_mul]
        congr 1 <;> ac_rfl
/-- A quotient times the divisor. -/
theorem quot7 (h : Low p q) (h' : Low p' q') (hp : p' ≠ 0) :
    mulP (mulP p q (invP p' q') p'.natAbs) (mulQ p q (invP p' q') p'.natAbs) p' q' = p ∧ mulQ (mulP p q (invP p' q') p'.natAbs) (mulQ p q (invP p' q') p'.natAbs) p' q' = q := by
  have hI := low_inv h' hp
  have hM := low_mul h hI
  have e1 := mul_cross p q (invP p' q') p'.natAbs
  have e2 := inv_cross p' q'
  refine low_eq (Nat.mul_pos hM.1 h'.1) h ?_
  have n1 := nat_ne h.1
  have n2 := nat_ne hI.1
  generalize mulP p q (invP p' q') p'.natAbs = C at *
  generalize mulQ p q (invP p' q') p'.natAbs = D at *
  generalize invP p' q' = I at *
  generalize p'.natAbs = J at *
  rw [Int.natCast_mul]
  refine Int.eq_of_mul_eq_mul_right n2 ?_
  calc C * p' * (q : Int) * J = (C * (q * J)) * p' := by ac_rfl
    _ = p * I * D * p' := by rw [e1]
    _ = (I * p') * (p * D) := by ac_rfl
    _ = (q' * J) * (p * D) := by rw [e2]
    _ = p * ((D : Int) * q') * J := by ac_rfl
end
/-! ### What the document's operations are -/
theorem sub_sign (a b : Int) : decide (a - b < 0) = decide (a < b) := by
  rw [Bool.eq_iff_iff]; simp; omega
theorem make_one (z : Int) (d : Nat) (_hd : 0 < d) : sgn (decide (z < 0) != decide ((d : Int) < 0)) (z.natAbs / Nat.gcd z.natAbs d) = lowN z d := by
  have h1 : decide ((d : Int) < 0) = false := by simp
  rw [h1]
  unfold lowN
  cases decide (z < 0) <;> rfl
/-! ### Powers -/
theorem natAbs_pow7 (p : Int) (n : Nat) : (p ^ n).natAbs = p.natAbs ^ n := Int.natAbs_pow p n
theorem pow_sgn (p : Int) (n : Nat) : sgn (decide (p < 0) && decide (n % 2 = 1)) (p.natAbs ^ n) = p ^ n := by
  have hs : ∀ k, p.natAbs ^ (2 * k) = (p.natAbs * p.natAbs) ^ k := fun k => by rw [Nat.pow_mul, Nat.pow_two]
  rcases Nat.mod_two_eq_zero_or_one n with h | h
  · have hn : n = 2 * (n / 2) := by omega
    rw [h]
    simp only [show decide ((0 : Nat) = 1) = false from rfl, Bool.and_false]
    unfold sgn
    simp only [Bool.false_eq_true, if_false]
    rw [hn, hs, Int.pow_mul, ipow_two]
    rw [← Int.natAbs_mul_self' p, Int.natCast_pow, Int.natCast_mul]
  · have hn : n = 2 * (n / 2) + 1 := by omega
    rw [h]
    simp only [decide_true, Bool.and_true]
    rw [hn, Nat.pow_succ, Int.pow_succ, hs, Int.pow_mul, ipow_two, ← sgn_natAbs p, natAbs_sgn]
    have hd : decide (sgn (decide (p < 0)) p.natAbs < 0) = decide (p < 0) := by rw [sgn_natAbs]
    rw [hd]
    have hsq : sgn (decide (p < 0)) p.natAbs * sgn (decide (p < 0)) p.natAbs = ((p.natAbs * p.natAbs : Nat) : Int) := by
      rw [sgn_natAbs, Int.natAbs_mul_self]
    rw [hsq, ← Int.natCast_pow]
    generalize (p.natAbs * p.natAbs) ^ (n / 2) = m
    generalize p.natAbs = a
    unfold sgn
    cases decide (p < 0) <;> simp [Int.mul_neg]
theorem low_pow {p : Int} {q : Nat} (h : Low p q) (n : Nat) : Low (p ^ n) (q ^ n) := by
  refine ⟨Nat.pow_pos h.1, ?_⟩
  rw [natAbs_pow7]
  exact Nat.Coprime.pow n n h.2
theorem pow_add7 {p : Int} {q : Nat} (h : Low p q) (a b : Nat) : mulP (p ^ a) (q ^ a) (p ^ b) (q ^ b) = p ^ (a + b) ∧ mulQ (p ^ a) (q ^ a) (p ^ b) (q ^ b) = q ^ (a + b) := by
  unfold mulP mulQ
  rw [← Int.pow_add, ← Nat.pow_add]
  exact low_self (low_pow h _)
end Big
end Go.Proofs.YtplmldkfgeiklaaGreatDoor
/- Fractions, the document's side. Printed by a program. -/
namespace Go.Proofs.YtplmldkfgeiklaaGreatDoor
namespace Big
open Go.RowKit
theorem final3 {w : World} {g : Nat} {a b c u u' u'' : Value} (h0 : (((w.setCell ⟨g, 0, none⟩ a).setCell ⟨g, 1, none⟩ b).setCell ⟨g, 2, none⟩ c).cell? ⟨g, 0, none⟩ = some u) (h1 : (((w.setCell ⟨g, 0, none⟩ a).setCell ⟨g, 1, none⟩ b).setCell ⟨g, 2, none⟩ c).cell? ⟨g, 1, none⟩ = some u')
    (h2 : (((w.setCell ⟨g, 0, none⟩ a).setCell ⟨g, 1, none⟩ b).setCell ⟨g, 2, none⟩ c).cell? ⟨g, 2, none⟩ = some u'') :
    (w.setCell ⟨g, 0, none⟩ a).cell? ⟨g, 0, none⟩ = some a ∧ ((w.setCell ⟨g, 0, none⟩ a).setCell ⟨g, 1, none⟩ b).cell? ⟨g, 1, none⟩ = some b ∧ (((w.setCell ⟨g, 0, none⟩ a).setCell ⟨g, 1, none⟩ b).setCell ⟨g, 2, none⟩ c).cell? ⟨g, 2, none⟩ = some c := by
  obtain ⟨_, k0⟩ := cell_before h0
  obtain ⟨_, k0⟩ := cell_before k0
  obtain ⟨_, k0⟩ := cell_before k0
  obtain ⟨_, k1⟩ := cell_before h1
  obtain ⟨_, k1⟩ := cell_before k1
  obtain ⟨_, k2⟩ := cell_before h2
  exact ⟨World.cell?_setCell_same _ _ _ k0, World.cell?_setCell_same _ _ _ k1, World.cell?_setCell_same _ _ _ k2⟩
theorem limbs_nat_cast (q : Nat) : limbs ((q : Int)).natAbs = limbs q := by rw [Int.natAbs_natCast]
theorem make_nat (z : Int) (d : Nat) : makeN z (d : Int) = lowN z d ∧ makeD z (d : Int) = lowD z d := by
  have h2 : decide ((d : Int) < 0) = false := by simp
  unfold makeN makeD lowN lowD
  rw [h2, Int.natAbs_natCast]
  cases decide (z < 0) <;> exact ⟨rfl, rfl⟩
theorem rofR_nat (W : World) (v u : Value) (x : Int) (d : Nat) (h : ArrInt W v x) (h' : ArrInt W u (d : Int)) (hn : (limbs x.natAbs).length ≤ 134217728) (hn' : (limbs d).length ≤ 134217728) (hd : 0 < d) :
    Calls Tryz.prog 56 #[v, u] W fun e w' => ∃ v', e = .returned v' ∧ IsRat W.heap.size w' v' (lowN x d) (lowD x d) ∧ Ext W w' := by
  have := rof7_any W v u x (d : Int) h h' hn (by rw [limbs_nat_cast]; exact hn') (by omega)
  rw [(make_nat x d).1, (make_nat x d).2] at this
  exact this
theorem limbs_add7 {x y : Int} (hx : (limbs x.natAbs).length ≤ 2000000) (hy : (limbs y.natAbs).length ≤ 2000000) : (limbs (x + y).natAbs).length ≤ 4000001 := limbs_add_le hx hy
theorem limbs_muln {m n : Nat} (hx : (limbs m).length ≤ 1000000) (hy : (limbs n).length ≤ 1000000) : (limbs (m * n)).length ≤ 2000000 := length_limbs_prod hx hy
theorem limbs_mulz {x : Int} {n : Nat} (hx : (limbs x.natAbs).length ≤ 1000000) (hy : (limbs n).length ≤ 1000000) : (limbs (x * (n : Int)).natAbs).length ≤ 2000000 := by
  rw [Int.natAbs_mul, Int.natAbs_natCast]; exact length_limbs_prod hx hy
theorem limbs_mulzz {x y : Int} (hx : (limbs x.natAbs).length ≤ 1000000) (hy : (limbs y.natAbs).length ≤ 1000000) : (limbs (x * y).natAbs).length ≤ 2000000 := by
  rw [Int.natAbs_mul]; exact length_limbs_prod hx hy
theorem keptS2_0 {w w1 w2 : World} {b0 o0 b1 o1 : Nat} {u0 u1 : Value} (h : Ext w w1 ∧ w1.cell? ⟨b0, o0, none⟩ = some u0 ∧ w1.cell? ⟨b1, o1, none⟩ = some u1) (hx : Ext w1 w2) : Ext w w2 ∧ w2.cell? ⟨b0, o0, none⟩ = some u0 ∧ w2.cell? ⟨b1, o1, none⟩ = some u1 :=
  ⟨h.1.trans hx, hx.keep h.2.1, hx.keep h.2.2⟩
theorem keptS3_0 {w w1 w2 : World} {b0 o0 b1 o1 b2 o2 : Nat} {u0 u1 u2 : Value} (h : Ext w w1 ∧ w1.cell? ⟨b0, o0, none⟩ = some u0 ∧ w1.cell? ⟨b1, o1, none⟩ = some u1 ∧ w1.cell? ⟨b2, o2, none⟩ = some u2) (hx : Ext w1 w2) : Ext w w2 ∧ w2.cell? ⟨b0, o0, none⟩ = some u0 ∧ w2.cell? ⟨b1, o1, none⟩ = some u1 ∧ w2.cell? ⟨b2, o2, none⟩ = some u2 :=
  ⟨h.1.trans hx, hx.keep h.2.1, hx.keep h.2.2.1, hx.keep h.2.2.2⟩
theorem keptS4_0 {w w1 w2 : World} {b0 o0 b1 o1 b2 o2 b3 o3 : Nat} {u0 u1 u2 u3 : Value} (h : Ext w w1 ∧ w1.cell? ⟨b0, o0, none⟩ = some u0 ∧ w1.cell? ⟨b1, o1, none⟩ = some u1 ∧ w1.cell? ⟨b2, o2, none⟩ = some u2 ∧ w1.cell? ⟨b3, o3, none⟩ = some u3) (hx : Ext w1 w2) : Ext w w2 ∧ w2.cell? ⟨b0, o0, none⟩ = some u0 ∧ w2.cell? ⟨b1, o1, none⟩ = some u1 ∧ w2.cell? ⟨b2, o2, none⟩ = some u2 ∧ w2.cell? ⟨b3, o3, none⟩ = some u3 :=
  ⟨h.1.trans hx, hx.keep h.2.1, hx.keep h.2.2.1, hx.keep h.2.2.2.1, hx.keep h.2.2.2.2⟩
theorem keptS6_0 {w w1 w2 : World} {b0 o0 b1 o1 b2 o2 b3 o3 b4 o4 b5 o5 : Nat} {u0 u1 u2 u3 u4 u5 : Value} (h : Ext w w1 ∧ w1.cell? ⟨b0, o0, none⟩ = some u0 ∧ w1.cell? ⟨b1, o1, none⟩ = some u1 ∧ w1.cell? ⟨b2, o2, none⟩ = some u2 ∧ w1.cell? ⟨b3, o3, none⟩ = some u3 ∧ w1.cell? ⟨b4, o4, none⟩ = some u4 ∧ w1.cell? ⟨b5, o5, none⟩ = some u5) (hx : Ext w1 w2) : Ext w w2 ∧ w2.cell? ⟨b0, o0, none⟩ = some u0 ∧ w2.cell? ⟨b1, o1, none⟩ = some u1 ∧ w2.cell? ⟨b2, o2, none⟩ = some u2 ∧ w2.cell? ⟨b3, o3, none⟩ = some u3 ∧ w2.cell? ⟨b4, o4, none⟩ = some u4 ∧ w2.cell? ⟨b5, o5, none⟩ = some u5 :=
  ⟨h.1.trans hx, hx.keep h.2.1, hx.keep h.2.2.1, hx.keep h.2.2.2.1, hx.keep h.2.2.2.2.1, hx.keep h.2.2.2.2.2.1, hx.keep h.2.2.2.2.2.2⟩
set_option maxRecDepth 100000 in
theorem rden_any (w : World) (v0 : Value) (p : Int) (q : Nat) (h0 : ArrRat w v0 p q) (_n0 : (limbs p.natAbs).length ≤ 1000000) (m0 : (limbs q).length ≤ 1000000) :
    Calls Tryz.prog 59 #[v0] w fun e w' => ∃ v', e = .returned v' ∧ IsInt w.heap.size w' v' (q : Int) ∧ Ext w w' := by
  have H0 := Lib.hid h0
  have HI := Lib.hid (fun W m a => rnat_any W false m (limbs q) a (by omega))
  rw [val_limbs, show sgn false q = (q : Int) from rfl] at HI
  obtain ⟨b0, l0, A0, c0, k0, D0, e0, rfl⟩ := h0.shape
  clear h0
  go_enter Tryz.func59, Tryz.ntmps59
  go_wp2_with fail
  have hb0 := ((Blk.new w 26 #[Value.bool b0, Value.slice A0 l0 c0, Value.slice D0 k0 e0]).alloc (.cells #[Value.bool false, Value.slice none 0 0] 24))
  have hb1 := (Blk.new (w.alloc (.cells #[Value.bool b0, Value.slice A0 l0 c0, Value.slice D0 k0 e0] 26)) 24 #[Value.bool false, Value.slice none 0 0])
  have hxo := (((Ext.refl w).alloc (.cells #[Value.bool b0, Value.slice A0 l0 c0, Value.slice D0 k0 e0] 26)).alloc (.cells #[Value.bool false, Value.slice none 0 0] 24))
  have hszo : w.heap.size + 1 + 1 = ((w.alloc (.cells #[Value.bool b0, Value.slice A0 l0 c0, Value.slice D0 k0 e0] 26)).alloc (.cells #[Value.bool false, Value.slice none 0 0] 24)).heap.size := by simp
  simp only [World.size_alloc] at hb1
  generalize (w.alloc (.cells #[Value.bool b0, Value.slice A0 l0 c0, Value.slice D0 k0 e0] 26)).alloc (.cells #[Value.bool false, Value.slice none 0 0] 24) = wo at *
  have HB0 := Lib.hid hb0
  have HB1 := Lib.hid hb1
  have HX := Lib.hid hxo
  have HZ : Hid (w.heap.size + 1 + 1 ≤ wo.heap.size) := Lib.hid (by omega)
  clear hxo hszo hb0 hb1
  refine (HI.out _ _ (H0.out.den.ext HX.out)).mono ?_
  rintro e w1 ⟨r0, rfl, hi0, hx0⟩
  have HX := Lib.hid (HX.out.trans hx0)
  have HZ0 := Lib.hid hx0.size
  have HB0 := Lib.hid (HB0.out.ext hx0)
  have HB1 := Lib.hid (HB1.out.ext hx0)
  have R0 := Lib.hid hi0
  obtain ⟨f0, g0, G0, j0, rfl⟩ := hi0.shape
  clear hx0 hi0
  obtain ⟨u0_0_0, u0_0_1, u0_0_2, u0_0_3, u0_0_4, u0_0_5, u0_0_6⟩ := HB0.out.three
  obtain ⟨u0_1_0, u0_1_1, u0_1_2, u0_1_3, u0_1_4⟩ := HB1.out.two
  go_wp2_with fail
  obtain ⟨hr0, hr1⟩ := two_set' HB1.out (.bool f0) (.slice G0 g0 j0)
  refine bodyPost_ret (v := .agg #[.bool f0, .slice G0 g0 j0]) (by simp [results, Tryz.results59, go_sem, hr0, hr1]) rfl ?_
  exact ⟨_, rfl, R0.out.put (by have := HZ.out; omega) (by have := HZ.out; omega), (HX.out.setCell (Nat.le_succ _) _).setCell (Nat.le_succ _) _⟩
set_option maxRecDepth 100000 in
theorem rsignR_any (w : World) (v0 : Value) (p : Int) (q : Nat) (h0 : ArrRat w v0 p q) (n0 : (limbs p.natAbs).length ≤ 1000000) (_m0 : (limbs q).length ≤ 1000000) :
    Calls Tryz.prog 49 #[v0] w fun e w' => e = .returned (.int .i64 (sgZ p)) ∧ Ext w w' := by
  have H0 := Lib.hid h0
  have HSG := Lib.hid (fun W v a => rsign5_any W v p a (by omega))
  obtain ⟨b0, l0, A0, c0, k0, D0, e0, rfl⟩ := h0.shape
  clear h0
  go_enter Tryz.func49, Tryz.ntmps49
  go_wp2_with fail
  have hb0 := (Blk.new w 26 #[Value.bool b0, Value.slice A0 l0 c0, Value.slice D0 k0 e0])
  have hxo := ((Ext.refl w).alloc (.cells #[Value.bool b0, Value.slice A0 l0 c0, Value.slice D0 k0 e0] 26))
  have hszo : w.heap.size + 1 = (w.alloc (.cells #[Value.bool b0, Value.slice A0 l0 c0, Value.slice D0 k0 e0] 26)).heap.size := by simp
  generalize w.alloc (.cells #[Value.bool b0, Value.slice A0 l0 c0, Value.slice D0 k0 e0] 26) = wo at *
  have HB0 := Lib.hid hb0
  have HX := Lib.hid hxo
  have HZ : Hid (w.heap.size + 1 ≤ wo.heap.size) := Lib.hid (by omega)
  clear hxo hszo hb0
  refine (HSG.out _ _ (H0.out.int.ext HX.out)).mono ?_
  rintro e w1 ⟨rfl, hx0⟩
  have HX := Lib.hid (HX.out.trans hx0)
  have HZ0 := Lib.hid hx0.size
  have HB0 := Lib.hid (HB0.out.ext hx0)
  clear hx0
  obtain ⟨u0_0_0, u0_0_1, u0_0_2, u0_0_3, u0_0_4, u0_0_5, u0_0_6⟩ := HB0.out.three
  go_wp2_with fail
  go_ret
  exact ⟨rfl, HX.out⟩
set_option maxRecDepth 100000 in
theorem rnegR_any (w : World) (v0 : Value) (p : Int) (q : Nat) (h0 : ArrRat w v0 p q) (n0 : (limbs p.natAbs).length ≤ 1000000) (_m0 : (limbs q).length ≤ 1000000) :
    Calls Tryz.prog 46 #[v0] w fun e w' => ∃ v', e = .returned v' ∧ ArrRat w' v' (-p) q ∧ Ext w w' := by
  have H0 := Lib.hid h0
  have HNG := Lib.hid (fun W v a => rneg5_any W v p a (by omega))
  obtain ⟨b0, l0, A0, c0, k0, D0, e0, rfl⟩ := h0.shape
  clear h0
  go_enter Tryz.func46, Tryz.ntmps46
  go_wp2_with fail
  have hb0 := ((Blk.new w 26 #[Value.bool b0, Value.slice A0 l0 c0, Value.slice D0 k0 e0]).alloc (.cells #[Value.bool false, Value.slice none 0 0, Value.slice none 0 0] 26))
  have hb1 := (Blk.new (w.alloc (.cells #[Value.bool b0, Value.slice A0 l0 c0, Value.slice D0 k0 e0] 26)) 26 #[Value.bool false, Value.slice none 0 0, Value.slice none 0 0])
  have hxo := (((Ext.refl w).alloc (.cells #[Value.bool b0, Value.slice A0 l0 c0, Value.slice D0 k0 e0] 26)).alloc (.cells #[Value.bool false, Value.slice none 0 0, Value.slice none 0 0] 26))
  have hszo : w.heap.size + 1 + 1 = ((w.alloc (.cells #[Value.bool b0, Value.slice A0 l0 c0, Value.slice D0 k0 e0] 26)).alloc (.cells #[Value.bool false, Value.slice none 0 0, Value.slice none 0 0] 26)).heap.size := by simp
  simp only [World.size_alloc] at hb1
  generalize (w.alloc (.cells #[Value.bool b0, Value.slice A0 l0 c0, Value.slice D0 k0 e0] 26)).alloc (.cells #[Value.bool false, Value.slice none 0 0, Value.slice none 0 0] 26) = wo at *
  obtain ⟨q0_0, q0_1, q0_2, _, _, _, _⟩ := hb0.three
  obtain ⟨t0, t1, t2, s0, s1, s2, hgz⟩ := hb1.three
  clear hb0 hb1
  go_region_held3 (fun w' => Ext w w' ∧ w'.cell? ⟨w.heap.size, 0, none⟩ = some (Value.bool b0) ∧ w'.cell? ⟨w.heap.size, 1, none⟩ = some (Value.slice A0 l0 c0) ∧ w'.cell? ⟨w.heap.size, 2, none⟩ = some (Value.slice D0 k0 e0) ∧ w'.cell? ⟨w.heap.size + 1, 0, none⟩ = some (was w' (w.heap.size + 1) 0) ∧ w'.cell? ⟨w.heap.size + 1, 1, none⟩ = some (was w' (w.heap.size + 1) 1) ∧ w'.cell? ⟨w.heap.size + 1, 2, none⟩ = some (was w' (w.heap.size + 1) 2) ∧ w'.frozen? ⟨w.heap.size + 1, 0, none⟩ = false ∧ w'.frozen? ⟨w.heap.size + 1, 1, none⟩ = false ∧ w'.frozen? ⟨w.heap.size + 1, 2, none⟩ = false)
    (first | (exact ⟨hxo.drew, q0_0, q0_1, q0_2, was_some (w := wo.drew) t0, was_some (w := wo.drew) t1, was_some (w := wo.drew) t2, s0, s1, s2⟩) | (exact keptS3_3 (by assumption) (by assumption)) | (exact keptS3_3_set (by assumption) (by omega) (by omega) (by omega) (by omega)))
    (first
      | (go_at_call 103; refine (HNG.out _ _ (H0.out.int.ext (And.left (by assumption)))).mono ?_; rintro e w1 ⟨r0, rfl, hi0, hx0⟩; have hz0 := hx0.size; have R0 := Lib.hid hi0; obtain ⟨f0, g0, G0, j0, rfl⟩ := hi0.shape))
  all_goals go_wp2_with fail
  rename_i hS
  obtain ⟨hE, _, _, _, hc0, hc1, hc2, _, _, _⟩ := hS
  simp only [World.size_drew] at hz0
  obtain ⟨hr0, hr1, hr2⟩ := final3 hc0 hc1 hc2
  refine bodyPost_ret (v := .agg #[.bool f0, .slice G0 g0 j0, .slice D0 k0 e0]) (by simp [results, Tryz.results46, go_sem, hr0, hr1, hr2]) rfl ?_
  exact ⟨_, rfl, ⟨.slice G0 g0 j0, .slice D0 k0 e0, by rw [R0.out.sign], (((R0.out.mag.far (show w.heap.size + 1 < _ by simp only [World.size_drew]; omega) _).far (show w.heap.size + 1 < _ by simp only [World.size_drew]; omega) _).far (show w.heap.size + 1 < _ by simp only [World.size_drew]; omega) _).arr, H0.out.den.ext hE⟩, hE⟩
set_option maxRecDepth 100000 in
theorem rmulR_any (w : World) (v0 : Value) (p : Int) (q : Nat) (h0 : ArrRat w v0 p q) (n0 : (limbs p.natAbs).length ≤ 1000000) (m0 : (limbs q).length ≤ 1000000) (v1 : Value) (r : Int) (s : Nat) (h1 : ArrRat w v1 r s) (n1 : (limbs r.natAbs).length ≤ 1000000) (m1 : (limbs s).length ≤ 1000000) (hq : 0 < q) (hs : 0 < s) :
    Calls Tryz.prog 18 #[v0, v1] w fun e w' => ∃ v', e = .returned v' ∧ IsRat w.heap.size w' v' (mulP p q r s) (mulQ p q r s) ∧ Ext w w' := by
  have H0 := Lib.hid h0
  have H1 := Lib.hid h1
  have HD0 := Lib.hid (fun W v a => rden_any W v p q a n0 m0)
  have HD1 := Lib.hid (fun W v a => rden_any W v r s a n1 m1)
  have HM := Lib.hid (fun W v u a b => rmul5_any W v p a (by omega) u r b (by omega))
  have HMD := Lib.hid (fun W v u a b => rmul5_any W v (q : Int) a (by rw [limbs_nat_cast]; omega) u (s : Int) b (by rw [limbs_nat_cast]; omega))
  have HOF := Lib.hid (fun W v u a b => rofR_nat W v u (p * r) (q * s) a b (by have := limbs_mulzz n0 n1; omega) (by have := limbs_muln m0 m1; omega) (Nat.mul_pos hq hs))
  rw [Int.natCast_mul] at HOF
  obtain ⟨b0, l0, A0, c0, k0, D0, e0, rfl⟩ := h0.shape
  obtain ⟨b1, l1, A1, c1, k1, D1, e1, rfl⟩ := h1.shape
  clear h0 h1
  go_enter Tryz.func18, Tryz.ntmps18
  go_wp2_with fail
  have hb0 := (((Blk.new w 26 #[Value.bool b0, Value.slice A0 l0 c0, Value.slice D0 k0 e0]).alloc (.cells #[Value.bool b1, Value.slice A1 l1 c1, Value.slice D1 k1 e1] 26)).alloc (.cells #[Value.bool false, Value.slice none 0 0, Value.slice none 0 0] 26))
  have hb1 := ((Blk.new (w.alloc (.cells #[Value.bool b0, Value.slice A0 l0 c0, Value.slice D0 k0 e0] 26)) 26 #[Value.bool b1, Value.slice A1 l1 c1, Value.slice D1 k1 e1]).alloc (.cells #[Value.bool false, Value.slice none 0 0, Value.slice none 0 0] 26))
  have hb2 := (Blk.new ((w.alloc (.cells #[Value.bool b0, Value.slice A0 l0 c0, Value.slice D0 k0 e0] 26)).alloc (.cells #[Value.bool b1, Value.slice A1 l1 c1, Value.slice D1 k1 e1] 26)) 26 #[Value.bool false, Value.slice none 0 0, Value.slice none 0 0])
  have hxo := ((((Ext.refl w).alloc (.cells #[Value.bool b0, Value.slice A0 l0 c0, Value.slice D0 k0 e0] 26)).alloc (.cells #[Value.bool b1, Value.slice A1 l1 c1, Value.slice D1 k1 e1] 26)).alloc (.cells #[Value.bool false, Value.slice none 0 0, Value.slice none 0 0] 26))
  have hszo : w.heap.size + 1 + 1 + 1 = (((w.alloc (.cells #[Value.bool b0, Value.slice A0 l0 c0, Value.slice D0 k0 e0] 26)).alloc (.cells #[Value.bool b1, Value.slice A1 l1 c1, Value.slice D1 k1 e1] 26)).alloc (.cells #[Value.bool false, Value.slice none 0 0, Value.slice none 0 0] 26)).heap.size := by simp
  simp only [World.size_alloc] at hb1 hb2
  generalize ((w.alloc (.cells #[Value.bool b0, Value.slice A0 l0 c0, Value.slice D0 k0 e0] 26)).alloc (.cells #[Value.bool b1, Value.slice A1 l1 c1, Value.slice D1 k1 e1] 26)).alloc (.cells #[Value.bool false, Value.slice none 0 0, Value.slice none 0 0] 26) = wo at *
  obtain ⟨q0_0, q0_1, q0_2, _, _, _, _⟩ := hb0.three
  obtain ⟨q1_0, q1_1, q1_2, _, _, _, _⟩ := hb1.three
  obtain ⟨t0, t1, t2, s0, s1, s2, hgz⟩ := hb2.three
  clear hb0 hb1 hb2
  go_region_held3 (fun w' => Ext w w' ∧ w'.cell? ⟨w.heap.size, 0, none⟩ = some (Value.bool b0) ∧ w'.cell? ⟨w.heap.size, 1, none⟩ = some (Value.slice A0 l0 c0) ∧ w'.cell? ⟨w.heap.size, 2, none⟩ = some (Value.slice D0 k0 e0) ∧ w'.cell? ⟨w.heap.size + 1, 0, none⟩ = some (Value.bool b1) ∧ w'.cell? ⟨w.heap.size + 1, 1, none⟩ = some (Value.slice A1 l1 c1) ∧ w'.cell? ⟨w.heap.size + 1, 2, none⟩ = some (Value.slice D1 k1 e1) ∧ w'.cell? ⟨w.heap.size + 1 + 1, 0, none⟩ = some (was w' (w.heap.size + 1 + 1) 0) ∧ w'.cell? ⟨w.heap.size + 1 + 1, 1, none⟩ = some (was w' (w.heap.size + 1 + 1) 1) ∧ w'.cell? ⟨w.heap.size + 1 + 1, 2, none⟩ = some (was w' (w.heap.size + 1 + 1) 2) ∧ w'.frozen? ⟨w.heap.size + 1 + 1, 0, none⟩ = false ∧ w'.frozen? ⟨w.heap.size + 1 + 1, 1, none⟩ = false ∧ w'.frozen? ⟨w.heap.size + 1 + 1, 2, none⟩ = false)
    (first | (exact ⟨hxo.drew, q0_0, q0_1, q0_2, q1_0, q1_1, q1_2, was_some (w := wo.drew) t0, was_some (w := wo.drew) t1, was_some (w := wo.drew) t2, s0, s1, s2⟩) | (exact keptS6_3 (by assumption) (by assumption)) | (exact keptS6_3_set (by assumption) (by omega) (by omega) (by omega) (by omega) (by omega) (by omega) (by omega)))
    (first
      | (go_at_call 56; have hchk4 := hz3; refine (HOF.out _ _ _ R0.out.arr R3.out.arr).mono ?_; rintro e w5 ⟨r4, rfl, hi4, hx4⟩; have hz4 := hx4.size; have R0 := Lib.hid (R0.out.ext hx4); have R1 := Lib.hid (R1.out.ext hx4); have R2 := Lib.hid (R2.out.ext hx4); have R3 := Lib.hid (R3.out.ext hx4); have R4 := Lib.hid hi4; obtain ⟨f4, g4, G4, j4, y4, Y4, z4, rfl⟩ := hi4.shape)
      | (go_at_call 58; have hchk3 := hz2; refine (HMD.out _ _ _ R1.out.arr R2.out.arr).mono ?_; rintro e w4 ⟨r3, rfl, hi3, hx3⟩; have hz3 := hx3.size; have R0 := Lib.hid (R0.out.ext hx3); have R1 := Lib.hid (R1.out.ext hx3); have R2 := Lib.hid (R2.out.ext hx3); have R3 := Lib.hid hi3; obtain ⟨f3, g3, G3, j3, rfl⟩ := hi3.shape)
      | (go_at_call 59; have hchk2 := hz1; refine (HD1.out _ _ (H1.out.ext (And.left (by assumption)))).mono ?_; rintro e w3 ⟨r2, rfl, hi2, hx2⟩; have hz2 := hx2.size; have R0 := Lib.hid (R0.out.ext hx2); have R1 := Lib.hid (R1.out.ext hx2); have R2 := Lib.hid hi2; obtain ⟨f2, g2, G2, j2, rfl⟩ := hi2.shape)
      | (go_at_call 59; have hchk1 := hz0; refine (HD0.out _ _ (H0.out.ext (And.left (by assumption)))).mono ?_; rintro e w2 ⟨r1, rfl, hi1, hx1⟩; have hz1 := hx1.size; have R0 := Lib.hid (R0.out.ext hx1); have R1 := Lib.hid hi1; obtain ⟨f1, g1, G1, j1, rfl⟩ := hi1.shape)
      | (go_at_call 58; refine (HM.out _ _ _ (H0.out.int.ext (And.left (by assumption))) (H1.out.int.ext (And.left (by assumption)))).mono ?_; rintro e w1 ⟨r0, rfl, hi0, hx0⟩; have hz0 := hx0.size; have R0 := Lib.hid hi0; obtain ⟨f0, g0, G0, j0, rfl⟩ := hi0.shape))
  all_goals go_wp2_with fail
  rename_i hS
  obtain ⟨hE, _, _, _, _, _, _, hc0, hc1, hc2, _, _, _⟩ := hS
  simp only [World.size_drew] at hz0
  obtain ⟨hr0, hr1, hr2⟩ := final3 hc0 hc1 hc2
  refine bodyPost_ret (v := .agg #[.bool f4, .slice G4 g4 j4, .slice Y4 y4 z4]) (by simp [results, Tryz.results18, go_sem, hr0, hr1, hr2]) rfl ?_
  exact ⟨_, rfl, R4.out.put (by omega) (by omega), hE⟩
set_option maxHeartbeats 2000000 in
set_option maxRecDepth 100000 in
theorem raddR_any (w : World) (v0 : Value) (p : Int) (q : Nat) (h0 : ArrRat w v0 p q) (n0 : (limbs p.natAbs).length ≤ 1000000) (m0 : (limbs q).length ≤ 1000000) (v1 : Value) (r : Int) (s : Nat) (h1 : ArrRat w v1 r s) (n1 : (limbs r.natAbs).length ≤ 1000000) (m1 : (limbs s).length ≤ 1000000) (hq : 0 < q) (hs : 0 < s) :
    Calls Tryz.prog 39 #[v0, v1] w fun e w' => ∃ v', e = .returned v' ∧ IsRat w.heap.size w' v' (addP p q r s) (addQ p q r s) ∧ Ext w w' := by
  have H0 := Lib.hid h0
  have H1 := Lib.hid h1
  have HD0 := Lib.hid (fun W v a => rden_any W v p q a n0 m0)
  have HD1 := Lib.hid (fun W v a => rden_any W v r s a n1 m1)
  have HM0 := Lib.hid (fun W v u a b => rmul5_any W v p a (by omega) u (s : Int) b (by rw [limbs_nat_cast]; omega))
  have HM1 := Lib.hid (fun W v u a b => rmul5_any W v r a (by omega) u (q : Int) b (by rw [limbs_nat_cast]; omega))
  have HMD := Lib.hid (fun W v u a b => rmul5_any W v (q : Int) a (by rw [limbs_nat_cast]; omega) u (s : Int) b (by rw [limbs_nat_cast]; omega))
  have HAD := Lib.hid (fun W v u a b => radd5_any W v u (p * (s : Int)) (r * (q : Int)) a b (by have := limbs_mulz n0 m1; omega) (by have := limbs_mulz n1 m0; omega))
  have HOF := Lib.hid (fun W v u a b => rofR_nat W v u (p * (s : Int) + r * (q : Int)) (q * s) a b (by have := limbs_add7 (limbs_mulz n0 m1) (limbs_mulz n1 m0); omega) (by have := limbs_muln m0 m1; omega) (Nat.mul_pos hq hs))
  rw [Int.natCast_mul] at HOF
  obtain ⟨b0, l0, A0, c0, k0, D0, e0, rfl⟩ := h0.shape
  obtain ⟨b1, l1, A1, c1, k1, D1, e1, rfl⟩ := h1.shape
  clear h0 h1
  go_enter Tryz.func39, Tryz.ntmps39
  go_wp2_with fail
  have hb0 := (((Blk.new w 26 #[Value.bool b0, Value.slice A0 l0 c0, Value.slice D0 k0 e0]).alloc (.cells #[Value.bool b1, Value.slice A1 l1 c1, Value.slice D1 k1 e1] 26)).alloc (.cells #[Value.bool false, Value.slice none 0 0, Value.slice none 0 0] 26))
  have hb1 := ((Blk.new (w.alloc (.cells #[Value.bool b0, Value.slice A0 l0 c0, Value.slice D0 k0 e0] 26)) 26 #[Value.bool b1, Value.slice A1 l1 c1, Value.slice D1 k1 e1]).alloc (.cells #[Value.bool false, Value.slice none 0 0, Value.slice none 0 0] 26))
  have hb2 := (Blk.new ((w.alloc (.cells #[Value.bool b0, Value.slice A0 l0 c0, Value.slice D0 k0 e0] 26)).alloc (.cells #[Value.bool b1, Value.slice A1 l1 c1, Value.slice D1 k1 e1] 26)) 26 #[Value.bool false, Value.slice none 0 0, Value.slice none 0 0])
  have hxo := ((((Ext.refl w).alloc (.cells #[Value.bool b0, Value.slice A0 l0 c0, Value.slice D0 k0 e0] 26)).alloc (.cells #[Value.bool b1, Value.slice A1 l1 c1, Value.slice D1 k1 e1] 26)).alloc (.cells #[Value.bool false, Value.slice none 0 0, Value.slice none 0 0] 26))
  have hszo : w.heap.size + 1 + 1 + 1 = (((w.alloc (.cells #[Value.bool b0, Value.slice A0 l0 c0, Value.slice D0 k0 e0] 26)).alloc (.cells #[Value.bool b1, Value.slice A1 l1 c1, Value.slice D1 k1 e1] 26)).alloc (.cells #[Value.bool false, Value.slice none 0 0, Value.slice none 0 0] 26)).heap.size := by simp
  simp only [World.size_alloc] at hb1 hb2
  generalize ((w.alloc (.cells #[Value.bool b0, Value.slice A0 l0 c0, Value.slice D0 k0 e0] 26)).alloc (.cells #[Value.bool b1, Value.slice A1 l1 c1, Value.slice D1 k1 e1] 26)).alloc (.cells #[Value.bool false, Value.slice none 0 0, Value.slice none 0 0] 26) = wo at *
  obtain ⟨q0_0, q0_1, q0_2, _, _, _, _⟩ := hb0.three
  obtain ⟨q1_0, q1_1, q1_2, _, _, _, _⟩ := hb1.three
  obtain ⟨t0, t1, t2, s0, s1, s2, hgz⟩ := hb2.three
  clear hb0 hb1 hb2
  go_region_held3 (fun w' => Ext w w' ∧ w'.cell? ⟨w.heap.size, 0, none⟩ = some (Value.bool b0) ∧ w'.cell? ⟨w.heap.size, 1, none⟩ = some (Value.slice A0 l0 c0) ∧ w'.cell? ⟨w.heap.size, 2, none⟩ = some (Value.slice D0 k0 e0) ∧ w'.cell? ⟨w.heap.size + 1, 0, none⟩ = some (Value.bool b1) ∧ w'.cell? ⟨w.heap.size + 1, 1, none⟩ = some (Value.slice A1 l1 c1) ∧ w'.cell? ⟨w.heap.size + 1, 2, none⟩ = some (Value.slice D1 k1 e1) ∧ w'.cell? ⟨w.heap.size + 1 + 1, 0, none⟩ = some (was w' (w.heap.size + 1 + 1) 0) ∧ w'.cell? ⟨w.heap.size + 1 + 1, 1, none⟩ = some (was w' (w.heap.size + 1 + 1) 1) ∧ w'.cell? ⟨w.heap.size + 1 + 1, 2, none⟩ = some (was w' (w.heap.size + 1 + 1) 2) ∧ w'.frozen? ⟨w.heap.size + 1 + 1, 0, none⟩ = false ∧ w'.frozen? ⟨w.heap.size + 1 + 1, 1, none⟩ = false ∧ w'.frozen? ⟨w.heap.size + 1 + 1, 2, none⟩ = false)
    (first | (exact ⟨hxo.drew, q0_0, q0_1, q0_2, q1_0, q1_1, q1_2, was_some (w := wo.drew) t0, was_some (w := wo.drew) t1, was_some (w := wo.drew) t2, s0, s1, s2⟩) | (exact keptS6_3 (by assumption) (by assumption)) | (exact keptS6_3_set (by assumption) (by omega) (by omega) (by omega) (by omega) (by omega) (by omega) (by omega)))
    (first
      | (go_at_call 56; have hchk8 := hz7; refine (HOF.out _ _ _ R4.out.arr R7.out.arr).mono ?_; rintro e w9 ⟨r8, rfl, hi8, hx8⟩; have hz8 := hx8.size; have R0 := Lib.hid (R0.out.ext hx8); have R1 := Lib.hid (R1.out.ext hx8); have R2 := Lib.hid (R2.out.ext hx8); have R3 := Lib.hid (R3.out.ext hx8); have R4 := Lib.hid (R4.out.ext hx8); have R5 := Lib.hid (R5.out.ext hx8); have R6 := Lib.hid (R6.out.ext hx8); have R7 := Lib.hid (R7.out.ext hx8); have R8 := Lib.hid hi8; obtain ⟨f8, g8, G8, j8, y8, Y8, z8, rfl⟩ := hi8.shape)
      | (go_at_call 58; have hchk7 := hz6; refine (HMD.out _ _ _ R5.out.arr R6.out.arr).mono ?_; rintro e w8 ⟨r7, rfl, hi7, hx7⟩; have hz7 := hx7.size; have R0 := Lib.hid (R0.out.ext hx7); have R1 := Lib.hid (R1.out.ext hx7); have R2 := Lib.hid (R2.out.ext hx7); have R3 := Lib.hid (R3.out.ext hx7); have R4 := Lib.hid (R4.out.ext hx7); have R5 := Lib.hid (R5.out.ext hx7); have R6 := Lib.hid (R6.out.ext hx7); have R7 := Lib.hid hi7; obtain ⟨f7, g7, G7, j7, rfl⟩ := hi7.shape)
      | (go_at_call 59; have hchk6 := hz5; refine (HD1.out _ _ (H1.out.ext (And.left (by assumption)))).mono ?_; rintro e w7 ⟨r6, rfl, hi6, hx6⟩; have hz6 := hx6.size; have R0 := Lib.hid (R0.out.ext hx6); have R1 := Lib.hid (R1.out.ext hx6); have R2 := Lib.hid (R2.out.ext hx6); have R3 := Lib.hid (R3.out.ext hx6); have R4 := Lib.hid (R4.out.ext hx6); have R5 := Lib.hid (R5.out.ext hx6); have R6 := Lib.hid hi6; obtain ⟨f6, g6, G6, j6, rfl⟩ := hi6.shape)
      | (go_at_call 59; have hchk5 := hz4; refine (HD0.out _ _ (H0.out.ext (And.left (by assumption)))).mono ?_; rintro e w6 ⟨r5, rfl, hi5, hx5⟩; have hz5 := hx5.size; have R0 := Lib.hid (R0.out.ext hx5); have R1 := Lib.hid (R1.out.ext hx5); have R2 := Lib.hid (R2.out.ext hx5); have R3 := Lib.hid (R3.out.ext hx5); have R4 := Lib.hid (R4.out.ext hx5); have R5 := Lib.hid hi5; obtain ⟨f5, g5, G5, j5, rfl⟩ := hi5.shape)
      | (go_at_call 98; have hchk4 := hz3; refine (HAD.out _ _ _ R1.out.arr R3.out.arr).mono ?_; rintro e w5 ⟨r4, rfl, hi4, hx4⟩; have hz4 := hx4.size; have R0 := Lib.hid (R0.out.ext hx4); have R1 := Lib.hid (R1.out.ext hx4); have R2 := Lib.hid (R2.out.ext hx4); have R3 := Lib.hid (R3.out.ext hx4); have R4 := Lib.hid hi4; obtain ⟨f4, g4, G4, j4, rfl⟩ := hi4.shape)
      | (go_at_call 58; have hchk3 := hz2; refine (HM1.out _ _ _ (H1.out.int.ext (And.left (by assumption))) R2.out.arr).mono ?_; rintro e w4 ⟨r3, rfl, hi3, hx3⟩; have hz3 := hx3.size; have R0 := Lib.hid (R0.out.ext hx3); have R1 := Lib.hid (R1.out.ext hx3); have R2 := Lib.hid (R2.out.ext hx3); have R3 := Lib.hid hi3; obtain ⟨f3, g3, G3, j3, rfl⟩ := hi3.shape)
      | (go_at_call 59; have hchk2 := hz1; refine (HD0.out _ _ (H0.out.ext (And.left (by assumption)))).mono ?_; rintro e w3 ⟨r2, rfl, hi2, hx2⟩; have hz2 := hx2.size; have R0 := Lib.hid (R0.out.ext hx2); have R1 := Lib.hid (R1.out.ext hx2); have R2 := Lib.hid hi2; obtain ⟨f2, g2, G2, j2, rfl⟩ := hi2.shape)
      | (go_at_call 58; have hchk1 := hz0; refine (HM0.out _ _ _ (H0.out.int.ext (And.left (by assumption))) R0.out.arr).mono ?_; rintro e w2 ⟨r1, rfl, hi1, hx1⟩; have hz1 := hx1.size; have R0 := Lib.hid (R0.out.ext hx1); have R1 := Lib.hid hi1; obtain ⟨f1, g1, G1, j1, rfl⟩ := hi1.shape)
      | (go_at_call 59; refine (HD1.out _ _ (H1.out.ext (And.left (by assumption)))).mono ?_; rintro e w1 ⟨r0, rfl, hi0, hx0⟩; have hz0 := hx0.size; have R0 := Lib.hid hi0; obtain ⟨f0, g0, G0, j0, rfl⟩ := hi0.shape))
  all_goals go_wp2_with fail
  rename_i hS
  obtain ⟨hE, _, _, _, _, _, _, hc0, hc1, hc2, _, _, _⟩ := hS
  simp only [World.size_drew] at hz0
  obtain ⟨hr0, hr1, hr2⟩ := final3 hc0 hc1 hc2
  refine bodyPost_ret (v := .agg #[.bool f8, .slice G8 g8 j8, .slice Y8 y8 z8]) (by simp [results, Tryz.results39, go_sem, hr0, hr1, hr2]) rfl ?_
  exact ⟨_, rfl, R8.out.put (by omega) (by omega), hE⟩
set_option maxRecDepth 100000 in
theorem rcmpR_any (w : World) (v0 : Value) (p : Int) (q : Nat) (h0 : ArrRat w v0 p q) (n0 : (limbs p.natAbs).length ≤ 1000000) (m0 : (limbs q).length ≤ 1000000) (v1 : Value) (r : Int) (s : Nat) (h1 : ArrRat w v1 r s) (n1 : (limbs r.natAbs).length ≤ 1000000) (m1 : (limbs s).length ≤ 1000000) :
    Calls Tryz.prog 38 #[v0, v1] w fun e w' => e = .returned (.int .i64 (cmpZ (p * (s : Int)) (r * (q : Int)))) ∧ Ext w w' := by
  have H0 := Lib.hid h0
  have H1 := Lib.hid h1
  have HD0 := Lib.hid (fun W v a => rden_any W v p q a n0 m0)
  have HD1 := Lib.hid (fun W v a => rden_any W v r s a n1 m1)
  have HM0 := Lib.hid (fun W v u a b => rmul5_any W v p a (by omega) u (s : Int) b (by rw [limbs_nat_cast]; omega))
  have HM1 := Lib.hid (fun W v u a b => rmul5_any W v r a (by omega) u (q : Int) b (by rw [limbs_nat_cast]; omega))
  have HCM := Lib.hid (fun W v u a b => rcmp5_any W v (p * (s : Int)) a (by have := limbs_mulz n0 m1; omega) u (r * (q : Int)) b (by have := limbs_mulz n1 m0; omega))
  obtain ⟨b0, l0, A0, c0, k0, D0, e0, rfl⟩ := h0.shape
  obtain ⟨b1, l1, A1, c1, k1, D1, e1, rfl⟩ := h1.shape
  clear h0 h1
  go_enter Tryz.func38, Tryz.ntmps38
  go_wp2_with fail
  have hb0 := ((Blk.new w 26 #[Value.bool b0, Value.slice A0 l0 c0, Value.slice D0 k0 e0]).alloc (.cells #[Value.bool b1, Value.slice A1 l1 c1, Value.slice D1 k1 e1] 26))
  have hb1 := (Blk.new (w.alloc (.cells #[Value.bool b0, Value.slice A0 l0 c0, Value.slice D0 k0 e0] 26)) 26 #[Value.bool b1, Value.slice A1 l1 c1, Value.slice D1 k1 e1])
  have hxo := (((Ext.refl w).alloc (.cells #[Value.bool b0, Value.slice A0 l0 c0, Value.slice D0 k0 e0] 26)).alloc (.cells #[Value.bool b1, Value.slice A1 l1 c1, Value.slice D1 k1 e1] 26))
  have hszo : w.heap.size + 1 + 1 = ((w.alloc (.cells #[Value.bool b0, Value.slice A0 l0 c0, Value.slice D0 k0 e0] 26)).alloc (.cells #[Value.bool b1, Value.slice A1 l1 c1, Value.slice D1 k1 e1] 26)).heap.size := by simp
  simp only [World.size_alloc] at hb1
  generalize (w.alloc (.cells #[Value.bool b0, Value.slice A0 l0 c0, Value.slice D0 k0 e0] 26)).alloc (.cells #[Value.bool b1, Value.slice A1 l1 c1, Value.slice D1 k1 e1] 26) = wo at *
  obtain ⟨q0_0, q0_1, q0_2, _, _, _, _⟩ := hb0.three
  obtain ⟨q1_0, q1_1, q1_2, _, _, _, _⟩ := hb1.three
  clear hb0 hb1
  go_region_held3 (fun w' => Ext w w' ∧ w'.cell? ⟨w.heap.size, 0, none⟩ = some (Value.bool b0) ∧ w'.cell? ⟨w.heap.size, 1, none⟩ = some (Value.slice A0 l0 c0) ∧ w'.cell? ⟨w.heap.size, 2, none⟩ = some (Value.slice D0 k0 e0) ∧ w'.cell? ⟨w.heap.size + 1, 0, none⟩ = some (Value.bool b1) ∧ w'.cell? ⟨w.heap.size + 1, 1, none⟩ = some (Value.slice A1 l1 c1) ∧ w'.cell? ⟨w.heap.size + 1, 2, none⟩ = some (Value.slice D1 k1 e1))
    (first | (exact ⟨hxo.drew, q0_0, q0_1, q0_2, q1_0, q1_1, q1_2⟩) | (exact keptS6_0 (by assumption) (by assumption)))
    (first
      | (go_at_call 97; have hchk4 := hz3; refine (HCM.out _ _ _ R1.out.arr R3.out.arr).mono ?_; rintro e w5 ⟨rfl, hx4⟩; have hz4 := hx4.size; have R0 := Lib.hid (R0.out.ext hx4); have R1 := Lib.hid (R1.out.ext hx4); have R2 := Lib.hid (R2.out.ext hx4); have R3 := Lib.hid (R3.out.ext hx4))
      | (go_at_call 58; have hchk3 := hz2; refine (HM1.out _ _ _ (H1.out.int.ext (And.left (by assumption))) R2.out.arr).mono ?_; rintro e w4 ⟨r3, rfl, hi3, hx3⟩; have hz3 := hx3.size; have R0 := Lib.hid (R0.out.ext hx3); have R1 := Lib.hid (R1.out.ext hx3); have R2 := Lib.hid (R2.out.ext hx3); have R3 := Lib.hid hi3; obtain ⟨f3, g3, G3, j3, rfl⟩ := hi3.shape)
      | (go_at_call 59; have hchk2 := hz1; refine (HD0.out _ _ (H0.out.ext (And.left (by assumption)))).mono ?_; rintro e w3 ⟨r2, rfl, hi2, hx2⟩; have hz2 := hx2.size; have R0 := Lib.hid (R0.out.ext hx2); have R1 := Lib.hid (R1.out.ext hx2); have R2 := Lib.hid hi2; obtain ⟨f2, g2, G2, j2, rfl⟩ := hi2.shape)
      | (go_at_call 58; have hchk1 := hz0; refine (HM0.out _ _ _ (H0.out.int.ext (And.left (by assumption))) R0.out.arr).mono ?_; rintro e w2 ⟨r1, rfl, hi1, hx1⟩; have hz1 := hx1.size; have R0 := Lib.hid (R0.out.ext hx1); have R1 := Lib.hid hi1; obtain ⟨f1, g1, G1, j1, rfl⟩ := hi1.shape)
      | (go_at_call 59; refine (HD1.out _ _ (H1.out.ext (And.left (by assumption)))).mono ?_; rintro e w1 ⟨r0, rfl, hi0, hx0⟩; have hz0 := hx0.size; have R0 := Lib.hid hi0; obtain ⟨f0, g0, G0, j0, rfl⟩ := hi0.shape))
  all_goals go_wp2_with fail
  rename_i hS
  obtain ⟨hE, _, _, _, _, _, _⟩ := hS
  simp only [World.size_drew] at hz0
  go_ret
  exact ⟨rfl, hE⟩
set_option maxRecDepth 100000 in
theorem rsubR_any (w : World) (v0 : Value) (p : Int) (q : Nat) (h0 : ArrRat w v0 p q) (n0 : (limbs p.natAbs).length ≤ 1000000) (m0 : (limbs q).length ≤ 1000000) (v1 : Value) (r : Int) (s : Nat) (h1 : ArrRat w v1 r s) (n1 : (limbs r.natAbs).length ≤ 1000000) (m1 : (limbs s).length ≤ 1000000) (hq : 0 < q) (hs : 0 < s) :
    Calls Tryz.prog 45 #[v0, v1] w fun e w' => ∃ v', e = .returned v' ∧ IsRat w.heap.size w' v' (addP p q (-r) s) (addQ p q (-r) s) ∧ Ext w w' := by
  have H0 := Lib.hid h0
  have H1 := Lib.hid h1
  have HNG := Lib.hid (fun W v a => rnegR_any W v r s a n1 m1)
  have HAD := Lib.hid (fun W v u a b => raddR_any W v p q a n0 m0 u (-r) s b (by rw [Int.natAbs_neg]; exact n1) m1 hq hs)
  obtain ⟨b0, l0, A0, c0, k0, D0, e0, rfl⟩ := h0.shape
  obtain ⟨b1, l1, A1, c1, k1, D1, e1, rfl⟩ := h1.shape
  clear h0 h1
  go_enter Tryz.func45, Tryz.ntmps45
  go_wp2_with fail
  have hb0 := (((Blk.new w 26 #[Value.bool b0, Value.slice A0 l0 c0, Value.slice D0 k0 e0]).alloc (.cells #[Value.bool b1, Value.slice A1 l1 c1, Value.slice D1 k1 e1] 26)).alloc (.cells #[Value.bool false, Value.slice none 0 0, Value.slice none 0 0] 26))
  have hb1 := ((Blk.new (w.alloc (.cells #[Value.bool b0, Value.slice A0 l0 c0, Value.slice D0 k0 e0] 26)) 26 #[Value.bool b1, Value.slice A1 l1 c1, Value.slice D1 k1 e1]).alloc (.cells #[Value.bool false, Value.slice none 0 0, Value.slice none 0 0] 26))
  have hb2 := (Blk.new ((w.alloc (.cells #[Value.bool b0, Value.slice A0 l0 c0, Value.slice D0 k0 e0] 26)).alloc (.cells #[Value.bool b1, Value.slice A1 l1 c1, Value.slice D1 k1 e1] 26)) 26 #[Value.bool false, Value.slice none 0 0, Value.slice none 0 0])
  have hxo := ((((Ext.refl w).alloc (.cells #[Value.bool b0, Value.slice A0 l0 c0, Value.slice D0 k0 e0] 26)).alloc (.cells #[Value.bool b1, Value.slice A1 l1 c1, Value.slice D1 k1 e1] 26)).alloc (.cells #[Value.bool false, Value.slice none 0 0, Value.slice none 0 0] 26))
  have hszo : w.heap.size + 1 + 1 + 1 = (((w.alloc (.cells #[Value.bool b0, Value.slice A0 l0 c0, Value.slice D0 k0 e0] 26)).alloc (.cells #[Value.bool b1, Value.slice A1 l1 c1, Value.slice D1 k1 e1] 26)).alloc (.cells #[Value.bool false, Value.slice none 0 0, Value.slice none 0 0] 26)).heap.size := by simp
  simp only [World.size_alloc] at hb1 hb2
  generalize ((w.alloc (.cells #[Value.bool b0, Value.slice A0 l0 c0, Value.slice D0 k0 e0] 26)).alloc (.cells #[Value.bool b1, Value.slice A1 l1 c1, Value.slice D1 k1 e1] 26)).alloc (.cells #[Value.bool false, Value.slice none 0 0, Value.slice none 0 0] 26) = wo at *
  obtain ⟨q0_0, q0_1, q0_2, _, _, _, _⟩ := hb0.three
  obtain ⟨q1_0, q1_1, q1_2, _, _, _, _⟩ := hb1.three
  obtain ⟨t0, t1, t2, s0, s1, s2, hgz⟩ := hb2.three
  clear hb0 hb1 hb2
  go_region_held3 (fun w' => Ext w w' ∧ w'.cell? ⟨w.heap.size, 0, none⟩ = some (Value.bool b0) ∧ w'.cell? ⟨w.heap.size, 1, none⟩ = some (Value.slice A0 l0 c0) ∧ w'.cell? ⟨w.heap.size, 2, none⟩ = some (Value.slice D0 k0 e0) ∧ w'.cell? ⟨w.heap.size + 1, 0, none⟩ = some (Value.bool b1) ∧ w'.cell? ⟨w.heap.size + 1, 1, none⟩ = some (Value.slice A1 l1 c1) ∧ w'.cell? ⟨w.heap.size + 1, 2, none⟩ = some (Value.slice D1 k1 e1) ∧ w'.cell? ⟨w.heap.size + 1 + 1, 0, none⟩ = some (was w' (w.heap.size + 1 + 1) 0) ∧ w'.cell? ⟨w.heap.size + 1 + 1, 1, none⟩ = some (was w' (w.heap.size + 1 + 1) 1) ∧ w'.cell? ⟨w.heap.size + 1 + 1, 2, none⟩ = some (was w' (w.heap.size + 1 + 1) 2) ∧ w'.frozen? ⟨w.heap.size + 1 + 1, 0, none⟩ = false ∧ w'.frozen? ⟨w.heap.size + 1 + 1, 1, none⟩ = false ∧ w'.frozen? ⟨w.heap.size + 1 + 1, 2, none⟩ = false)
    (first | (exact ⟨hxo.drew, q0_0, q0_1, q0_2, q1_0, q1_1, q1_2, was_some (w := wo.drew) t0, was_some (w := wo.drew) t1, was_some (w := wo.drew) t2, s0, s1, s2⟩) | (exact keptS6_3 (by assumption) (by assumption)) | (exact keptS6_3_set (by assumption) (by omega) (by omega) (by omega) (by omega) (by omega) (by omega) (by omega)))
    (first
      | (go_at_call 39; have hchk1 := hz0; refine (HAD.out _ _ _ (H0.out.ext (And.left (by assumption))) R0.out).mono ?_; rintro e w2 ⟨r1, rfl, hi1, hx1⟩; have hz1 := hx1.size; have R0 := Lib.hid (R0.out.ext hx1); have R1 := Lib.hid hi1; obtain ⟨f1, g1, G1, j1, y1, Y1, z1, rfl⟩ := hi1.shape)
      | (go_at_call 46; refine (HNG.out _ _ (H1.out.ext (And.left (by assumption)))).mono ?_; rintro e w1 ⟨r0, rfl, hi0, hx0⟩; have hz0 := hx0.size; have R0 := Lib.hid hi0; obtain ⟨f0, g0, G0, j0, y0, Y0, z0, rfl⟩ := hi0.shape))
  all_goals go_wp2_with fail
  rename_i hS
  obtain ⟨hE, _, _, _, _, _, _, hc0, hc1, hc2, _, _, _⟩ := hS
  simp only [World.size_drew] at hz0
  obtain ⟨hr0, hr1, hr2⟩ := final3 hc0 hc1 hc2
  refine bodyPost_ret (v := .agg #[.bool f1, .slice G1 g1 j1, .slice Y1 y1 z1]) (by simp [results, Tryz.results45, go_sem, hr0, hr1, hr2]) rfl ?_
  exact ⟨_, rfl, R1.out.put (by omega) (by omega), hE⟩
end Big
end Go.Proofs.YtplmldkfgeiklaaGreatDoor
namespace Go.Proofs.YtplmldkfgeiklaaGreatDoor
namespace Big
open Go.RowKit

/-- What product.Small holds after k digits. -/
def SmallAt (w0 wr : World) (xs : List Nat) (m c k cy : Nat) : Prop :=
  ∃ ys : List Nat, ys.length = k ∧ Ok ys ∧ val ys + 4294967296 ^ k * cy = val (xs.take k) * m + c ∧
    Blk wr w0.heap.size 74 (cells (ys ++ List.replicate (xs.length + 1 - k) 0)) ∧ Ext w0 wr

theorem SmallAt.step {w0 wr : World} {xs ys : List Nat} {m c k q x : Nat} (hk : k < xs.length) (hl : ys.length = k) (hok : Ok ys)
    (hv : val (ys ++ [(q + x * m) % 4294967296]) + 4294967296 ^ (k + 1) * ((q + x * m) / 4294967296) = val (xs.take (k + 1)) * m + c)
    (hb : Blk wr w0.heap.size 74 (cells (ys ++ List.replicate (xs.length + 1 - k) 0))) (he : Ext w0 wr) :
    SmallAt w0 (wr.setCell ⟨w0.heap.size, k, none⟩ (d32 ((q + x * m) % 4294967296))) xs m c (k + 1) ((q + x * m) / 4294967296) := by
  refine ⟨ys ++ [(q + x * m) % 4294967296], by simp [hl], hok.snoc (Nat.mod_lt _ (by omega)), hv, ?_, he.setCell (Nat.le_refl _) _⟩
  have h1 := hb.set_ k (d32 ((q + x * m) % 4294967296))
  rw [set_cells, show xs.length + 1 - k = (xs.length - k) + 1 by omega] at h1
  have h2 := set_front ys (xs.length - k) ((q + x * m) % 4294967296)
  rw [hl] at h2
  rw [h2] at h1
  rw [show xs.length + 1 - (k + 1) = xs.length - k by omega]
  exact h1

theorem psmall_any (w : World) (v : Value) (xs : List Nat) (m c : Nat) (h : Arr w v xs) (hn : xs.length ≤ 536870912) (hm : m < 4294967296) (hc : c < 4294967296) :
    Calls Tryz.prog 115 #[v, .int .u32 (m : Int), .int .u32 (c : Int)] w fun e w' => ∃ v', e = .returned v' ∧ Own w.heap.size w' v' (limbs (val xs * m + c)) ∧ Ext w w' := by
  have HA := Lib.hid h
  obtain ⟨hok, A, cap, rfl, hcap, hmx, hcell⟩ := h.open
  have HM := Lib.hid hmx
  have HC := Lib.hid hcell
  have hmk := run_make32_succ xs.length (by omega)
  have HMK := Lib.hid hmk
  clear h hcell hmx hcap
  go_enter Tryz.func115, Tryz.ntmps115
  go_wp2_with fail
  clear hmk
  go_loopw [8, 19] (fun cy i wr => ∃ k q : Nat, k ≤ xs.length ∧ q < 4294967296 ∧ i = .int .i64 k ∧ cy = .int .u64 q ∧ SmallAt w wr xs m c k q) (fun _ i _ => xs.length - (intOf i).toNat)
  case atStart => exact ⟨0, c, Nat.zero_le _, hc, rfl, rfl, [], rfl, ok_nil, by simp [val], Blk.new _ _ _, (Ext.refl w).alloc _⟩
  case round =>
    obtain ⟨k, q, hk, hq, rfl, rfl, ys, hl, hok', hv, hblk, hext⟩ := hrel
    have HV := Lib.hid hv; clear hv
    have HB := Lib.hid hblk; clear hblk
    have HL := Lib.hid hl; clear hl
    by_cases hlt : k < xs.length
    · obtain ⟨b, o, rfl, hb, hcell⟩ := HC.out (by omega)
      have hx := (hext.cell hb).trans (hcell k hlt)
      have hst := HB.out.cell k
      have hfz := HB.out.frozen k
      rw [get_cells _ _ (by simp [HL.out]; omega)] at hst
      clear hcell
      have hxm := hok.get k
      have HS := Lib.hid (small_step xs ys k m c q hlt HL.out HV.out)
      have hp := prod_le hxm hm
      obtain ⟨x, hxe⟩ : ∃ x, xs.getD k 0 = x := ⟨_, rfl⟩
      rw [hxe] at hx hxm hp HS
      clear hxe
      have hp' : (x : Int) * (m : Int) ≤ 18446744065119617025 := by rw [← Int.natCast_mul]; omega
      have hp0 : 0 ≤ (x : Int) * (m : Int) := by rw [← Int.natCast_mul]; omega
      simp only [d32] at hx hst
      go_wp2
      go_round
      case rel =>
        refine ⟨k + 1, (q + x * m) / 4294967296, by omega, ?_, by go_num, by go_num, ?_⟩
        · exact Nat.div_lt_of_lt_mul (by omega)
        · exact SmallAt.step hlt HL.out hok' HS.out HB.out hext
      case measure => simp [intOf]; omega
    · obtain rfl : k = xs.length := by omega
      have hst := HB.out.cell xs.length
      have hfz := HB.out.frozen xs.length
      rw [get_cells _ _ (by simp [HL.out])] at hst
      have hlast : Own w.heap.size (wr.setCell ⟨w.heap.size, xs.length, none⟩ (d32 q)) (.slice (some ⟨w.heap.size, 0, none⟩) (xs.length + 1) (xs.length + 1)) (ys ++ [q]) := by
        have h1 := HB.out.set_ xs.length (d32 q)
        have h2 := set_front ys 0 q
        rw [HL.out] at h2
        rw [set_cells, show xs.length + 1 - xs.length = 0 + 1 by omega, h2] at h1
        have h3 := Own.block (B := w.heap.size) (hok'.snoc hq) (by simpa using h1) (Nat.le_refl _) (by simp [HL.out]; omega)
        simpa [HL.out] using h3
      have hval : val (ys ++ [q]) = val xs * m + c := by
        rw [val_snoc, HL.out, HV.out, List.take_of_length_le (Nat.le_refl _)]
      have HT := Lib.hid (trim_any _ _ _ hlast.arr (by simp [HL.out]; omega))
      rw [hval] at HT
      have HVL := Lib.hid hval
      have HO := Lib.hid hlast
      clear hval hlast
      simp only [d32] at hst
      go_wp2_with fail
      refine HT.out.mono ?_
      rintro e w' ⟨v', rfl, ho, hx⟩
      go_wp2_with fail
      go_ret
      have he : Ext w (wr.setCell ⟨w.heap.size, xs.length, none⟩ (d32 q)) := hext.setCell (Nat.le_refl _) _
      exact ⟨_, rfl, ho.mono he.size, he.trans hx⟩
end Big
end Go.Proofs.YtplmldkfgeiklaaGreatDoor
