import Derived.Test.YtplmldkfgeiklaaGreatDoorM12
import Derived.Test.YtplmldkfgeiklaaGreatDoorM16
import Derived.Test.YtplmldkfgeiklaaGreatDoorNum3
import Derived.Test.YtplmldkfgeiklaaGreatDoorM2
import Derived.Test.YtplmldkfgeiklaaGreatDoorM14
import Derived.Test.YtplmldkfgeiklaaGreatDoorM15
import Derived.Test.YtplmldkfgeiklaaGreatDoorM6
import Derived.Test.YtplmldkfgeiklaaGreatDoorShelf
import Derived.Shelf.Strings.SlTrimAscii
/- Decimals of fractions: plain. -/
namespace Go.Proofs.YtplmldkfgeiklaaGreatDoor
namespace Big
/-- a is b times the power n of p, and b is no multiple of p. -/
def Strip (p a b n : Nat) : Prop := a = b * p ^ n ∧ ¬ p ∣ b
theorem Strip.uniq {p a b n b' n' : Nat} (hp : 0 < p) (h : Strip p a b n) (h' : Strip p a b' n') : b = b' ∧ n = n' := by
  have key : ∀ {b n b' n' : Nat}, Strip p a b n → Strip p a b' n' → n ≤ n' → b = b' ∧ n = n' := by
    intro b n b' n' h h' hn
    obtain ⟨d, rfl⟩ := Nat.exists_eq_add_of_le hn
    have h1 : b * p ^ n = b' * p ^ d * p ^ n := by
      rw [← h.1, h'.1, Nat.pow_add, Nat.mul_assoc, Nat.mul_comm (p ^ n)]
    have h2 := Nat.eq_of_mul_eq_mul_right (Nat.pow_pos hp) h1
    cases d with
    | zero => rw [Nat.pow_zero, Nat.mul_one] at h2; exact ⟨h2, rfl⟩
    | succ d => exact absurd ⟨b' * p ^ d, by rw [h2, Nat.pow_succ, ← Nat.mul_assoc, Nat.mul_comm]⟩ h.2
  rcases Nat.le_total n n' with hn | hn
  · exact key h h' hn
  · have := key h' h hn
    exact ⟨this.1.symm, this.2.symm⟩
theorem Strip.pos {p a b n : Nat} (h : Strip p a b n) (ha : 0 < a) : 0 < b := by
  rcases Nat.eq_zero_or_pos b with h0 | h0
  · have := h.1; rw [h0, Nat.zero_mul] at this; omega
  · exact h0
/-- The digits, with zeros in front until there is one ahead of the point. -/
def padT (N n : Nat) : List UInt8 := List.replicate (n + 1 - (dec N).length) 48 ++ dec N
def dotT (N n : Nat) : List UInt8 := if n = 0 then dec N else (padT N n).take ((padT N n).length - n) ++ 46 :: (padT N n).drop ((padT N n).length - n)
theorem padT_len (N n : Nat) : (padT N n).length = max (n + 1) (dec N).length := by
  unfold padT
  rw [List.length_append, List.length_replicate]
  omega
theorem padT_long {N n : Nat} (h : n + 1 ≤ (dec N).length) : padT N n = dec N := by
  unfold padT
  rw [show n + 1 - (dec N).length = 0 by omega]; rfl
theorem numOf_zeros (k : Nat) (l : List UInt8) : numOf (List.replicate k 48 ++ l) = numOf l := by
  induction k with
  | zero => rfl
  | succ k ih => rw [List.replicate_succ, List.cons_append, numOf_cons0, ih]
theorem numOf_dec (n : Nat) : numOf (dec n) = n := by
  by_cases h : n = 0
  · subst h; rfl
  · rw [dec_pos n h, numOf_low]
theorem dec_all (n : Nat) : (dec n).all isDig = true := by
  by_cases h : n = 0
  · subst h; rfl
  · rw [dec_pos n h, List.all_reverse]; exact low_all n
theorem dec_ne (n : Nat) : dec n ≠ [] := by
  obtain ⟨c, rest, h, _⟩ := dec_head n
  rw [h]; simp
theorem dec_first (n : Nat) : ¬ ((dec n)[0]? = some 48 ∧ 1 < (dec n).length) := by
  by_cases h : n = 0
  · subst h
    rw [dec_zero]
    simp
  · obtain ⟨c, rest, h1, h2, _⟩ := low_head n h
    rw [dec_pos n h, h1]
    rintro ⟨h3, _⟩
    simp only [List.getElem?_cons_zero, Option.some.injEq] at h3
    subst h3
    simp at h2
theorem padT_num (N n : Nat) : numOf (padT N n) = N := by unfold padT; rw [numOf_zeros, numOf_dec]
theorem padT_all (N n : Nat) : (padT N n).all isDig = true := by
  unfold padT
  rw [List.all_append, dec_all, Bool.and_true, List.all_eq_true]
  intro x hx
  rw [List.mem_replicate] at hx
  rw [hx.2]; rfl
theorem all_take {l : List UInt8} (h : l.all isDig = true) (k : Nat) : (l.take k).all isDig = true := by
  rw [List.all_eq_true] at h ⊢
  exact fun x hx => h x (List.mem_of_mem_take hx)
theorem all_drop {l : List UInt8} (h : l.all isDig = true) (k : Nat) : (l.drop k).all isDig = true := by
  rw [List.all_eq_true] at h ⊢
  exact fun x hx => h x (List.mem_of_mem_drop hx)
theorem digit_no_dot {c : UInt8} (h : isDig c = true) : c ≠ 46 := by
  rintro rfl
  cases h
theorem whole_digits {l : List UInt8} (h : l.all isDig = true) : whole l = l ∧ part l = [] ∧ hasDot l = false := by
  induction l with
  | nil => exact ⟨rfl, rfl, rfl⟩
  | cons c t ih =>
    rw [List.all_cons, Bool.and_eq_true] at h
    obtain ⟨h1, h2, h3⟩ := ih h.2
    have hc := digit_no_dot h.1
    exact ⟨by rw [whole_cons t hc, h1], by rw [part_cons t hc, h2], by rw [hasDot_cons t hc, h3]⟩
theorem whole_at {a b : List UInt8} (h : a.all isDig = true) : whole (a ++ 46 :: b) = a ∧ part (a ++ 46 :: b) = b ∧ hasDot (a ++ 46 :: b) = true := by
  induction a with
  | nil => exact ⟨whole_dot b, part_dot b, hasDot_dot b⟩
  | cons c t ih =>
    rw [List.all_cons, Bool.and_eq_true] at h
    obtain ⟨h1, h2, h3⟩ := ih h.2
    have hc := digit_no_dot h.1
    rw [List.cons_append]
    exact ⟨by rw [whole_cons _ hc, h1], by rw [part_cons _ hc, h2], by rw [hasDot_cons _ hc, h3]⟩
/-- The last digit tells the rest modulo ten. -/
theorem numOf_last (l : List UInt8) (c : UInt8) (h : isDig c = true) : numOf (l ++ [c]) % 10 = c.toNat - 48 := by
  rw [numOf_snoc]
  have := (isDig_iff c).1 h
  omega
theorem last_48 {l : List UInt8} (h : l.all isDig = true) (hl : l.getLast? = some 48) : numOf l % 10 = 0 := by
  rcases snoc_cases l with rfl | ⟨t, c, rfl⟩
  · cases hl
  · rw [List.getLast?_append] at hl
    simp only [List.getLast?_singleton, Option.some_or, Option.some.injEq] at hl
    subst hl
    rw [numOf_last _ _ rfl]; rfl
/-- The text of a number with a point is read as this number. -/
theorem dotT_parts {N n : Nat} (h : 0 < n → N % 10 ≠ 0) : whole (dotT N n) ++ part (dotT N n) = padT N n ∧ (part (dotT N n)).length = n ∧ bad7 (dotT N n) = false := by
  unfold dotT
  by_cases h0 : n = 0
  · subst h0
    rw [if_pos rfl]
    obtain ⟨h1, h2, h3⟩ := whole_digits (dec_all N)
    have hl : 1 ≤ (dec N).length := List.length_pos_iff.2 (dec_ne N)
    refine ⟨by rw [h1, h2, padT_long (by omega), List.append_nil], by rw [h2]; rfl, ?_⟩
    unfold bad7
    rw [h1, h2, h3]
    have h4 := dec_first N
    have h5 : (dec N == []) = false := by rw [beq_eq_false_iff_ne]; exact dec_ne N
    rw [h5]
    simp only [Bool.false_and, Bool.false_or, Bool.and_eq_false_iff, beq_eq_false_iff_ne, decide_eq_false_iff_not]
    by_cases h6 : (dec N)[0]? = some 48
    · exact .inr (fun h7 => h4 ⟨h6, h7⟩)
    · exact .inl h6
  · rw [if_neg h0]
    have hpl := padT_len N n
    obtain ⟨h1, h2, h3⟩ := whole_at (b := (padT N n).drop ((padT N n).length - n)) (all_take (padT_all N n) ((padT N n).length - n))
    rw [h1, h2]
    refine ⟨List.take_append_drop _ _, by rw [List.length_drop]; omega, ?_⟩
    unfold bad7
    rw [h1, h2, h3]
    have hm := h (by omega)
    have e1 : ((padT N n).drop ((padT N n).length - n) == []) = false := by
      rw [beq_eq_false_iff_ne]
      intro e
      have := congrArg List.length e
      rw [List.length_drop, List.length_nil] at this
      omega
    have e2 : (((padT N n).drop ((padT N n).length - n)).getLast? == some 48) = false := by
      rw [beq_eq_false_iff_ne]
      intro e
      rw [List.getLast?_drop, if_neg (by omega)] at e
      have := last_48 (padT_all N n) e
      rw [padT_num] at this
      exact hm this
    have e3 : ((padT N n).take ((padT N n).length - n) == []) = false := by
      rw [beq_eq_false_iff_ne]
      intro e
      have := congrArg List.length e
      rw [List.length_take, List.length_nil] at this
      omega
    rw [e1, e2, e3]
    simp only [Bool.or_self, Bool.and_false, Bool.false_or, Bool.and_eq_false_iff, beq_eq_false_iff_ne, decide_eq_false_iff_not]
    rw [List.length_take]
    by_cases hlong : n + 1 < (dec N).length
    · left
      have h4 := dec_first N
      rw [padT_long (by omega)]
      intro e
      rw [List.getElem?_take, if_pos (by omega)] at e
      exact h4 ⟨e, by omega⟩
    · right
      omega
theorem dotT_read {N n : Nat} (h : 0 < n → N % 10 ≠ 0) (hl : (dotT N n).length ≤ 400) : code7 (dotT N n) = 0 ∧ num7 (dotT N n) = lowN (N : Int) (10 ^ n) ∧ den7 (dotT N n) = lowD (N : Int) (10 ^ n) := by
  obtain ⟨h1, h2, h3⟩ := dotT_parts h
  refine ⟨?_, ?_, ?_⟩
  · unfold code7 good7
    rw [if_neg (by omega), h3, h1, padT_all]
    rfl
  · unfold num7; rw [h1, h2, padT_num]
  · unfold den7; rw [h1, h2, padT_num]
/-- Zeros in front of a number's digits are what a text of digits has more than them. -/
theorem zeros_dec (l : List UInt8) (h : l.all isDig = true) (hne : l ≠ []) : l = List.replicate (l.length - (dec (numOf l)).length) 48 ++ dec (numOf l) := by
  induction l with
  | nil => exact absurd rfl hne
  | cons c t ih =>
    by_cases hc : c = 48
    · subst hc
      rw [List.all_cons, Bool.and_eq_true] at h
      rcases t with _ | ⟨d, t⟩
      · rfl
      · have h1 := ih h.2 (by simp)
        rw [numOf_cons0]
        have h2 := congrArg List.length h1
        rw [List.length_append, List.length_replicate] at h2
        rw [show ((48 : UInt8) :: d :: t).length - (dec (numOf (d :: t))).length = ((d :: t).length - (dec (numOf (d :: t))).length) + 1 by rw [List.length_cons]; omega, List.replicate_succ, List.cons_append, ← h1]
    · rw [dec_numOf (c :: t) (by simp) h (by rintro ⟨h1, _⟩; simp at h1; exact hc h1), Nat.sub_self]
      rfl
/-- A text that is a decimal is the text of its number. -/
theorem dotT_of_text {l : List UInt8} (h : code7 l = 0) : dotT (numOf (whole l ++ part l)) (part l).length = l ∧ (0 < (part l).length → numOf (whole l ++ part l) % 10 ≠ 0) := by
  unfold code7 at h
  split at h
  · cases h
  split at h
  · rename_i hg
    unfold good7 at hg
    rw [Bool.and_eq_true, Bool.not_eq_true'] at hg
    obtain ⟨hb, hall⟩ := hg
    unfold bad7 at hb
    rw [Bool.or_eq_false_iff, Bool.or_eq_false_iff] at hb
    obtain ⟨⟨hb1, hb2⟩, hb3⟩ := hb
    rw [beq_eq_false_iff_ne] at hb2
    have hne : whole l ++ part l ≠ [] := fun e => hb2 (List.append_eq_nil_iff.1 e).1
    have hz := zeros_dec _ hall hne
    have hw : 1 ≤ (whole l).length := List.length_pos_iff.2 hb2
    have hlen : (whole l ++ part l).length = (whole l).length + (part l).length := List.length_append
    have hpad : padT (numOf (whole l ++ part l)) (part l).length = whole l ++ part l := by
      have hzl := congrArg List.length hz
      simp only [List.length_append, List.length_replicate] at hzl
      by_cases h1 : (whole l).length = 1
      · unfold padT
        rw [show (part l).length + 1 = (whole l ++ part l).length by omega]
        exact hz.symm
      · have h0 : (whole l)[0]? ≠ some 48 := by
          intro e
          rw [e] at hb3
          simp at hb3
          omega
        have hd := dec_numOf _ hne hall (by
          rintro ⟨e, _⟩
          rw [List.getElem?_append_left (by omega)] at e
          exact h0 e)
        rw [padT_long (by rw [hd]; omega), hd]
    rcases dot_split l with ⟨hd, hl⟩ | ⟨hd, hl, hp⟩
    · rw [hd] at hb1
      simp only [Bool.true_and, Bool.or_eq_false_iff, beq_eq_false_iff_ne] at hb1
      have hp : 0 < (part l).length := List.length_pos_iff.2 hb1.1
      refine ⟨?_, fun _ hm => hb1.2 ?_⟩
      · unfold dotT
        rw [if_neg (by omega), hpad, hlen, Nat.add_sub_cancel, List.take_left', List.drop_left']
        · exact hl.symm
        · rfl
        · rfl
      · have hpa : (part l).all isDig = true := by
          rw [List.all_append, Bool.and_eq_true] at hall
          exact hall.2
        rcases snoc_cases (part l) with e | ⟨t, c, e⟩
        · exact absurd e hb1.1
        · rw [e] at hm hpa ⊢
          rw [← List.append_assoc] at hm
          have hcd : isDig c = true := by
            rw [List.all_append, Bool.and_eq_true, List.all_cons, Bool.and_eq_true] at hpa
            exact hpa.2.1
          rw [numOf_last _ _ hcd] at hm
          have := (isDig_iff c).1 hcd
          rw [List.getLast?_append]
          simp only [List.getLast?_singleton, Option.some_or, Option.some.injEq]
          exact UInt8.toNat_inj.1 (show c.toNat = 48 by omega)
    · refine ⟨?_, fun h => by rw [hp] at h; simp at h⟩
      have h9 : padT (numOf (whole l ++ part l)) 0 = dec (numOf (whole l ++ part l)) := padT_long (by have := List.length_pos_iff.2 (dec_ne (numOf (whole l ++ part l))); omega)
      have h10 : (part l).length = 0 := by rw [hp]; rfl
      unfold dotT
      rw [if_pos h10, ← h9]
      rw [h10] at hpad
      rw [hpad, hp, List.append_nil]
      exact hl.symm
  · cases h
end Big
end Go.Proofs.YtplmldkfgeiklaaGreatDoor
/- Which fractions have a decimal: plain. -/
namespace Go.Proofs.YtplmldkfgeiklaaGreatDoor
namespace Big
theorem cop_two {r : Nat} (h : ¬ 2 ∣ r) : Nat.Coprime r 2 := by
  have h1 : Nat.gcd r 2 ≤ 2 := Nat.gcd_le_right _ (by decide)
  have h0 : 0 < Nat.gcd r 2 := Nat.gcd_pos_of_pos_right _ (by decide)
  have h2 := Nat.gcd_dvd_left r 2
  unfold Nat.Coprime
  rcases (by omega : Nat.gcd r 2 = 1 ∨ Nat.gcd r 2 = 2) with e | e
  · exact e
  · rw [e] at h2; exact absurd h2 h
theorem cop_five {r : Nat} (h : ¬ 5 ∣ r) : Nat.Coprime r 5 := by
  have h1 : Nat.gcd r 5 ≤ 5 := Nat.gcd_le_right _ (by decide)
  have h0 : 0 < Nat.gcd r 5 := Nat.gcd_pos_of_pos_right _ (by decide)
  have h2 := Nat.gcd_dvd_left r 5
  have h3 := Nat.gcd_dvd_right r 5
  unfold Nat.Coprime
  rcases (by omega : Nat.gcd r 5 = 1 ∨ Nat.gcd r 5 = 2 ∨ Nat.gcd r 5 = 3 ∨ Nat.gcd r 5 = 4 ∨ Nat.gcd r 5 = 5) with e | e | e | e | e
  · exact e
  · rw [e] at h3; exact absurd h3 (by decide)
  · rw [e] at h3; exact absurd h3 (by decide)
  · rw [e] at h3; exact absurd h3 (by decide)
  · rw [e] at h2; exact absurd h2 h
theorem ten_pow (n : Nat) : 10 ^ n = 2 ^ n * 5 ^ n := by rw [← Nat.mul_pow]
/-- The number whose digits are those of p / q, where q = 5^f 2^t. -/
def scN (p t f : Nat) : Nat := p * 5 ^ (max t f - f) * 2 ^ (max t f - t)
theorem scN_mul (p t f : Nat) : scN p t f * (5 ^ f * 2 ^ t) = p * 10 ^ (max t f) := by
  unfold scN
  have h1 : 5 ^ (max t f - f) * 5 ^ f = 5 ^ (max t f) := by rw [← Nat.pow_add]; congr 1; omega
  have h2 : 2 ^ (max t f - t) * 2 ^ t = 2 ^ (max t f) := by rw [← Nat.pow_add]; congr 1; omega
  rw [ten_pow, ← h1, ← h2]
  ac_rfl
theorem scN_div (p t f : Nat) : scN p t f = p * 10 ^ (max t f) / (5 ^ f * 2 ^ t) := by
  rw [← scN_mul, Nat.mul_div_cancel]
  exact Nat.mul_pos (Nat.pow_pos (by decide)) (Nat.pow_pos (by decide))
theorem scN_last {p t f : Nat} (h : Nat.gcd p (5 ^ f * 2 ^ t) = 1) (hn : 0 < max t f) : scN p t f % 10 ≠ 0 := by
  intro e
  have h10 : 10 ∣ scN p t f := Nat.dvd_of_mod_eq_zero e
  unfold scN at h10
  have hc25 : Nat.Coprime 2 5 := by decide
  rcases Nat.lt_or_ge f t with hlt | hge
  · have ht : max t f - t = 0 := by omega
    rw [ht, Nat.pow_zero, Nat.mul_one] at h10
    have h2 : 2 ∣ p * 5 ^ (max t f - f) := Nat.dvd_trans (by decide) h10
    have h3 : 2 ∣ p := (hc25.pow_right _).dvd_of_dvd_mul_right h2
    have h4 : 2 ∣ 5 ^ f * 2 ^ t := by
      obtain ⟨k, rfl⟩ : ∃ k, t = k + 1 := ⟨t - 1, by omega⟩
      exact ⟨5 ^ f * 2 ^ k, by rw [Nat.pow_succ]; ac_rfl⟩
    have h5 := Nat.dvd_gcd h3 h4
    rw [h] at h5
    exact absurd h5 (by decide)
  · have hf : max t f - f = 0 := by omega
    rw [hf, Nat.pow_zero, Nat.mul_one] at h10
    have h2 : 5 ∣ p * 2 ^ (max t f - t) := Nat.dvd_trans (by decide) h10
    have h3 : 5 ∣ p := (hc25.symm.pow_right _).dvd_of_dvd_mul_right h2
    have h4 : 5 ∣ 5 ^ f * 2 ^ t := by
      obtain ⟨k, rfl⟩ : ∃ k, f = k + 1 := ⟨f - 1, by omega⟩
      exact ⟨5 ^ k * 2 ^ t, by rw [Nat.pow_succ]; ac_rfl⟩
    have h5 := Nat.dvd_gcd h3 h4
    rw [h] at h5
    exact absurd h5 (by decide)
/-- The decimal of p / (5^f 2^t) is read as this fraction. -/
theorem dec_back {p t f : Nat} (h : Nat.gcd p (5 ^ f * 2 ^ t) = 1) (hl : (dotT (scN p t f) (max t f)).length ≤ 400) :
    code7 (dotT (scN p t f) (max t f)) = 0 ∧ num7 (dotT (scN p t f) (max t f)) = (p : Int) ∧ den7 (dotT (scN p t f) (max t f)) = 5 ^ f * 2 ^ t := by
  obtain ⟨h1, h2, h3⟩ := dotT_read (N := scN p t f) (n := max t f) (fun hn => scN_last h hn) hl
  have hq : 0 < 5 ^ f * 2 ^ t := Nat.mul_pos (Nat.pow_pos (by decide)) (Nat.pow_pos (by decide))
  have h4 := low_eq (z := (scN p t f : Int)) (d := 10 ^ (max t f)) (p := (p : Int)) (q := 5 ^ f * 2 ^ t) (Nat.pow_pos (by decide)) ⟨hq, by rw [Int.natAbs_natCast]; exact h⟩ (by
    rw [← Int.natCast_mul, ← Int.natCast_mul, scN_mul])
  exact ⟨h1, by rw [h2, h4.1], by rw [h3, h4.2]⟩
/-- How many digits a decimal has. -/
theorem dotT_len {N n k : Nat} (h : N < 10 ^ k) (hk : 1 ≤ k) : (dotT N n).length ≤ max (n + 1) k + 1 := by
  have hd : (dec N).length ≤ k := by
    by_cases h0 : N = 0
    · subst h0; rw [dec_zero]; simpa using hk
    · rw [dec_pos N h0, List.length_reverse]
      exact length_low_le h
  unfold dotT
  split
  · omega
  · have hp := padT_len N n
    rw [List.length_append, List.length_cons, List.length_take, List.length_drop]
    omega
/-- A text's fraction: its denominator has the factors 2 and 5 only, as many as it has places. -/
theorem text_strip {N k q m t r f : Nat} (hk : 0 < k → N % 10 ≠ 0) (hq : q = lowD (N : Int) (10 ^ k)) (h2 : Strip 2 q m t) (h5 : Strip 5 m r f) :
    r = 1 ∧ max t f = k ∧ scN (lowN (N : Int) (10 ^ k)).natAbs t f = N := by
  have hp10 : 0 < 10 ^ k := Nat.pow_pos (by decide)
  have hlow := low_of (N : Int) hp10
  have hcr := low_cross (N : Int) (10 ^ k)
  rw [← hq] at hlow hcr
  have hnn : lowN (N : Int) (10 ^ k) = ((lowN (N : Int) (10 ^ k)).natAbs : Int) := by
    have hd : decide ((N : Int) < 0) = false := by simp
    unfold lowN
    rw [hd, natAbs_sgn]
    rfl
  generalize (lowN (N : Int) (10 ^ k)).natAbs = p at *
  rw [hnn] at hcr hlow
  rw [← Int.natCast_mul, ← Int.natCast_mul, Int.natCast_inj] at hcr
  have hqd : q ∣ 10 ^ k := by rw [hq]; exact ⟨_, (lowD_gcd (N : Int) (10 ^ k)).symm⟩
  have hq0 : 0 < q := hlow.1
  have hqe : q = r * 5 ^ f * 2 ^ t := by rw [h2.1, h5.1]
  have hr2 : ¬ 2 ∣ r := fun e => h2.2 (by rw [h5.1]; exact Nat.dvd_mul_right_of_dvd e _)
  have hc2 := cop_two hr2
  have hc5 := cop_five h5.2
  have hc25 : Nat.Coprime 2 5 := by decide
  rw [ten_pow] at hqd
  have hr : r = 1 := by
    refine Nat.Coprime.eq_one_of_dvd (m := 2 ^ k * 5 ^ k) ((hc2.pow_right k).mul_right (hc5.pow_right k)) ?_
    refine Nat.dvd_trans ?_ hqd
    rw [hqe, Nat.mul_assoc]
    exact Nat.dvd_mul_right _ _
  subst hr
  rw [Nat.one_mul] at hqe
  have ht : t ≤ k := by
    have h1 : 2 ^ t ∣ 2 ^ k * 5 ^ k := Nat.dvd_trans (by rw [hqe]; exact Nat.dvd_mul_left _ _) hqd
    have h3 := ((hc25.pow_right k).pow_left t).dvd_of_dvd_mul_right h1
    exact (Nat.pow_dvd_pow_iff_le_right (by decide)).1 h3
  have hf : f ≤ k := by
    have h1 : 5 ^ f ∣ 2 ^ k * 5 ^ k := Nat.dvd_trans (by rw [hqe]; exact Nat.dvd_mul_right _ _) hqd
    have h3 := ((hc25.symm.pow_right k).pow_left f).dvd_of_dvd_mul_left h1
    exact (Nat.pow_dvd_pow_iff_le_right (by decide)).1 h3
  have hsc := scN_mul p t f
  rw [← hqe] at hsc
  have hmax : max t f = k := by
    rcases Nat.lt_or_ge (max t f) k with hlt | hge
    · exfalso
      have h1 : scN p t f * 10 ^ (k - max t f) = N := by
        refine Nat.eq_of_mul_eq_mul_right hq0 ?_
        calc scN p t f * 10 ^ (k - max t f) * q = (scN p t f * q) * 10 ^ (k - max t f) := by ac_rfl
          _ = p * (10 ^ (max t f) * 10 ^ (k - max t f)) := by rw [hsc, Nat.mul_assoc]
          _ = N * q := by rw [← Nat.pow_add, show max t f + (k - max t f) = k by omega, hcr]
      refine hk (by omega) ?_
      rw [← h1]
      obtain ⟨j, hj⟩ : ∃ j, k - max t f = j + 1 := ⟨k - max t f - 1, by omega⟩
      rw [hj, Nat.pow_succ, ← Nat.mul_assoc]
      exact Nat.mul_mod_left _ _
    · omega
  refine ⟨rfl, hmax, ?_⟩
  refine Nat.eq_of_mul_eq_mul_right hq0 ?_
  rw [hsc, hmax, hcr]
end Big
end Go.Proofs.YtplmldkfgeiklaaGreatDoor
/- bits.TrailingZeros32, nat.Zeros, rational.fives. -/
namespace Go.Proofs.YtplmldkfgeiklaaGreatDoor
namespace Big
open Go.RowKit
def tzTab : List Nat := [0, 1, 28, 2, 29, 14, 24, 3, 30, 22, 20, 15, 25, 17, 4, 8, 31, 27, 13, 23, 21, 19, 16, 7, 26, 12, 18, 6, 11, 5, 10, 9]
/-- The table by which the place of the lowest bit is found. -/
def Tab32 (w : World) : Prop := (∀ i, i < 32 → w.cell? ⟨0, i, none⟩ = some (.int .u8 ((tzTab.getD i 0 : Nat) : Int))) ∧ 0 < w.heap.size
theorem Tab32.ext {w w' : World} (h : Tab32 w) (he : Ext w w') : Tab32 w' := ⟨fun i hi => (he.cell h.2).trans (h.1 i hi), Nat.lt_of_lt_of_le h.2 he.size⟩
theorem tz_mul : ∀ k : Fin 32, 2 ^ k.val * 125613361 % 4294967296 / 134217728 < 32 ∧ tzTab.getD (2 ^ k.val * 125613361 % 4294967296 / 134217728) 0 = k.val := by decide +kernel
/-- The lowest bit alone. -/
theorem low_bit {x k m : Nat} (hx : x = m * 2 ^ k) (hm : m % 2 = 1) (hlt : x < 4294967296) : x &&& (4294967296 - x) = 2 ^ k := by
  obtain ⟨a, rfl⟩ : ∃ a, m = 2 * a + 1 := ⟨m / 2, by omega⟩
  have hp : 0 < 2 ^ k := Nat.pow_pos (by omega)
  have hx1 : 1 ≤ x := by rw [hx, Nat.add_mul, Nat.one_mul]; omega
  have hsub : x - 1 = 2 ^ k * (2 * a) + (2 ^ k - 1) := by rw [hx, Nat.add_mul, Nat.one_mul, Nat.mul_comm (2 ^ k)]; omega
  apply Nat.eq_of_testBit_eq
  intro i
  rw [Nat.testBit_and, show 4294967296 - x = 2 ^ 32 - ((x - 1) + 1) by omega, Nat.testBit_two_pow_sub_succ (by omega), Nat.testBit_two_pow]
  rcases Nat.lt_trichotomy i k with h | h | h
  · have h1 : x.testBit i = false := by
      rw [Nat.testBit_eq_decide_div_mod_eq, decide_eq_false_iff_not]
      obtain ⟨d, rfl⟩ : ∃ d, k = i + (d + 1) := ⟨k - i - 1, by omega⟩
      rw [hx, Nat.pow_add, ← Nat.mul_assoc, Nat.mul_comm (_ * _) (2 ^ (d + 1)), ← Nat.mul_assoc, Nat.mul_div_cancel _ (Nat.pow_pos (by omega)), Nat.pow_succ]
      have : 2 ^ d * 2 * (2 * a + 1) = 2 * (2 ^ d * (2 * a + 1)) := by ac_rfl
      omega
    rw [h1, Bool.false_and]
    exact (decide_eq_false (by omega)).symm
  · subst h
    have h1 : x.testBit i = true := by
      rw [Nat.testBit_eq_decide_div_mod_eq, decide_eq_true_iff, hx, Nat.mul_div_cancel _ hp]
      omega
    have h2 : (x - 1).testBit i = false := by
      rw [Nat.testBit_eq_decide_div_mod_eq, decide_eq_false_iff_not, hsub, Nat.mul_add_div hp, Nat.div_eq_of_lt (by omega)]
      omega
    have h3 : i < 32 := by
      rcases Nat.lt_or_ge i 32 with h | h
      · exact h
      · have := Nat.pow_le_pow_right (show 0 < 2 by omega) h
        rw [hx, Nat.add_mul, Nat.one_mul] at hlt
        omega
    rw [h1, h2, decide_eq_true h3, decide_eq_true rfl]; rfl
  · have h0 : ∀ y, y = x ∨ y = x - 1 → y / 2 ^ (k + 1) = a := by
      rintro y (rfl | rfl)
      · rw [hx, Nat.pow_succ, ← Nat.div_div_eq_div_mul, Nat.mul_div_cancel _ hp]
        omega
      · rw [hsub, Nat.pow_succ, ← Nat.div_div_eq_div_mul, Nat.mul_add_div hp, Nat.div_eq_of_lt (show 2 ^ k - 1 < 2 ^ k by omega)]
        omega
    have h1 : x.testBit i = (x - 1).testBit i := by
      rw [Nat.testBit_eq_decide_div_mod_eq, Nat.testBit_eq_decide_div_mod_eq]
      obtain ⟨d, rfl⟩ : ∃ d, i = k + 1 + d := ⟨i - k - 1, by omega⟩
      rw [Nat.pow_add, ← Nat.div_div_eq_div_mul, ← Nat.div_div_eq_div_mul, h0 _ (.inl rfl), h0 _ (.inr rfl)]
    rw [h1, show decide (k = i) = false from decide_eq_false (by omega)]
    cases (x - 1).testBit i <;> simp
theorem tz_facts {x k m : Nat} (hx : x = m * 2 ^ k) (hm : m % 2 = 1) (hlt : x < 4294967296) :
    ∃ y z i : Nat, bits .and .u32 (x : Int) (-(x : Int) % 4294967296) = (y : Int) ∧ (y : Int) * 125613361 % 4294967296 = (z : Int) ∧ (z : Int) / 134217728 = (i : Int) ∧ i < 32 ∧ tzTab.getD i 0 = k ∧ 1 ≤ x ∧ k < 32 := by
  have hk : k < 32 := by
    rcases Nat.lt_or_ge k 32 with h | h
    · exact h
    · have h1 := Nat.pow_le_pow_right (show 0 < 2 by omega) h
      have h2 : 2 ^ k ≤ m * 2 ^ k := Nat.le_mul_of_pos_left _ (by omega)
      omega
  have hx1 : 1 ≤ x := by
    have : 0 < 2 ^ k := Nat.pow_pos (by omega)
    have h2 : 2 ^ k ≤ m * 2 ^ k := Nat.le_mul_of_pos_left _ (by omega)
    omega
  have hlb := low_bit hx hm hlt
  obtain ⟨hi, hti⟩ := tz_mul ⟨k, hk⟩
  simp only at hi hti
  generalize 2 ^ k = y at *
  refine ⟨y, y * 125613361 % 4294967296, y * 125613361 % 4294967296 / 134217728, ?_, by omega, by omega, hi, hti, hx1, hk⟩
  have h1 : -(x : Int) % 4294967296 = ((4294967296 - x : Nat) : Int) := by omega
  rw [h1, bits_u32_and x (4294967296 - x) hlt (by omega), hlb]
theorem tz32_any (w : World) (x k m : Nat) (hx : x = m * 2 ^ k) (hm : m % 2 = 1) (hlt : x < 4294967296) (ht : Tab32 w) :
    Calls Tryz.prog 111 #[.int .u32 (x : Int)] w fun e w' => e = .returned (.int .i64 (k : Int)) ∧ w = w' := by
  obtain ⟨y, z, i, hand, hmul, hsh, hi, hti, hx1, hk⟩ := tz_facts hx hm hlt
  have hc := ht.1 _ hi
  rw [hti] at hc
  have hx0 : ((x : Int) == 0) = false := by rw [beq_eq_false_iff_ne]; omega
  have hi2 : (i : Int) < 32 := by omega
  have hk2 : (k : Int) < 32 := by omega
  clear hti hx hm hx1 ht
  go_enter Tryz.func111, Tryz.ntmps111
  go_wp2_with fail
  go_ret
  exact ⟨rfl, rfl⟩
theorem tz_digit {xs : List Nat} {k : Nat} (hk : k < xs.length) (hz : val (xs.take k) = 0) : val xs = 4294967296 ^ k * (xs.getD k 0 + 4294967296 * val (xs.drop (k + 1))) := by
  have h1 := val_split' xs k
  rw [hz, Nat.zero_add, val_drop xs k hk] at h1
  exact h1
theorem odd_split {x : Nat} (h : 0 < x) : ∃ k m, x = m * 2 ^ k ∧ m % 2 = 1 := by
  induction x using Nat.strongRecOn with
  | _ x ih =>
    by_cases h1 : x % 2 = 1
    · exact ⟨0, x, by simp, h1⟩
    · obtain ⟨k, m, h2, h3⟩ := ih (x / 2) (by omega) (by omega)
      refine ⟨k + 1, m, ?_, h3⟩
      rw [Nat.pow_succ, ← Nat.mul_assoc, ← h2]
      omega
theorem tz_strip {V x k t m r : Nat} (hV : V = 4294967296 ^ k * (x + 4294967296 * r)) (hx : x = m * 2 ^ t) (hm : m % 2 = 1) (hlt : x < 4294967296) : ∃ m', Strip 2 V m' (32 * k + t) := by
  have ht : t < 32 := by
    rcases Nat.lt_or_ge t 32 with h | h
    · exact h
    · have h1 := Nat.pow_le_pow_right (show 0 < 2 by omega) h
      have h2 : 2 ^ t ≤ m * 2 ^ t := Nat.le_mul_of_pos_left _ (by omega)
      omega
  obtain ⟨d, hd⟩ : ∃ d, 32 = t + (d + 1) := ⟨31 - t, by omega⟩
  have hb : (4294967296 : Nat) = 2 ^ t * (2 * 2 ^ d) := by
    rw [← Nat.pow_succ', ← Nat.pow_add, ← hd]
  refine ⟨m + 2 * 2 ^ d * r, ?_, ?_⟩
  · have e1 : x + 4294967296 * r = (m + 2 * 2 ^ d * r) * 2 ^ t := by
      rw [hx, Nat.add_mul]
      congr 1
      rw [hb]
      ac_rfl
    rw [hV, e1, Nat.pow_add, Nat.pow_mul, show (2 : Nat) ^ 32 = 4294967296 from rfl]
    ac_rfl
  · rintro ⟨j, hj⟩
    have : 2 * 2 ^ d * r = 2 * (2 ^ d * r) := by ac_rfl
    omega
set_option maxHeartbeats 1000000 in
theorem zeros_any (w : World) (v : Value) (xs : List Nat) (h : Arr w v xs) (hn : xs.length ≤ 1000000) (hV : 0 < val xs) (ht : Tab32 w) :
    Calls Tryz.prog 61 #[v] w fun e w' => ∃ n m, e = .returned (.int .i64 ((n : Nat) : Int)) ∧ Strip 2 (val xs) m n ∧ w = w' := by
  obtain ⟨hok, A, c, rfl, hc, hm, hcell⟩ := h.open
  have HC := Lib.hid hcell
  have HT := Lib.hid ht
  have HV := Lib.hid hV
  clear h hcell ht hV
  go_enter Tryz.func61, Tryz.ntmps61
  go_wp2_with fail
  go_loopw [7] (fun s7 wr => ∃ k : Nat, k ≤ xs.length ∧ s7 = .int .i64 (k : Int) ∧ val (xs.take k) = 0 ∧ w = wr) (fun s7 _ => xs.length - (intOf s7).toNat)
  case atStart => exact ⟨0, Nat.zero_le _, rfl, by simp [val], rfl⟩
  case round =>
    obtain ⟨k, hk, rfl, hz, rfl⟩ := hrel
    by_cases hlt : k < xs.length
    · obtain ⟨b, o, rfl, hb, hcell⟩ := HC.out (by omega)
      have hx := hcell k hlt
      have hxm := hok.get k
      have HD := Lib.hid (tz_digit hlt hz)
      have HZS := Lib.hid (show xs.getD k 0 = 0 → val (xs.take (k + 1)) = 0 from fun e => by rw [val_take', hz, e, Nat.mul_zero])
      generalize xs.getD k 0 = x at *
      simp only [d32] at hx
      have hki : (k : Int) < (xs.length : Int) := by omega
      clear hcell hz hb
      rcases Nat.eq_zero_or_pos x with h0 | h0
      · subst h0
        have hx0 : (((0 : Nat) : Int) != 0) = false := rfl
        clear HD
        go_wp2_with fail
        go_roundw
        case rel => exact ⟨k + 1, by omega, by go_num, HZS.out rfl, trivial⟩
        case measure => simp [intOf]; omega
      · obtain ⟨t, m, hx1, hm1⟩ := odd_split h0
        have hx0 : ((x : Int) != 0) = true := by rw [bne_iff_ne]; omega
        obtain ⟨m', hst⟩ := tz_strip HD.out hx1 hm1 hxm
        have HST := Lib.hid hst
        have ht32 : t < 32 := by
          rcases Nat.lt_or_ge t 32 with h | h
          · exact h
          · have h1 := Nat.pow_le_pow_right (show 0 < 2 by omega) h
            have h2 : 2 ^ t ≤ m * 2 ^ t := Nat.le_mul_of_pos_left _ (by omega)
            omega
        have HTZ := Lib.hid (fun W (h : w = W) => tz32_any W x t m hx1 hm1 hxm (h ▸ HT.out))
        clear hst hx1 hm1 HD
        go_wp2_with fail
        refine (HTZ.out _ rfl).mono ?_
        rintro e w1 ⟨rfl, rfl⟩
        go_wp2_with fail
        go_ret
        exact ⟨32 * k + t, m', by congr 2, HST.out, rfl⟩
    · obtain rfl : k = xs.length := by omega
      exfalso
      rw [List.take_of_length_le (Nat.le_refl _)] at hz
      have := HV.out
      omega
theorem five_bound {V V' n L : Nat} (h : V = V' * 5 ^ n) (hV : 0 < V) (hL : (limbs V).length ≤ L) : n ≤ 32 * L := by
  have h1 : 2 ^ n ≤ V := by
    have h2 : 2 ^ n ≤ 5 ^ n := Nat.pow_le_pow_left (by omega) n
    have h3 : 5 ^ n ≤ V' * 5 ^ n := Nat.le_mul_of_pos_left _ (by
      rcases Nat.eq_zero_or_pos V' with h0 | h0
      · rw [h0, Nat.zero_mul] at h; omega
      · exact h0)
    omega
  have h2 := bitsN_limbs_le hL
  have h3 := bitsN_lt V
  rcases Nat.lt_or_ge (bitsN V) n with h4 | h4
  · have := Nat.pow_le_pow_right (show 0 < 2 by omega) (Nat.le_of_lt h4)
    omega
  · omega
set_option maxHeartbeats 1000000 in
set_option maxRecDepth 100000 in
theorem fives_any (w : World) (v0 : Value) (V : Nat) (h0 : Arr w v0 (limbs V)) (hl : (limbs V).length ≤ 10000) (hV : 0 < V) :
    Calls Tryz.prog 62 #[v0] w fun e w' => ∃ v' m n, e = .returned (.tuple #[.int .i64 ((n : Nat) : Int), v']) ∧ Arr w' v' (limbs m) ∧ Strip 5 V m n ∧ n ≤ 320000 ∧ Ext w w' := by
  have H0 := Lib.hid h0
  have HL := Lib.hid hl
  have HV := Lib.hid hV
  obtain ⟨l0, A0, c0, rfl⟩ := h0.shape
  clear h0 hl hV
  go_enter Tryz.func62, Tryz.ntmps62
  go_wp2_with fail
  go_loopg [0, 4] V (fun gh s0 s4 wr => ∃ (a n l5 c5 : Nat) (A5 : Option Addr), gh = a ∧ s0 = .slice A5 l5 c5 ∧ s4 = .int .i64 (n : Int) ∧ Arr wr s0 (limbs a) ∧ 0 < a ∧ a ≤ V ∧ V = a * 5 ^ n ∧ Ext w wr)
  case atStart => exact ⟨V, 0, l0, c0, A0, rfl, rfl, rfl, H0.out, HV.out, Nat.le_refl _, by simp, Ext.refl _⟩
  case round =>
    obtain ⟨a, n, l5, c5, A5, hgg, rfl, rfl, ho, ha0, haV, hVa, hext⟩ := hrel
    have HGG := Lib.hid hgg
    have HO := Lib.hid ho
    have HX := Lib.hid hext
    have hal : (limbs a).length ≤ 10000 := Nat.le_trans (limbs_mono haV) HL.out
    have hnb : n ≤ 320000 := five_bound hVa HV.out HL.out
    have HQ := Lib.hid (qsmall_any wr _ (limbs a) 5 ho (by omega) (by decide) (by decide))
    rw [val_limbs] at HQ
    have HVA := Lib.hid hVa
    have HA := Lib.hid (And.intro ha0 haV)
    have hr5 : a % 5 < 5 := Nat.mod_lt _ (by decide)
    have hw1 : IntKind.i64.wrap ((n : Int) + 1) = (n : Int) + 1 := IntWalk.i64_in _ (by omega)
    clear hgg ho hext ha0 haV hVa hal
    by_cases hr : a % 5 = 0
    · rw [hr] at HQ
      have HR := Lib.hid hr
      clear hr hr5
      go_wp2_with fail
      refine HQ.out.mono ?_
      rintro e w1 ⟨r1, rfl, hi1, hx1⟩
      have HX1 := Lib.hid (HX.out.trans hx1)
      have R1 := Lib.hid hi1.arr
      obtain ⟨g1, G1, j1, rfl⟩ := hi1.shape
      have hgl := hi1.arr.len
      have hp : 0 < a / 5 := by have := HR.out; have := HA.out.1; omega
      have hg1 : 0 < g1 := by rw [hgl, List.length_pos_iff]; intro e; rw [limbs_eq_nil] at e; omega
      have hg2 : ((g1 : Int) == 0) = false := by rw [beq_eq_false_iff_ne]; omega
      have HP := Lib.hid hp
      clear hi1 hx1 hgl hg1 hp
      go_wp2_with fail
      go_roundg (a / 5)
      case rel => exact ⟨a / 5, n + 1, g1, j1, G1, rfl, rfl, by go_num, R1.out, HP.out, by have := HA.out.2; omega, by
        have h1 := HVA.out
        have h2 : a = a / 5 * 5 := by have := HR.out; omega
        rw [Nat.pow_succ, Nat.mul_comm (5 ^ n), ← Nat.mul_assoc, ← h2]
        exact h1, HX1.out⟩
      case measure => rw [HGG.out]; have := HA.out.1; omega
    · have HRR := Lib.hid (show ∀ j, a = 5 * j → False from fun j hj => hr (by omega))
      have hne : (((a % 5 : Nat) : Int) != 0) = true := by rw [bne_iff_ne]; omega
      have HN := Lib.hid hnb
      generalize a % 5 = r at *
      clear hr hr5 hnb
      go_wp2_with fail
      refine HQ.out.mono ?_
      rintro e w1 ⟨r1, rfl, hi1, hx1⟩
      have HX1 := Lib.hid (HX.out.trans hx1)
      have HO1 := Lib.hid (HO.out.ext hx1)
      obtain ⟨g1, G1, j1, rfl⟩ := hi1.shape
      clear hi1 hx1
      go_wp2_with fail
      go_ret2
      exact ⟨_, a, n, rfl, HO1.out, ⟨HVA.out, fun ⟨j, hj⟩ => HRR.out j hj⟩, HN.out, HX1.out⟩
end Big
end Go.Proofs.YtplmldkfgeiklaaGreatDoor
/- strings.Cut, TrimLeft, Trim at the texts of decimals. -/
namespace Go.Proofs.YtplmldkfgeiklaaGreatDoor
namespace Big
open Go.RowKit
/-- The library's variable that strings.Index reads. -/
def MaxV (w : World) : Prop := ∃ m : Int, w.cell? ⟨1, 0, none⟩ = some (.int .i64 m)
theorem MaxV.ext {w w' : World} (h : MaxV w) (hx : Ext w w') : MaxV w' := by
  obtain ⟨m, h⟩ := h
  exact ⟨m, hx.keep h⟩
theorem maxV_of_shaped {w : World} (h : w.ShapedOpen Tryz.prog) : MaxV w := Tryz.laysM145.s1_3 w h
theorem cut_any (w : World) (l : List UInt8) (hl : l.length ≤ 1073741824) (hm : MaxV w) :
    Calls Tryz.prog 72 #[str l, .string ⟨#[46]⟩] w fun e w' => e = .returned (.tuple #[str (whole l), str (part l), .bool (hasDot l)]) ∧ Ext w w' := by
  obtain ⟨m, hm⟩ := hm
  have h := Any.strings_Cut { Tryz.laysM145 with } ⟨l.toArray⟩ ⟨#[46]⟩ m w (by rw [size_str]; omega) hm
  have e := cut_dot l
  have e1 : Lib.cut (⟨l.toArray⟩ : ByteArray).data.toList (⟨#[46]⟩ : ByteArray).data.toList = (whole l, part l, hasDot l) := e
  rw [e1] at h
  refine h.mono ?_
  rintro e w' ⟨rfl, n, rfl⟩
  exact ⟨rfl, (Ext.refl w).drewN n⟩
theorem trimZ_any (w : World) (l : List UInt8) :
    Calls Tryz.prog 73 #[str l, .string ⟨#[48]⟩] w fun e w' => e = .returned (str (l.dropWhile (· == 48))) ∧ w = w' := by
  refine (Tryz.strings_TrimLeft_one ⟨l.toArray⟩ 48 (by decide) w).mono ?_
  rintro e w' ⟨rfl, rfl⟩
  exact ⟨rfl, rfl⟩
theorem trimD_any (w : World) (l : List UInt8) (hl : l.length ≤ 1073741824) (h : l.all isDig = true) :
    Calls Tryz.prog 75 #[str l, .string ⟨#[48, 49, 50, 51, 52, 53, 54, 55, 56, 57]⟩] w fun e w' => e = .returned (str []) ∧ Ext w w' := by
  refine (Any.strings_Trim_laid Tryz.lays160 (by kernel_rfl) ⟨l.toArray⟩ ⟨#[48, 49, 50, 51, 52, 53, 54, 55, 56, 57]⟩ w (by rw [size_str]; omega) (by decide) (ascii_of_all (by decide))).mono ?_
  rintro e w' ⟨rfl, hb⟩
  have e1 : Lib.trimS (⟨l.toArray⟩ : ByteArray).data.toList (⟨#[48, 49, 50, 51, 52, 53, 54, 55, 56, 57]⟩ : ByteArray).data.toList = [] := trimS_all l h
  rw [e1]
  exact ⟨rfl, hb⟩
end Big
end Go.Proofs.YtplmldkfgeiklaaGreatDoor
