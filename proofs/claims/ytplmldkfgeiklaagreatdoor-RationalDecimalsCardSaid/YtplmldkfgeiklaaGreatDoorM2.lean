import Derived.Test.YtplmldkfgeiklaaGreatDoorM1
/- Square roots: plain. -/
namespace Go.Proofs.YtplmldkfgeiklaaGreatDoor
namespace Big
/-- r is the integer square root of a. -/
def IsSq (a r : Nat) : Prop := r * r ≤ a ∧ a < (r + 1) * (r + 1)
theorem sq_lt {a b : Nat} (h : a * a < b * b) : a < b := by
  rcases Nat.lt_or_ge a b with h1 | h1
  · exact h1
  · have := Nat.mul_le_mul h1 h1
    omega
theorem sq_le {a b : Nat} (h : a * a ≤ b * b) : a ≤ b := by
  rcases Nat.lt_or_ge b a with h1 | h1
  · have := Nat.mul_lt_mul'' h1 h1
    omega
  · exact h1
theorem IsSq.uniq {a r r' : Nat} (h : IsSq a r) (h' : IsSq a r') : r = r' := by
  have h1 := sq_lt (Nat.lt_of_le_of_lt h.1 h'.2)
  have h2 := sq_lt (Nat.lt_of_le_of_lt h'.1 h.2)
  omega
theorem IsSq.sq (r : Nat) : IsSq (r * r) r := ⟨Nat.le_refl _, by rw [Nat.add_mul, Nat.mul_add]; omega⟩
/-- A number with the root r is a square just if nothing is left. -/
theorem IsSq.rest {a r : Nat} (h : IsSq a r) : a - r * r = 0 ↔ a = r * r := by have := h.1; omega
theorem two_mul_le (s x : Nat) : 2 * (s * x) ≤ s * s + x * x := by
  rcases Nat.le_total s x with h | h
  · obtain ⟨d, rfl⟩ := Nat.exists_eq_add_of_le h
    simp only [Nat.mul_add, Nat.add_mul]
    rw [Nat.mul_comm d s]
    omega
  · obtain ⟨d, rfl⟩ := Nat.exists_eq_add_of_le h
    simp only [Nat.mul_add, Nat.add_mul]
    rw [Nat.mul_comm d x]
    omega
/-- Newton's step stays at or above the root. -/
theorem newton_low {a x s : Nat} (hx : 0 < x) (hs : s * s ≤ a) : s ≤ (x + a / x) / 2 := by
  have h1 : 2 * s ≤ (a + x * x) / x := by
    rw [Nat.le_div_iff_mul_le hx]
    have := two_mul_le s x
    rw [Nat.mul_assoc]
    omega
  rw [Nat.add_mul_div_right _ _ hx] at h1
  omega
/-- Where Newton's step does not go down, the root is found. -/
theorem newton_stop {a x : Nat} (hx : 0 < x) (h : x ≤ (x + a / x) / 2) : x * x ≤ a := by
  have h1 : x ≤ a / x := by omega
  exact (Nat.le_div_iff_mul_le hx).1 h1
theorem newton_end {a x : Nat} (hlow : ∀ s, s * s ≤ a → s ≤ x) (h : x * x ≤ a) : IsSq a x := by
  refine ⟨h, ?_⟩
  rcases Nat.lt_or_ge a ((x + 1) * (x + 1)) with h1 | h1
  · exact h1
  · have := hlow _ h1
    omega
theorem newton_start {a x : Nat} (h : a < x * x) : ∀ s, s * s ≤ a → s ≤ x := fun _s hs => Nat.le_of_lt (sq_lt (Nat.lt_of_le_of_lt hs h))
/-- One step of the search digit by digit: r is the root but for the digits below i + 1. -/
theorem search_step {a r i : Nat} (_h1 : r * r ≤ a) (h2 : a < (r + 2 ^ (i + 1)) * (r + 2 ^ (i + 1))) :
    ((r + 2 ^ i) * (r + 2 ^ i) ≤ a → a < (r + 2 ^ i + 2 ^ i) * (r + 2 ^ i + 2 ^ i)) := by
  intro _
  rw [Nat.add_assoc, ← Nat.two_mul, Nat.mul_comm 2, ← Nat.pow_succ]
  exact h2
theorem half_pow (b : Nat) : 2 ^ b ≤ 2 ^ (b / 2 + 1) * 2 ^ (b / 2 + 1) := by
  rw [← Nat.pow_add]
  exact Nat.pow_le_pow_right (by omega) (by omega)
theorem half_pow' (b : Nat) : 2 ^ b ≤ 2 ^ ((b + 1) / 2) * 2 ^ ((b + 1) / 2) := by
  rw [← Nat.pow_add]
  exact Nat.pow_le_pow_right (by omega) (by omega)
theorem IsSq.zero : IsSq 0 0 := ⟨Nat.le_refl _, by decide⟩
theorem IsSq.le {a r : Nat} (h : IsSq a r) : r ≤ a := by
  rcases Nat.eq_zero_or_pos r with h0 | h0
  · omega
  · exact Nat.le_trans (Nat.le_mul_of_pos_left r h0) h.1
/-- The square of a fraction in lowest terms is in lowest terms. -/
theorem coprime_sq {m n : Nat} (h : Nat.gcd m n = 1) : Nat.gcd (m * m) (n * n) = 1 := by
  have h1 : Nat.Coprime m n := h
  exact (h1.mul_left h1).mul_right (h1.mul_left h1)
end Big
end Go.Proofs.YtplmldkfgeiklaaGreatDoor
/- Decimal texts: plain. -/
namespace Go.Proofs.YtplmldkfgeiklaaGreatDoor
namespace Big

/-- The decimal digits of a number as bytes, the lowest first, with fuel. -/
def lowF : Nat → Nat → List UInt8
  | 0, _ => []
  | f + 1, n => if n = 0 then [] else UInt8.ofNat (48 + n % 10) :: lowF f (n / 10)
def low (n : Nat) : List UInt8 := lowF n n
/-- The decimal text of a number. -/
def dec (n : Nat) : List UInt8 := if n = 0 then [48] else (low n).reverse

theorem lowF_le (f : Nat) : ∀ (g n : Nat), n ≤ f → n ≤ g → lowF f n = lowF g n := by
  induction f with
  | zero => intro g n h _; have : n = 0 := by omega
            subst this; cases g <;> simp [lowF]
  | succ f ih =>
    intro g n hf hg
    cases g with
    | zero => have : n = 0 := by omega
              subst this; simp [lowF]
    | succ g =>
      simp only [lowF]
      split
      · rfl
      · rw [ih g (n / 10) (by omega) (by omega)]
theorem low_zero : low 0 = [] := rfl
theorem low_pos (n : Nat) (h : n ≠ 0) : low n = UInt8.ofNat (48 + n % 10) :: low (n / 10) := by
  obtain ⟨m, rfl⟩ : ∃ m, n = m + 1 := ⟨n - 1, by omega⟩
  unfold low
  rw [lowF, if_neg h, lowF_le m ((m + 1) / 10) _ (by omega) (Nat.le_refl _)]
theorem low_nil {n : Nat} (h : low n = []) : n = 0 := by
  by_cases h0 : n = 0
  · exact h0
  · rw [low_pos n h0] at h; cases h
theorem dec_zero : dec 0 = [48] := rfl
theorem dec_pos (n : Nat) (h : n ≠ 0) : dec n = (low n).reverse := if_neg h
theorem dec_of_low {n : Nat} {out : List UInt8} (h : low n = out) (hne : out ≠ []) : dec n = out.reverse := by
  subst h
  rw [dec_pos]
  rintro rfl
  exact hne rfl
theorem length_low_le {n k : Nat} (h : n < 10 ^ k) : (low n).length ≤ k := by
  induction k generalizing n with
  | zero => have : n = 0 := by omega
            subst this; simp [low_zero]
  | succ k ih =>
    by_cases h0 : n = 0
    · subst h0; simp [low_zero]
    · rw [low_pos n h0, List.length_cons]
      have h1 : n / 10 < 10 ^ k := by
        rw [Nat.pow_succ, Nat.mul_comm] at h
        exact Nat.div_lt_of_lt_mul h
      have := ih h1
      omega
theorem pow_base_dec (k : Nat) : 4294967296 ^ k ≤ 10 ^ (10 * k) := by
  rw [Nat.pow_mul]
  exact Nat.pow_le_pow_left (by decide) k
theorem length_low_val {xs : List Nat} (h : Ok xs) : (low (val xs)).length ≤ 10 * xs.length :=
  length_low_le (Nat.lt_of_lt_of_le (val_lt h) (pow_base_dec _))
theorem length_low_mono {m n : Nat} (h : m ≤ n) : (low m).length ≤ (low n).length := by
  induction n using Nat.strongRecOn generalizing m with
  | _ n ih =>
    by_cases h0 : m = 0
    · subst h0; simp [low_zero]
    · rw [low_pos m h0, low_pos n (by omega), List.length_cons, List.length_cons]
      have := @ih (n / 10) (by omega) (m / 10) (by omega)
      omega

/-- One digit taken off a group of 9 - i digits below q. -/
theorem low_group (q r i : Nat) (hi : i < 9) (hr : r < 10 ^ (9 - i)) (h : q ≠ 0 ∨ r ≠ 0) :
    low (q * 10 ^ (9 - i) + r) = UInt8.ofNat (48 + r % 10) :: low (q * 10 ^ (9 - (i + 1)) + r / 10) ∧ r / 10 < 10 ^ (9 - (i + 1)) := by
  obtain ⟨j, hj⟩ : ∃ j, 9 - i = j + 1 := ⟨9 - i - 1, by omega⟩
  have hj2 : 9 - (i + 1) = j := by omega
  rw [hj2, hj, Nat.pow_succ]
  rw [hj, Nat.pow_succ] at hr
  have hne : q * (10 ^ j * 10) + r ≠ 0 := by
    rcases h with h | h
    · have : 0 < q * (10 ^ j * 10) := Nat.mul_pos (by omega) (Nat.mul_pos (Nat.pow_pos (by omega)) (by omega))
      omega
    · omega
  rw [low_pos _ hne, ← Nat.mul_assoc]
  have h1 : (q * 10 ^ j * 10 + r) % 10 = r % 10 := by omega
  have h2 : (q * 10 ^ j * 10 + r) / 10 = q * 10 ^ j + r / 10 := by omega
  rw [h1, h2]
  exact ⟨rfl, by omega⟩
theorem group_start (n : Nat) : n = n / 1000000000 * 10 ^ (9 - 0) + n % 1000000000 := by
  have : (10 : Nat) ^ (9 - 0) = 1000000000 := by decide
  rw [this]
  omega
theorem group_end (q r : Nat) (hr : r < 10 ^ (9 - 9)) : q * 10 ^ (9 - 9) + r = q := by
  simp at hr
  subst hr
  simp
/-- One digit put ahead of a text. -/
theorem low_ahead (n : Nat) (h : n ≠ 0) (s : List UInt8) : (low n).reverse ++ s = (low (n / 10)).reverse ++ (UInt8.ofNat (48 + n % 10) :: s) := by
  rw [low_pos n h, List.reverse_cons, List.append_assoc]
  rfl
end Big
end Go.Proofs.YtplmldkfgeiklaaGreatDoor
/- Reading decimal texts: plain. -/
namespace Go.Proofs.YtplmldkfgeiklaaGreatDoor
namespace Big
def isDig (c : UInt8) : Bool := decide (48 ≤ c.toNat) && decide (c.toNat ≤ 57)
def numOf (l : List UInt8) : Nat := l.foldl (fun n c => 10 * n + (c.toNat - 48)) 0
theorem numOf_snoc (l : List UInt8) (c : UInt8) : numOf (l ++ [c]) = 10 * numOf l + (c.toNat - 48) := by
  unfold numOf; rw [List.foldl_append]; rfl
theorem numOf_take (l : List UInt8) (k : Nat) (h : k < l.length) : numOf (l.take (k + 1)) = 10 * numOf (l.take k) + (l[k].toNat - 48) := by
  rw [List.take_succ_eq_append_getElem h, numOf_snoc]
theorem numOf_lt (l : List UInt8) (h : l.all isDig = true) : numOf l < 10 ^ l.length := by
  have key : ∀ (l : List UInt8) (n k : Nat), l.all isDig = true → n < 10 ^ k → l.foldl (fun n c => 10 * n + (c.toNat - 48)) n < 10 ^ (k + l.length) := by
    intro l
    induction l with
    | nil => intro n k _ hn; simpa using hn
    | cons c l ih =>
      intro n k ha hn
      rw [List.all_cons, Bool.and_eq_true] at ha
      have hc := ha.1
      unfold isDig at hc
      simp at hc
      rw [List.foldl_cons, List.length_cons]
      have := ih (10 * n + (c.toNat - 48)) (k + 1) ha.2 (by rw [Nat.pow_succ]; omega)
      rw [show k + 1 + l.length = k + (l.length + 1) by omega] at this
      exact this
  have := key l 0 0 h (by simp)
  simpa [numOf] using this

/-- What reading a natural gives: the number and the error code. -/
def natural (l : List UInt8) : Nat × Nat :=
  if 20001 < l.length then (0, 7)
  else if l = [] then (0, 6)
  else if l[0]? = some 48 ∧ 1 < l.length then (0, 6)
  else if l.all isDig then (numOf l, 0) else (0, 6)
theorem take_all (l : List UInt8) (k : Nat) (h : k < l.length) : (l.take (k + 1)).all isDig = ((l.take k).all isDig && isDig l[k]) := by
  rw [List.take_succ_eq_append_getElem h, List.all_append]
  simp
theorem all_false_of {l : List UInt8} {k : Nat} (h : k < l.length) (hf : isDig l[k] = false) : l.all isDig = false := by
  rw [List.all_eq_false]
  exact ⟨l[k], List.getElem_mem h, by simp [hf]⟩

/-- One digit read into a group. -/
theorem group_digit {a s c n d : Nat} (h : n = a * s + c) : 10 * n + d = a * (10 * s) + (10 * c + d) := by
  rw [h, Nat.mul_add, Nat.mul_left_comm]
  omega
theorem ten_pow_bound {j : Nat} (h : j ≤ 8) : 10 ^ j ≤ 100000000 := by
  have := Nat.pow_le_pow_right (show 0 < 10 by omega) h
  exact this
theorem ten_pow_9 {j : Nat} (h : j ≤ 8) : (10 * 10 ^ j = 1000000000) ↔ j = 8 := by
  have : j = 0 ∨ j = 1 ∨ j = 2 ∨ j = 3 ∨ j = 4 ∨ j = 5 ∨ j = 6 ∨ j = 7 ∨ j = 8 := by omega
  rcases this with rfl | rfl | rfl | rfl | rfl | rfl | rfl | rfl | rfl <;> simp
theorem limbs_len_pow {a k : Nat} (h : a < 10 ^ k) : (limbs a).length ≤ k :=
  length_limbs_le (Nat.lt_of_lt_of_le h (Nat.pow_le_pow_left (by omega) k))
theorem take_all_lt {l : List UInt8} {k : Nat} (h : (l.take k).all isDig = true) (hk : k ≤ l.length) : numOf (l.take k) < 10 ^ k := by
  have := numOf_lt _ h
  rwa [List.length_take, Nat.min_eq_left hk] at this
theorem isDig_iff (b : UInt8) : isDig b = true ↔ 48 ≤ b.toNat ∧ b.toNat ≤ 57 := by unfold isDig; simp
end Big
end Go.Proofs.YtplmldkfgeiklaaGreatDoor
/- What is written in decimal reads back: plain. -/
namespace Go.Proofs.YtplmldkfgeiklaaGreatDoor
namespace Big
theorem digit_nat (r : Nat) (h : r < 10) : (UInt8.ofNat (48 + r)).toNat = 48 + r := by
  have e : (UInt8.ofNat (48 + r)).toNat = (48 + r) % 2 ^ 8 := UInt8.toNat_ofNat'
  rw [e]
  exact Nat.mod_eq_of_lt (by omega)
theorem low_all (n : Nat) : (low n).all isDig = true := by
  induction n using Nat.strongRecOn with
  | ind n ih =>
    by_cases h : n = 0
    · subst h; rfl
    · rw [low_pos n h, List.all_cons, ih (n / 10) (by omega), Bool.and_true, isDig_iff, digit_nat _ (by omega)]
      omega
theorem numOf_low (n : Nat) : numOf (low n).reverse = n := by
  induction n using Nat.strongRecOn with
  | ind n ih =>
    by_cases h : n = 0
    · subst h; rfl
    · rw [low_pos n h, List.reverse_cons, numOf_snoc, ih (n / 10) (by omega), digit_nat _ (by omega)]
      omega
theorem low_head (n : Nat) (h : n ≠ 0) : ∃ c rest, (low n).reverse = c :: rest ∧ 49 ≤ c.toNat ∧ c.toNat ≤ 57 := by
  induction n using Nat.strongRecOn with
  | ind n ih =>
    rw [low_pos n h, List.reverse_cons]
    by_cases h10 : n / 10 = 0
    · rw [h10]
      refine ⟨_, [], rfl, ?_⟩
      rw [digit_nat _ (by omega)]
      omega
    · obtain ⟨c, rest, e, hc⟩ := ih (n / 10) (by omega) h10
      exact ⟨c, rest ++ [UInt8.ofNat (48 + n % 10)], by rw [e]; rfl, hc⟩
theorem dec_head (n : Nat) : ∃ c rest, dec n = c :: rest ∧ 48 ≤ c.toNat ∧ c.toNat ≤ 57 := by
  by_cases h : n = 0
  · subst h; exact ⟨48, [], rfl, by decide⟩
  · obtain ⟨c, rest, e, hc⟩ := low_head n h
    exact ⟨c, rest, by rw [dec_pos n h, e], by omega⟩
theorem natural_dec (n : Nat) (h : (dec n).length ≤ 20001) : natural (dec n) = (n, 0) := by
  unfold natural
  rw [if_neg (by omega)]
  by_cases h0 : n = 0
  · subst h0; rfl
  · obtain ⟨c, rest, e, hc⟩ := low_head n h0
    have hd := dec_pos n h0
    have hall : (dec n).all isDig = true := by rw [hd, List.all_reverse]; exact low_all n
    rw [if_neg (by rw [hd, e]; simp), if_neg, if_pos hall, hd, numOf_low]
    rw [hd, e]
    rintro ⟨h1, _⟩
    simp at h1
    subst h1
    simp at hc
end Big
end Go.Proofs.YtplmldkfgeiklaaGreatDoor
