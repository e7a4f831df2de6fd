import Derived.Test.YtbmmnpggadakdaaDoorNum
import Derived.Test.YtbmmnpggadakdaaDoorDec
/- What is written in decimal reads back: plain. -/
namespace Go.Proofs.YtbmmnpggadakdaaDoor
namespace Big
theorem digit_nat (r : Nat) (h : r < 10) : (UInt8.ofNat (48 + r)).toNat = 48 + r := by
  have e : (UInt8.ofNat (48 + r)).toNat = (48 + r) % 2 ^ 8 := UInt8.toNat_ofNat'
  rw [e]
  exact Nat.mod_eq_of_lt (by omega)
theorem low_all (n : Nat) : (low n).all isDig = true := by
  induction n using Nat.strongRecOn with
  | ind n ih =>
    by_cases h : n = 0
    · subst h; rfl
    · rw [low_pos n h, List.all_cons, ih (n / 10) (by omega), Bool.and_true, isDig_iff, digit_nat _ (by omega)]
      omega
theorem numOf_low (n : Nat) : numOf (low n).reverse = n := by
  induction n using Nat.strongRecOn with
  | ind n ih =>
    by_cases h : n = 0
    · subst h; rfl
    · rw [low_pos n h, List.reverse_cons, numOf_snoc, ih (n / 10) (by omega), digit_nat _ (by omega)]
      omega
theorem low_head (n : Nat) (h : n ≠ 0) : ∃ c rest, (low n).reverse = c :: rest ∧ 49 ≤ c.toNat ∧ c.toNat ≤ 57 := by
  induction n using Nat.strongRecOn with
  | ind n ih =>
    rw [low_pos n h, List.reverse_cons]
    by_cases h10 : n / 10 = 0
    · rw [h10]
      refine ⟨_, [], rfl, ?_⟩
      rw [digit_nat _ (by omega)]
      omega
    · obtain ⟨c, rest, e, hc⟩ := ih (n / 10) (by omega) h10
      exact ⟨c, rest ++ [UInt8.ofNat (48 + n % 10)], by rw [e]; rfl, hc⟩
theorem dec_head (n : Nat) : ∃ c rest, dec n = c :: rest ∧ 48 ≤ c.toNat ∧ c.toNat ≤ 57 := by
  by_cases h : n = 0
  · subst h; exact ⟨48, [], rfl, by decide⟩
  · obtain ⟨c, rest, e, hc⟩ := low_head n h
    exact ⟨c, rest, by rw [dec_pos n h, e], by omega⟩
theorem natural_dec (n : Nat) (h : (dec n).length ≤ 20001) : natural (dec n) = (n, 0) := by
  unfold natural
  rw [if_neg (by omega)]
  by_cases h0 : n = 0
  · subst h0; rfl
  · obtain ⟨c, rest, e, hc⟩ := low_head n h0
    have hd := dec_pos n h0
    have hall : (dec n).all isDig = true := by rw [hd, List.all_reverse]; exact low_all n
    rw [if_neg (by rw [hd, e]; simp), if_neg, if_pos hall, hd, numOf_low]
    rw [hd, e]
    rintro ⟨h1, _⟩
    simp at h1
    subst h1
    simp at hc
end Big
end Go.Proofs.YtbmmnpggadakdaaDoor
