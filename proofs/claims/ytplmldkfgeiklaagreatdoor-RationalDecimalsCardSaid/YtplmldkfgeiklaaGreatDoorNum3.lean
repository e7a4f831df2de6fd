import Derived.Test.YtplmldkfgeiklaaGreatDoorM2
/- What is read in decimal is written back: plain. -/
namespace Go.Proofs.YtplmldkfgeiklaaGreatDoor
namespace Big
theorem dig_back (c : UInt8) (h : isDig c = true) : UInt8.ofNat (48 + (c.toNat - 48)) = c := by
  rw [isDig_iff] at h
  apply UInt8.toNat_inj.1
  have e : (UInt8.ofNat (48 + (c.toNat - 48))).toNat = (48 + (c.toNat - 48)) % 2 ^ 8 := UInt8.toNat_ofNat'
  rw [e, Nat.mod_eq_of_lt (by omega)]
  omega
theorem snoc_cases {α : Type} (l : List α) : l = [] ∨ ∃ t c, l = t ++ [c] := by
  rcases List.eq_nil_or_concat l with h | ⟨t, c, h⟩
  · exact .inl h
  · exact .inr ⟨t, c, by simpa using h⟩
theorem low_numOf (n : Nat) : ∀ l : List UInt8, l.length = n → l ≠ [] → l.all isDig = true → l[0]? ≠ some 48 → low (numOf l) = l.reverse := by
  induction n with
  | zero => intro l hl hne; exact absurd (List.eq_nil_of_length_eq_zero hl) hne
  | succ n ih =>
    intro l hl hne hall h0
    rcases snoc_cases l with rfl | ⟨t, c, rfl⟩
    · exact absurd rfl hne
    · rw [List.all_append, Bool.and_eq_true] at hall
      have hc : isDig c = true := by simpa using hall.2
      have hcb := (isDig_iff c).1 hc
      rw [numOf_snoc, List.reverse_append]
      by_cases ht : t = []
      · subst ht
        have hne48 : c.toNat ≠ 48 := fun e => h0 (by simp; exact UInt8.toNat_inj.1 e)
        have hz : numOf [] = 0 := rfl
        rw [hz, low_pos _ (by omega)]
        have h1 : (10 * 0 + (c.toNat - 48)) % 10 = c.toNat - 48 := by omega
        have h2 : (10 * 0 + (c.toNat - 48)) / 10 = 0 := by omega
        rw [h1, h2, dig_back c hc]
        rfl
      · have ht0 : t[0]? ≠ some 48 := by
          intro e
          apply h0
          have : 0 < t.length := List.length_pos_iff.2 ht
          rw [List.getElem?_append_left this]
          exact e
        have hlen : t.length = n := by simpa using hl
        have hi := ih t hlen ht hall.1 ht0
        have hnz : numOf t ≠ 0 := by
          intro e
          rw [e, low_zero] at hi
          exact ht (by simpa using hi.symm)
        rw [low_pos _ (by omega)]
        have h1 : (10 * numOf t + (c.toNat - 48)) % 10 = c.toNat - 48 := by omega
        have h2 : (10 * numOf t + (c.toNat - 48)) / 10 = numOf t := by omega
        rw [h1, h2, dig_back c hc, hi]
        rfl
theorem dec_numOf (l : List UInt8) (hne : l ≠ []) (hall : l.all isDig = true) (hz : ¬ (l[0]? = some 48 ∧ 1 < l.length)) : dec (numOf l) = l := by
  by_cases h0 : l[0]? = some 48
  · have hl : ¬ 1 < l.length := fun h => hz ⟨h0, h⟩
    match l, hne, h0, hl with
    | [c], _, h0, _ =>
      have : c = 48 := by simpa using h0
      subst this
      rfl
    | a :: b :: t, _, _, hl => simp at hl
  · have h1 := low_numOf _ l rfl hne hall h0
    rw [dec_of_low h1 (by simpa using hne), List.reverse_reverse]
theorem natural_back {l : List UInt8} {n : Nat} (h : natural l = (n, 0)) : dec n = l := by
  unfold natural at h
  split at h
  · cases h
  · split at h
    · cases h
    · split at h
      · cases h
      · split at h
        · rename_i h2 h3 h4
          injection h with h
          subst h
          exact dec_numOf l h2 h4 h3
        · cases h
end Big
end Go.Proofs.YtplmldkfgeiklaaGreatDoor
