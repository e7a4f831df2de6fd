import Derived.Test.YtbmmnpggadakdaaDoorPlain2
/- Decimal texts: plain. -/
namespace Go.Proofs.YtbmmnpggadakdaaDoor
namespace Big

/-- The decimal digits of a number as bytes, the lowest first, with fuel. -/
def lowF : Nat → Nat → List UInt8
  | 0, _ => []
  | f + 1, n => if n = 0 then [] else UInt8.ofNat (48 + n % 10) :: lowF f (n / 10)
def low (n : Nat) : List UInt8 := lowF n n
/-- The decimal text of a number. -/
def dec (n : Nat) : List UInt8 := if n = 0 then [48] else (low n).reverse

theorem lowF_le (f : Nat) : ∀ (g n : Nat), n ≤ f → n ≤ g → lowF f n = lowF g n := by
  induction f with
  | zero => intro g n h _; have : n = 0 := by omega
            subst this; cases g <;> simp [lowF]
  | succ f ih =>
    intro g n hf hg
    cases g with
    | zero => have : n = 0 := by omega
              subst this; simp [lowF]
    | succ g =>
      simp only [lowF]
      split
      · rfl
      · rw [ih g (n / 10) (by omega) (by omega)]
theorem low_zero : low 0 = [] := rfl
theorem low_pos (n : Nat) (h : n ≠ 0) : low n = UInt8.ofNat (48 + n % 10) :: low (n / 10) := by
  obtain ⟨m, rfl⟩ : ∃ m, n = m + 1 := ⟨n - 1, by omega⟩
  unfold low
  rw [lowF, if_neg h, lowF_le m ((m + 1) / 10) _ (by omega) (Nat.le_refl _)]
theorem low_nil {n : Nat} (h : low n = []) : n = 0 := by
  by_cases h0 : n = 0
  · exact h0
  · rw [low_pos n h0] at h; cases h
theorem dec_zero : dec 0 = [48] := rfl
theorem dec_pos (n : Nat) (h : n ≠ 0) : dec n = (low n).reverse := if_neg h
theorem dec_of_low {n : Nat} {out : List UInt8} (h : low n = out) (hne : out ≠ []) : dec n = out.reverse := by
  subst h
  rw [dec_pos]
  rintro rfl
  exact hne rfl
theorem length_low_le {n k : Nat} (h : n < 10 ^ k) : (low n).length ≤ k := by
  induction k generalizing n with
  | zero => have : n = 0 := by omega
            subst this; simp [low_zero]
  | succ k ih =>
    by_cases h0 : n = 0
    · subst h0; simp [low_zero]
    · rw [low_pos n h0, List.length_cons]
      have h1 : n / 10 < 10 ^ k := by
        rw [Nat.pow_succ, Nat.mul_comm] at h
        exact Nat.div_lt_of_lt_mul h
      have := ih h1
      omega
theorem pow_base_dec (k : Nat) : 4294967296 ^ k ≤ 10 ^ (10 * k) := by
  rw [Nat.pow_mul]
  exact Nat.pow_le_pow_left (by decide) k
theorem length_low_val {xs : List Nat} (h : Ok xs) : (low (val xs)).length ≤ 10 * xs.length :=
  length_low_le (Nat.lt_of_lt_of_le (val_lt h) (pow_base_dec _))
theorem length_low_mono {m n : Nat} (h : m ≤ n) : (low m).length ≤ (low n).length := by
  induction n using Nat.strongRecOn generalizing m with
  | _ n ih =>
    by_cases h0 : m = 0
    · subst h0; simp [low_zero]
    · rw [low_pos m h0, low_pos n (by omega), List.length_cons, List.length_cons]
      have := @ih (n / 10) (by omega) (m / 10) (by omega)
      omega

/-- One digit taken off a group of 9 - i digits below q. -/
theorem low_group (q r i : Nat) (hi : i < 9) (hr : r < 10 ^ (9 - i)) (h : q ≠ 0 ∨ r ≠ 0) :
    low (q * 10 ^ (9 - i) + r) = UInt8.ofNat (48 + r % 10) :: low (q * 10 ^ (9 - (i + 1)) + r / 10) ∧ r / 10 < 10 ^ (9 - (i + 1)) := by
  obtain ⟨j, hj⟩ : ∃ j, 9 - i = j + 1 := ⟨9 - i - 1, by omega⟩
  have hj2 : 9 - (i + 1) = j := by omega
  rw [hj2, hj, Nat.pow_succ]
  rw [hj, Nat.pow_succ] at hr
  have hne : q * (10 ^ j * 10) + r ≠ 0 := by
    rcases h with h | h
    · have : 0 < q * (10 ^ j * 10) := Nat.mul_pos (by omega) (Nat.mul_pos (Nat.pow_pos (by omega)) (by omega))
      omega
    · omega
  rw [low_pos _ hne, ← Nat.mul_assoc]
  have h1 : (q * 10 ^ j * 10 + r) % 10 = r % 10 := by omega
  have h2 : (q * 10 ^ j * 10 + r) / 10 = q * 10 ^ j + r / 10 := by omega
  rw [h1, h2]
  exact ⟨rfl, by omega⟩
theorem group_start (n : Nat) : n = n / 1000000000 * 10 ^ (9 - 0) + n % 1000000000 := by
  have : (10 : Nat) ^ (9 - 0) = 1000000000 := by decide
  rw [this]
  omega
theorem group_end (q r : Nat) (hr : r < 10 ^ (9 - 9)) : q * 10 ^ (9 - 9) + r = q := by
  simp at hr
  subst hr
  simp
/-- One digit put ahead of a text. -/
theorem low_ahead (n : Nat) (h : n ≠ 0) (s : List UInt8) : (low n).reverse ++ s = (low (n / 10)).reverse ++ (UInt8.ofNat (48 + n % 10) :: s) := by
  rw [low_pos n h, List.reverse_cons, List.append_assoc]
  rfl
end Big
end Go.Proofs.YtbmmnpggadakdaaDoor
