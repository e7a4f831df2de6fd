import Derived.Test.YtbmmnpggadakdaaDoorW17
/- Hexadecimal texts read: plain. -/
namespace Go.Proofs.YtbmmnpggadakdaaDoor
namespace Big
/-- A digit in lower case. -/
def lowHex (c : UInt8) : Bool := (decide (48 ≤ c.toNat) && decide (c.toNat ≤ 57)) || (decide (97 ≤ c.toNat) && decide (c.toNat ≤ 102))
def hv (c : UInt8) : Nat := if c.toNat ≤ 57 then c.toNat - 48 else c.toNat - 87
def hexNum (l : List UInt8) : Nat := l.foldl (fun n c => 16 * n + hv c) 0
/-- What reading sixteen hexadecimal digits gives: the number and the error code. -/
def unhexS (l : List UInt8) : Nat × Nat := if l.length = 16 ∧ l.all lowHex = true then (hexNum l, 0) else (0, 6)
theorem hexNum_snoc (l : List UInt8) (c : UInt8) : hexNum (l ++ [c]) = 16 * hexNum l + hv c := by
  unfold hexNum; rw [List.foldl_append]; rfl
theorem lowHex_iff (c : UInt8) : lowHex c = true ↔ (48 ≤ c.toNat ∧ c.toNat ≤ 57) ∨ (97 ≤ c.toNat ∧ c.toNat ≤ 102) := by unfold lowHex; simp
theorem hexd_toNat (d : Nat) (h : d < 16) : (hexd d).toNat = if d < 10 then 48 + d else 87 + d := by
  unfold hexd
  split
  · have e : (UInt8.ofNat (48 + d)).toNat = (48 + d) % 2 ^ 8 := UInt8.toNat_ofNat'
    rw [e]; omega
  · have e : (UInt8.ofNat (87 + d)).toNat = (87 + d) % 2 ^ 8 := UInt8.toNat_ofNat'
    rw [e]; omega
theorem hexd_low (d : Nat) (h : d < 16) : lowHex (hexd d) = true := by
  rw [lowHex_iff, hexd_toNat d h]; split <;> omega
theorem hv_hexd (d : Nat) (h : d < 16) : hv (hexd d) = d := by
  unfold hv; rw [hexd_toNat d h]; split <;> split <;> omega
theorem hv_lt {c : UInt8} (h : lowHex c = true) : hv c < 16 := by
  rw [lowHex_iff] at h; unfold hv; split <;> omega
theorem hexd_hv {c : UInt8} (h : lowHex c = true) : hexd (hv c) = c := by
  have hl := hv_lt h
  apply UInt8.toNat_inj.1
  rw [hexd_toNat _ hl]
  rw [lowHex_iff] at h
  unfold hv
  split <;> split <;> omega

/-- k hexadecimal digits. -/
def hexFix : Nat → Nat → List UInt8
  | 0, _ => []
  | k + 1, n => hexFix k (n / 16) ++ [hexd (n % 16)]
theorem length_hexFix (k : Nat) : ∀ n, (hexFix k n).length = k := by
  induction k with
  | zero => intro n; rfl
  | succ k ih => intro n; simp [hexFix, ih]
theorem hexFix_low (k : Nat) : ∀ n, (hexFix k n).all lowHex = true := by
  induction k with
  | zero => intro n; rfl
  | succ k ih => intro n; simp only [hexFix, List.all_append, ih, Bool.true_and, List.all_cons, List.all_nil, Bool.and_true]; exact hexd_low _ (Nat.mod_lt _ (by omega))
theorem hexNum_hexFix (k : Nat) : ∀ n, n < 16 ^ k → hexNum (hexFix k n) = n := by
  induction k with
  | zero => intro n h; have : n = 0 := by omega
            subst this; rfl
  | succ k ih =>
    intro n h
    rw [Nat.pow_succ] at h
    rw [hexFix, hexNum_snoc, ih _ (by omega), hv_hexd _ (Nat.mod_lt _ (by omega))]
    omega
theorem hexFix_hexNum (k : Nat) : ∀ l : List UInt8, l.length = k → l.all lowHex = true → hexFix k (hexNum l) = l := by
  induction k with
  | zero => intro l h _; have := List.eq_nil_of_length_eq_zero h; subst this; rfl
  | succ k ih =>
    intro l h ha
    rcases List.eq_nil_or_concat l with rfl | ⟨t, c, rfl⟩
    · simp at h
    · simp only [List.concat_eq_append] at h ha ⊢
      rw [List.all_append, Bool.and_eq_true] at ha
      have hc : lowHex c = true := by simpa using ha.2
      have hl := hv_lt hc
      rw [hexNum_snoc, hexFix, show (16 * hexNum t + hv c) / 16 = hexNum t by omega, show (16 * hexNum t + hv c) % 16 = hv c by omega, ih t (by simpa using h) ha.1, hexd_hv hc]
theorem hexNum_lt (k : Nat) : ∀ l : List UInt8, l.length = k → l.all lowHex = true → hexNum l < 16 ^ k := by
  induction k with
  | zero => intro l h _; have := List.eq_nil_of_length_eq_zero h; subst this; decide
  | succ k ih =>
    intro l h ha
    rcases List.eq_nil_or_concat l with rfl | ⟨t, c, rfl⟩
    · simp at h
    · simp only [List.concat_eq_append] at h ha ⊢
      rw [List.all_append, Bool.and_eq_true] at ha
      have hc : lowHex c = true := by simpa using ha.2
      have hl := hv_lt hc
      have := ih t (by simpa using h) ha.1
      rw [hexNum_snoc, Nat.pow_succ]
      omega
theorem hexFix_zero (k : Nat) : hexFix k 0 = List.replicate k 48 := by
  induction k with
  | zero => rfl
  | succ k ih =>
    rw [hexFix, show 0 / 16 = 0 from rfl, ih, List.replicate_succ']
    rfl
theorem hexS_fix (k : Nat) : ∀ n, n < 16 ^ (k + 1) → List.replicate (k + 1 - (hexS n).length) 48 ++ hexS n = hexFix (k + 1) n := by
  induction k with
  | zero =>
    intro n h
    have h16 : n < 16 := by simpa using h
    rw [hexS_lt h16, hexFix, hexFix, Nat.mod_eq_of_lt h16]
    rfl
  | succ k ih =>
    intro n h
    by_cases h16 : n < 16
    · rw [hexS_lt h16, hexFix, Nat.div_eq_of_lt h16, Nat.mod_eq_of_lt h16, hexFix_zero]
      simp
    · rw [Nat.pow_succ] at h
      have hd : n / 16 < 16 ^ (k + 1) := Nat.div_lt_of_lt_mul (by omega)
      have hl := length_hexS (k := k + 1) (by omega) hd
      rw [hexS_ge (by omega), hexFix, ← ih (n / 16) hd, List.length_append, List.append_assoc]
      congr 2
      simp
theorem hex16_fix {n : Nat} (h : n < 18446744073709551616) : hex16 n = hexFix 16 n := hexS_fix 15 n (by simpa using h)

/-- Reading as the library does. -/
def hexA (c : UInt8) : Option Nat :=
  if 48 ≤ c.toNat ∧ c.toNat ≤ 57 then some (c.toNat - 48) else if 97 ≤ (c ||| 32).toNat ∧ (c ||| 32).toNat ≤ 102 then some ((c ||| 32).toNat - 87) else none
def puF : Nat → List UInt8 → Option Nat
  | n, [] => some n
  | n, c :: t => match hexA c with
    | none => none
    | some d => if 1152921504606846976 ≤ n then none else puF (n * 16 + d) t
def pu16 (l : List UInt8) : Option Nat := if l = [] then none else puF 0 l
theorem hexA_low_all : ∀ n, n < 256 → lowHex (UInt8.ofNat n) = true → hexA (UInt8.ofNat n) = some (hv (UInt8.ofNat n)) := by decide +kernel
theorem hexA_low {c : UInt8} (h : lowHex c = true) : hexA c = some (hv c) := by
  have e : UInt8.ofNat c.toNat = c := by simp
  have := hexA_low_all c.toNat (UInt8.toNat_lt c)
  rw [e] at this
  exact this h
theorem puF_low : ∀ (l : List UInt8) (n k : Nat), n < 16 ^ k → k + l.length ≤ 16 → l.all lowHex = true → puF n l = some (l.foldl (fun n c => 16 * n + hv c) n)
  | [], n, k, _, _, _ => rfl
  | c :: t, n, k, hn, hk, ha => by
    rw [List.all_cons, Bool.and_eq_true] at ha
    have hl := hv_lt ha.1
    simp only [List.length_cons] at hk
    have h60 : n < 1152921504606846976 := Nat.lt_of_lt_of_le hn (Nat.le_trans (Nat.pow_le_pow_right (by omega) (show k ≤ 15 by omega)) (by decide))
    rw [puF, hexA_low ha.1]
    simp only
    rw [if_neg (by omega), puF_low t (n * 16 + hv c) (k + 1) (by rw [Nat.pow_succ]; omega) (by omega) ha.2, List.foldl_cons, Nat.mul_comm n 16]
theorem pu16_low {l : List UInt8} (hl : l.length = 16) (ha : l.all lowHex = true) : pu16 l = some (hexNum l) := by
  unfold pu16
  rw [if_neg (by intro h; subst h; simp at hl), puF_low l 0 0 (by omega) (by omega) ha]
  rfl
/-- What decimal.Unhex computes is what the document says. -/
theorem unhex_ok {l : List UInt8} {h : Nat} (hp : pu16 l = some h) (hh : h < 18446744073709551616) (he : hex16 h = l) : unhexS l = (h, 0) := by
  rw [hex16_fix hh] at he
  unfold unhexS
  rw [if_pos ⟨by rw [← he, length_hexFix], by rw [← he, hexFix_low]⟩, ← he, hexNum_hexFix 16 h (by simpa using hh)]
theorem unhex_none {l : List UInt8} (hp : pu16 l = none) : unhexS l = (0, 6) := by
  unfold unhexS
  by_cases hc : l.length = 16 ∧ l.all lowHex = true
  · rw [pu16_low hc.1 hc.2] at hp; cases hp
  · rw [if_neg hc]
theorem unhex_bad {l : List UInt8} {h : Nat} (hp : pu16 l = some h) (he : hex16 h ≠ l) : unhexS l = (0, 6) := by
  unfold unhexS
  by_cases hc : l.length = 16 ∧ l.all lowHex = true
  · rw [pu16_low hc.1 hc.2] at hp
    injection hp with hp
    have hlt := hexNum_lt 16 l hc.1 hc.2
    rw [hp] at hlt
    have := hexFix_hexNum 16 l hc.1 hc.2
    rw [hp, ← hex16_fix (by simpa using hlt)] at this
    exact absurd this he
  · rw [if_neg hc]
theorem unhex_hex {h : Nat} (hh : h < 18446744073709551616) : unhexS (hex16 h) = (h, 0) := by
  rw [hex16_fix hh]
  unfold unhexS
  rw [if_pos ⟨length_hexFix 16 h, hexFix_low 16 h⟩, hexNum_hexFix 16 h (by simpa using hh)]
theorem puF_lt : ∀ (l : List UInt8) (n h : Nat), n < 18446744073709551616 → puF n l = some h → h < 18446744073709551616
  | [], n, h, hn, hp => by injection hp with hp; omega
  | c :: t, n, h, hn, hp => by
    rw [puF] at hp
    cases hA : hexA c with
    | none => rw [hA] at hp; cases hp
    | some d =>
      rw [hA] at hp
      simp only at hp
      split at hp
      · cases hp
      · have hd : d < 16 := by
          unfold hexA at hA
          split at hA
          · injection hA with hA; omega
          · split at hA
            · injection hA with hA; omega
            · cases hA
        exact puF_lt t _ h (by omega) hp
theorem pu16_lt {l : List UInt8} {h : Nat} (hp : pu16 l = some h) : h < 18446744073709551616 := by
  unfold pu16 at hp
  split at hp
  · cases hp
  · exact puF_lt l 0 h (by omega) hp
end Big
end Go.Proofs.YtbmmnpggadakdaaDoor
