import Derived.Test.YtoehdoghghpmjaaGreatDoorM1
/- Hexadecimal texts: plain. -/
namespace Go.Proofs.YtoehdoghghpmjaaGreatDoor
namespace Big
def hexd (d : Nat) : UInt8 := if d < 10 then UInt8.ofNat (48 + d) else UInt8.ofNat (87 + d)
/-- The hexadecimal digits, the highest first; at least one. -/
def hexF : Nat → Nat → List UInt8
  | 0, n => [hexd n]
  | f + 1, n => if n < 16 then [hexd n] else hexF f (n / 16) ++ [hexd (n % 16)]
def hexS (n : Nat) : List UInt8 := hexF n n
theorem hexF_le (f : Nat) : ∀ (g n : Nat), n ≤ f → n ≤ g → hexF f n = hexF g n := by
  induction f with
  | zero => intro g n h _; have : n = 0 := by omega
            subst this; cases g <;> simp [hexF]
  | succ f ih =>
    intro g n hf hg
    cases g with
    | zero => have : n = 0 := by omega
              subst this; simp [hexF]
    | succ g =>
      simp only [hexF]
      split
      · rfl
      · rw [ih g (n / 16) (by omega) (by omega)]
theorem hexS_lt {n : Nat} (h : n < 16) : hexS n = [hexd n] := by
  unfold hexS
  cases n with
  | zero => rfl
  | succ n => rw [hexF, if_pos h]
theorem hexS_ge {n : Nat} (h : 16 ≤ n) : hexS n = hexS (n / 16) ++ [hexd (n % 16)] := by
  unfold hexS
  obtain ⟨m, rfl⟩ : ∃ m, n = m + 1 := ⟨n - 1, by omega⟩
  rw [hexF, if_neg (by omega), hexF_le m ((m + 1) / 16) _ (by omega) (Nat.le_refl _)]
end Big
end Go.Proofs.YtoehdoghghpmjaaGreatDoor
