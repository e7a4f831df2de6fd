import Derived.Test.YtbmmnpggadakdaaDoorDec
/- Reading decimal texts: plain. -/
namespace Go.Proofs.YtbmmnpggadakdaaDoor
namespace Big
def isDig (c : UInt8) : Bool := decide (48 ≤ c.toNat) && decide (c.toNat ≤ 57)
def numOf (l : List UInt8) : Nat := l.foldl (fun n c => 10 * n + (c.toNat - 48)) 0
theorem numOf_snoc (l : List UInt8) (c : UInt8) : numOf (l ++ [c]) = 10 * numOf l + (c.toNat - 48) := by
  unfold numOf; rw [List.foldl_append]; rfl
theorem numOf_take (l : List UInt8) (k : Nat) (h : k < l.length) : numOf (l.take (k + 1)) = 10 * numOf (l.take k) + (l[k].toNat - 48) := by
  rw [List.take_succ_eq_append_getElem h, numOf_snoc]
theorem numOf_lt (l : List UInt8) (h : l.all isDig = true) : numOf l < 10 ^ l.length := by
  have key : ∀ (l : List UInt8) (n k : Nat), l.all isDig = true → n < 10 ^ k → l.foldl (fun n c => 10 * n + (c.toNat - 48)) n < 10 ^ (k + l.length) := by
    intro l
    induction l with
    | nil => intro n k _ hn; simpa using hn
    | cons c l ih =>
      intro n k ha hn
      rw [List.all_cons, Bool.and_eq_true] at ha
      have hc := ha.1
      unfold isDig at hc
      simp at hc
      rw [List.foldl_cons, List.length_cons]
      have := ih (10 * n + (c.toNat - 48)) (k + 1) ha.2 (by rw [Nat.pow_succ]; omega)
      rw [show k + 1 + l.length = k + (l.length + 1) by omega] at this
      exact this
  have := key l 0 0 h (by simp)
  simpa [numOf] using this

/-- What reading a natural gives: the number and the error code. -/
def natural (l : List UInt8) : Nat × Nat :=
  if 20001 < l.length then (0, 7)
  else if l = [] then (0, 6)
  else if l[0]? = some 48 ∧ 1 < l.length then (0, 6)
  else if l.all isDig then (numOf l, 0) else (0, 6)
theorem take_all (l : List UInt8) (k : Nat) (h : k < l.length) : (l.take (k + 1)).all isDig = ((l.take k).all isDig && isDig l[k]) := by
  rw [List.take_succ_eq_append_getElem h, List.all_append]
  simp
theorem all_false_of {l : List UInt8} {k : Nat} (h : k < l.length) (hf : isDig l[k] = false) : l.all isDig = false := by
  rw [List.all_eq_false]
  exact ⟨l[k], List.getElem_mem h, by simp [hf]⟩

/-- One digit read into a group. -/
theorem group_digit {a s c n d : Nat} (h : n = a * s + c) : 10 * n + d = a * (10 * s) + (10 * c + d) := by
  rw [h, Nat.mul_add, Nat.mul_left_comm]
  omega
theorem ten_pow_bound {j : Nat} (h : j ≤ 8) : 10 ^ j ≤ 100000000 := by
  have := Nat.pow_le_pow_right (show 0 < 10 by omega) h
  exact this
theorem ten_pow_9 {j : Nat} (h : j ≤ 8) : (10 * 10 ^ j = 1000000000) ↔ j = 8 := by
  have : j = 0 ∨ j = 1 ∨ j = 2 ∨ j = 3 ∨ j = 4 ∨ j = 5 ∨ j = 6 ∨ j = 7 ∨ j = 8 := by omega
  rcases this with rfl | rfl | rfl | rfl | rfl | rfl | rfl | rfl | rfl <;> simp
theorem limbs_len_pow {a k : Nat} (h : a < 10 ^ k) : (limbs a).length ≤ k :=
  length_limbs_le (Nat.lt_of_lt_of_le h (Nat.pow_le_pow_left (by omega) k))
theorem take_all_lt {l : List UInt8} {k : Nat} (h : (l.take k).all isDig = true) (hk : k ≤ l.length) : numOf (l.take k) < 10 ^ k := by
  have := numOf_lt _ h
  rwa [List.length_take, Nat.min_eq_left hk] at this
theorem isDig_iff (b : UInt8) : isDig b = true ↔ 48 ≤ b.toNat ∧ b.toNat ≤ 57 := by unfold isDig; simp
end Big
end Go.Proofs.YtbmmnpggadakdaaDoor
