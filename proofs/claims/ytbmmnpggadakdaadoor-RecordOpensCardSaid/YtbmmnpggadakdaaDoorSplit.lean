import Derived.Test.YtbmmnpggadakdaaDoorChecked
import Derived.Lib.Split
/- A text cut at every byte of one kind: plain. -/
namespace Go.Proofs.YtbmmnpggadakdaaDoor
namespace Big
/-- The pieces between the bytes c. -/
def splitOn (c : UInt8) : List UInt8 → List (List UInt8)
  | [] => [[]]
  | b :: t => if b = c then [] :: splitOn c t else
    match splitOn c t with
    | [] => [[b]]
    | h :: r => (b :: h) :: r
theorem splitOn_ne (c : UInt8) (l : List UInt8) : splitOn c l ≠ [] := by
  cases l with
  | nil => simp [splitOn]
  | cons b t =>
    unfold splitOn
    split
    · simp
    · split <;> simp
theorem index_one (c b : UInt8) (t : List UInt8) : Lib.index (b :: t) [c] = if b = c then 0 else if Lib.index t [c] = -1 then -1 else Lib.index t [c] + 1 := by
  rw [Lib.index]
  by_cases h : b = c
  · subst h
    simp [List.isPrefixOf]
  · have h1 : (List.isPrefixOf [c] (b :: t)) = false := by
      have : c ≠ b := fun e => h e.symm
      simp [List.isPrefixOf, this]
    rw [if_neg (by rw [h1]; simp), if_neg h]
    by_cases h2 : Lib.index t [c] = -1
    · rw [if_pos h2, if_pos (by rw [h2]; rfl)]
    · rw [if_neg h2, if_neg (by rw [beq_iff_eq]; exact h2)]
theorem count_one_nil (c : UInt8) : Lib.count [] [c] = 0 := Lib.count_miss (by simp [Lib.index])
theorem splitK_one (c : UInt8) : ∀ (l : List UInt8) (k : Nat), Lib.count l [c] ≤ k → Lib.splitK [c] 0 k l = splitOn c l := by
  intro l
  induction l with
  | nil =>
    intro k _
    cases k with
    | zero => rfl
    | succ k =>
      rw [Lib.splitK, if_pos (by simp [Lib.index])]
      rfl
  | cons b t ih =>
    intro k hk
    have hi := index_one c b t
    by_cases hb : b = c
    · subst hb
      rw [if_pos rfl] at hi
      have hc := Lib.count_hit (s := b :: t) (sub := [b]) (i := 0) (by simp) hi
      simp only [List.length_cons, List.length_nil, Nat.zero_add, List.drop_succ_cons, List.drop_zero] at hc
      obtain ⟨m, rfl⟩ : ∃ m, k = m + 1 := ⟨k - 1, by omega⟩
      rw [Lib.splitK, hi, if_neg (by decide)]
      simp only [Int.toNat_zero, Nat.zero_add, List.take_zero, List.length_cons, List.length_nil, List.drop_succ_cons, List.drop_zero]
      rw [ih m (by omega), splitOn, if_pos rfl]
    · rw [if_neg hb] at hi
      by_cases hm : Lib.index t [c] = -1
      · rw [if_pos hm] at hi
        have h1 : Lib.splitK [c] 0 k (b :: t) = [b :: t] := by
          cases k with
          | zero => rfl
          | succ k => rw [Lib.splitK, if_pos (by rw [hi]; rfl)]
        have h2 : Lib.splitK [c] 0 0 t = splitOn c t := ih 0 (by rw [Lib.count_miss hm]; omega)
        rw [h1, splitOn, if_neg hb, ← h2]
        rfl
      · rw [if_neg hm] at hi
        obtain ⟨i, hin⟩ : ∃ i : Nat, Lib.index t [c] = (i : Int) := ⟨(Lib.index t [c]).toNat, by have := Lib.index_ge t [c]; omega⟩
        rw [hin] at hi
        have hc := Lib.count_hit (s := b :: t) (sub := [c]) (i := i + 1) (by simp) (by rw [hi]; omega)
        have hc2 := Lib.count_hit (s := t) (sub := [c]) (i := i) (by simp) hin
        simp only [List.length_cons, List.length_nil, Nat.zero_add, List.drop_succ_cons] at hc hc2
        obtain ⟨m, rfl⟩ : ∃ m, k = m + 1 := ⟨k - 1, by omega⟩
        have h2 := ih (m + 1) (by omega)
        have e1 : Lib.splitK [c] 0 (m + 1) t = t.take i :: Lib.splitK [c] 0 m (t.drop (i + 1)) := by
          rw [Lib.splitK, hin, if_neg (by rw [beq_iff_eq]; omega)]
          simp
        have e2 : Lib.splitK [c] 0 (m + 1) (b :: t) = (b :: t.take i) :: Lib.splitK [c] 0 m (t.drop (i + 1)) := by
          rw [Lib.splitK, hi, if_neg (by rw [beq_iff_eq]; omega)]
          have : ((i : Int) + 1).toNat = i + 1 := by omega
          rw [this]
          simp
        rw [e2, splitOn, if_neg hb, ← h2, e1]
theorem split_one (c : UInt8) (l : List UInt8) : (Lib.splitB ⟨[c].toArray⟩ 0 (Lib.countB ⟨l.toArray⟩ ⟨[c].toArray⟩) ⟨l.toArray⟩).map (·.data.toList) = splitOn c l := by
  rw [Lib.splitB_data]
  exact splitK_one c l _ (Nat.le_refl _)

/-- Pieces put together with one byte between them. -/
def joinWith (c : UInt8) : List (List UInt8) → List UInt8
  | [] => []
  | [x] => x
  | x :: y :: r => x ++ c :: joinWith c (y :: r)
theorem join_split (c : UInt8) (l : List UInt8) : joinWith c (splitOn c l) = l := by
  induction l with
  | nil => rfl
  | cons b t ih =>
    rw [splitOn]
    split
    · rename_i h
      subst h
      cases hs : splitOn b t with
      | nil => exact absurd hs (splitOn_ne b t)
      | cons h r =>
        rw [hs] at ih
        rw [joinWith, ih]
        rfl
    · cases hs : splitOn c t with
      | nil => exact absurd hs (splitOn_ne c t)
      | cons h r =>
        rw [hs] at ih
        simp only
        cases r with
        | nil => simp only [joinWith] at ih ⊢; rw [ih]
        | cons y r => rw [joinWith] at ih ⊢; rw [← ih]; rfl
theorem splitOn_snoc_same (c : UInt8) (l : List UInt8) : splitOn c (l ++ [c]) = splitOn c l ++ [[]] := by
  induction l with
  | nil => simp [splitOn]
  | cons b t ih =>
    rw [List.cons_append, splitOn, splitOn, ih]
    split
    · rfl
    · cases hs : splitOn c t with
      | nil => exact absurd hs (splitOn_ne c t)
      | cons h r => rfl
theorem splitOn_snoc_other (c b : UInt8) (hb : b ≠ c) (l : List UInt8) : ∃ t x, splitOn c l = t ++ [x] ∧ splitOn c (l ++ [b]) = t ++ [x ++ [b]] := by
  induction l with
  | nil => exact ⟨[], [], rfl, by simp [splitOn, hb]⟩
  | cons a l ih =>
    obtain ⟨t, x, h1, h2⟩ := ih
    rw [List.cons_append, splitOn, splitOn, h1, h2]
    by_cases ha : a = c
    · rw [if_pos ha, if_pos ha]
      exact ⟨[] :: t, x, rfl, rfl⟩
    · rw [if_neg ha, if_neg ha]
      cases t with
      | nil => exact ⟨[], a :: x, rfl, rfl⟩
      | cons y t => exact ⟨(a :: y) :: t, x, rfl, rfl⟩
end Big
end Go.Proofs.YtbmmnpggadakdaaDoor
