import Derived.Test.YtplmldkfgeiklaaGreatDoorM2
import Derived.Test.YtplmldkfgeiklaaGreatDoorM15
import Derived.Lib.IndexMore
import Derived.Lib.TrimByte
import Derived.Lib.SlTrimSet
import Derived.Test.YtplmldkfgeiklaaGreatDoorM11
/- Texts of decimals: plain. -/
namespace Go.Proofs.YtplmldkfgeiklaaGreatDoor
namespace Big
/-- What stands ahead of the first point. -/
def whole (l : List UInt8) : List UInt8 := l.takeWhile (fun c => c != 46)
/-- What stands behind it. -/
def part (l : List UInt8) : List UInt8 := (l.dropWhile (fun c => c != 46)).drop 1
def hasDot (l : List UInt8) : Bool := decide ((whole l).length < l.length)
theorem whole_nil : whole [] = [] := rfl
theorem part_nil : part [] = [] := rfl
theorem whole_dot (t : List UInt8) : whole (46 :: t) = [] := by simp [whole]
theorem part_dot (t : List UInt8) : part (46 :: t) = t := by simp [part]
theorem whole_cons {c : UInt8} (t : List UInt8) (h : c ≠ 46) : whole (c :: t) = c :: whole t := by simp [whole, h]
theorem part_cons {c : UInt8} (t : List UInt8) (h : c ≠ 46) : part (c :: t) = part t := by simp [part, h]
theorem whole_le (l : List UInt8) : (whole l).length ≤ l.length := by
  unfold whole
  exact (List.takeWhile_sublist _).length_le
/-- With or without a point. -/
theorem dot_split (l : List UInt8) : (hasDot l = true ∧ l = whole l ++ 46 :: part l) ∨ (hasDot l = false ∧ l = whole l ∧ part l = []) := by
  induction l with
  | nil => exact .inr ⟨rfl, rfl, rfl⟩
  | cons c t ih =>
    by_cases h : c = 46
    · subst h
      refine .inl ⟨by unfold hasDot; rw [whole_dot]; simp, by rw [whole_dot, part_dot]; rfl⟩
    · have hd : hasDot (c :: t) = hasDot t := by unfold hasDot; rw [whole_cons t h]; simp
      rw [hd, whole_cons t h, part_cons t h]
      rcases ih with ⟨h1, h2⟩ | ⟨h1, h2, h3⟩
      · exact .inl ⟨h1, by rw [List.cons_append, ← h2]⟩
      · exact .inr ⟨h1, by rw [← h2], h3⟩
theorem index_dot (l : List UInt8) : Lib.index l [46] = if hasDot l then ((whole l).length : Int) else -1 := by
  induction l with
  | nil => rfl
  | cons c t ih =>
    rw [index_one]
    by_cases h : c = 46
    · subst h
      rw [if_pos rfl, whole_dot]
      rfl
    · have hd : hasDot (c :: t) = hasDot t := by unfold hasDot; rw [whole_cons t h]; simp
      rw [if_neg h, hd, ih, whole_cons t h]
      cases hasDot t
      · simp
      · simp only [if_true]
        rw [if_neg (by omega), List.length_cons]
        omega
theorem cut_dot (l : List UInt8) : Lib.cut l [46] = (whole l, part l, hasDot l) := by
  unfold Lib.cut
  rw [index_dot]
  rcases dot_split l with ⟨h1, h2⟩ | ⟨h1, h2, h3⟩
  · rw [h1]
    simp only [if_true]
    rw [if_pos (by omega), Int.toNat_natCast]
    generalize whole l = a at *
    generalize part l = b at *
    subst h2
    simp [List.drop_append]
  · rw [h1]
    simp only [Bool.false_eq_true, if_false]
    rw [if_neg (by omega), h3, ← h2]
/-- Ahead of and behind the point no number is written so. -/
def bad7 (l : List UInt8) : Bool := (hasDot l && ((part l == []) || ((part l).getLast? == some 48))) || (whole l == []) || ((whole l)[0]? == some 48 && decide (1 < (whole l).length))
def good7 (l : List UInt8) : Bool := !bad7 l && (whole l ++ part l).all isDig
/-- The error code of reading a decimal. -/
def code7 (l : List UInt8) : Nat := if 400 < l.length then 7 else if good7 l then 0 else 6
theorem dropZ_all (l : List UInt8) : (l.dropWhile (· == 48)).all isDig = l.all isDig := by
  induction l with
  | nil => rfl
  | cons c t ih =>
    by_cases h : c = 48
    · subst h
      simp only [List.dropWhile_cons, beq_self_eq_true, if_true, List.all_cons]
      rw [ih]
      rfl
    · simp [h]
theorem numOf_cons0 (t : List UInt8) : numOf (48 :: t) = numOf t := rfl
theorem dropZ_num (l : List UInt8) : numOf (l.dropWhile (· == 48)) = numOf l := by
  induction l with
  | nil => rfl
  | cons c t ih =>
    by_cases h : c = 48
    · subst h
      simp only [List.dropWhile_cons, beq_self_eq_true, if_true]
      rw [ih, numOf_cons0]
    · simp [h]
theorem dropZ_head (l : List UInt8) (h : l.dropWhile (· == 48) ≠ []) : (l.dropWhile (· == 48))[0]? ≠ some 48 := by
  induction l with
  | nil => simp at h
  | cons c t ih =>
    by_cases hc : c = 48
    · subst hc
      simp only [List.dropWhile_cons, beq_self_eq_true, if_true] at h ⊢
      exact ih h
    · simp [hc]
/-- The digits without zeros in front. -/
def digs7 (l : List UInt8) : List UInt8 := if l.dropWhile (· == 48) = [] then [48] else l.dropWhile (· == 48)
theorem digs7_natural (l : List UInt8) (hl : l.length ≤ 800) : natural (digs7 l) = if l.all isDig then (numOf l, 0) else (0, 6) := by
  unfold digs7
  have h1 := dropZ_all l
  have h2 := dropZ_num l
  have h4 : (l.dropWhile (· == 48)).length ≤ l.length := (List.dropWhile_sublist _).length_le
  by_cases h : l.dropWhile (· == 48) = []
  · rw [if_pos h]
    rw [h] at h1 h2
    rw [← h1, ← h2]
    rfl
  · rw [if_neg h]
    have h3 := dropZ_head l h
    unfold natural
    rw [if_neg (by omega), if_neg h, if_neg (fun e => h3 e.1), h1, h2]
theorem limbs_dec {n k : Nat} {m : Nat} (h : n < 10 ^ k) (hk : k ≤ m) : (limbs n).length ≤ m := by
  refine length_limbs_le (Nat.lt_of_lt_of_le h (Nat.le_trans (Nat.pow_le_pow_left (show 10 ≤ 4294967296 by decide) k) (pow_mono hk)))
theorem trimS_all (l : List UInt8) (h : l.all isDig = true) : Lib.trimS l [48, 49, 50, 51, 52, 53, 54, 55, 56, 57] = [] := by
  have key : ∀ l : List UInt8, l.all isDig = true → l.dropWhile (([48, 49, 50, 51, 52, 53, 54, 55, 56, 57] : List UInt8).contains ·) = [] := by
    intro l h
    induction l with
    | nil => rfl
    | cons c t ih =>
      rw [List.all_cons, Bool.and_eq_true] at h
      have hc : ([48, 49, 50, 51, 52, 53, 54, 55, 56, 57] : List UInt8).contains c = true := by
        have h1 := h.1
        unfold isDig at h1
        simp only [Bool.and_eq_true, decide_eq_true_eq] at h1
        have : c.toNat = 48 ∨ c.toNat = 49 ∨ c.toNat = 50 ∨ c.toNat = 51 ∨ c.toNat = 52 ∨ c.toNat = 53 ∨ c.toNat = 54 ∨ c.toNat = 55 ∨ c.toNat = 56 ∨ c.toNat = 57 := by omega
        rcases this with e | e | e | e | e | e | e | e | e | e <;> (rw [show c = UInt8.ofNat c.toNat by simp, e]; rfl)
      rw [List.dropWhile_cons, hc]
      exact ih h.2
  unfold Lib.trimS Lib.trimLeftS Lib.trimRightS
  rw [key l.reverse (by rw [List.all_reverse]; exact h)]
  rfl
end Big
end Go.Proofs.YtplmldkfgeiklaaGreatDoor
/- Texts of decimals, read byte by byte: plain. -/
namespace Go.Proofs.YtplmldkfgeiklaaGreatDoor
namespace Big
/-- But for the first point all bytes are digits. -/
def allD (l : List UInt8) : Bool := (whole l ++ part l).all isDig
theorem allD_nil : allD [] = true := rfl
theorem allD_dot (t : List UInt8) : allD (46 :: t) = t.all isDig := by unfold allD; rw [whole_dot, part_dot]; rfl
theorem allD_cons {c : UInt8} (t : List UInt8) (h : c ≠ 46) : allD (c :: t) = (isDig c && allD t) := by
  unfold allD; rw [whole_cons t h, part_cons t h]; rfl
theorem hasDot_nil : hasDot [] = false := rfl
theorem hasDot_dot (t : List UInt8) : hasDot (46 :: t) = true := by unfold hasDot; rw [whole_dot]; simp
theorem hasDot_cons {c : UInt8} (t : List UInt8) (h : c ≠ 46) : hasDot (c :: t) = hasDot t := by unfold hasDot; rw [whole_cons t h]; simp
theorem hasDot_snoc (t : List UInt8) (c : UInt8) : hasDot (t ++ [c]) = (hasDot t || c == 46) := by
  induction t with
  | nil =>
    by_cases h : c = 46
    · subst h; rfl
    · rw [List.nil_append, hasDot_cons _ h, hasDot_nil]; simp [h]
  | cons a t ih =>
    by_cases h : a = 46
    · subst h; rw [List.cons_append, hasDot_dot, hasDot_dot]; rfl
    · rw [List.cons_append, hasDot_cons _ h, hasDot_cons _ h, ih]
theorem allD_snoc (t : List UInt8) (c : UInt8) : allD (t ++ [c]) = (allD t && ((!hasDot t && c == 46) || isDig c)) := by
  induction t with
  | nil =>
    by_cases h : c = 46
    · subst h; rfl
    · rw [List.nil_append, allD_cons _ h, allD_nil, hasDot_nil]
      have : (c == 46) = false := by rw [beq_eq_false_iff_ne]; exact h
      simp [this]
  | cons a t ih =>
    by_cases h : a = 46
    · subst h
      rw [List.cons_append, allD_dot, allD_dot, hasDot_dot, List.all_append]
      simp
    · rw [List.cons_append, allD_cons _ h, allD_cons _ h, hasDot_cons _ h, ih, Bool.and_assoc]
theorem allD_left (a b : List UInt8) (h : allD (a ++ b) = true) : allD a = true := by
  induction b generalizing a with
  | nil => simpa using h
  | cons c b ih =>
    have := ih (a ++ [c]) (by simpa using h)
    rw [allD_snoc, Bool.and_eq_true] at this
    exact this.1
theorem hasDot_left (a b : List UInt8) (h : hasDot a = true) : hasDot (a ++ b) = true := by
  induction b generalizing a with
  | nil => simpa using h
  | cons c b ih =>
    have := ih (a ++ [c]) (by rw [hasDot_snoc, h]; rfl)
    simpa using this
/-- Where the first point stands. -/
theorem first_dot (l : List UInt8) (i : Nat) (hi : i < l.length) (h : hasDot (l.take i) = false) (hc : l[i] = 46) : (whole l).length = i := by
  induction l generalizing i with
  | nil => simp at hi
  | cons a t ih =>
    cases i with
    | zero =>
      simp only [List.getElem_cons_zero] at hc
      subst hc
      rw [whole_dot]; rfl
    | succ i =>
      by_cases ha : a = 46
      · subst ha; rw [List.take_succ_cons, hasDot_dot] at h; cases h
      · rw [List.take_succ_cons, hasDot_cons _ ha] at h
        rw [whole_cons _ ha, List.length_cons, ih i (by simpa using hi) h (by simpa using hc)]
/-- How the reading goes on with one more byte. -/
theorem read_step {l : List UInt8} {i : Nat} (hi : i < l.length) (h : allD (l.take i) = true) :
    allD (l.take (i + 1)) = ((!hasDot (l.take i) && l[i] == 46) || isDig l[i]) ∧ hasDot (l.take (i + 1)) = (hasDot (l.take i) || l[i] == 46) := by
  rw [List.take_succ_eq_append_getElem hi, allD_snoc, hasDot_snoc, h]
  exact ⟨rfl, rfl⟩
theorem read_bad {l : List UInt8} {j : Nat} (h : allD (l.take j) = false) : allD l = false := by
  cases h1 : allD l
  · rfl
  · rw [← List.take_append_drop j l] at h1
    rw [allD_left _ _ h1] at h
    cases h
theorem dot_of_take {l : List UInt8} {j : Nat} (h : hasDot (l.take j) = true) : (whole l).length < l.length := by
  have h1 := hasDot_left (l.take j) (l.drop j) h
  rw [List.take_append_drop] at h1
  exact of_decide_eq_true h1
theorem nodot_whole {l : List UInt8} (h : hasDot l = false) : (whole l).length = l.length := by
  rcases dot_split l with ⟨h1, _⟩ | ⟨_, h2, _⟩
  · rw [h] at h1; cases h1
  · exact congrArg List.length h2.symm
theorem take_whole (l : List UInt8) : l.take (whole l).length = whole l := by
  rcases dot_split l with ⟨_, h2⟩ | ⟨_, h2, _⟩
  · generalize whole l = a at *
    generalize part l = b at *
    subst h2
    simp
  · rw [← h2, List.take_of_length_le (Nat.le_refl _)]
theorem drop_part {l : List UInt8} (h : hasDot l = true) : l.drop ((whole l).length + 1) = part l := by
  rcases dot_split l with ⟨_, h2⟩ | ⟨h1, _⟩
  · generalize whole l = a at *
    generalize part l = b at *
    subst h2
    simp [List.drop_append]
  · rw [h] at h1; cases h1
theorem good7_eq (l : List UInt8) : good7 l = (!bad7 l && allD l) := rfl
end Big
end Go.Proofs.YtplmldkfgeiklaaGreatDoor
namespace Go.Proofs.YtplmldkfgeiklaaGreatDoor
namespace Big
open Go.RowKit
theorem bad7_hit {l : List UInt8} (h : (hasDot l && ((part l == []) || ((part l).getLast? == some 48))) = true) : bad7 l = true := by
  unfold bad7
  rw [h]
  rfl
theorem bad7_miss {l : List UInt8} (h : (hasDot l && ((part l == []) || ((part l).getLast? == some 48))) = false) : bad7 l = ((whole l == []) || ((whole l)[0]? == some 48 && decide (1 < (whole l).length))) := by
  unfold bad7
  rw [h]
  rfl
theorem last_byte (P : List UInt8) (k : Nat) (h : P.length = k + 1) : (P.getLast? == some 48) = ((byteAt P k : Int) == 48) := by
  have h1 : P.getLast? = some P[k] := by
    rw [List.getLast?_eq_getElem?, show P.length - 1 = k by omega, List.getElem?_eq_getElem (by omega)]
  rw [h1, byteAt_eq P k (by omega), Bool.eq_iff_iff]
  simp only [beq_iff_eq, Option.some.injEq]
  constructor
  · intro e; rw [e]; rfl
  · intro e
    apply UInt8.toNat_inj.1
    have : P[k].toNat = 48 := by omega
    rw [this]; rfl
theorem first_byte (W : List UInt8) (k : Nat) (h : W.length = k + 1) : (W[0]? == some 48) = ((byteAt W 0 : Int) == 48) := by
  rw [byteAt_eq W 0 (by omega), List.getElem?_eq_getElem (by omega), Bool.eq_iff_iff]
  simp only [beq_iff_eq, Option.some.injEq]
  constructor
  · intro e; rw [e]; rfl
  · intro e
    apply UInt8.toNat_inj.1
    have : W[0].toNat = 48 := by omega
    rw [this]; rfl

end Big
end Go.Proofs.YtplmldkfgeiklaaGreatDoor
/- What reading a decimal returns. -/
namespace Go.Proofs.YtplmldkfgeiklaaGreatDoor
namespace Big
open Go.RowKit
/-- The fraction that a text stands for. -/
def num7 (l : List UInt8) : Int := lowN (numOf (whole l ++ part l)) (10 ^ (part l).length)
def den7 (l : List UInt8) : Nat := lowD (numOf (whole l ++ part l)) (10 ^ (part l).length)
/-- What reading a decimal returns. -/
def ParseRes7 (w : World) (l : List UInt8) (e : Ending) (w' : World) : Prop :=
  ∃ v', e = .returned (.tuple #[v', .int .i64 (code7 l : Int)]) ∧ IsRat w.heap.size w' v' (if code7 l = 0 then num7 l else 0) (if code7 l = 0 then den7 l else 0) ∧ Ext w w'
end Big
end Go.Proofs.YtplmldkfgeiklaaGreatDoor
