import Derived.Test.YtoehdoghghpmjaaGreatDoorM5
import Derived.Test.YtoehdoghghpmjaaGreatDoorM4
/- Texts of decimals, read byte by byte: plain. -/
namespace Go.Proofs.YtoehdoghghpmjaaGreatDoor
namespace Big
/-- But for the first point all bytes are digits. -/
def allD (l : List UInt8) : Bool := (whole l ++ part l).all isDig
theorem allD_nil : allD [] = true := rfl
theorem allD_dot (t : List UInt8) : allD (46 :: t) = t.all isDig := by unfold allD; rw [whole_dot, part_dot]; rfl
theorem allD_cons {c : UInt8} (t : List UInt8) (h : c ≠ 46) : allD (c :: t) = (isDig c && allD t) := by
  unfold allD; rw [whole_cons t h, part_cons t h]; rfl
theorem hasDot_nil : hasDot [] = false := rfl
theorem hasDot_dot (t : List UInt8) : hasDot (46 :: t) = true := by unfold hasDot; rw [whole_dot]; simp
theorem hasDot_cons {c : UInt8} (t : List UInt8) (h : c ≠ 46) : hasDot (c :: t) = hasDot t := by unfold hasDot; rw [whole_cons t h]; simp
theorem hasDot_snoc (t : List UInt8) (c : UInt8) : hasDot (t ++ [c]) = (hasDot t || c == 46) := by
  induction t with
  | nil =>
    by_cases h : c = 46
    · subst h; rfl
    · rw [List.nil_append, hasDot_cons _ h, hasDot_nil]; simp [h]
  | cons a t ih =>
    by_cases h : a = 46
    · subst h; rw [List.cons_append, hasDot_dot, hasDot_dot]; rfl
    · rw [List.cons_append, hasDot_cons _ h, hasDot_cons _ h, ih]
theorem allD_snoc (t : List UInt8) (c : UInt8) : allD (t ++ [c]) = (allD t && ((!hasDot t && c == 46) || isDig c)) := by
  induction t with
  | nil =>
    by_cases h : c = 46
    · subst h; rfl
    · rw [List.nil_append, allD_cons _ h, allD_nil, hasDot_nil]
      have : (c == 46) = false := by rw [beq_eq_false_iff_ne]; exact h
      simp [this]
  | cons a t ih =>
    by_cases h : a = 46
    · subst h
      rw [List.cons_append, allD_dot, allD_dot, hasDot_dot, List.all_append]
      simp
    · rw [List.cons_append, allD_cons _ h, allD_cons _ h, hasDot_cons _ h, ih, Bool.and_assoc]
theorem allD_left (a b : List UInt8) (h : allD (a ++ b) = true) : allD a = true := by
  induction b generalizing a with
  | nil => simpa using h
  | cons c b ih =>
    have := ih (a ++ [c]) (by simpa using h)
    rw [allD_snoc, Bool.and_eq_true] at this
    exact this.1
theorem hasDot_left (a b : List UInt8) (h : hasDot a = true) : hasDot (a ++ b) = true := by
  induction b generalizing a with
  | nil => simpa using h
  | cons c b ih =>
    have := ih (a ++ [c]) (by rw [hasDot_snoc, h]; rfl)
    simpa using this
/-- Where the first point stands. -/
theorem first_dot (l : List UInt8) (i : Nat) (hi : i < l.length) (h : hasDot (l.take i) = false) (hc : l[i] = 46) : (whole l).length = i := by
  induction l generalizing i with
  | nil => simp at hi
  | cons a t ih =>
    cases i with
    | zero =>
      simp only [List.getElem_cons_zero] at hc
      subst hc
      rw [whole_dot]; rfl
    | succ i =>
      by_cases ha : a = 46
      · subst ha; rw [List.take_succ_cons, hasDot_dot] at h; cases h
      · rw [List.take_succ_cons, hasDot_cons _ ha] at h
        rw [whole_cons _ ha, List.length_cons, ih i (by simpa using hi) h (by simpa using hc)]
/-- How the reading goes on with one more byte. -/
theorem read_step {l : List UInt8} {i : Nat} (hi : i < l.length) (h : allD (l.take i) = true) :
    allD (l.take (i + 1)) = ((!hasDot (l.take i) && l[i] == 46) || isDig l[i]) ∧ hasDot (l.take (i + 1)) = (hasDot (l.take i) || l[i] == 46) := by
  rw [List.take_succ_eq_append_getElem hi, allD_snoc, hasDot_snoc, h]
  exact ⟨rfl, rfl⟩
theorem read_bad {l : List UInt8} {j : Nat} (h : allD (l.take j) = false) : allD l = false := by
  cases h1 : allD l
  · rfl
  · rw [← List.take_append_drop j l] at h1
    rw [allD_left _ _ h1] at h
    cases h
theorem dot_of_take {l : List UInt8} {j : Nat} (h : hasDot (l.take j) = true) : (whole l).length < l.length := by
  have h1 := hasDot_left (l.take j) (l.drop j) h
  rw [List.take_append_drop] at h1
  exact of_decide_eq_true h1
theorem nodot_whole {l : List UInt8} (h : hasDot l = false) : (whole l).length = l.length := by
  rcases dot_split l with ⟨h1, _⟩ | ⟨_, h2, _⟩
  · rw [h] at h1; cases h1
  · exact congrArg List.length h2.symm
theorem take_whole (l : List UInt8) : l.take (whole l).length = whole l := by
  rcases dot_split l with ⟨_, h2⟩ | ⟨_, h2, _⟩
  · generalize whole l = a at *
    generalize part l = b at *
    subst h2
    simp
  · rw [← h2, List.take_of_length_le (Nat.le_refl _)]
theorem drop_part {l : List UInt8} (h : hasDot l = true) : l.drop ((whole l).length + 1) = part l := by
  rcases dot_split l with ⟨_, h2⟩ | ⟨h1, _⟩
  · generalize whole l = a at *
    generalize part l = b at *
    subst h2
    simp [List.drop_append]
  · rw [h] at h1; cases h1
theorem good7_eq (l : List UInt8) : good7 l = (!bad7 l && allD l) := rfl
end Big
end Go.Proofs.YtoehdoghghpmjaaGreatDoor
/- Tokens: plain. Bytes are numbers below 256. -/
namespace Go.Proofs.YtoehdoghghpmjaaGreatDoor
namespace Big
def digN (n : Nat) : Bool := decide (48 ≤ n) && decide (n ≤ 57)
def letN (n : Nat) : Bool := (decide (97 ≤ n) && decide (n ≤ 122)) || (decide (65 ≤ n) && decide (n ≤ 90))
def wordN (n : Nat) : Bool := letN n || digN n || n == 95
def numN (n : Nat) : Bool := digN n || n == 46
def signN (n : Nat) : Bool := n == 43 || n == 45 || n == 42 || n == 47 || n == 94 || n == 40 || n == 41
/-- A token: its kind, its place, its text. -/
structure Tok where
  kind : Nat
  at_ : Nat
  text : List UInt8
deriving DecidableEq
/-- How far a text goes on with bytes of a class, from a place on. -/
def runLen (p : Nat → Bool) : List UInt8 → Nat
  | [] => 0
  | c :: t => if p c.toNat then runLen p t + 1 else 0
theorem runLen_le (p : Nat → Bool) (l : List UInt8) : runLen p l ≤ l.length := by
  induction l with
  | nil => exact Nat.le_refl _
  | cons c t ih =>
    unfold runLen
    split
    · simp; exact ih
    · exact Nat.zero_le _
theorem runLen_in (p : Nat → Bool) (l : List UInt8) (i : Nat) (h : i < runLen p l) : ∃ hi : i < l.length, p l[i].toNat = true := by
  induction l generalizing i with
  | nil => simp [runLen] at h
  | cons c t ih =>
    unfold runLen at h
    split at h
    · rename_i hc
      cases i with
      | zero => exact ⟨by simp, by simpa using hc⟩
      | succ i =>
        obtain ⟨h1, h2⟩ := ih i (by omega)
        exact ⟨by simpa using h1, by simpa using h2⟩
    · omega
theorem runLen_end (p : Nat → Bool) (l : List UInt8) (h : runLen p l < l.length) : p l[runLen p l].toNat = false := by
  induction l with
  | nil => simp at h
  | cons c t ih =>
    by_cases hc : p c.toNat = true
    · have e : runLen p (c :: t) = runLen p t + 1 := by rw [runLen, if_pos hc]
      simp only [e] at h ⊢
      simpa using ih (by simpa using h)
    · have e : runLen p (c :: t) = 0 := by rw [runLen, if_neg hc]
      simp only [e]
      simpa using hc
/-- A run is known from its bytes. -/
theorem runLen_eq (p : Nat → Bool) (l : List UInt8) (n : Nat) (hn : n ≤ l.length) (h1 : ∀ i (h : i < l.length), i < n → p l[i].toNat = true) (h2 : ∀ h : n < l.length, p l[n].toNat = false) : runLen p l = n := by
  rcases Nat.lt_trichotomy (runLen p l) n with h | h | h
  · have h3 := runLen_end p l (by omega)
    rw [h1 _ (by omega) h] at h3
    cases h3
  · exact h
  · obtain ⟨h3, h4⟩ := runLen_in p l n h
    rw [h2 h3] at h4
    cases h4
/-- What stands at the head of a text: a token's kind and length. -/
def tokLen (l : List UInt8) : Option (Nat × Nat) :=
  match l with
  | [] => none
  | c :: _ =>
    if letN c.toNat then (if runLen wordN l ≤ 24 then some (2, runLen wordN l) else none)
    else if digN c.toNat then (if code7 (l.take (runLen numN l)) = 0 then some (1, runLen numN l) else none)
    else if signN c.toNat then some (3, 1) else none
/-- The tokens of a text from a place on, behind those that are there. -/
def scanF : Nat → List UInt8 → Nat → List Tok → List Tok × Nat × Nat
  | 0, _, at_, _ => ([], at_, 6)
  | f + 1, l, at_, ts =>
    if l.length ≤ at_ then (ts, l.length, 0)
    else if l[at_]? = some 32 then scanF f l (at_ + 1) ts
    else match tokLen (l.drop at_) with
      | none => ([], at_, 6)
      | some (k, n) => scanF f l (at_ + n) (ts ++ [⟨k, at_, (l.drop at_).take n⟩])
theorem tokLen_pos {l : List UInt8} {k n : Nat} (h : tokLen l = some (k, n)) : 1 ≤ n ∧ n ≤ l.length := by
  unfold tokLen at h
  split at h
  · cases h
  · rename_i c t
    split at h
    · rename_i hc
      split at h
      · injection h with h
        injection h with h1 h2
        rw [← h2]
        refine ⟨?_, runLen_le _ _⟩
        rw [runLen, if_pos (by unfold wordN; rw [hc]; rfl)]
        omega
      · cases h
    · split at h
      · rename_i hc
        split at h
        · injection h with h
          injection h with h1 h2
          rw [← h2]
          refine ⟨?_, runLen_le _ _⟩
          rw [runLen, if_pos (by unfold numN; rw [hc]; rfl)]
          omega
        · cases h
      · split at h
        · injection h with h
          injection h with h1 h2
          rw [← h2]
          simp
        · cases h
/-- Enough fuel is enough. -/
theorem scanF_more (f : Nat) : ∀ (g : Nat) (l : List UInt8) (at_ : Nat) (ts : List Tok), l.length + 1 ≤ at_ + f → l.length + 1 ≤ at_ + g → 1 ≤ f → 1 ≤ g → scanF f l at_ ts = scanF g l at_ ts := by
  induction f with
  | zero => intro g l at_ ts _ _ h; omega
  | succ f ih =>
    intro g l at_ ts hf hg _ hg1
    obtain ⟨g', rfl⟩ : ∃ g', g = g' + 1 := ⟨g - 1, by omega⟩
    unfold scanF
    by_cases h0 : l.length ≤ at_
    · rw [if_pos h0, if_pos h0]
    · rw [if_neg h0, if_neg h0]
      split
      · exact ih g' l _ ts (by omega) (by omega) (by omega) (by omega)
      · cases ht : tokLen (l.drop at_) with
        | none => rfl
        | some kn =>
          obtain ⟨k, n⟩ := kn
          have hn := tokLen_pos ht
          exact ih g' l _ _ (by omega) (by omega) (by omega) (by omega)
/-- The tokens of a text, where it was read up to, the error code. -/
def scanT (l : List UInt8) : List Tok × Nat × Nat := if 400 < l.length then ([], 0, 7) else scanF (l.length + 1) l 0 []
/-- What is still to come. -/
def scanGo (l : List UInt8) (at_ : Nat) (ts : List Tok) : List Tok × Nat × Nat := scanF (l.length + 1) l at_ ts
theorem scanGo_end {l : List UInt8} {at_ : Nat} {ts : List Tok} (h : l.length ≤ at_) : scanGo l at_ ts = (ts, l.length, 0) := by
  unfold scanGo scanF; rw [if_pos h]
theorem scanGo_space {l : List UInt8} {at_ : Nat} {ts : List Tok} (h : at_ < l.length) (hc : l[at_]? = some 32) : scanGo l at_ ts = scanGo l (at_ + 1) ts := by
  unfold scanGo
  rw [scanF, if_neg (by omega), if_pos hc]
  exact scanF_more _ _ l _ ts (by omega) (by omega) (by omega) (by omega)
theorem scanGo_none {l : List UInt8} {at_ : Nat} {ts : List Tok} (h : at_ < l.length) (hc : l[at_]? ≠ some 32) (ht : tokLen (l.drop at_) = none) : scanGo l at_ ts = ([], at_, 6) := by
  unfold scanGo
  rw [scanF, if_neg (by omega), if_neg hc, ht]
theorem scanGo_some {l : List UInt8} {at_ k n : Nat} {ts : List Tok} (h : at_ < l.length) (hc : l[at_]? ≠ some 32) (ht : tokLen (l.drop at_) = some (k, n)) : scanGo l at_ ts = scanGo l (at_ + n) (ts ++ [⟨k, at_, (l.drop at_).take n⟩]) := by
  unfold scanGo
  have hn := tokLen_pos ht
  rw [scanF, if_neg (by omega), if_neg hc, ht]
  exact scanF_more _ _ l _ _ (by omega) (by omega) (by omega) (by omega)
/-- A word that is not too long. -/
def wordB (l : List UInt8) : Bool := !(l == []) && decide (l.length ≤ 24) && letN (l.getD 0 0).toNat && l.all (fun c => wordN c.toNat)
end Big
end Go.Proofs.YtoehdoghghpmjaaGreatDoor
/- More words: structs of two cells in a block of the call's own. -/
namespace Go.Proofs.YtoehdoghghpmjaaGreatDoor
namespace Big
open Go.RowKit
theorem two_set' {w : World} {g : Nat} {t : TypeId} {a b : Value} (h : Blk w g t #[a, b]) (a' b' : Value) :
    (w.setCell ⟨g, 0, none⟩ a').cell? ⟨g, 0, none⟩ = some a' ∧ ((w.setCell ⟨g, 0, none⟩ a').setCell ⟨g, 1, none⟩ b').cell? ⟨g, 1, none⟩ = some b' :=
  ⟨(h.set_ 0 a').cell 0, ((h.set_ 0 a').set_ 1 b').cell 1⟩
theorem two_set {w : World} {g : Nat} {t : TypeId} {a b : Value} (h : Blk w g t #[a, b]) (a' b' : Value) :
    ((w.setCell ⟨g, 0, none⟩ a').setCell ⟨g, 1, none⟩ b').cell? ⟨g, 0, none⟩ = some a' ∧ ((w.setCell ⟨g, 0, none⟩ a').setCell ⟨g, 1, none⟩ b').cell? ⟨g, 1, none⟩ = some b' :=
  ⟨((h.set_ 0 a').set_ 1 b').cell 0, ((h.set_ 0 a').set_ 1 b').cell 1⟩
end Big
end Go.Proofs.YtoehdoghghpmjaaGreatDoor
/- Classes of bytes: the lexer's and the reference's. -/
namespace Go.Proofs.YtoehdoghghpmjaaGreatDoor
namespace Big
open Go.RowKit
theorem isDigit_any (w : World) (n : Nat) (hn : n < 256) : Calls Tryz.prog 79 #[.int .u8 (n : Int)] w fun e w' => e = .returned (.bool (digN n)) ∧ w = w' := by
  have e1 : decide ((48 : Int) ≤ (n : Int)) = decide (48 ≤ n) := by rw [decide_eq_decide]; omega
  have e2 : decide ((n : Int) ≤ 57) = decide (n ≤ 57) := by rw [decide_eq_decide]; omega
  have H : Hid (digN n = (decide ((48 : Int) ≤ (n : Int)) && decide ((n : Int) ≤ 57))) := Lib.hid (by rw [e1, e2]; rfl)
  clear e1 e2
  cases b1 : decide ((48 : Int) ≤ (n : Int)) <;> cases b2 : decide ((n : Int) ≤ 57)
  all_goals first | (exfalso; simp only [decide_eq_false_iff_not, decide_eq_true_eq] at b1 b2; omega) | skip
  all_goals
    rw [b1, b2] at H
    go_enter Tryz.func79, Tryz.ntmps79
    go_wp2_with fail
    go_ret
    rw [H.out]
    exact ⟨rfl, rfl⟩
theorem rdigit_any (w : World) (n : Nat) (hn : n < 256) : Calls Tryz.prog 81 #[.int .u8 (n : Int)] w fun e w' => e = .returned (.bool (digN n)) ∧ w = w' := by
  have e1 : decide ((48 : Int) ≤ (n : Int)) = decide (48 ≤ n) := by rw [decide_eq_decide]; omega
  have e2 : decide ((n : Int) ≤ 57) = decide (n ≤ 57) := by rw [decide_eq_decide]; omega
  have H : Hid (digN n = (decide ((48 : Int) ≤ (n : Int)) && decide ((n : Int) ≤ 57))) := Lib.hid (by rw [e1, e2]; rfl)
  clear e1 e2
  cases b1 : decide ((48 : Int) ≤ (n : Int)) <;> cases b2 : decide ((n : Int) ≤ 57)
  all_goals first | (exfalso; simp only [decide_eq_false_iff_not, decide_eq_true_eq] at b1 b2; omega) | skip
  all_goals
    rw [b1, b2] at H
    go_enter Tryz.func81, Tryz.ntmps81
    go_wp2_with fail
    go_ret
    rw [H.out]
    exact ⟨rfl, rfl⟩
theorem isLetter_any (w : World) (n : Nat) (hn : n < 256) : Calls Tryz.prog 60 #[.int .u8 (n : Int)] w fun e w' => e = .returned (.bool (letN n)) ∧ w = w' := by
  have e1 : decide ((97 : Int) ≤ (n : Int)) = decide (97 ≤ n) := by rw [decide_eq_decide]; omega
  have e2 : decide ((n : Int) ≤ 122) = decide (n ≤ 122) := by rw [decide_eq_decide]; omega
  have e3 : decide ((65 : Int) ≤ (n : Int)) = decide (65 ≤ n) := by rw [decide_eq_decide]; omega
  have e4 : decide ((n : Int) ≤ 90) = decide (n ≤ 90) := by rw [decide_eq_decide]; omega
  have H : Hid (letN n = ((decide ((97 : Int) ≤ (n : Int)) && decide ((n : Int) ≤ 122)) || (decide ((65 : Int) ≤ (n : Int)) && decide ((n : Int) ≤ 90)))) := Lib.hid (by rw [e1, e2, e3, e4]; rfl)
  clear e1 e2 e3 e4
  cases b1 : decide ((97 : Int) ≤ (n : Int)) <;> cases b2 : decide ((n : Int) ≤ 122) <;> cases b3 : decide ((65 : Int) ≤ (n : Int)) <;> cases b4 : decide ((n : Int) ≤ 90)
  all_goals first | (exfalso; simp only [decide_eq_false_iff_not, decide_eq_true_eq] at b1 b2 b3 b4; omega) | skip
  all_goals
    rw [b1, b2, b3, b4] at H
    go_enter Tryz.func60, Tryz.ntmps60
    go_wp2_with fail
    go_ret
    rw [H.out]
    exact ⟨rfl, rfl⟩
theorem rletter_any (w : World) (n : Nat) (hn : n < 256) : Calls Tryz.prog 80 #[.int .u8 (n : Int)] w fun e w' => e = .returned (.bool (letN n)) ∧ w = w' := by
  have e1 : decide ((97 : Int) ≤ (n : Int)) = decide (97 ≤ n) := by rw [decide_eq_decide]; omega
  have e2 : decide ((n : Int) ≤ 122) = decide (n ≤ 122) := by rw [decide_eq_decide]; omega
  have e3 : decide ((65 : Int) ≤ (n : Int)) = decide (65 ≤ n) := by rw [decide_eq_decide]; omega
  have e4 : decide ((n : Int) ≤ 90) = decide (n ≤ 90) := by rw [decide_eq_decide]; omega
  have H : Hid (letN n = ((decide ((97 : Int) ≤ (n : Int)) && decide ((n : Int) ≤ 122)) || (decide ((65 : Int) ≤ (n : Int)) && decide ((n : Int) ≤ 90)))) := Lib.hid (by rw [e1, e2, e3, e4]; rfl)
  clear e1 e2 e3 e4
  cases b1 : decide ((97 : Int) ≤ (n : Int)) <;> cases b2 : decide ((n : Int) ≤ 122) <;> cases b3 : decide ((65 : Int) ≤ (n : Int)) <;> cases b4 : decide ((n : Int) ≤ 90)
  all_goals first | (exfalso; simp only [decide_eq_false_iff_not, decide_eq_true_eq] at b1 b2 b3 b4; omega) | skip
  all_goals
    rw [b1, b2, b3, b4] at H
    go_enter Tryz.func80, Tryz.ntmps80
    go_wp2_with fail
    go_ret
    rw [H.out]
    exact ⟨rfl, rfl⟩
theorem inWord_any (w : World) (n : Nat) (hn : n < 256) : Calls Tryz.prog 61 #[.int .u8 (n : Int)] w fun e w' => e = .returned (.bool (wordN n)) ∧ w = w' := by
  have H : Hid (wordN n = (letN n || digN n || n == 95)) := Lib.hid rfl
  have HL := Lib.hid (fun W => isLetter_any W n hn)
  have HD := Lib.hid (fun W => isDigit_any W n hn)
  have hi : ((n : Int) == 95) = (n == 95) := by rw [Bool.eq_iff_iff]; simp; omega
  have HI := Lib.hid hi
  clear hi
  cases h1 : letN n
  · cases h2 : digN n
    · rw [h1] at HL H
      rw [h2] at HD H
      clear h1 h2
      cases h3 : (n == 95)
      all_goals
        have hb := HI.out
        rw [h3] at hb
        rw [h3] at H
        clear h3
        go_enter Tryz.func61, Tryz.ntmps61
        go_wp2_with fail
        refine (HL.out _).mono ?_
        rintro e w1 ⟨rfl, rfl⟩
        go_wp2_with fail
        refine (HD.out _).mono ?_
        rintro e w1 ⟨rfl, rfl⟩
        go_wp2_with fail
        go_ret
        rw [H.out]
        exact ⟨rfl, rfl⟩
    · rw [h1] at HL H
      rw [h2] at HD H
      clear h1 h2
      go_enter Tryz.func61, Tryz.ntmps61
      go_wp2_with fail
      refine (HL.out _).mono ?_
      rintro e w1 ⟨rfl, rfl⟩
      go_wp2_with fail
      refine (HD.out _).mono ?_
      rintro e w1 ⟨rfl, rfl⟩
      go_wp2_with fail
      go_ret
      rw [H.out]
      exact ⟨rfl, rfl⟩
  · rw [h1] at HL H
    clear h1
    go_enter Tryz.func61, Tryz.ntmps61
    go_wp2_with fail
    refine (HL.out _).mono ?_
    rintro e w1 ⟨rfl, rfl⟩
    go_wp2_with fail
    go_ret
    rw [H.out]
    exact ⟨rfl, rfl⟩
end Big
end Go.Proofs.YtoehdoghghpmjaaGreatDoor
