import Derived.Test.YtoehdoghghpmjaaGreatDoorM13
import Derived.Test.YtoehdoghghpmjaaGreatDoorM2
import Derived.Test.YtoehdoghghpmjaaGreatDoorM6
import Derived.Test.YtoehdoghghpmjaaGreatDoorM5
import Derived.Lib.AtoiAll
import Derived.Lib.TrimByte
import Derived.Lib.IndexMore
import Derived.Lib.ItoaNum
import Derived.Test.YtoehdoghghpmjaaGreatDoorM7
import Derived.Test.YtoehdoghghpmjaaGreatDoorShelf
import Derived.Shelf.Strings.SlTrimAscii
/- DecimalBack: what is written reads back; sameness of integers. -/
namespace Go.Proofs.YtoehdoghghpmjaaGreatDoor
namespace Big
open Go.RowKit

theorem parse_fmt (z : Int) (h : (dec z.natAbs).length ≤ 20000) : parseI (fmtI z) = (z, 0) := by
  have hn := natural_dec z.natAbs (by omega)
  unfold parseI fmtI
  by_cases hz : z < 0
  · rw [if_pos hz, if_neg (by rw [List.length_cons]; omega)]
    simp only [List.head?_cons, List.tail_cons, beq_self_eq_true, if_true, hn]
    rw [if_neg (by simp; omega)]
    simp [sgn]
    omega
  · rw [if_neg hz, if_neg (by omega)]
    obtain ⟨c, rest, e, hc⟩ := dec_head z.natAbs
    have hne : ((dec z.natAbs).head? == some (45 : UInt8)) = false := by
      rw [e, List.head?_cons]
      rw [beq_eq_false_iff_ne]
      intro hh
      cases hh
      simp at hc
    simp only [hne, Bool.false_eq_true, if_false, hn]
    rw [if_neg (by simp)]
    simp [sgn]
    omega

end Big
end Go.Proofs.YtoehdoghghpmjaaGreatDoor
/- Commands and their lines: plain. -/
namespace Go.Proofs.YtoehdoghghpmjaaGreatDoor
namespace Big
structure Cmd where
  op : Int
  name : List UInt8
  other : List UInt8
  text : List UInt8
  n : Int
/-- The first words of the lines, by the operation. -/
def cmdNames : List (List UInt8) := [[], [108, 101, 116], [100, 114, 111, 112], [101, 118, 97, 108], [115, 104, 111, 119], [108, 105, 115, 116], [99, 111, 109, 112, 97, 114, 101], [98, 101, 103, 105, 110], [99, 111, 109, 109, 105, 116], [97, 98, 111, 114, 116], [117, 110, 100, 111], [114, 101, 100, 111],
  [98, 114, 97, 110, 99, 104], [115, 119, 105, 116, 99, 104], [114, 101, 109, 111, 118, 101], [98, 114, 97, 110, 99, 104, 101, 115], [115, 110, 97, 112, 115, 104, 111, 116], [114, 101, 115, 116, 111, 114, 101], [102, 111, 114, 103, 101, 116], [115, 110, 97, 112, 115, 104, 111, 116, 115], [100, 105, 102, 102], [102, 117, 101, 108]]
def cmdShapes : List Nat := [0, 5, 1, 2, 1, 0, 3, 0, 0, 0, 0, 0, 1, 1, 1, 0, 1, 1, 1, 0, 1, 4]
def cmdWrites : List Bool := [false, true, true, false, false, false, false, false, true, false, true, true, true, true, true, false, true, true, true, false, false, true]
def nameC (op : Int) : List UInt8 := if 0 ≤ op ∧ op < 22 then cmdNames.getD op.toNat [] else []
def shapeC (op : Int) : Nat := if 0 ≤ op ∧ op < 22 then cmdShapes.getD op.toNat 0 else 0
def writesC (op : Int) : Bool := if 0 ≤ op ∧ op < 22 then cmdWrites.getD op.toNat false else false
/-- A text that a let command may have. -/
def textB (s : List UInt8) : Bool := !(s == []) && decide (s.length ≤ 400) && !(s.head? == some 32) && !(s.getLast? == some 32) && s.all (fun c => decide (32 ≤ c.toNat) && decide (c.toNat ≤ 126))
def validC (c : Cmd) : Bool :=
  !(nameC c.op == []) &&
  (if shapeC c.op ≠ 0 ∧ shapeC c.op ≠ 4 then wordB c.name else c.name == []) &&
  (if shapeC c.op = 3 then wordB c.other else c.other == []) &&
  (if shapeC c.op = 5 then textB c.text else c.text == []) &&
  (if shapeC c.op = 2 ∨ shapeC c.op = 4 then decide (0 ≤ c.n ∧ c.n ≤ 9999) else c.n == 0)
/-- The line of a command. -/
def formatC (c : Cmd) : List UInt8 :=
  if validC c then
    (if shapeC c.op = 1 then nameC c.op ++ (32 :: c.name)
     else if shapeC c.op = 2 then nameC c.op ++ (32 :: (c.name ++ (32 :: dec c.n.toNat)))
     else if shapeC c.op = 3 then nameC c.op ++ (32 :: (c.name ++ (32 :: c.other)))
     else if shapeC c.op = 4 then nameC c.op ++ (32 :: dec c.n.toNat)
     else if shapeC c.op = 5 then nameC c.op ++ (32 :: (c.name ++ ([32, 61, 32] ++ c.text)))
     else nameC c.op)
  else []
/-- Up to the first space; without spaces ahead; without spaces behind; without both. -/
def fw (s : List UInt8) : List UInt8 := s.takeWhile (· != 32)
def sp (s : List UInt8) : List UInt8 := s.dropWhile (· == 32)
def trimR (s : List UInt8) : List UInt8 := (s.reverse.dropWhile (· == 32)).reverse
def bareT (s : List UInt8) : List UInt8 := trimR (sp s)
/-- What follows the first word of a text that begins with it. -/
def rw_ (s : List UInt8) : List UInt8 := s.drop (fw s).length
/-- A number without leading zeros. -/
def numW (s : List UInt8) : Option Nat := if (natural s).2 = 0 ∧ (natural s).1 ≤ 9999 then some (natural s).1 else none
/-- The command of an operation whose line goes on with a text, as the program reads it: the text bears no spaces at its ends. -/
def readP (op : Int) (r : List UInt8) : Option Cmd :=
  let k := shapeC op
  let nm := if k ≠ 0 ∧ k ≠ 4 then fw r else []
  let r1 := if k ≠ 0 ∧ k ≠ 4 then sp (rw_ r) else r
  if k = 2 ∨ k = 4 then (match numW r1 with
    | some n => if validC ⟨op, nm, [], [], n⟩ then some ⟨op, nm, [], [], n⟩ else none
    | none => none)
  else if k = 3 then (if validC ⟨op, nm, r1, [], 0⟩ then some ⟨op, nm, r1, [], 0⟩ else none)
  else if k = 5 then (if fw r1 = [61] ∧ validC ⟨op, nm, [], sp (rw_ r1), 0⟩ then some ⟨op, nm, [], sp (rw_ r1), 0⟩ else none)
  else if r1 = [] ∧ validC ⟨op, nm, [], [], 0⟩ then some ⟨op, nm, [], [], 0⟩ else none
/-- The operation with a first word; 0 if there is none. -/
def opOf (t : List UInt8) : Nat := if t = [] then 0 else if t ∈ cmdNames then cmdNames.idxOf t else 0
/-- What Parse returns. -/
def lineC (line : List UInt8) : Option Cmd × Nat :=
  if 500 < line.length then (none, 7)
  else if opOf (fw (bareT line)) = 0 then (none, 6)
  else match readP (opOf (fw (bareT line))) (sp (rw_ (bareT line))) with
    | some c => (some c, 0)
    | none => (none, 6)
/-- The command as the document reads it. -/
def readR (op : Int) (r : List UInt8) : Option Cmd :=
  let k := shapeC op
  let nm := if k ≠ 0 ∧ k ≠ 4 then fw (sp r) else []
  let r1 := if k ≠ 0 ∧ k ≠ 4 then rw_ (sp r) else r
  if k = 2 ∨ k = 4 then (match numW (fw (sp r1)) with
    | some n => if bareT (rw_ (sp r1)) = [] ∧ validC ⟨op, nm, [], [], n⟩ then some ⟨op, nm, [], [], n⟩ else none
    | none => none)
  else if k = 3 then (if bareT (rw_ (sp r1)) = [] ∧ validC ⟨op, nm, fw (sp r1), [], 0⟩ then some ⟨op, nm, fw (sp r1), [], 0⟩ else none)
  else if k = 5 then (if fw (sp r1) = [61] ∧ validC ⟨op, nm, [], bareT (rw_ (sp r1)), 0⟩ then some ⟨op, nm, [], bareT (rw_ (sp r1)), 0⟩ else none)
  else if bareT r1 = [] ∧ validC ⟨op, nm, [], [], 0⟩ then some ⟨op, nm, [], [], 0⟩ else none
section spaces
theorem sp_rep (s : List UInt8) : ∃ a, s = List.replicate a 32 ++ sp s := by
  induction s with
  | nil => exact ⟨0, rfl⟩
  | cons c s ih =>
    by_cases h : c = 32
    · obtain ⟨a, ha⟩ := ih
      refine ⟨a + 1, ?_⟩
      subst h
      show (32 : UInt8) :: s = List.replicate (a + 1) 32 ++ sp (32 :: s)
      rw [show sp ((32 : UInt8) :: s) = sp s from by unfold sp; rw [List.dropWhile_cons]; simp, List.replicate_succ, List.cons_append, ← ha]
    · exact ⟨0, by unfold sp; rw [List.dropWhile_cons, if_neg (by simpa using h)]; rfl⟩
theorem sp_head (s : List UInt8) : sp s = [] ∨ ∃ c r, sp s = c :: r ∧ c ≠ 32 := by
  induction s with
  | nil => exact .inl rfl
  | cons c s ih =>
    by_cases h : c = 32
    · subst h
      rw [show sp ((32 : UInt8) :: s) = sp s from by unfold sp; rw [List.dropWhile_cons]; simp]
      exact ih
    · exact .inr ⟨c, s, by unfold sp; rw [List.dropWhile_cons, if_neg (by simpa using h)], h⟩
theorem sp_cons {c : UInt8} {r : List UInt8} (h : c ≠ 32) : sp (c :: r) = c :: r := by unfold sp; rw [List.dropWhile_cons, if_neg (by simpa using h)]
theorem sp_space (r : List UInt8) : sp (32 :: r) = sp r := by unfold sp; rw [List.dropWhile_cons]; simp
theorem sp_sp (s : List UInt8) : sp (sp s) = sp s := by
  rcases sp_head s with h | ⟨c, r, h, hc⟩
  · rw [h]; rfl
  · rw [h, sp_cons hc]
theorem sp_reps (b : Nat) : sp (List.replicate b 32) = [] := by
  induction b with
  | zero => rfl
  | succ b ih => rw [List.replicate_succ, sp_space, ih]
theorem trimR_rep (s : List UInt8) (b : Nat) : trimR (s ++ List.replicate b 32) = trimR s := by
  unfold trimR
  rw [List.reverse_append, List.reverse_replicate]
  congr 1
  induction b with
  | zero => rfl
  | succ b ih => rw [List.replicate_succ, List.cons_append, List.dropWhile_cons, if_pos (by rfl)]; exact ih
theorem trimR_last {s : List UInt8} {c : UInt8} (h : c ≠ 32) : trimR (s ++ [c]) = s ++ [c] := by
  unfold trimR
  rw [List.reverse_append, List.reverse_singleton, List.singleton_append, List.dropWhile_cons, if_neg (by simpa using h)]
  simp
/-- What is left behind trimming, and the spaces that were taken off. -/
theorem trimR_split (s : List UInt8) : (∃ b, s = trimR s ++ List.replicate b 32) ∧ (trimR s = [] ∨ ∃ t c, trimR s = t ++ [c] ∧ c ≠ 32) := by
  obtain ⟨a, ha⟩ := sp_rep s.reverse
  have h1 : trimR s = (sp s.reverse).reverse := rfl
  refine ⟨⟨a, ?_⟩, ?_⟩
  · have h2 := congrArg List.reverse ha
    rw [List.reverse_reverse, List.reverse_append, List.reverse_replicate] at h2
    rw [h1]; exact h2
  · rcases sp_head s.reverse with h | ⟨c, r, h, hc⟩
    · left; rw [h1, h]; rfl
    · right; exact ⟨r.reverse, c, by rw [h1, h, List.reverse_cons], hc⟩
theorem fw_cons {c : UInt8} {r : List UInt8} (h : c ≠ 32) : fw (c :: r) = c :: fw r := by unfold fw; rw [List.takeWhile_cons, if_pos (by simpa using h)]
theorem fw_space (r : List UInt8) : fw (32 :: r) = [] := by unfold fw; rw [List.takeWhile_cons, if_neg (by simp)]
theorem rw_split (s : List UInt8) : s = fw s ++ rw_ s := by
  unfold rw_ fw
  induction s with
  | nil => rfl
  | cons c r ih =>
    by_cases h : c = 32
    · subst h; rw [List.takeWhile_cons, if_neg (by simp)]; rfl
    · rw [List.takeWhile_cons, if_pos (by simpa using h), List.length_cons, List.drop_succ_cons, List.cons_append, ← ih]
theorem rw_head (s : List UInt8) : rw_ s = [] ∨ ∃ r, rw_ s = 32 :: r := by
  unfold rw_
  induction s with
  | nil => exact .inl rfl
  | cons c r ih =>
    by_cases h : c = 32
    · subst h; right; exact ⟨r, by rw [fw_space]; rfl⟩
    · rw [fw_cons h, List.length_cons, List.drop_succ_cons]; exact ih
theorem fw_free (s : List UInt8) : ∀ c ∈ fw s, c ≠ 32 := by
  induction s with
  | nil => intro c hc; cases hc
  | cons d r ih =>
    by_cases h : d = 32
    · subst h; rw [fw_space]; intro c hc; cases hc
    · rw [fw_cons h]
      intro c hc
      rcases List.mem_cons.1 hc with rfl | hc
      · exact h
      · exact ih c hc
theorem fw_all {s : List UInt8} (h : ∀ c ∈ s, c ≠ 32) : fw s = s ∧ rw_ s = [] := by
  have h1 : fw s = s := by
    induction s with
    | nil => rfl
    | cons c r ih => rw [fw_cons (h c (by simp)), ih (fun d hd => h d (by simp [hd]))]
  exact ⟨h1, by unfold rw_; rw [h1, List.drop_length]⟩
theorem last_more {a b : List UInt8} (h : b ≠ []) : (a ++ b).getLast? = b.getLast? := by
  rw [List.getLast?_append, List.getLast?_eq_some_getLast h]; rfl
theorem fw_append {s r : List UInt8} (h : ∀ c ∈ s, c ≠ 32) : fw (s ++ 32 :: r) = s ∧ rw_ (s ++ 32 :: r) = 32 :: r := by
  have h1 : fw (s ++ 32 :: r) = s := by
    induction s with
    | nil => exact fw_space r
    | cons c s ih => rw [List.cons_append, fw_cons (h c (by simp)), ih (fun d hd => h d (by simp [hd]))]
  exact ⟨h1, by unfold rw_; rw [h1, List.drop_left' rfl]⟩
theorem bareT_rep (x : List UInt8) (b : Nat) : bareT (x ++ List.replicate b 32) = bareT x := by
  unfold bareT
  obtain ⟨a, ha⟩ := sp_rep x
  rcases sp_head x with h | ⟨c, r, h, hc⟩
  · rw [h] at ha ⊢
    rw [List.append_nil] at ha
    rw [ha, List.replicate_append_replicate, sp_reps]
  · have h2 : sp (x ++ List.replicate b 32) = sp x ++ List.replicate b 32 := by
      have h3 : ∀ a : Nat, sp (List.replicate a 32 ++ ((c :: r) ++ List.replicate b 32)) = (c :: r) ++ List.replicate b 32 := by
        intro a
        induction a with
        | zero => exact sp_cons hc
        | succ a ih => rw [List.replicate_succ, List.cons_append, sp_space, ih]
      rw [h] at ha ⊢
      rw [ha, List.append_assoc, h3]
    rw [h2, trimR_rep]
theorem bareT_nil {x : List UInt8} (h : bareT x = []) : ∃ b, x = List.replicate b 32 := by
  unfold bareT at h
  obtain ⟨a, ha⟩ := sp_rep x
  rcases sp_head x with h2 | ⟨c, r, h2, hc⟩
  · rw [h2, List.append_nil] at ha; exact ⟨a, ha⟩
  · exfalso
    obtain ⟨⟨b, hb⟩, _⟩ := trimR_split (sp x)
    rw [h, List.nil_append, h2] at hb
    cases b with
    | zero => cases hb
    | succ b => rw [List.replicate_succ] at hb; injection hb with hb _; exact hc hb
/-- The first word of a trimmed text, and what follows it: those of the text behind its spaces. -/
theorem word_bare (s : List UInt8) : fw (bareT s) = fw (sp s) ∧ sp (rw_ (bareT s)) = bareT (rw_ (sp s)) := by
  obtain ⟨⟨b, hb⟩, hl⟩ := trimR_split (sp s)
  have hbt : trimR (sp s) = bareT s := rfl
  rw [hbt] at hb hl
  rcases hl with h0 | ⟨t, c, hc, hc32⟩
  · rw [h0, List.nil_append] at hb
    have hs0 : sp s = [] := by
      have := sp_sp s
      rw [hb, sp_reps] at this
      rw [hb, ← this]
    rw [h0, hs0]
    exact ⟨rfl, rfl⟩
  · rcases rw_head (bareT s) with h1 | ⟨r, h1⟩
    · have h2 := rw_split (bareT s)
      rw [h1, List.append_nil] at h2
      have hfree := fw_free (bareT s)
      rw [← h2] at hfree
      cases b with
      | zero =>
        rw [List.replicate_zero, List.append_nil] at hb
        rw [hb]
        refine ⟨rfl, ?_⟩
        rw [h1]; rfl
      | succ b =>
        rw [List.replicate_succ] at hb
        obtain ⟨e1, e2⟩ := fw_append (r := List.replicate b 32) hfree
        rw [← hb] at e1 e2
        rw [e1, e2, h1]
        refine ⟨(fw_all hfree).1, ?_⟩
        have h3 := bareT_rep [] (b + 1)
        rw [List.nil_append, List.replicate_succ] at h3
        rw [h3]; rfl
    · have h2 := rw_split (bareT s)
      have hfree := fw_free (bareT s)
      rw [h1] at h2
      have hb2 : sp s = fw (bareT s) ++ 32 :: (r ++ List.replicate b 32) := by
        rw [hb]
        conv => lhs; rw [h2]
        rw [List.append_assoc]; rfl
      obtain ⟨e1, e2⟩ := fw_append (r := r ++ List.replicate b 32) hfree
      rw [← hb2] at e1 e2
      rw [e1, e2, h1]
      refine ⟨rfl, ?_⟩
      have h3 := bareT_rep (32 :: r) b
      rw [List.cons_append] at h3
      rw [h3]
      unfold bareT
      rcases sp_head (32 :: r) with h4 | ⟨d, q, h4, hd⟩
      · rw [h4]; rfl
      · -- the end of the rest is the end of the whole
        obtain ⟨a, ha⟩ := sp_rep (32 :: r)
        have h5 : ∃ t', sp (32 :: r) = t' ++ [c] := by
          have h6 := hc
          rw [h2, ha, ← List.append_assoc] at h6
          rcases snoc_cases (sp (32 :: r)) with h7 | ⟨t', e, h7⟩
          · rw [h4] at h7; cases h7
          · rw [h7, ← List.append_assoc] at h6
            have h8 := congrArg List.getLast? h6
            rw [List.getLast?_concat, List.getLast?_concat] at h8
            injection h8 with h8
            exact ⟨t', by rw [h7, h8]⟩
        obtain ⟨t', ht'⟩ := h5
        rw [ht', trimR_last hc32]
theorem bareT_end (s : List UInt8) : bareT s = [] ∨ ∃ t c, bareT s = t ++ [c] ∧ c ≠ 32 := (trimR_split (sp s)).2
/-- A text without spaces at its ends that goes on behind its first word has a space inside. -/
theorem bare_one {s : List UInt8} (h : bareT (rw_ (sp s)) = []) : bareT s = fw (sp s) := by
  obtain ⟨h1, h2⟩ := word_bare s
  rw [h] at h2
  have h3 := rw_split (bareT s)
  rw [h1] at h3
  rcases rw_head (bareT s) with h4 | ⟨r, h4⟩
  · rw [h4, List.append_nil] at h3; exact h3
  · exfalso
    obtain ⟨a, ha⟩ := sp_rep (rw_ (bareT s))
    rw [h2, List.append_nil] at ha
    rw [ha] at h3
    have ha0 : 0 < a := by
      cases a with
      | zero => rw [h4] at ha; cases ha
      | succ a => omega
    rcases bareT_end s with h5 | ⟨t, c, h5, hc⟩
    · rw [h5] at h3
      have := congrArg List.length h3
      simp at this
      omega
    · rw [h5] at h3
      obtain ⟨a', rfl⟩ : ∃ a', a = a' + 1 := ⟨a - 1, by omega⟩
      have h6 := congrArg List.getLast? h3
      rw [List.getLast?_concat, List.replicate_succ', ← List.append_assoc, List.getLast?_concat] at h6
      injection h6 with h6
      exact hc h6
theorem bare_more {s : List UInt8} (h : bareT (rw_ (sp s)) ≠ []) : (32 : UInt8) ∈ bareT s := by
  obtain ⟨h1, h2⟩ := word_bare s
  rcases rw_head (bareT s) with h4 | ⟨r, h4⟩
  · exfalso; rw [h4] at h2; exact h h2.symm
  · rw [rw_split (bareT s), h4]; simp
theorem sp_trimR (s : List UInt8) : sp (trimR s) = bareT s := by
  obtain ⟨⟨b, hb⟩, hl⟩ := trimR_split s
  have h1 : bareT s = bareT (trimR s) := by
    conv => lhs; rw [hb]
    exact bareT_rep _ _
  rw [h1]
  rcases hl with h | ⟨t, c, h, hc⟩
  · rw [h]; rfl
  · unfold bareT
    rcases sp_head (trimR s) with h2 | ⟨d, r, h2, hd⟩
    · rw [h2]; rfl
    · obtain ⟨a, ha⟩ := sp_rep (trimR s)
      have h5 : ∃ t', sp (trimR s) = t' ++ [c] := by
        rcases snoc_cases (sp (trimR s)) with h7 | ⟨t', e, h7⟩
        · rw [h2] at h7; cases h7
        · rw [h7, ← List.append_assoc] at ha
          have h8 := congrArg List.getLast? ha
          rw [h, List.getLast?_concat, List.getLast?_concat] at h8
          injection h8 with h8
          exact ⟨t', by rw [h7, h8]⟩
      obtain ⟨t', ht'⟩ := h5
      rw [ht', trimR_last hc]
theorem index_sp (l : List UInt8) : Lib.index l [32] = if rw_ l = [] then -1 else ((fw l).length : Int) := by
  induction l with
  | nil => rfl
  | cons c t ih =>
    rw [index_one]
    by_cases h : c = 32
    · subst h
      rw [if_pos rfl, fw_space, if_neg]
      · rfl
      · unfold rw_; rw [fw_space]; simp
    · have hr : rw_ (c :: t) = rw_ t := by unfold rw_; rw [fw_cons h, List.length_cons, List.drop_succ_cons]
      rw [if_neg h, ih, hr, fw_cons h]
      by_cases h2 : rw_ t = []
      · rw [if_pos h2, if_pos rfl, if_pos h2]
      · rw [if_neg h2, if_neg h2, if_neg (by omega), List.length_cons]; rfl
theorem cut_sp (l : List UInt8) : ∃ b, Lib.cut l [32] = (fw l, (rw_ l).drop 1, b) := by
  unfold Lib.cut
  rw [index_sp]
  have hs := rw_split l
  by_cases h : rw_ l = []
  · rw [if_pos h, h]
    rw [h, List.append_nil] at hs
    exact ⟨false, by rw [if_neg (by omega), ← hs]; rfl⟩
  · rw [if_neg h, if_pos (by omega), Int.toNat_natCast]
    refine ⟨true, ?_⟩
    have h1 : l.take (fw l).length = fw l := by
      have h2 : ∀ a b : List UInt8, l = a ++ b → l.take a.length = a := fun a b h => by rw [h, List.take_left' rfl]
      exact h2 _ _ hs
    rw [h1, ← List.drop_drop]
    rfl
theorem sp_drop (l : List UInt8) : sp ((rw_ l).drop 1) = sp (rw_ l) := by
  rcases rw_head l with h | ⟨r, h⟩
  · rw [h]; rfl
  · rw [h, sp_space]; rfl
theorem trimB_sp (l : List UInt8) : Lib.trimB l 32 = bareT l := sp_trimR l
theorem trimR_le (s : List UInt8) : (trimR s).length ≤ s.length := by
  obtain ⟨⟨b, hb⟩, _⟩ := trimR_split s
  have := congrArg List.length hb
  rw [List.length_append] at this
  omega
theorem sp_le (s : List UInt8) : (sp s).length ≤ s.length := by
  obtain ⟨a, ha⟩ := sp_rep s
  have := congrArg List.length ha
  rw [List.length_append] at this
  omega
theorem bareT_le (s : List UInt8) : (bareT s).length ≤ s.length := Nat.le_trans (trimR_le _) (sp_le s)
theorem fw_le (s : List UInt8) : (fw s).length ≤ s.length := by
  have := congrArg List.length (rw_split s)
  rw [List.length_append] at this
  omega
theorem rw_le (s : List UInt8) : (rw_ s).length ≤ s.length := by
  have := congrArg List.length (rw_split s)
  rw [List.length_append] at this
  omega
theorem bareT_iff {s : List UInt8} (hne : s ≠ []) : bareT s = s ↔ (s.head? ≠ some 32 ∧ s.getLast? ≠ some 32) := by
  constructor
  · intro h
    constructor
    · intro h1
      cases s with
      | nil => exact hne rfl
      | cons c r =>
        injection h1 with h1
        subst h1
        have h2 := congrArg List.length h
        have h3 := trimR_le (sp (32 :: r))
        have h4 := sp_le r
        rw [sp_space] at h3
        have h5 : bareT (32 :: r) = trimR (sp r) := by unfold bareT; rw [sp_space]
        rw [h5, List.length_cons] at h2
        omega
    · intro h1
      rcases bareT_end s with h2 | ⟨t, c, h2, hc⟩
      · rw [h] at h2; exact hne h2
      · rw [h] at h2
        rw [h2, List.getLast?_concat] at h1
        injection h1 with h1
        exact hc h1
  · intro ⟨h1, h2⟩
    cases s with
    | nil => exact absurd rfl hne
    | cons c r =>
      have hc : c ≠ 32 := fun he => h1 (by rw [he]; rfl)
      unfold bareT
      rw [sp_cons hc]
      rcases snoc_cases (c :: r) with h3 | ⟨t, d, h3⟩
      · cases h3
      · have hd : d ≠ 32 := fun he => h2 (by rw [h3, List.getLast?_concat, he])
        rw [h3, trimR_last hd]
end spaces
theorem wordB_free {t : List UInt8} (h : (32 : UInt8) ∈ t) : wordB t = false := by
  cases hw : wordB t with
  | false => rfl
  | true =>
    exfalso
    unfold wordB at hw
    simp only [Bool.and_eq_true] at hw
    have := List.all_eq_true.1 hw.2 32 h
    exact absurd this (by decide)
theorem numW_free {t : List UInt8} (h : (32 : UInt8) ∈ t) : numW t = none := by
  have hall : t.all isDig = false := by
    cases ha : t.all isDig with
    | false => rfl
    | true =>
      have := List.all_eq_true.1 ha 32 h
      exact absurd this (by decide)
  have hn : (natural t).2 ≠ 0 := by
    unfold natural
    rw [hall]
    simp only [Bool.false_eq_true, if_false]
    (repeat' split) <;> simp
  unfold numW
  rw [if_neg (fun h => hn h.1)]
theorem validC_other {op : Int} {nm o tx : List UInt8} {n : Int} (hk : shapeC op = 3) (h : wordB o = false) : validC ⟨op, nm, o, tx, n⟩ = false := by
  unfold validC
  simp only
  rw [if_pos hk, h]
  simp
/-- The program and the document read the same. -/
theorem read_same (op : Int) (r : List UInt8) : readP op (bareT r) = readR op r := by
  unfold readP readR
  simp only
  have hnm : (if shapeC op ≠ 0 ∧ shapeC op ≠ 4 then fw (bareT r) else []) = (if shapeC op ≠ 0 ∧ shapeC op ≠ 4 then fw (sp r) else []) := by rw [(word_bare r).1]
  have hr1 : (if shapeC op ≠ 0 ∧ shapeC op ≠ 4 then sp (rw_ (bareT r)) else bareT r) = bareT (if shapeC op ≠ 0 ∧ shapeC op ≠ 4 then rw_ (sp r) else r) := by
    split
    · exact (word_bare r).2
    · rfl
  rw [hnm, hr1]
  generalize (if shapeC op ≠ 0 ∧ shapeC op ≠ 4 then fw (sp r) else []) = nm
  generalize (if shapeC op ≠ 0 ∧ shapeC op ≠ 4 then rw_ (sp r) else r) = r1
  by_cases h24 : shapeC op = 2 ∨ shapeC op = 4
  · rw [if_pos h24, if_pos h24]
    by_cases hb : bareT (rw_ (sp r1)) = []
    · rw [bare_one hb]
      split
      · simp only [hb, true_and]
      · rfl
    · rw [numW_free (bare_more hb)]
      cases numW (fw (sp r1)) with
      | none => rfl
      | some n => simp only; rw [if_neg (fun h => hb h.1)]
  · rw [if_neg h24, if_neg h24]
    by_cases h3 : shapeC op = 3
    · rw [if_pos h3, if_pos h3]
      by_cases hb : bareT (rw_ (sp r1)) = []
      · rw [bare_one hb]
        simp only [hb, true_and]
      · rw [validC_other h3 (wordB_free (bare_more hb)), if_neg (by simp), if_neg (fun h => hb h.1)]
    · rw [if_neg h3, if_neg h3, (word_bare r1).1, (word_bare r1).2]
/-- What the document's Parse returns. -/
def lineR (line : List UInt8) : Option Cmd × Nat :=
  if 500 < line.length then (none, 7)
  else if opOf (fw (sp line)) = 0 then (none, 6)
  else match readR (opOf (fw (sp line))) (rw_ (sp line)) with
    | some c => (some c, 0)
    | none => (none, 6)
theorem line_same (line : List UInt8) : lineC line = lineR line := by
  unfold lineC lineR
  rw [(word_bare line).1, (word_bare line).2, read_same]
/-- strconv's numbers. -/
theorem decDigits_dec (n : Nat) : Lib.decDigits n = dec n := by
  have key : ∀ n, 0 < n → Lib.decDigits n = (low n).reverse := by
    intro n
    induction n using Nat.strongRecOn with
    | _ n ih =>
      intro hn
      by_cases h : n < 10
      · rw [Lib.decDigits_one h, low_pos n (by omega), Nat.div_eq_of_lt h, Nat.mod_eq_of_lt h]; rfl
      · rw [Lib.decDigits, dif_neg h, ih (n / 10) (by omega) (by omega), low_pos n (by omega), List.reverse_cons]
  unfold dec
  split
  · rename_i h; subst h; exact Lib.decDigits_one (by omega)
  · rename_i h; exact key n (by omega)
theorem itoa_dec {z : Int} (h : 0 ≤ z) : Lib.itoa z = dec z.toNat := by
  unfold Lib.itoa
  rw [if_neg (by omega), decDigits_dec]
theorem parse10 (l : List UInt8) : ∀ acc, l.all isDig = true → acc * 10 ^ l.length + 10 ^ l.length ≤ 10 ^ 18 → Lib.parseUint10 acc l = .ok (l.foldl (fun n c => 10 * n + (c.toNat - 48)) acc) := by
  induction l with
  | nil => intro acc _ _; rfl
  | cons c r ih =>
    intro acc h hb
    rw [List.all_cons, Bool.and_eq_true] at h
    have hc : 48 ≤ c.toNat ∧ c.toNat ≤ 57 := by
      have := h.1
      unfold isDig at this
      simp only [Bool.and_eq_true, decide_eq_true_eq] at this
      exact this
    have hp : 1 ≤ 10 ^ r.length := Nat.pos_of_ne_zero (by simp)
    rw [List.length_cons, Nat.pow_succ, ← Nat.mul_assoc] at hb
    have h1 : acc * 10 + 10 ≤ (acc * 10 + 10) * 10 ^ r.length := Nat.le_mul_of_pos_right _ hp
    have h2 : (acc * 10 + 10) * 10 ^ r.length = acc * 10 ^ r.length * 10 + 10 ^ r.length * 10 := by
      rw [Nat.add_mul, Nat.mul_right_comm, Nat.mul_comm 10 (10 ^ r.length)]
    have h3 : acc * 10 + 10 ≤ 10 ^ 18 := by omega
    rw [Lib.parseUint10, if_pos hc, if_neg (by omega), if_neg (by omega), ih _ h.2 ?_, List.foldl_cons, Nat.mul_comm acc 10]
    have h4 : (acc * 10 + (c.toNat - 48)) * 10 ^ r.length + 10 ^ r.length = (acc * 10 + (c.toNat - 48) + 1) * 10 ^ r.length := by rw [Nat.add_mul (acc * 10 + (c.toNat - 48)) 1, Nat.one_mul]
    rw [h4]
    refine Nat.le_trans (Nat.mul_le_mul_right _ (show acc * 10 + (c.toNat - 48) + 1 ≤ acc * 10 + 10 by omega)) ?_
    omega
theorem low_small (k : Nat) : ∀ n, n < 10 ^ k → (low n).length ≤ k := by
  induction k with
  | zero => intro n h; have : n = 0 := by simpa using h
            subst this; rw [low_zero]; simp
  | succ k ih =>
    intro n h
    by_cases h0 : n = 0
    · subst h0; rw [low_zero]; simp
    · rw [low_pos n h0, List.length_cons]
      have := ih (n / 10) (by rw [Nat.pow_succ] at h; omega)
      omega
theorem dec_small {n : Nat} (h : n ≤ 9999) : (dec n).length ≤ 5 := by
  unfold dec
  split
  · simp
  · have := low_small 4 n (by omega)
    rw [List.length_reverse]; omega
theorem natural_small {s : List UInt8} {n : Nat} (h : natural s = (n, 0)) (hn : n ≤ 9999) : s ≠ [] ∧ s.all isDig = true ∧ s.length ≤ 5 ∧ n = numOf s ∧ dec n = s := by
  have hd := natural_back h
  have hl : s.length ≤ 5 := by
    rw [← hd]
    exact dec_small hn
  unfold natural at h
  split at h
  · simp at h
  · split at h
    · simp at h
    · rename_i hne
      split at h
      · simp at h
      · split at h
        · rename_i hall
          simp only [Prod.mk.injEq, and_true] at h
          exact ⟨hne, hall, hl, h.symm, hd⟩
        · simp at h
/-- Atoi and Itoa at a text: the number, if its text is this text and the number is none below zero or above the bound. -/
theorem atoi_num (s : List UInt8) (v : Int) (_h : Lib.atoiAll s = .ok v) (hi : Lib.itoa v = s) (h0 : 0 ≤ v) (h1 : v ≤ 9999) : numW s = some v.toNat := by
  rw [itoa_dec h0] at hi
  have hl : (dec v.toNat).length ≤ 5 := dec_small (by omega)
  have hn := natural_dec v.toNat (by omega)
  rw [hi] at hn
  unfold numW
  rw [hn, if_pos ⟨rfl, by omega⟩]
theorem atoi_back (s : List UInt8) (n : Nat) (h : numW s = some n) : Lib.atoiAll s = .ok (n : Int) ∧ Lib.itoa (n : Int) = s ∧ n ≤ 9999 := by
  unfold numW at h
  split at h
  · rename_i h2
    injection h with h
    obtain ⟨a1, a2, a3, a4, a5⟩ := natural_small (n := n) (s := s) (by rw [← h, ← h2.1]) (by omega)
    refine ⟨?_, ?_, by omega⟩
    · cases s with
      | nil => exact absurd rfl a1
      | cons c r =>
        have hc : 48 ≤ c.toNat ∧ c.toNat ≤ 57 := by
          rw [List.all_cons, Bool.and_eq_true] at a2
          have := a2.1
          unfold isDig at this
          simp only [Bool.and_eq_true, decide_eq_true_eq] at this
          exact this
        have hpm : Lib.parseMag (c :: r) = .ok n := by
          unfold Lib.parseMag
          rw [if_neg (by simp), parse10 _ 0 a2 ?_]
          · rw [a4]; rfl
          · rw [Nat.zero_mul, Nat.zero_add]
            exact Nat.pow_le_pow_right (by omega) (by omega)
        unfold Lib.atoiAll
        simp only
        rw [if_neg (by omega), hpm]
        simp only
        rw [if_neg (by omega), if_neg (by omega), if_neg (by omega)]
    · rw [itoa_dec (by omega), Int.toNat_natCast]; exact a5
  · cases h
end Big
end Go.Proofs.YtoehdoghghpmjaaGreatDoor
/- strings.Cut, TrimLeft, Trim at the texts of decimals. -/
namespace Go.Proofs.YtoehdoghghpmjaaGreatDoor
namespace Big
open Go.RowKit
/-- The library's variable that strings.Index reads. -/
def MaxV (w : World) : Prop := ∃ m : Int, w.cell? ⟨0, 0, none⟩ = some (.int .i64 m)
theorem MaxV.ext {w w' : World} (h : MaxV w) (hx : Ext w w') : MaxV w' := by
  obtain ⟨m, h⟩ := h
  exact ⟨m, hx.keep h⟩
theorem maxV_of_shaped {w : World} (h : w.ShapedOpen Tryz.prog) : MaxV w := Tryz.laysM145.s1_3 w h
theorem cut_any (w : World) (l : List UInt8) (hl : l.length ≤ 1073741824) (hm : MaxV w) :
    Calls Tryz.prog 48 #[str l, .string ⟨#[46]⟩] w fun e w' => e = .returned (.tuple #[str (whole l), str (part l), .bool (hasDot l)]) ∧ Ext w w' := by
  obtain ⟨m, hm⟩ := hm
  have h := Any.strings_Cut { Tryz.laysM145 with } ⟨l.toArray⟩ ⟨#[46]⟩ m w (by rw [size_str]; omega) hm
  have e := cut_dot l
  have e1 : Lib.cut (⟨l.toArray⟩ : ByteArray).data.toList (⟨#[46]⟩ : ByteArray).data.toList = (whole l, part l, hasDot l) := e
  rw [e1] at h
  refine h.mono ?_
  rintro e w' ⟨rfl, n, rfl⟩
  exact ⟨rfl, (Ext.refl w).drewN n⟩
theorem trimZ_any (w : World) (l : List UInt8) :
    Calls Tryz.prog 49 #[str l, .string ⟨#[48]⟩] w fun e w' => e = .returned (str (l.dropWhile (· == 48))) ∧ w = w' := by
  refine (Tryz.strings_TrimLeft_one ⟨l.toArray⟩ 48 (by decide) w).mono ?_
  rintro e w' ⟨rfl, rfl⟩
  exact ⟨rfl, rfl⟩
theorem trimD_any (w : World) (l : List UInt8) (hl : l.length ≤ 1073741824) (h : l.all isDig = true) :
    Calls Tryz.prog 28 #[str l, .string ⟨#[48, 49, 50, 51, 52, 53, 54, 55, 56, 57]⟩] w fun e w' => e = .returned (str []) ∧ Ext w w' := by
  refine (Any.strings_Trim_laid Tryz.lays160 (by kernel_rfl) ⟨l.toArray⟩ ⟨#[48, 49, 50, 51, 52, 53, 54, 55, 56, 57]⟩ w (by rw [size_str]; omega) (by decide) (ascii_of_all (by decide))).mono ?_
  rintro e w' ⟨rfl, hb⟩
  have e1 : Lib.trimS (⟨l.toArray⟩ : ByteArray).data.toList (⟨#[48, 49, 50, 51, 52, 53, 54, 55, 56, 57]⟩ : ByteArray).data.toList = [] := trimS_all l h
  rw [e1]
  exact ⟨rfl, hb⟩
end Big
end Go.Proofs.YtoehdoghghpmjaaGreatDoor
/- Fractions in memory. -/
namespace Go.Proofs.YtoehdoghghpmjaaGreatDoor
namespace Big
open Go.RowKit
/-- v is the fraction p / q, in memory of the call's own. -/
def IsRat (B : Nat) (w : World) (v : Value) (p : Int) (q : Nat) : Prop := ∃ m d, v = .agg #[.bool (decide (p < 0)), m, d] ∧ Own B w m (limbs p.natAbs) ∧ Own B w d (limbs q)
/-- v is the fraction p / q. -/
def ArrRat (w : World) (v : Value) (p : Int) (q : Nat) : Prop := ∃ m d, v = .agg #[.bool (decide (p < 0)), m, d] ∧ Arr w m (limbs p.natAbs) ∧ Arr w d (limbs q)
section
variable {B B' : Nat} {w w' : World} {v : Value} {p : Int} {q : Nat}
theorem IsRat.ext (h : IsRat B w v p q) (hb : Ext w w') : IsRat B w' v p q := by
  obtain ⟨m, d, rfl, h1, h2⟩ := h
  exact ⟨m, d, rfl, h1.ext hb, h2.ext hb⟩
theorem IsRat.mono (h : IsRat B w v p q) (hB : B' ≤ B) : IsRat B' w v p q := by
  obtain ⟨m, d, rfl, h1, h2⟩ := h
  exact ⟨m, d, rfl, h1.mono hB, h2.mono hB⟩
theorem IsRat.far (h : IsRat B w v p q) {a : Addr} (ha : a.block < B) (u : Value) : IsRat B (w.setCell a u) v p q := by
  obtain ⟨m, d, rfl, h1, h2⟩ := h
  exact ⟨m, d, rfl, h1.far ha u, h2.far ha u⟩
theorem IsRat.arr (h : IsRat B w v p q) : ArrRat w v p q := by
  obtain ⟨m, d, rfl, h1, h2⟩ := h
  exact ⟨m, d, rfl, h1.arr, h2.arr⟩
theorem ArrRat.ext (h : ArrRat w v p q) (hb : Ext w w') : ArrRat w' v p q := by
  obtain ⟨m, d, rfl, h1, h2⟩ := h
  exact ⟨m, d, rfl, h1.ext hb, h2.ext hb⟩
theorem ArrRat.shape (h : ArrRat w v p q) : ∃ b n A c n' A' c', v = .agg #[.bool b, .slice A n c, .slice A' n' c'] := by
  obtain ⟨m, d, rfl, h1, h2⟩ := h
  obtain ⟨n, A, c, rfl⟩ := h1.shape
  obtain ⟨n', A', c', rfl⟩ := h2.shape
  exact ⟨_, n, A, c, n', A', c', rfl⟩
theorem IsRat.shape (h : IsRat B w v p q) : ∃ b n A c n' A' c', v = .agg #[.bool b, .slice A n c, .slice A' n' c'] := h.arr.shape
theorem agg3 {a b c a' b' c' : Value} (h : Value.agg #[a, b, c] = .agg #[a', b', c']) : a = a' ∧ b = b' ∧ c = c' := by
  injection h with h
  injection h with h
  injection h with h1 h
  injection h with h2 h
  injection h with h3 h
  exact ⟨h1, h2, h3⟩
theorem ArrRat.sign {bb : Bool} {m d : Value} (h : ArrRat w (.agg #[.bool bb, m, d]) p q) : bb = decide (p < 0) := by
  obtain ⟨m', d', he, h1, h2⟩ := h
  obtain ⟨e1, _, _⟩ := agg3 he
  injection e1
theorem ArrRat.num {bb : Bool} {m d : Value} (h : ArrRat w (.agg #[.bool bb, m, d]) p q) : Arr w m (limbs p.natAbs) := by
  obtain ⟨m', d', he, h1, h2⟩ := h
  obtain ⟨_, e2, _⟩ := agg3 he
  rw [e2]; exact h1
theorem ArrRat.den {bb : Bool} {m d : Value} (h : ArrRat w (.agg #[.bool bb, m, d]) p q) : Arr w d (limbs q) := by
  obtain ⟨m', d', he, h1, h2⟩ := h
  obtain ⟨_, _, e3⟩ := agg3 he
  rw [e3]; exact h2
theorem ArrRat.int {bb : Bool} {m d : Value} (h : ArrRat w (.agg #[.bool bb, m, d]) p q) : ArrInt w (.agg #[.bool bb, m]) p := ⟨m, by rw [h.sign], h.num⟩
theorem IsRat.mk {bb : Bool} {m d : Value} (h : IsInt B w (.agg #[.bool bb, m]) p) (h' : Own B w d (limbs q)) : IsRat B w (.agg #[.bool bb, m, d]) p q := ⟨m, d, by rw [h.sign], h.mag, h'⟩
end
/-- The numerator and the denominator of z / d in lowest terms. -/
def lowN (z : Int) (d : Nat) : Int := sgn (decide (z < 0)) (z.natAbs / Nat.gcd z.natAbs d)
def lowD (z : Int) (d : Nat) : Nat := d / Nat.gcd z.natAbs d
theorem three_set {w : World} {g : Nat} {t : TypeId} {a b c : Value} (h : Blk w g t #[a, b, c]) (a' b' c' : Value) :
    (w.setCell ⟨g, 0, none⟩ a').cell? ⟨g, 0, none⟩ = some a' ∧ ((w.setCell ⟨g, 0, none⟩ a').setCell ⟨g, 1, none⟩ b').cell? ⟨g, 1, none⟩ = some b' ∧ (((w.setCell ⟨g, 0, none⟩ a').setCell ⟨g, 1, none⟩ b').setCell ⟨g, 2, none⟩ c').cell? ⟨g, 2, none⟩ = some c' :=
  ⟨(h.set_ 0 a').cell 0, ((h.set_ 0 a').set_ 1 b').cell 1, (((h.set_ 0 a').set_ 1 b').set_ 2 c').cell 2⟩
theorem IsRat.put {w w1 w' : World} {g : Nat} {bi : Bool} {m d : Value} {p : Int} {q : Nat} (hi : IsRat w1.heap.size w' (.agg #[.bool bi, m, d]) p q) (hg : g < w1.heap.size) (hw : w.heap.size ≤ w1.heap.size) :
    IsRat w.heap.size (((w'.setCell ⟨g, 0, none⟩ (.bool bi)).setCell ⟨g, 1, none⟩ m).setCell ⟨g, 2, none⟩ d) (.agg #[.bool bi, m, d]) p q := (((hi.far hg _).far hg _).far hg _).mono hw
theorem IsRat.zero (B : Nat) (w : World) : IsRat B w (.agg #[.bool false, .slice none 0 0, .slice none 0 0]) 0 0 := ⟨_, _, rfl, Own.none_ _ _, Own.none_ _ _⟩
end Big
end Go.Proofs.YtoehdoghghpmjaaGreatDoor
