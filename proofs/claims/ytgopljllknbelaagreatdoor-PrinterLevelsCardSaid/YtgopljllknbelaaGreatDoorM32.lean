import Derived.Test.YtgopljllknbelaaGreatDoorM24
import Derived.Test.YtgopljllknbelaaGreatDoorM26
import Derived.Test.YtgopljllknbelaaGreatDoorRows
import Derived.Test.YtgopljllknbelaaGreatDoorM4
import Derived.ProofKit
import Derived.LaidMore
import Derived.OpenShut
import Derived.Stop.Joined
import Derived.Lib.LaidTab
import Derived.Carry
import Derived.Handed
import Derived.HandedShaped
import Derived.Deep.Strs
import Derived.ChangeMaps5
import Derived.Lib.SmallJoins
/- How many parentheses a text must have: plain. -/
namespace Go.Proofs.YtgopljllknbelaaGreatDoor
namespace Big
/-- How many of the first tokens open parentheses. -/
def opn (ts : List Tok) : Nat → Nat
  | 0 => 0
  | n + 1 => opn ts n + (if isS ts n [40] then 1 else 0)
theorem opn_add (ts : List Tok) (a : Nat) : ∀ n, opn ts a ≤ opn ts (a + n) := by
  intro n
  induction n with
  | zero => exact Nat.le_refl _
  | succ n ih => rw [← Nat.add_assoc, opn]; omega
theorem opn_mono (ts : List Tok) {a b : Nat} (h : a ≤ b) : opn ts a ≤ opn ts b := by
  have := opn_add ts a (b - a)
  rwa [Nat.add_sub_cancel' h] at this
theorem opn_open {ts : List Tok} {a : Nat} (h : isS ts a [40] = true) : opn ts (a + 1) = opn ts a + 1 := by rw [opn, h]; rfl
/-- Does an operand want parentheses where a level is asked for? -/
def pen (x : Ex) (l : Nat) : Nat := if levelK x.kind < l then 1 else 0
theorem pen_le (x : Ex) (l : Nat) : pen x l ≤ 1 := by unfold pen; split <;> omega
theorem pen_mono (x : Ex) {l m : Nat} (h : l ≤ m) : pen x l ≤ pen x m := by
  unfold pen; split
  · rw [if_pos (by omega)]; exact Nat.le_refl _
  · exact Nat.zero_le _
theorem pen_zero {x : Ex} {l : Nat} (h : l ≤ levelK x.kind) : pen x l = 0 := by unfold pen; rw [if_neg (by omega)]
/-- The parentheses of a tree's text, those of functions too. -/
def np : Ex → Nat
  | .leaf _ _ => 0
  | .un k _ x => if k = 5 then np x + pen x 3 else if k = 10 then np x + pen x 5 else np x + 1
  | .bin k x y => np x + pen x (levelK k) + (np y + pen y (levelK k + 1))
/-- What a reader of a level has passed, when it has read a tree. -/
def PMin (ts : List Tok) (l a : Nat) (r : Option Ex × Nat) : Prop := a ≤ ts.length → ∀ x, r.1 = some x → a ≤ r.2 ∧ r.2 ≤ ts.length ∧ opn ts a + (np x + pen x l) ≤ opn ts r.2
theorem PMin.none_ {ts : List Tok} {l a b : Nat} : PMin ts l a (none, b) := fun _ x hx => by cases hx
theorem PMin.some_ {ts : List Tok} {l a b : Nat} {x : Ex} (h1 : a ≤ ts.length → a ≤ b ∧ b ≤ ts.length ∧ opn ts a + (np x + pen x l) ≤ opn ts b) : PMin ts l a (some x, b) := fun h y hy => by
  have : x = y := Option.some.inj hy
  subst this
  exact h1 h
theorem isS_of {ts : List Tok} {a : Nat} {t : Tok} {c : List UInt8} (h : ts[a]? = some t) (hk : t.kind = 3) (ht : t.text = c) : isS ts a c = true := by
  unfold isS
  rw [h]
  simp [hk, ht]
theorem funcK_ge {t : List UInt8} (h : funcK t ≠ 0) : 11 ≤ funcK t := by
  revert h
  unfold funcK
  (repeat' split) <;> simp
theorem pAtom_min {p : Nat → Option Ex × Nat} {ts : List Tok} (hp : ∀ a, PMin ts 1 a (p a)) (a : Nat) : PMin ts 5 a (pAtom p ts a) := by
  unfold pAtom
  split
  · exact PMin.none_
  · rename_i t ht
    have hl := (List.getElem?_eq_some_iff.1 ht).1
    have hm := opn_mono ts (Nat.le_add_right a 1)
    split
    · rename_i hk
      split
      · rename_i h40
        have ho := opn_open (isS_of ht hk h40)
        split
        · exact PMin.none_
        · rename_i x b hb
          have h1 := hp (a + 1) (by omega) x (by rw [hb])
          rw [hb] at h1
          simp only at h1
          split
          · rename_i hs
            have := isS_lt hs
            have h2 := opn_mono ts (Nat.le_add_right b 1)
            have h3 := pen_le x 5
            exact PMin.some_ (fun _ => ⟨by omega, by omega, by omega⟩)
          · exact PMin.none_
      · exact PMin.none_
    · split
      · exact PMin.some_ (fun _ => ⟨by omega, by omega, by rw [np, pen_zero (by first | decide | exact Nat.le_refl _)]; omega⟩)
      · split
        · rename_i hf
          split
          · rename_i hs
            have hl2 := isS_lt hs
            have ho : opn ts (a + 2) = opn ts (a + 1) + 1 := opn_open hs
            split
            · exact PMin.none_
            · rename_i x b hb
              have h1 := hp (a + 2) (by omega) x (by rw [hb])
              rw [hb] at h1
              simp only at h1
              split
              · rename_i hs2
                have := isS_lt hs2
                have h2 := opn_mono ts (Nat.le_add_right b 1)
                have h3 := funcK_ge hf
                have h4 : levelK (funcK t.text) = 5 := by unfold levelK; rw [if_neg (by omega), if_neg (by omega), if_neg (by omega), if_neg (by omega)]
                have h5 : np (.un (funcK t.text) 0 x) = np x + 1 := by rw [np, if_neg (by omega), if_neg (by omega)]
                have h6 : pen (.un (funcK t.text) 0 x) 5 = 0 := pen_zero (by show 5 ≤ levelK (funcK t.text); omega)
                exact PMin.some_ (fun _ => ⟨by omega, by omega, by rw [h5, h6]; omega⟩)
              · exact PMin.none_
          · exact PMin.none_
        · split
          · exact PMin.some_ (fun _ => ⟨by omega, by omega, by rw [np, pen_zero (by first | decide | exact Nat.le_refl _)]; omega⟩)
          · split
            · exact PMin.some_ (fun _ => ⟨by omega, by omega, by rw [np, pen_zero (by first | decide | exact Nat.le_refl _)]; omega⟩)
            · exact PMin.some_ (fun _ => ⟨by omega, by omega, by rw [np, pen_zero (by first | decide | exact Nat.le_refl _)]; omega⟩)
theorem np_pow (n : Int) (x : Ex) : np (.un 10 n x) + pen (.un 10 n x) 4 = np x + pen x 5 := by
  rw [pen_zero (by first | decide | exact Nat.le_refl _), np, if_neg (by decide), if_pos rfl]
  rfl
theorem pPower_min {p : Nat → Option Ex × Nat} {ts : List Tok} (hp : ∀ a, PMin ts 1 a (p a)) (a : Nat) : PMin ts 4 a (pPower p ts a) := by
  intro ha
  have h1 := pAtom_min hp a ha
  revert ha
  show PMin ts 4 a (pPower p ts a)
  unfold pPower
  split
  · exact PMin.none_
  · rename_i x b hb
    rw [hb] at h1
    have h2 := h1 x rfl
    simp only at h2
    split
    · split
      · split
        · rename_i n hn
          have hl := expo_lt hn
          have hm := opn_mono ts (Nat.le_add_right b 3)
          exact PMin.some_ (fun _ => ⟨by omega, by omega, by rw [np_pow]; omega⟩)
        · exact PMin.none_
      · split
        · rename_i n hn
          have hl := expo_lt hn
          have hm := opn_mono ts (Nat.le_add_right b 2)
          exact PMin.some_ (fun _ => ⟨by omega, by omega, by rw [np_pow]; omega⟩)
        · exact PMin.none_
    · have hm := pen_mono x (show 4 ≤ 5 by decide)
      exact PMin.some_ (fun _ => ⟨by omega, by omega, by omega⟩)
theorem np_negs : ∀ (n : Nat) (x : Ex), np (negs n x) + pen (negs n x) 3 ≤ np x + pen x 3 := by
  intro n
  induction n with
  | zero => intro x; exact Nat.le_refl _
  | succ n ih =>
    intro x
    refine Nat.le_trans (ih (.un 5 0 x)) ?_
    rw [pen_zero (by first | decide | exact Nat.le_refl _), np, if_pos rfl]
    exact Nat.le_refl _
theorem pMinus_min {p : Nat → Option Ex × Nat} {ts : List Tok} (hp : ∀ a, PMin ts 1 a (p a)) (a : Nat) : PMin ts 3 a (pMinus p ts a) := by
  intro ha
  have h0 := minusRun_le ts ts.length a ha
  have h1 := pPower_min hp (a + minusRun ts ts.length a) h0
  revert ha
  show PMin ts 3 a (pMinus p ts a)
  unfold pMinus
  split
  · exact PMin.none_
  · rename_i x b hb
    rw [hb] at h1
    have h2 := h1 x rfl
    simp only at h2
    have h3 := np_negs (minusRun ts ts.length a) x
    have h4 := pen_mono x (show 3 ≤ 4 by decide)
    have h5 := opn_add ts a (minusRun ts ts.length a)
    exact PMin.some_ (fun _ => ⟨by omega, by omega, by omega⟩)
theorem np_bin {k l : Nat} (h : levelK k = l) (x y : Ex) : np (.bin k x y) + pen (.bin k x y) l = np x + pen x l + (np y + pen y (l + 1)) := by
  rw [pen_zero (show l ≤ levelK (Ex.bin k x y).kind from Nat.le_of_eq h.symm), np, h]
  rfl
theorem chainGo_min {op : Nat → Option Ex × Nat} {ts : List Tok} {c1 c2 : List UInt8} {k1 k2 l : Nat} (hk1 : levelK k1 = l) (hk2 : levelK k2 = l) (ho : ∀ a, PMin ts (l + 1) a (op a)) (a0 : Nat) :
    ∀ (f : Nat) (e : Ex) (a : Nat), a0 ≤ a → a ≤ ts.length → opn ts a0 + (np e + pen e l) ≤ opn ts a → PMin ts l a0 (chainGo op ts c1 c2 k1 k2 f e a) := by
  intro f
  induction f with
  | zero => intro e a h1 h2 h3; exact PMin.some_ (fun _ => ⟨h1, h2, h3⟩)
  | succ f ih =>
    intro e a h1 h2 h3
    have hm := opn_mono ts (Nat.le_add_right a 1)
    unfold chainGo
    split
    · rename_i hs
      have h4 := ho (a + 1) (isS_lt hs)
      split
      · exact PMin.none_
      · rename_i y b hb
        rw [hb] at h4
        have h5 := h4 y rfl
        simp only at h5
        exact ih _ _ (by omega) h5.2.1 (by rw [np_bin hk1]; omega)
    · split
      · rename_i hs
        have h4 := ho (a + 1) (isS_lt hs)
        split
        · exact PMin.none_
        · rename_i y b hb
          rw [hb] at h4
          have h5 := h4 y rfl
          simp only at h5
          exact ih _ _ (by omega) h5.2.1 (by rw [np_bin hk2]; omega)
      · exact PMin.some_ (fun _ => ⟨h1, h2, h3⟩)
theorem chainP_min {op : Nat → Option Ex × Nat} {ts : List Tok} {c1 c2 : List UInt8} {k1 k2 l : Nat} (hk1 : levelK k1 = l) (hk2 : levelK k2 = l) (ho : ∀ a, PMin ts (l + 1) a (op a)) (a : Nat) : PMin ts l a (chainP op ts c1 c2 k1 k2 a) := by
  intro ha
  have h1 := ho a ha
  revert ha
  show PMin ts l a (chainP op ts c1 c2 k1 k2 a)
  unfold chainP
  split
  · exact PMin.none_
  · rename_i x b hb
    rw [hb] at h1
    have h2 := h1 x rfl
    simp only at h2
    have h3 := pen_mono x (Nat.le_add_right l 1)
    exact chainGo_min hk1 hk2 ho a _ _ _ h2.1 h2.2.1 (by omega)
theorem pProd_min {p : Nat → Option Ex × Nat} {ts : List Tok} (hp : ∀ a, PMin ts 1 a (p a)) (a : Nat) : PMin ts 2 a (pProd p ts a) := chainP_min (l := 2) (by decide) (by decide) (pMinus_min hp) a
/-- A sum that is read has passed as many parentheses as its tree's text has. -/
theorem pSum_min (ts : List Tok) : ∀ (f a : Nat), PMin ts 1 a (pSum ts f a) := by
  intro f
  induction f with
  | zero => intro a; exact PMin.none_
  | succ f ih => intro a; exact chainP_min (l := 1) (by decide) (by decide) (pProd_min ih) a
theorem opn_all (ts : List Tok) : opn ts ts.length ≤ (ts.filter (fun t => t.kind == 3 && t.text == [40])).length := by
  have h : ∀ n, n ≤ ts.length → opn ts n = ((ts.take n).filter (fun t => t.kind == 3 && t.text == [40])).length := by
    intro n
    induction n with
    | zero => intro _; rfl
    | succ n ih =>
      intro hn
      rw [opn, ih (by omega), List.take_add_one, List.filter_append, List.length_append]
      unfold isS
      rw [List.getElem?_eq_getElem (by omega)]
      simp only [Option.toList, List.filter_cons, List.filter_nil]
      split <;> rfl
  rw [h _ (Nat.le_refl _), List.take_length]
  exact Nat.le_refl _
end Big
end Go.Proofs.YtgopljllknbelaaGreatDoor
/- The parentheses in a tree's text, and those among a text's tokens: plain. -/
namespace Go.Proofs.YtgopljllknbelaaGreatDoor
namespace Big
/-- How many parentheses a text opens. -/
def open40 (l : List UInt8) : Nat := l.count 40
theorem open40_app (a b : List UInt8) : open40 (a ++ b) = open40 a + open40 b := List.count_append
theorem open40_none {l : List UInt8} (h : ∀ c ∈ l, c ≠ 40) : open40 l = 0 := List.count_eq_zero.2 (fun h1 => h 40 h1 rfl)
theorem open40_one (l : List UInt8) : open40 (40 :: l) = open40 l + 1 := List.count_cons_self
theorem open40_cons {c : UInt8} (h : c ≠ 40) (l : List UInt8) : open40 (c :: l) = open40 l := List.count_cons_of_ne h
theorem open40_close : open40 [41] = 0 := by decide
theorem open40_paren (b : Bool) (s : List UInt8) : open40 (parenT b s) = open40 s + (if b then 1 else 0) := by
  unfold parenT
  split
  · rw [open40_one, open40_app, open40_close]
  · rfl
theorem open40_sign (k : Nat) : open40 (signT k) = 0 := by
  unfold signT
  (repeat' split) <;> decide
theorem open40_func (k : Nat) : open40 (funcT k) = 0 := by
  unfold funcT
  (repeat' split) <;> decide
theorem word_ne {c : UInt8} (h : wordN c.toNat = true) : c ≠ 40 := by
  intro hc
  subst hc
  revert h
  decide
theorem open40_name {t : List UInt8} (h : nameB t = true) : open40 t = 0 := by
  have h2 := (Bool.and_eq_true_iff.1 h).1
  unfold wordB at h2
  simp only [Bool.and_eq_true, decide_eq_true_eq, List.all_eq_true] at h2
  exact open40_none (fun c hc => word_ne (h2.2 c hc))
theorem isDig_ne {c : UInt8} (h : isDig c = true) : c ≠ 40 := by
  intro hc
  subst hc
  revert h
  decide
theorem open40_code7 {t : List UInt8} (h : code7 t = 0) : open40 t = 0 := by
  have hg : good7 t = true := by
    unfold code7 at h
    split at h
    · cases h
    · split at h
      · assumption
      · cases h
  unfold good7 at hg
  rw [Bool.and_eq_true, List.all_append, Bool.and_eq_true, List.all_eq_true, List.all_eq_true] at hg
  have hw : ∀ c ∈ whole t, c ≠ 40 := fun c hc => isDig_ne (hg.2.1 c hc)
  have hp : ∀ c ∈ part t, c ≠ 40 := fun c hc => isDig_ne (hg.2.2 c hc)
  rcases dot_split t with ⟨_, h3⟩ | ⟨_, h3, _⟩
  · rw [h3, open40_app, open40_none hw, open40_cons (by decide), open40_none hp]
  · rw [h3, open40_none hw]
theorem open40_node (fmt : Int → List UInt8) (hf : ∀ n : Int, -64 ≤ n → n ≤ 64 → open40 (fmt n) = 0) (e : Ex) (h : e.Good) : open40 (nodeT fmt e) = np e := by
  induction e with
  | leaf k t =>
    unfold nodeT np
    split
    · decide
    · split
      · decide
      · rcases h with ⟨_, h, _⟩ | ⟨_, h⟩ | ⟨_, rfl⟩
        · exact open40_code7 h
        · exact open40_name h
        · rfl
  | un k n x ih =>
    obtain ⟨_, _, h3, h4, hx⟩ := h
    have h5 := ih hx
    have hp : ∀ l, (if decide (levelK x.kind < l) = true then 1 else 0) = pen x l := by
      intro l
      unfold pen
      simp only [decide_eq_true_eq]
    unfold nodeT np
    split
    · rw [open40_cons (by decide), open40_paren, h5, hp]
    · split
      · rw [open40_app, open40_paren, open40_cons (by decide), hf n h3 h4, h5, hp]; rfl
      · rw [open40_app, open40_func, open40_one, open40_app, open40_close, h5]; omega
  | bin k x y ihx ihy =>
    obtain ⟨_, hx, hy⟩ := h
    have hp : ∀ (z : Ex) (l : Nat), (if decide (levelK z.kind < l) = true then 1 else 0) = pen z l := by
      intro z l
      unfold pen
      simp only [decide_eq_true_eq]
    unfold nodeT np
    rw [open40_app, open40_app, open40_paren, open40_paren, open40_sign, ihx hx, ihy hy, hp, hp]
    omega
/-- The tokens that open parentheses are no more than the text's. -/
theorem cov_open {x : List UInt8} : ∀ (ts : List Tok) (a : Nat), Cov x a ts → (ts.filter (fun t => t.kind == 3 && t.text == [40])).length ≤ open40 (x.drop a) := by
  intro ts
  induction ts with
  | nil => intro a _; exact Nat.zero_le _
  | cons t ts ih =>
    intro a h
    obtain ⟨h1, h2, h3, h4, h5, h6⟩ := h
    have h7 := ih _ h6
    have h8 : open40 (x.drop a) = open40 ((x.drop a).take (t.at_ - a)) + open40 (x.drop t.at_) := by
      rw [← open40_app]
      have : x.drop t.at_ = (x.drop a).drop (t.at_ - a) := by rw [List.drop_drop, Nat.add_sub_cancel' h1]
      rw [this, List.take_append_drop]
    have h9 : open40 (x.drop t.at_) = open40 t.text + open40 (x.drop (t.at_ + t.text.length)) := by
      rw [← List.drop_drop]
      conv => lhs; rw [← List.take_append_drop t.text.length (x.drop t.at_)]
      rw [open40_app, h4]
    rw [List.filter_cons]
    split
    · rename_i hc
      have h10 : t.text = [40] := by
        rw [Bool.and_eq_true] at hc
        simpa using hc.2
      have h11 : open40 t.text = 1 := by rw [h10]; decide
      rw [List.length_cons]
      omega
    · omega
/-- A text that is read as a tree opens as many parentheses as the tree's own text at least. -/
theorem read_open {l : List UInt8} {ts : List Tok} {n f b : Nat} {e : Ex} (h : scanT l = (ts, n, 0)) (hr : pSum ts f 0 = (some e, b)) : np e ≤ open40 l := by
  have h1 := pSum_min ts f 0 (Nat.zero_le _) e (by rw [hr])
  have h2 := opn_mono ts h1.2.1
  have h3 := opn_all ts
  have h4 := cov_open ts 0 (scanT_cov h).2.1
  rw [List.drop_zero] at h4
  simp only [hr] at h1 h2
  omega
end Big
end Go.Proofs.YtgopljllknbelaaGreatDoor
/- The parentheses of a tree's text stand in pairs: plain. -/
namespace Go.Proofs.YtgopljllknbelaaGreatDoor
namespace Big
/-- How many parentheses a text closes. -/
def close41 (l : List UInt8) : Nat := l.count 41
theorem close41_app (a b : List UInt8) : close41 (a ++ b) = close41 a + close41 b := List.count_append
/-- Nowhere are more parentheses closed than opened, and in all as many. -/
def Bal (s : List UInt8) : Prop := open40 s = close41 s ∧ ∀ j, close41 (s.take j) ≤ open40 (s.take j)
theorem Bal.app {a b : List UInt8} (ha : Bal a) (hb : Bal b) : Bal (a ++ b) := by
  refine ⟨by rw [open40_app, close41_app, ha.1, hb.1], fun j => ?_⟩
  rw [List.take_append, open40_app, close41_app]
  have := ha.2 j
  have := hb.2 (j - a.length)
  omega
theorem Bal.free {s : List UInt8} (h : ∀ c ∈ s, c ≠ 40 ∧ c ≠ 41) : Bal s := by
  have ho : ∀ t : List UInt8, (∀ c ∈ t, c ≠ 40 ∧ c ≠ 41) → close41 t = 0 := fun t ht => List.count_eq_zero.2 (fun h1 => (ht 41 h1).2 rfl)
  refine ⟨by rw [ho s h, open40_none (fun c hc => (h c hc).1)], fun j => ?_⟩
  rw [ho _ (fun c hc => h c (List.mem_of_mem_take hc))]
  exact Nat.zero_le _
theorem Bal.pair {s : List UInt8} (h : Bal s) : Bal (40 :: (s ++ [41])) := by
  refine ⟨?_, fun j => ?_⟩
  · rw [open40_one, open40_app, open40_close]
    show _ = close41 ([40] ++ (s ++ [41]))
    rw [close41_app, close41_app, ← h.1, show close41 [40] = 0 from by decide, show close41 [41] = 1 from by decide]
    omega
  · cases j with
    | zero => exact Nat.le_refl _
    | succ j =>
      rw [List.take_succ_cons, open40_one]
      show close41 ([40] ++ _) ≤ _
      rw [close41_app, List.take_append, open40_app, close41_app]
      have h1 := h.2 j
      have h2 : close41 ([41].take (j - s.length)) ≤ 1 := by
        cases j - s.length with
        | zero => decide
        | succ n => rw [List.take_succ_cons, List.take_nil]; decide
      have h3 : close41 [40] = 0 := by decide
      omega
theorem Bal.paren {s : List UInt8} (b : Bool) (h : Bal s) : Bal (parenT b s) := by
  unfold parenT
  split
  · exact h.pair
  · exact h
theorem word_ne2 {c : UInt8} (h : wordN c.toNat = true) : c ≠ 40 ∧ c ≠ 41 := by
  refine ⟨word_ne h, fun hc => ?_⟩
  subst hc
  revert h
  decide
theorem isDig_ne2 {c : UInt8} (h : isDig c = true) : c ≠ 40 ∧ c ≠ 41 := by
  refine ⟨isDig_ne h, fun hc => ?_⟩
  subst hc
  revert h
  decide
theorem Bal.name {t : List UInt8} (h : nameB t = true) : Bal t := by
  have h2 := (Bool.and_eq_true_iff.1 h).1
  unfold wordB at h2
  simp only [Bool.and_eq_true, decide_eq_true_eq, List.all_eq_true] at h2
  exact Bal.free (fun c hc => word_ne2 (h2.2 c hc))
theorem Bal.code7 {t : List UInt8} (h : code7 t = 0) : Bal t := by
  have hg : good7 t = true := by
    unfold Big.code7 at h
    split at h
    · cases h
    · split at h
      · assumption
      · cases h
  unfold good7 at hg
  rw [Bool.and_eq_true, List.all_append, Bool.and_eq_true, List.all_eq_true, List.all_eq_true] at hg
  have hw : ∀ c ∈ whole t, c ≠ 40 ∧ c ≠ 41 := fun c hc => isDig_ne2 (hg.2.1 c hc)
  have hp : ∀ c ∈ part t, c ≠ 40 ∧ c ≠ 41 := fun c hc => isDig_ne2 (hg.2.2 c hc)
  refine Bal.free ?_
  rcases dot_split t with ⟨_, h3⟩ | ⟨_, h3, _⟩
  · rw [h3]
    intro c hc
    rcases List.mem_append.1 hc with hc | hc
    · exact hw c hc
    · rcases List.mem_cons.1 hc with rfl | hc
      · decide
      · exact hp c hc
  · rw [h3]; exact hw
theorem free_of {s : List UInt8} (h : s.all (fun c => c != 40 && c != 41) = true) : ∀ c ∈ s, c ≠ 40 ∧ c ≠ 41 := by
  intro c hc
  have := List.all_eq_true.1 h c hc
  simpa using this
theorem Bal.sign (k : Nat) : Bal (signT k) := by
  refine Bal.free (free_of ?_)
  unfold signT
  (repeat' split) <;> decide
theorem Bal.func (k : Nat) : Bal (funcT k) := by
  refine Bal.free (free_of ?_)
  unfold funcT
  (repeat' split) <;> decide
theorem Bal.node (fmt : Int → List UInt8) (hf : ∀ n : Int, -64 ≤ n → n ≤ 64 → ∀ c ∈ fmt n, c ≠ 40 ∧ c ≠ 41) (e : Ex) (h : e.Good) : Bal (nodeT fmt e) := by
  induction e with
  | leaf k t =>
    unfold nodeT
    split
    · exact Bal.free (free_of (by decide))
    · split
      · exact Bal.free (free_of (by decide))
      · rcases h with ⟨_, h, _⟩ | ⟨_, h⟩ | ⟨_, rfl⟩
        · exact Bal.code7 h
        · exact Bal.name h
        · exact Bal.free (fun c hc => by cases hc)
  | un k n x ih =>
    obtain ⟨_, _, h3, h4, hx⟩ := h
    have h5 := ih hx
    unfold nodeT
    split
    · exact Bal.app (a := [45]) (Bal.free (free_of (by decide))) (h5.paren _)
    · split
      · exact (h5.paren _).app (Bal.app (a := [94]) (Bal.free (free_of (by decide))) (Bal.free (hf n h3 h4)))
      · exact (Bal.func k).app h5.pair
  | bin k x y ihx ihy =>
    obtain ⟨_, hx, hy⟩ := h
    unfold nodeT
    exact ((ihx hx).paren _).app ((Bal.sign k).app ((ihy hy).paren _))
/-- How many parentheses stand open behind the first bytes. -/
def hgt (s : List UInt8) (j : Nat) : Int := (open40 (s.take j) : Int) - (close41 (s.take j) : Int)
theorem hgt_step {s : List UInt8} {j : Nat} (h : j < s.length) : hgt s (j + 1) = hgt s j + (if s[j] = 40 then 1 else if s[j] = 41 then -1 else 0) := by
  unfold hgt
  rw [List.take_add_one, List.getElem?_eq_getElem h, open40_app, close41_app]
  simp only [Option.toList]
  split
  · rename_i hc
    rw [hc, show open40 [40] = 1 from by decide, show close41 [40] = 0 from by decide]
    omega
  · rename_i hc
    split
    · rename_i hd
      rw [hd, show open40 [41] = 0 from by decide, show close41 [41] = 1 from by decide]
      omega
    · rename_i hd
      rw [show open40 [s[j]] = 0 from open40_none (fun c h1 => by rw [List.mem_singleton.1 h1]; exact hc), show close41 [s[j]] = 0 from List.count_eq_zero.2 (fun h1 => hd (List.mem_singleton.1 h1).symm)]
      omega
/-- What is opened is closed again: the first place where as many stand open as ahead of it. -/
theorem Bal.match_ {s : List UInt8} (hb : Bal s) {i : Nat} (hi : i < s.length) (hc : s[i] = 40) : ∃ k, ∃ hk : k < s.length, i < k ∧ hgt s (k + 1) = hgt s i ∧ s[k] = 41 ∧ ∀ m, i ≤ m → m < k → hgt s i < hgt s (m + 1) := by
  have h0 : hgt s (i + 1) = hgt s i + 1 := by rw [hgt_step hi, if_pos hc]
  have hend : hgt s s.length ≤ hgt s i := by
    have h1 := hb.2 i
    have h2 := hb.1
    unfold hgt
    rw [List.take_length]
    omega
  have key : ∀ d m, m + d = s.length → i < m → (∀ q, i ≤ q → q < m → hgt s i < hgt s (q + 1)) → ∃ k, ∃ hk : k < s.length, i < k ∧ hgt s (k + 1) = hgt s i ∧ s[k] = 41 ∧ ∀ m, i ≤ m → m < k → hgt s i < hgt s (m + 1) := by
    intro d
    induction d with
    | zero =>
      intro m hm him hq
      have := hq (m - 1) (by omega) (by omega)
      rw [show m - 1 + 1 = s.length from by omega] at this
      omega
    | succ d ih =>
      intro m hm him hq
      have hml : m < s.length := by omega
      have h1 := hq (m - 1) (by omega) (by omega)
      rw [show m - 1 + 1 = m from by omega] at h1
      have h2 := hgt_step hml
      by_cases h3 : hgt s i < hgt s (m + 1)
      · refine ih (m + 1) (by omega) (by omega) (fun q q1 q2 => ?_)
        rcases Nat.eq_or_lt_of_le (Nat.lt_succ_iff.1 q2) with h4 | h4
        · rw [h4]; exact h3
        · exact hq q q1 h4
      · refine ⟨m, hml, him, ?_, ?_, hq⟩
        · revert h2
          split
          · intro h2; omega
          · split
            · intro h2; omega
            · intro h2; omega
        · by_cases h4 : s[m] = 41
          · exact h4
          · rw [if_neg h4] at h2
            split at h2 <;> omega
  exact key (s.length - (i + 1)) (i + 1) (by omega) (by omega) (fun q q1 q2 => by rw [show q = i from by omega, h0]; omega)
/-- Without one pair a text opens one parenthesis fewer. -/
theorem open40_less {s : List UInt8} {i k : Nat} (hi : i < k) (hk : k < s.length) (hc : s[i]'(by omega) = 40) (hd : s[k] = 41) : open40 (s.take i ++ ((s.drop (i + 1)).take (k - (i + 1)) ++ s.drop (k + 1))) + 1 = open40 s := by
  have h1 : s = s.take i ++ (40 :: ((s.drop (i + 1)).take (k - (i + 1)) ++ (41 :: s.drop (k + 1)))) := by
    have e1 : (s.drop (i + 1)).take (k - (i + 1)) ++ (41 :: s.drop (k + 1)) = s.drop (i + 1) := by
      have h2 : s.drop k = 41 :: s.drop (k + 1) := by rw [← hd]; exact List.drop_eq_getElem_cons hk
      rw [← h2, show s.drop k = (s.drop (i + 1)).drop (k - (i + 1)) from by rw [List.drop_drop, Nat.add_sub_cancel' hi]]
      exact List.take_append_drop _ _
    rw [e1, ← hc, ← List.drop_eq_getElem_cons, List.take_append_drop]
  conv => rhs; rw [h1]
  rw [open40_app, open40_app, open40_app, open40_one, open40_app, open40_cons (by decide)]
  omega
end Big
end Go.Proofs.YtgopljllknbelaaGreatDoor
/- The frame round a law's walk: the arguments opened; behind the call they read as they did. -/
namespace Go.Proofs.YtgopljllknbelaaGreatDoor
open Go.ChangeShapes Go.WideShapes Go.ChangeAt Go.RowKit

section
variable {H : Type} {enc : TypeId × Value → H} {P : Program}
theorem trodAll_stays (hl : laidOutB P = true) {W W' : World} (hb : Big.Ext W W') : ∀ (ts : List TypeId) (vs : List Value) (ds : List (DataW H)) (ps : List MemPlace),
    (∀ t ∈ ts, P.readableRec t = true ∧ t < P.types.size) → DataW.TrodAll enc P W 0 (fun _ => true) true ts vs ds ps → (∀ x ∈ ps, x.block < W.heap.size) →
    DataW.TrodAll enc P W' 0 (fun b => decide (b < W.heap.size)) true ts vs ds ps
  | [], vs, ds, ps, _, h, _ => by
    obtain ⟨rfl, rfl, rfl⟩ := trodAll_nil h
    exact trodAll_mk0
  | t :: ts, vs, ds, ps, ht, h, hlt => by
    obtain ⟨v, vs', d, ds', p, q, rfl, rfl, rfl, h1, h2⟩ := trodAll_cons h
    exact trodAll_cons_mk (Below.trod hl (ht t (by simp)).1 (ht t (by simp)).2 h1 hb (fun x hx => hlt x (List.mem_append_left _ hx)))
      (trodAll_stays hl hb ts vs' ds' q (fun t' h' => ht t' (by simp [h'])) h2 (fun x hx => hlt x (List.mem_append_right _ hx)))

/-- What the row asks of a law that returned true and left what was there. -/
theorem post_true {f : Func} {s : ChangeSpec} {W W' : World} {args : Array Value} {ds gs : List (DataW H)} {before : List MemPlace} {tb : TypeId} (hl : laidOutB P = true)
    (hts : (f.params.toList.all fun t => P.readableRec t && decide (t < P.types.size)) = true) (hv : s.vars = []) (hr : f.resultTypes = #[tb]) (htb : P.underlying tb = some .bool)
    (hW : DataW.Whole enc P f.params.toList s.vars false W args.toList ds gs before) (hfn : s.fn H ds = { results := [.lit (.bool true)], args := ds }) (hb : Big.Ext W W') :
    s.post enc P f false true false false W args (.bool true) W' := by
  have hlt := hW.lt
  have hW' := hW
  obtain ⟨p, q, hA, hV, rfl, hfz, hnd⟩ := hW
  rw [hv] at hV
  obtain ⟨rfl, rfl⟩ := trodVars_none hV
  have hfn' : s.fn H (ds ++ []) = { results := [.lit (.bool true)], args := ds } := by rw [List.append_nil]; exact hfn
  refine ⟨ds, [], p ++ [], [], p, [], hW', ?_, ?_, ?_, hb.frame _, fun h => by cases h⟩
  · rw [hfn', hr]
    exact trodAll_mk1 (shut_bool htb _)
  · rw [hfn']
    exact trodAll_stays hl hb _ _ _ _ (fun t ht => by
      have := List.all_eq_true.1 hts t ht
      simpa using this) hA (fun x hx => hlt x (by simpa using hx))
  · rw [hfn', hv]
    rfl
end

/-- A law under its row's conditions, with the form of the world at its beginning. -/
theorem handed_and_shaped {H : Type} {enc : TypeId × Value → H} {a : Assume} {C : Checked} {os : Os} {f : FuncId} {fn : Func} {s : ChangeSpec} {conds : List PathCond} {apart fresh handsOn again : Bool} {X : World → Array Value → Prop}
    (hX : ∀ (w w' : World) (args : Array Value), w.heap = w'.heap → X w args → X w' args)
    (own : ownKnob C.prog.godebug = none) (started : os.Started) (noInit : C.prog.inits.idxOf? f = none) (hfn : C.prog.funcs[f]? = some fn)
    (witness : ∃ (w : World) (tape : Tape) (i : Input), w.os = os ∧ (w.forCall tape i).Shaped C.prog ∧ i.vars = [] ∧ Input.okWide C.prog (w.forCall tape i) .any w.heap.size f i ∧
      ((s.pre enc C.prog fn conds apart (w.forCall tape i).memory i.args ∧ X (w.forCall tape i).memory i.args) ∧ sizedMet enc C.prog fn (OpenSpec.ofChange s) apart (w.forCall tape i).memory i.args) ∧ a.holds C.prog (lone (Frame.enter C.prog f i.args .normal) [] (w.forCall tape i)))
    (contract : ∀ (W : World) (base : Nat) (args : Array Value) (ds gs : List (DataW H)) (before : List MemPlace),
      (∀ (j : Nat) t v, fn.params[j]? = some t → args[j]? = some v → Value.okWide C.prog W .any base t v) →
      DataW.Whole enc C.prog fn.params.toList s.vars apart W args.toList ds gs before →
      (DataW.weightsEach C.prog (fn.params.toList ++ s.plain.varTypes C.prog) (ds ++ gs)).all (· ≤ reachBytes) = true → X W args → W.ShapedOpen C.prog →
      Calls C.prog f args W fun e W' => ∃ v, e = .returned v ∧ s.post enc C.prog fn apart fresh handsOn again W args v W') :
    ReturnsInHanded a C os f .any (fun w args => (s.pre enc C.prog fn conds apart w args ∧ X w args) ∧ sizedMet enc C.prog fn (OpenSpec.ofChange s) apart w args) (s.post enc C.prog fn apart fresh handsOn again) := by
  refine returnsInHanded_of_calls own started noInit witness ?_
  intro w tape i _ hsh _ hok hpre hholds
  obtain ⟨_, _, _, fn', hfn', _, _, _, _, hval⟩ := hok
  have e : fn' = fn := Option.some.inj (hfn'.symm.trans hfn)
  subst e
  obtain ⟨⟨⟨ds, gs, before, hw, hc⟩, hx⟩, hz⟩ := hpre
  have hw' := DataW.Whole.of_heap (w' := w.forCall tape i) (by rfl) hw
  refine (contract (w.forCall tape i) w.heap.size i.args ds gs before hval hw' (hz.weights hw) (hX _ _ _ (by rfl) hx) hsh).mono fun e W' ⟨v, he, hp⟩ => ?_
  subst he
  exact ChangeSpec.post_blind hp

theorem laid_out : laidOutB Tryz.prog = true := by kernel_rfl
theorem own : ownKnob Tryz.prog.godebug = none := by kernel_rfl

section
variable {P : Program} {W : World}
/-- One of several variables that a row lists. -/
theorem laidVars_at : ∀ (i : Nat) (l : List (String × DataW Unit)) (ps : List MemPlace) (n : String) (d : DataW Unit), DataW.LaidVars P W l ps → l[i]? = some (n, d) →
    ∃ g t cs f p, P.globalNamed n = some g ∧ (P.globals[g]?).map (·.type) = some t ∧ W.var? P n = some cs ∧ DataW.trod (fun _ => ()) P W 0 (fun _ => true) false f t cs.toList = some (d, p)
  | i, [], ps, n, d, _, hn => by simp at hn
  | 0, x :: l, ps, n, d, h, hn => by
    simp at hn
    subst hn
    obtain ⟨g, t, cs, f, p, q, h1, h2, h3, h4, _, _⟩ := h
    exact ⟨g, t, cs, f, p, h1, h2, h3, h4⟩
  | i + 1, x :: l, ps, n, d, h, hn => by
    obtain ⟨g, t, cs, f, p, q, _, _, _, _, hs, _⟩ := h
    exact laidVars_at i l q n d hs (by simpa using hn)
theorem laid_at (i : Nat) {l : List (String × DataW Unit)} {n : String} {d : DataW Unit} (h : laidMetH P l W) (hp : (l.all fun x => x.2.handleName?.isNone) = true) (hn : l[i]? = some (n, d)) :
    ∃ g t cs f p, P.globalNamed n = some g ∧ (P.globals[g]?).map (·.type) = some t ∧ W.var? P n = some cs ∧ DataW.trod (fun _ => ()) P W 0 (fun _ => true) false f t cs.toList = some (d, p) := by
  rw [MakeChecks.laidMetH_plain _ _ _ hp] at h
  obtain ⟨ps, hv, _⟩ := h
  exact laidVars_at i l ps n d hv hn
end

section
variable {H : Type} {enc : TypeId × Value → H} {W : World} {fuel : Nat} {v : Value} {y : DataW H × List MemPlace}
end
section
variable {H : Type} {enc : TypeId × Value → H} {W : World} {v : Value} {d : DataW H} {p : List MemPlace} {r : Reach} {b0 : Nat}
end
theorem str_of_bytes {s : ByteArray} (h : s.size ≤ maxLen) : ∃ l : List UInt8, l.length ≤ maxLen ∧ s = ⟨l.toArray⟩ := by
  refine ⟨s.data.toList, by simpa using h, ?_⟩
  apply ByteArray.ext
  simp
end Go.Proofs.YtgopljllknbelaaGreatDoor
