import Derived.Test.YtgopljllknbelaaGreatDoorM24
import Derived.Test.YtgopljllknbelaaGreatDoorM25
import Derived.Test.YtgopljllknbelaaGreatDoorM10
import Derived.Test.YtgopljllknbelaaGreatDoorM16
import Derived.Test.YtgopljllknbelaaGreatDoorM18
/- What the parser reads is a tree of the grammar, but for great exponents. Plain. -/
namespace Go.Proofs.YtgopljllknbelaaGreatDoor
namespace Big
/-- A tree of the grammar, with exponents of up to two digits. -/
def Ex.Well : Ex → Prop
  | .leaf k t => (k = 1 ∧ code7 t = 0) ∨ (k = 2 ∧ nameB t = true) ∨ ((k = 3 ∨ k = 4) ∧ t = [])
  | .un k n x => (k = 5 ∨ (10 ≤ k ∧ k ≤ 16)) ∧ (k ≠ 10 → n = 0) ∧ -99 ≤ n ∧ n ≤ 99 ∧ x.Well
  | .bin k x y => (6 ≤ k ∧ k ≤ 9) ∧ x.Well ∧ y.Well
/-- Has it an exponent that is too great? -/
def Ex.big : Ex → Bool
  | .leaf _ _ => false
  | .un k n x => (k == 10 && !(decide (-64 ≤ n ∧ n ≤ 64))) || x.big
  | .bin _ x y => x.big || y.big
theorem code7_le {t : List UInt8} (h : code7 t = 0) : t.length ≤ 400 := by
  unfold code7 at h
  split at h
  · cases h
  · omega
theorem Ex.Well.good {e : Ex} (h : e.Well) (hb : e.big = false) : e.Good := by
  induction e with
  | leaf k t =>
    rcases h with ⟨h1, h2⟩ | h | h
    · exact .inl ⟨h1, h2, code7_le h2⟩
    · exact .inr (.inl h)
    · exact .inr (.inr h)
  | un k n x ih =>
    obtain ⟨h1, h2, h3, h4, h5⟩ := h
    unfold Ex.big at hb
    rw [Bool.or_eq_false_iff] at hb
    have h6 : -64 ≤ n ∧ n ≤ 64 := by
      by_cases hk : k = 10
      · subst hk
        have := hb.1
        simpa using this
      · rw [h2 hk]; omega
    exact ⟨h1, h2, h6.1, h6.2, ih h5 hb.2⟩
  | bin k x y ihx ihy =>
    obtain ⟨h1, h2, h3⟩ := h
    unfold Ex.big at hb
    rw [Bool.or_eq_false_iff] at hb
    exact ⟨h1, ihx h2 hb.1, ihy h3 hb.2⟩
theorem Ex.Good.well {e : Ex} (h : e.Good) : e.Well ∧ e.big = false := by
  induction e with
  | leaf k t =>
    refine ⟨?_, rfl⟩
    rcases h with ⟨h1, h2, _⟩ | h | h
    · exact .inl ⟨h1, h2⟩
    · exact .inr (.inl h)
    · exact .inr (.inr h)
  | un k n x ih =>
    obtain ⟨h1, h2, h3, h4, h5⟩ := h
    refine ⟨⟨h1, h2, by omega, by omega, (ih h5).1⟩, ?_⟩
    unfold Ex.big
    rw [(ih h5).2, decide_eq_true (And.intro h3 h4)]
    simp
  | bin k x y ihx ihy =>
    obtain ⟨h1, h2, h3⟩ := h
    refine ⟨⟨h1, (ihx h2).1, (ihy h3).1⟩, ?_⟩
    unfold Ex.big
    rw [(ihx h2).2, (ihy h3).2]
    rfl
theorem funcK_range (t : List UInt8) (h : funcK t ≠ 0) : 11 ≤ funcK t ∧ funcK t ≤ 16 := by
  unfold funcK at h ⊢
  (repeat' split) <;> first | omega | (exfalso; revert h; simp_all)
theorem digits2_le {t : List UInt8} {n : Nat} (h : digits2 t = some n) : n ≤ 99 := by
  unfold digits2 at h
  split at h
  · rename_i hc
    injection h with h
    obtain ⟨h1, h2⟩ := hc
    have hd : ∀ c : UInt8, digN c.toNat = true → c.toNat - 48 ≤ 9 := fun c hc => by
      unfold digN at hc
      simp only [Bool.and_eq_true, decide_eq_true_eq] at hc
      omega
    match t, h1, h2, h with
    | [], _, _, h => simp at h; omega
    | [c], _, h2, h =>
      simp only [List.all_cons, List.all_nil, Bool.and_true] at h2
      have := hd c h2
      simp at h
      omega
    | [c, d], _, h2, h =>
      simp only [List.all_cons, List.all_nil, Bool.and_true, Bool.and_eq_true] at h2
      have := hd c h2.1
      have := hd d h2.2
      simp at h
      omega
    | c :: d :: e :: r, h1, _, _ => simp at h1
  · cases h
theorem expo_le {ts : List Tok} {a n : Nat} (h : expo ts a = some n) : n ≤ 99 := by
  unfold expo at h
  split at h
  · split at h
    · exact digits2_le h
    · cases h
  · cases h
theorem word_nameB {t : Tok} (h : TokFine t) (hk1 : t.kind ≠ 1) (hk3 : t.kind ≠ 3) (hf : funcK t.text = 0) (h1 : t.text ≠ [112, 105]) (h2 : t.text ≠ [101]) : nameB t.text = true := by
  rcases h with ⟨hk, _⟩ | ⟨hk, q1, q2, q3, q4⟩ | ⟨hk, _⟩
  · omega
  · have hr : reservedB t.text = false := by
      unfold reservedB
      simp [h1, h2, hf]
    have hw : wordB t.text = true := by
      rw [wordB_ref]
      have hne : (t.text == []) = false := by
        rw [beq_eq_false_iff_ne]
        intro he
        rw [he] at q3
        simp at q3
      have href : refWord t.text = t.text.length := by
        unfold refWord
        have : letN (byteAt t.text 0) = true := q2
        rw [this, if_pos rfl]
        exact q1
      rw [hne, href]
      simp [q4]
    unfold nameB
    rw [hw]
    rw [reservedB_mem] at hr
    have : ([[112, 105], [101], [115, 113, 114, 116], [101, 120, 112], [108, 110], [115, 105, 110], [99, 111, 115], [97, 116, 97, 110]] : List (List UInt8)).contains t.text = false := hr
    rw [this]
    rfl
  · omega
def PW (p : Nat → Option Ex × Nat) : Prop := ∀ a x b, p a = (some x, b) → x.Well
section
variable {ts : List Tok} {p : Nat → Option Ex × Nat}
theorem pAtom_well (ht : ∀ t ∈ ts, TokFine t) (hp : PW p) : PW (pAtom p ts) := by
  intro a x b h
  unfold pAtom at h
  split at h
  · cases h
  · rename_i t hta
    have hf := ht t (List.mem_of_getElem? hta)
    split at h
    · split at h
      · split at h
        · cases h
        · rename_i y c hy
          split at h
          · injection h with h1 _
            injection h1 with h1
            subst h1
            exact hp _ _ _ hy
          · cases h
      · cases h
    · rename_i h3
      split at h
      · rename_i h1
        injection h with h4 _
        injection h4 with h4
        subst h4
        rcases hf with ⟨_, hc, _⟩ | ⟨hk, _⟩ | ⟨hk, _⟩
        · exact .inl ⟨rfl, hc⟩
        · omega
        · omega
      · rename_i h1
        split at h
        · rename_i hfk
          split at h
          · split at h
            · cases h
            · rename_i y c hy
              split at h
              · injection h with h4 _
                injection h4 with h4
                subst h4
                have := funcK_range _ hfk
                exact ⟨.inr ⟨by omega, this.2⟩, fun _ => rfl, by omega, by omega, hp _ _ _ hy⟩
              · cases h
          · cases h
        · rename_i hfk
          split at h
          · injection h with h4 _
            injection h4 with h4
            subst h4
            exact .inr (.inr ⟨.inl rfl, rfl⟩)
          · rename_i hpi
            split at h
            · injection h with h4 _
              injection h4 with h4
              subst h4
              exact .inr (.inr ⟨.inr rfl, rfl⟩)
            · rename_i he
              injection h with h4 _
              injection h4 with h4
              subst h4
              exact .inr (.inl ⟨rfl, word_nameB hf h1 h3 (by omega) hpi he⟩)
theorem pPower_well (ht : ∀ t ∈ ts, TokFine t) (hp : PW p) : PW (pPower p ts) := by
  intro a x b h
  unfold pPower at h
  split at h
  · cases h
  · rename_i y c hy
    have hw := pAtom_well ht hp _ _ _ hy
    split at h
    · split at h
      · split at h
        · rename_i n hn
          have := expo_le hn
          injection h with h4 _
          injection h4 with h4
          subst h4
          exact ⟨.inr ⟨by omega, by omega⟩, fun h => absurd rfl h, by omega, by omega, hw⟩
        · cases h
      · split at h
        · rename_i n hn
          have := expo_le hn
          injection h with h4 _
          injection h4 with h4
          subst h4
          exact ⟨.inr ⟨by omega, by omega⟩, fun h => absurd rfl h, by omega, by omega, hw⟩
        · cases h
    · injection h with h4 _
      injection h4 with h4
      subst h4
      exact hw
theorem negs_well (n : Nat) : ∀ x : Ex, x.Well → (negs n x).Well := by
  induction n with
  | zero => intro x h; exact h
  | succ n ih => intro x h; exact ih _ ⟨.inl rfl, fun _ => rfl, by omega, by omega, h⟩
theorem pMinus_well (ht : ∀ t ∈ ts, TokFine t) (hp : PW p) : PW (pMinus p ts) := by
  intro a x b h
  unfold pMinus at h
  split at h
  · cases h
  · rename_i y c hy
    injection h with h4 _
    injection h4 with h4
    subst h4
    exact negs_well _ _ (pPower_well ht hp _ _ _ hy)
theorem chainGo_well {op : Nat → Option Ex × Nat} {c1 c2 : List UInt8} {k1 k2 : Nat} (h1 : 6 ≤ k1 ∧ k1 ≤ 9) (h2 : 6 ≤ k2 ∧ k2 ≤ 9) (ho : PW op) : ∀ (f : Nat) (e : Ex) (a : Nat), e.Well → ∀ x b, chainGo op ts c1 c2 k1 k2 f e a = (some x, b) → x.Well := by
  intro f
  induction f with
  | zero =>
    intro e a he x b h
    unfold chainGo at h
    injection h with h4 _
    injection h4 with h4
    subst h4
    exact he
  | succ f ih =>
    intro e a he x b h
    unfold chainGo at h
    split at h
    · split at h
      · cases h
      · rename_i y c hy
        exact ih _ _ (show (Ex.bin k1 e y).Well from ⟨h1, he, ho _ _ _ hy⟩) _ _ h
    · split at h
      · split at h
        · cases h
        · rename_i y c hy
          exact ih _ _ (show (Ex.bin k2 e y).Well from ⟨h2, he, ho _ _ _ hy⟩) _ _ h
      · injection h with h4 _
        injection h4 with h4
        subst h4
        exact he
theorem chainP_well {op : Nat → Option Ex × Nat} {c1 c2 : List UInt8} {k1 k2 : Nat} (h1 : 6 ≤ k1 ∧ k1 ≤ 9) (h2 : 6 ≤ k2 ∧ k2 ≤ 9) (ho : PW op) : PW (chainP op ts c1 c2 k1 k2) := by
  intro a x b h
  unfold chainP at h
  split at h
  · cases h
  · rename_i y c hy
    exact chainGo_well h1 h2 ho _ _ _ (ho _ _ _ hy) _ _ h
theorem pSum_well (ht : ∀ t ∈ ts, TokFine t) : ∀ f, PW (pSum ts f) := by
  intro f
  induction f with
  | zero => intro a x b h; cases h
  | succ f ih => exact chainP_well (by omega) (by omega) (chainP_well (by omega) (by omega) (pMinus_well ht ih))
end
/-! ### The list of such a tree, as the program looks at it -/
/-- One step of parts: the operand that ends at the node i, and the operands that are left; none: the list is no expression. -/
def prStep (i : Nat) (st : List (Nat × Nat)) (x : Nd) : Option ((Nat × Nat) × List (Nat × Nat)) :=
  if operI x.kind < 0 ∨ (st.length : Int) < operI x.kind ∨ plainB x = false then none
  else if operI x.kind = 0 then (if x.a = 0 ∧ x.b = 0 then some ((i, 1), st ++ [(i, 1)]) else none)
  else if operI x.kind = 1 then
    (if x.a = (i : Int) - 1 ∧ x.b = 0 then some (((st.getD (st.length - 1) (0, 0)).1, (st.getD (st.length - 1) (0, 0)).2 + 1), st.take (st.length - 1) ++ [((st.getD (st.length - 1) (0, 0)).1, (st.getD (st.length - 1) (0, 0)).2 + 1)]) else none)
  else (if x.a = ((st.getD (st.length - 1) (0, 0)).1 : Int) - 1 ∧ x.b = (i : Int) - 1 then
      some (((st.getD (st.length - 2) (0, 0)).1, max ((st.getD (st.length - 1) (0, 0)).2 + 1) ((st.getD (st.length - 2) (0, 0)).2 + 1)), st.take (st.length - 2) ++ [((st.getD (st.length - 2) (0, 0)).1, max ((st.getD (st.length - 1) (0, 0)).2 + 1) ((st.getD (st.length - 2) (0, 0)).2 + 1))]) else none)
/-- parts from a node on: all operands, and how many are left. -/
def prGo : Nat → List (Nat × Nat) → List (Nat × Nat) → List Nd → List (Nat × Nat) × Nat
  | _, all, st, [] => (all, st.length)
  | i, all, st, x :: t => match prStep i st x with
    | none => (all, 0)
    | some (p, st') => prGo (i + 1) (all ++ [p]) st' t
def prAll (l : List Nd) : List (Nat × Nat) × Nat := prGo 0 [] [] l
/-- The operands of a tree that stands behind off nodes. -/
def ptE : Nat → Ex → List (Nat × Nat)
  | off, .leaf _ _ => [(off, 1)]
  | off, .un _ _ x => ptE off x ++ [(off, x.depth + 1)]
  | off, .bin _ x y => ptE off x ++ (ptE (off + x.size) y ++ [(off, max x.depth y.depth + 1)])
theorem ptE_len (e : Ex) : ∀ off, (ptE off e).length = e.size := by
  induction e with
  | leaf k t => intro off; rfl
  | un k n x ih => intro off; rw [ptE, List.length_append, ih]; rfl
  | bin k x y ihx ihy => intro off; rw [ptE, List.length_append, List.length_append, ihx, ihy, List.length_singleton, Ex.size]; omega
theorem plain_un_big {k : Nat} {n : Int} {x : Ex} (h : (Ex.un k n x).Well) (a b : Int) : plainB ⟨(k : Int), a, b, n, []⟩ = !(k == 10 && !(decide (-64 ≤ n ∧ n ≤ 64))) := by
  obtain ⟨h1, h2, h3, h4, _⟩ := h
  unfold plainB plainT plainM
  rw [if_neg (by simp only; omega), if_neg (by simp only; omega)]
  by_cases hk : k = 10
  · subst hk
    simp
  · rw [if_neg (by simp only; omega)]
    simp [h2 hk]
theorem getD_end {L : List (Nat × Nat)} {x : Nat × Nat} {i : Nat} (h : i = L.length) : (L ++ [x]).getD i (0, 0) = x := by
  subst h
  rw [List.getD_eq_getElem?_getD, List.getElem?_append_right (Nat.le_refl _), Nat.sub_self]
  rfl
/-- A tree's list: all its operands, one more operand left; or it fails at a great exponent. -/
theorem prGo_flat (e : Ex) (hw : e.Well) : ∀ (off : Nat) (all st : List (Nat × Nat)) (t : List Nd), prGo off all st (flat off e ++ t) = if e.big then ((prGo off all st (flat off e ++ t)).1, 0) else prGo (off + e.size) (all ++ ptE off e) (st ++ [(off, e.depth)]) t := by
  induction e with
  | leaf k t' =>
    intro off all st t
    have hk : 1 ≤ k ∧ k ≤ 4 := by unfold Ex.Well at hw; omega
    have ho : operI (k : Int) = 0 := by unfold operI; rw [if_neg (by omega), if_pos (by omega)]
    have hp : plainB ⟨(k : Int), 0, 0, 0, t'⟩ = true := by
      unfold plainB plainT plainM
      rw [if_neg (c := (k : Int) = 10) (by omega)]
      rcases hw with ⟨rfl, h⟩ | ⟨rfl, h⟩ | ⟨h, rfl⟩
      · simp [h]
      · simp [h]
      · rw [if_neg (by simp only; omega), if_neg (by simp only; omega)]; rfl
    have hs : prStep off st ⟨(k : Int), 0, 0, 0, t'⟩ = some ((off, 1), st ++ [(off, 1)]) := by
      unfold prStep
      simp only [ho, hp]
      rw [if_neg (by first | (simp; done) | (simp; omega))]
      simp
    rw [Ex.big, if_neg (by simp), flat, List.singleton_append, prGo, hs]
    rfl
  | un k n x ih =>
    intro off all st t
    have hx := hw.2.2.2.2
    have hz := x.size_pos
    have hk := hw.1
    have ho : operI (k : Int) = 1 := by unfold operI; rw [if_neg (by omega), if_neg (by omega), if_neg (by omega)]
    have h1 := ih hx off all st ([⟨(k : Int), ((off + x.size - 1 : Nat) : Int), 0, n, []⟩] ++ t)
    have hfl : flat off (.un k n x) ++ t = flat off x ++ ([⟨(k : Int), ((off + x.size - 1 : Nat) : Int), 0, n, []⟩] ++ t) := by rw [flat, List.append_assoc]
    rw [hfl]
    cases hb : x.big
    · rw [hb, if_neg (by simp)] at h1
      rw [h1, List.singleton_append, prGo]
      have hpl := plain_un_big hw ((off + x.size - 1 : Nat) : Int) 0
      cases hb2 : (k == 10 && !(decide (-64 ≤ n ∧ n ≤ 64)))
      · rw [hb2] at hpl
        have hs : prStep (off + x.size) (st ++ [(off, x.depth)]) ⟨(k : Int), ((off + x.size - 1 : Nat) : Int), 0, n, []⟩ = some ((off, x.depth + 1), st ++ [(off, x.depth + 1)]) := by
          unfold prStep
          simp only [ho, hpl]
          rw [if_neg (by first | (simp; done) | (simp; omega)), if_neg (by decide), if_pos trivial, if_pos (by first | omega | (refine ⟨?_, trivial⟩; omega))]
          rw [getD_end (by simp), List.take_left' (by simp)]
        rw [hs]
        have hbb : (Ex.un k n x).big = false := by rw [Ex.big, hb2, hb]; rfl
        rw [hbb, if_neg (by simp)]
        simp only [ptE, Ex.size, Ex.depth, List.append_assoc]
        rfl
      · rw [hb2] at hpl
        have hs : prStep (off + x.size) (st ++ [(off, x.depth)]) ⟨(k : Int), ((off + x.size - 1 : Nat) : Int), 0, n, []⟩ = none := by
          unfold prStep
          rw [if_pos (.inr (.inr hpl))]
        rw [hs]
        have hbb : (Ex.un k n x).big = true := by rw [Ex.big, hb2]; rfl
        rw [hbb, if_pos rfl]
    · rw [hb, if_pos rfl] at h1
      have hbb : (Ex.un k n x).big = true := by rw [Ex.big, hb]; simp
      rw [hbb, if_pos rfl]
      exact h1
  | bin k x y ihx ihy =>
    intro off all st t
    have hx := hw.2.1
    have hy := hw.2.2
    have hz := x.size_pos
    have hz2 := y.size_pos
    have hk := hw.1
    have ho : operI (k : Int) = 2 := by unfold operI; rw [if_neg (by omega), if_neg (by omega), if_pos (by omega)]
    have hfl : flat off (.bin k x y) ++ t = flat off x ++ (flat (off + x.size) y ++ ([⟨(k : Int), ((off + x.size - 1 : Nat) : Int), ((off + x.size + y.size - 1 : Nat) : Int), 0, []⟩] ++ t)) := by rw [flat]; simp only [List.append_assoc]
    rw [hfl]
    have h1 := ihx hx off all st (flat (off + x.size) y ++ ([⟨(k : Int), ((off + x.size - 1 : Nat) : Int), ((off + x.size + y.size - 1 : Nat) : Int), 0, []⟩] ++ t))
    cases hb : x.big
    · rw [hb, if_neg (by simp)] at h1
      rw [h1]
      have h2 := ihy hy (off + x.size) (all ++ ptE off x) (st ++ [(off, x.depth)]) ([⟨(k : Int), ((off + x.size - 1 : Nat) : Int), ((off + x.size + y.size - 1 : Nat) : Int), 0, []⟩] ++ t)
      cases hb2 : y.big
      · rw [hb2, if_neg (by simp)] at h2
        rw [h2, List.singleton_append, prGo]
        have hp : plainB ⟨(k : Int), ((off + x.size - 1 : Nat) : Int), ((off + x.size + y.size - 1 : Nat) : Int), 0, []⟩ = true := by
          unfold plainB plainT plainM
          rw [if_neg (by simp only; omega), if_neg (by simp only; omega), if_neg (by simp only; omega)]
          rfl
        have hs : prStep (off + x.size + y.size) (st ++ [(off, x.depth)] ++ [(off + x.size, y.depth)]) ⟨(k : Int), ((off + x.size - 1 : Nat) : Int), ((off + x.size + y.size - 1 : Nat) : Int), 0, []⟩ = some ((off, max x.depth y.depth + 1), st ++ [(off, max x.depth y.depth + 1)]) := by
          unfold prStep
          simp only [ho, hp]
          have e1 : (st ++ [(off, x.depth)] ++ [(off + x.size, y.depth)]).getD ((st ++ [(off, x.depth)] ++ [(off + x.size, y.depth)]).length - 1) (0, 0) = (off + x.size, y.depth) := getD_end (by simp)
          have e2 : (st ++ [(off, x.depth)] ++ [(off + x.size, y.depth)]).getD ((st ++ [(off, x.depth)] ++ [(off + x.size, y.depth)]).length - 2) (0, 0) = (off, x.depth) := by
            rw [List.getD_eq_getElem?_getD, List.append_assoc, List.getElem?_append_right (by simp)]
            simp
          have e3 : (st ++ [(off, x.depth)] ++ [(off + x.size, y.depth)]).take ((st ++ [(off, x.depth)] ++ [(off + x.size, y.depth)]).length - 2) = st := by
            rw [List.append_assoc, List.take_left' (by simp)]
          rw [if_neg (by first | (simp; done) | (simp; omega)), if_neg (by decide), if_neg (by decide), e1, e2, e3, if_pos (by simp only; omega)]
          have e4 : max (y.depth + 1) (x.depth + 1) = max x.depth y.depth + 1 := by omega
          rw [e4]
        rw [hs]
        have hbb : (Ex.bin k x y).big = false := by rw [Ex.big, hb, hb2]; rfl
        rw [hbb, if_neg (by simp)]
        simp only [ptE, Ex.size, Ex.depth, List.append_assoc]
        rw [show off + (x.size + y.size + 1) = off + x.size + y.size + 1 by omega]
      · rw [hb2, if_pos rfl] at h2
        have hbb : (Ex.bin k x y).big = true := by rw [Ex.big, hb2]; simp
        rw [hbb, if_pos rfl]
        exact h2
    · rw [hb, if_pos rfl] at h1
      have hbb : (Ex.bin k x y).big = true := by rw [Ex.big, hb]; simp
      rw [hbb, if_pos rfl]
      exact h1
/-- The program's Valid. -/
def validP (l : List Nd) : Bool := decide (1 ≤ l.length ∧ l.length ≤ 200) && (decide ((prAll l).2 = 1) && decide (((prAll l).1.getD (l.length - 1) (0, 0)).2 ≤ 40))
theorem ptE_last (e : Ex) (off : Nat) : (ptE off e).getD (e.size - 1) (0, 0) = (off, e.depth) := by
  cases e with
  | leaf k t => rfl
  | un k n x => rw [ptE]; exact getD_end (by rw [ptE_len]; rfl)
  | bin k x y => rw [ptE, ← List.append_assoc]; exact getD_end (by rw [List.length_append, ptE_len, ptE_len]; rfl)
theorem validP_flat (e : Ex) (hw : e.Well) : validP (flat 0 e) = (!e.big && decide (e.size ≤ 200 ∧ e.depth ≤ 40)) := by
  have h := prGo_flat e hw 0 [] [] []
  have hz := e.size_pos
  rw [List.append_nil] at h
  cases hb : e.big
  · rw [hb, if_neg (by simp)] at h
    have hp : prAll (flat 0 e) = (ptE 0 e, 1) := h
    have hl := ptE_last e 0
    unfold validP
    rw [hp, flat_len]
    simp only [hl]
    simp only [decide_true, Bool.true_and, Bool.not_false]
    rw [← Bool.decide_and, decide_eq_decide]
    omega
  · rw [hb, if_pos rfl] at h
    have hp : (prAll (flat 0 e)).2 = 0 := by
      unfold prAll
      rw [h]
    unfold validP
    rw [hp]
    simp
end Big
end Go.Proofs.YtgopljllknbelaaGreatDoor
/- The program's reader: group, digits. -/
namespace Go.Proofs.YtgopljllknbelaaGreatDoor
namespace Big
open Go.RowKit
/-- sum's contract at a place. -/
def SumP (g : Nat) (ts : List Tok) (tv : Value) (f a : Nat) : Prop :=
  ∀ w ns nv, RdP g w ts a ns tv nv → Calls Tryz.prog 44 #[.pointer (some ⟨g, 0, none⟩)] w (OpPost g ts tv ns nv (pSum ts f a) w)
/-- A sum in parentheses. -/
def grpR (p : Nat → Option Ex × Nat) (ts : List Tok) (a : Nat) : Option Ex × Nat :=
  if isS ts a [40] then (match p (a + 1) with
    | (none, b) => (none, b)
    | (some x, b) => if isS ts b [41] then (some x, b + 1) else (none, b))
  else (none, a)
theorem grpR_no {p : Nat → Option Ex × Nat} {ts : List Tok} {a : Nat} (h : isS ts a [40] = false) : grpR p ts a = (none, a) := by unfold grpR; rw [if_neg (by rw [h]; simp)]
theorem grpR_none {p : Nat → Option Ex × Nat} {ts : List Tok} {a b : Nat} (h : isS ts a [40] = true) (hp : p (a + 1) = (none, b)) : grpR p ts a = (none, b) := by unfold grpR; rw [if_pos h, hp]
theorem grpR_bad {p : Nat → Option Ex × Nat} {ts : List Tok} {a b : Nat} {x : Ex} (h : isS ts a [40] = true) (hp : p (a + 1) = (some x, b)) (h2 : isS ts b [41] = false) : grpR p ts a = (none, b) := by
  unfold grpR; rw [if_pos h, hp]; simp only; rw [if_neg (by rw [h2]; simp)]
theorem grpR_ok {p : Nat → Option Ex × Nat} {ts : List Tok} {a b : Nat} {x : Ex} (h : isS ts a [40] = true) (hp : p (a + 1) = (some x, b)) (h2 : isS ts b [41] = true) : grpR p ts a = (some x, b + 1) := by
  unfold grpR; rw [if_pos h, hp]; simp only; rw [if_pos h2]
theorem RdP.far {g : Nat} {w : World} {ts : List Tok} {a a' : Nat} {ns : List Nd} {tv nv : Value} (h : RdP g w ts a ns tv nv) (ha : a = a') : RdP g w ts a' ns tv nv := by subst ha; exact h
set_option maxHeartbeats 1000000 in
set_option maxRecDepth 100000 in
theorem group_any (g : Nat) (ts : List Tok) (tv : Value) (f a : Nat) (hs : SumP g ts tv f (a + 1)) (w : World) (ns : List Nd) (nv : Value) (h : RdP g w ts a ns tv nv) :
    Calls Tryz.prog 180 #[.pointer (some ⟨g, 0, none⟩)] w (OpPost g ts tv ns nv (grpR (pSum ts f) ts a) w) := by
  have HT := Lib.hid (take_any g w ts a ns tv nv [40] h)
  have hc40 : str [40] = .string ⟨#[40]⟩ := rfl
  have hc41 : str [41] = .string ⟨#[41]⟩ := rfl
  have HS := Lib.hid hs
  have HT2 := Lib.hid (fun W b n v h => take_any g W ts b n tv v [41] h)
  rw [hc40] at HT
  rw [hc41] at HT2
  clear h hs hc40 hc41
  obtain ⟨u1, hu1⟩ : ∃ u, isS ts a [40] = u := ⟨_, rfl⟩
  rw [hu1] at HT
  cases u1
  · have hred : (if false = true then a + 1 else a) = a := rfl
    rw [hred] at HT
    have HD := Lib.hid (grpR_no (p := pSum ts f) hu1)
    clear hred hu1
    go_enter Tryz.func180, Tryz.ntmps180
    go_wp2_with fail
    refine HT.out.mono ?_
    rintro e w1 ⟨rfl, hk, hr⟩
    have HE := Lib.hid (And.intro hk hr)
    clear hk hr
    go_wp2_with fail
    go_ret
    exact OpPost.mkN HD.out HE.out.1 ⟨_, HE.out.2⟩
  · simp only [if_true] at HT
    have HU1 := Lib.hid hu1
    clear hu1
    go_enter Tryz.func180, Tryz.ntmps180
    go_wp2_with fail
    refine HT.out.mono ?_
    rintro e w1 ⟨rfl, hk, hr⟩
    have HK := Lib.hid hk
    have HS1 := Lib.hid (HS.out w1 ns nv hr)
    clear hk hr
    go_wp2_with fail
    refine HS1.out.mono ?_
    intro e w2 hpost
    obtain ⟨r, hr⟩ : ∃ r, pSum ts f (a + 1) = r := ⟨_, rfl⟩
    obtain ⟨_ | x, b⟩ := r
    · obtain ⟨nv1, rfl, hn, hb⟩ := hpost.none_ hr
      have HE := Lib.hid (And.intro (grpR_none HU1.out hr) (And.intro (HK.out.trans hb) hn))
      clear hpost hr hn hb
      go_wp2_with fail
      go_ret
      exact OpPost.mkN HE.out.1 HE.out.2.1 HE.out.2.2
    · obtain ⟨nv1, rfl, hrd, hb⟩ := hpost.some_ hr
      have HE := Lib.hid (And.intro hr (And.intro (HK.out.trans hb) hrd))
      have HT3 := Lib.hid (HT2.out w2 b _ nv1 hrd)
      clear hpost hr hrd hb
      obtain ⟨u2, hu2⟩ : ∃ u, isS ts b [41] = u := ⟨_, rfl⟩
      rw [hu2] at HT3
      cases u2
      · have hred : (if false = true then b + 1 else b) = b := rfl
        rw [hred] at HT3
        have HD := Lib.hid (grpR_bad HU1.out HE.out.1 hu2)
        clear hred hu2
        go_wp2_with fail
        refine HT3.out.mono ?_
        rintro e w3 ⟨rfl, hk3, hr3⟩
        have HF := Lib.hid (And.intro (HE.out.2.1.trans hk3) hr3)
        clear hk3 hr3
        go_wp2_with fail
        go_ret
        exact OpPost.mkN HD.out HF.out.1 ⟨_, HF.out.2⟩
      · simp only [if_true] at HT3
        have HD := Lib.hid (grpR_ok HU1.out HE.out.1 hu2)
        clear hu2
        go_wp2_with fail
        refine HT3.out.mono ?_
        rintro e w3 ⟨rfl, hk3, hr3⟩
        have HF := Lib.hid (And.intro (HE.out.2.1.trans hk3) hr3)
        clear hk3 hr3
        go_wp2_with fail
        go_ret
        exact OpPost.mkS HD.out HF.out.1 HF.out.2
def dval (t : List UInt8) : Nat := t.foldl (fun n c => 10 * n + (c.toNat - 48)) 0
theorem dval_step (t : List UInt8) (i : Nat) (hi : i < t.length) : dval (t.take (i + 1)) = 10 * dval (t.take i) + (t[i].toNat - 48) := by
  unfold dval
  rw [List.take_succ_eq_append_getElem hi, List.foldl_append]
  rfl
theorem dval_le {t : List UInt8} (i : Nat) (h : (t.take i).all (fun c => digN c.toNat) = true) (hl : t.length ≤ 2) : dval (t.take i) ≤ 99 := by
  refine digits2_le (t := t.take i) ?_
  unfold digits2 dval
  rw [if_pos ⟨by rw [List.length_take]; omega, h⟩]
/-- What digits returns. -/
def DigPost (w : World) (r : Option Nat) (e : Ending) (w' : World) : Prop := Ext w w' ∧ match r with
  | some n => e = .returned (.tuple #[.int .i64 (n : Int), .bool true])
  | none => e = .returned (.tuple #[.int .i64 0, .bool false])
set_option maxHeartbeats 2000000 in
set_option maxRecDepth 100000 in
theorem digits_rd (g : Nat) (w : World) (ts : List Tok) (a : Nat) (ns : List Nd) (tv nv : Value) (h : RdP g w ts a ns tv nv) :
    Calls Tryz.prog 160 #[.pointer (some ⟨g, 0, none⟩)] w (DigPost w (expo ts a)) := by
  have hb := h.blk
  have hn := h.row
  obtain ⟨A, c0, rfl, hcell⟩ := h.tok
  obtain ⟨A2, c2, rfl⟩ := hn.shape
  have hle := h.le
  have hmax := h.max
  obtain ⟨k0, k1, k2, _, _, _, hg⟩ := hb.three'
  clear hb hn h
  obtain ⟨n, hnt⟩ : ∃ n, n = ts.length := ⟨_, rfl⟩
  rw [← hnt] at k0 hle hmax
  have HNT := Lib.hid hnt
  clear hnt
  rcases Nat.lt_or_ge a n with hlt | hge
  · have hlt2 : a < ts.length := by rw [← HNT.out]; exact hlt
    obtain ⟨b, rfl, _, _, hc⟩ := hcell (by omega)
    obtain ⟨q0, q1, q2⟩ := hc a hlt2
    have hI : expo ts a = if ts[a].kind = 1 then digits2 ts[a].text else none := by
      unfold expo
      rw [List.getElem?_eq_getElem hlt2]
    clear hcell hc
    generalize ts[a].kind = tk at *
    generalize ts[a].text = tx at *
    have z1 : decide (n ≤ a) = false := decide_eq_false (by omega)
    by_cases hk : tk = 1
    · subst hk
      rw [if_pos rfl] at hI
      by_cases hl2 : tx.length ≤ 2
      · have z2 : decide (2 < tx.length) = false := decide_eq_false (by omega)
        have z3 : ¬ (2 : Int) < (tx.length : Int) := by omega
        obtain ⟨cf, hcf⟩ : ∃ cf : World → Nat, ∀ W : World, (convert 9 65 (str tx)).run Tryz.prog W = .ok (.slice (some ⟨W.heap.size, 0, none⟩) tx.length (cf W)) (bytesAt W tx) ∧ Arr8 (bytesAt W tx) (.slice (some ⟨W.heap.size, 0, none⟩) tx.length (cf W)) tx :=
          ⟨fun W => Classical.choose (run_bytesAt2 W tx (by omega)), fun W => Classical.choose_spec (run_bytesAt2 W tx (by omega))⟩
        have hcv := fun W => (hcf W).1
        have HARR := Lib.hid (fun W => (hcf W).2)
        clear hcf
        go_enter Tryz.func160, Tryz.ntmps160
        go_wp2_with fail
        go_quiet (fail)
        obtain ⟨w1, hw1⟩ : ∃ w1, w1 = w.drewN nq := ⟨_, rfl⟩
        rw [← hw1]
        have hd : Dr w w1 := by rw [hw1]; exact (Dr.refl w).drewN _
        rw [← hd.cell] at k0 k1 k2 q0 q1 q2
        have HD := Lib.hid hd
        clear hw1 hd
        go_upto_region 4 with fail
        have HI := Lib.hid hI
        have hbsz : (bytesAt w1.drew tx).heap.size = (bytesAt w1.drew tx).heap.size := rfl
        have HBX := Lib.hid ((HD.out.ext.trans (Ext.refl w1).drew).trans (bytesAt_ext w1.drew tx))
        have HCL : Hid (∀ j, j < tx.length → (bytesAt w1.drew tx).cell? ⟨w1.heap.size, j, none⟩ = some (.int .u8 (byteAt tx j : Int))) := Lib.hid (fun j hj => bytesAt_cell w1.drew tx j hj)
        clear hbsz hI
        go_region
        clear hcv k0 k1 k2 q0 q1 q2 HARR
        generalize bytesAt w1.drew tx = wb at *
        generalize w1.heap.size = gb at *
        generalize cf w1.drew = cb at *
        go_wp2_with fail
        go_loop [4, 59] (fun s4 s59 => ∃ i : Nat, i ≤ tx.length ∧ s4 = .int .i64 (dval (tx.take i) : Int) ∧ s59 = .int .i64 (i : Int) ∧ Hid ((tx.take i).all (fun c => digN c.toNat) = true)) (fun _ s59 => tx.length - (intOf s59).toNat)
        case atStart => exact ⟨0, Nat.zero_le _, rfl, rfl, Lib.hid rfl⟩
        case round =>
          obtain ⟨i, hi, rfl, rfl, HALL⟩ := hrel
          by_cases hit : i < tx.length
          · have hst := HCL.out i hit
            have hdl := dval_le i HALL.out hl2
            have HST := Lib.hid (dval_step tx i hit)
            have hbe := byteAt_eq tx i hit
            have HTK := Lib.hid (List.take_succ_eq_append_getElem hit)
            have hc256 := byteAt_lt tx i
            have HBE := Lib.hid hbe
            obtain ⟨c, hc⟩ : ∃ c, c = byteAt tx i := ⟨_, rfl⟩
            rw [← hc] at hst hc256
            have HCC := Lib.hid hc
            clear hbe hc
            generalize hdv : dval (tx.take i) = dv at *
            have HDV := Lib.hid hdv
            clear hdv
            by_cases hdg : 48 ≤ c ∧ c ≤ 57
            · have y1 : decide (c < 48) = false := decide_eq_false (by omega)
              have y2 : decide (57 < c) = false := decide_eq_false (by omega)
              have hw1 : IntKind.i64.wrap (10 * (dv : Int)) = ((10 * dv : Nat) : Int) := by rw [IntWalk.i64_in _ (by omega)]; omega
              have hw2 : IntKind.u8.wrap ((c : Int) - 48) = ((c - 48 : Nat) : Int) := by
                have : IntKind.u8.wrap ((c : Int) - 48) = ((c : Int) - 48) % 256 := rfl
                rw [this]
                omega
              have hw3 : IntKind.i64.wrap (((c - 48 : Nat) : Int)) = ((c - 48 : Nat) : Int) := IntWalk.i64_in _ (by omega)
              obtain ⟨p1, hp1⟩ : ∃ p1, p1 = 10 * dv := ⟨_, rfl⟩
              obtain ⟨p2, hp2⟩ : ∃ p2, p2 = c - 48 := ⟨_, rfl⟩
              rw [← hp1] at hw1
              rw [← hp2] at hw2 hw3
              have hw4 : IntKind.i64.wrap ((p1 : Int) + (p2 : Int)) = ((p1 + p2 : Nat) : Int) := by rw [IntWalk.i64_in _ (by omega)]; omega
              obtain ⟨p3, hp3⟩ : ∃ p3, p3 = p1 + p2 := ⟨_, rfl⟩
              rw [← hp3] at hw4
              have HV : Hid (dval (tx.take (i + 1)) = p3) := Lib.hid (by rw [HST.out, ← HBE.out, ← HCC.out, hp3, hp1, hp2])
              have HA2 : Hid ((tx.take (i + 1)).all (fun c => digN c.toNat) = true) := Lib.hid (by
                rw [HTK.out, List.all_append, HALL.out, List.all_cons, List.all_nil, ← HBE.out, ← HCC.out]
                unfold digN
                simp [hdg.1, hdg.2])
              clear hp1 hp2 hp3
              go_wp2_with fail
              go_round
              case rel => exact ⟨i + 1, by omega, by rw [HV.out], by go_num, HA2⟩
              case measure => simp [intOf]; omega
            · have HN : Hid (expo ts a = none) := Lib.hid (by
                rw [HI.out]
                unfold digits2
                rw [if_neg]
                intro hh
                have h2 := List.all_eq_true.1 hh.2 tx[i] (List.getElem_mem hit)
                rw [← HBE.out, ← HCC.out] at h2
                unfold digN at h2
                simp at h2
                omega)
              by_cases hlo : c < 48
              · have y1 : decide (c < 48) = true := decide_eq_true hlo
                clear hdg
                go_wp2_with fail
                go_ret2
                rw [HN.out]
                exact ⟨HBX.out, rfl⟩
              · have y1 : decide (c < 48) = false := decide_eq_false hlo
                have y2 : decide (57 < c) = true := decide_eq_true (by omega)
                have y3 : 57 < c := by omega
                clear hdg
                go_wp2_with fail
                go_ret2
                rw [HN.out]
                exact ⟨HBX.out, rfl⟩
          · obtain rfl : i = tx.length := by omega
            have hal := HALL.out
            rw [List.take_of_length_le (Nat.le_refl _)] at hal
            rw [List.take_of_length_le (Nat.le_refl _)]
            have HN : Hid (expo ts a = some (dval tx)) := Lib.hid (by
              rw [HI.out]
              unfold digits2 dval
              rw [if_pos ⟨hl2, hal⟩])
            generalize dval tx = dv at *
            clear hal
            go_wp2_with fail
            go_ret2
            rw [HN.out]
            exact ⟨HBX.out, rfl⟩
      · have HI : Hid (expo ts a = none) := Lib.hid (by rw [hI]; unfold digits2; rw [if_neg (fun h => hl2 h.1)])
        have z2 : decide (2 < tx.length) = true := decide_eq_true (by omega)
        have z3 : (2 : Int) < (tx.length : Int) := by omega
        clear hI hl2
        go_enter Tryz.func160, Tryz.ntmps160
        go_wp2_with fail
        go_quiet (fail)
        go_wp2_with fail
        go_ret2
        rw [HI.out]
        exact ⟨(Ext.refl w).drewN _, rfl⟩
    · have hk2 : ((tk : Int) != 1) = true := by rw [bne_iff_ne]; omega
      have HI : Hid (expo ts a = none) := Lib.hid (by rw [hI, if_neg hk])
      clear hI hk
      go_enter Tryz.func160, Tryz.ntmps160
      go_wp2_with fail
      go_quiet (fail)
      go_wp2_with fail
      go_ret2
      rw [HI.out]
      exact ⟨(Ext.refl w).drewN _, rfl⟩
  · have HI : Hid (expo ts a = none) := Lib.hid (by
      unfold expo
      rw [List.getElem?_eq_none (by rw [← HNT.out]; exact hge)])
    have z1 : decide (n ≤ a) = true := decide_eq_true hge
    have z2 : (n : Int) ≤ (a : Int) := by omega
    clear hcell
    go_enter Tryz.func160, Tryz.ntmps160
    go_wp2_with fail
    go_quiet (fail)
    go_wp2_with fail
    go_ret2
    rw [HI.out]
    exact ⟨(Ext.refl w).drewN _, rfl⟩
end Big
end Go.Proofs.YtgopljllknbelaaGreatDoor
/- The program's reader: atom. -/
namespace Go.Proofs.YtgopljllknbelaaGreatDoor
namespace Big
open Go.RowKit
/-- A pushed leaf. -/
theorem mk_leaf {g : Nat} {ts : List Tok} {tv nv nv' : Value} {ns : List Nd} {w w' : World} {a k : Nat} {t : List UInt8} {r : Option Ex × Nat} (hr : r = (some (.leaf k t), a + 1)) (hk : KR g nv nv' w w') (h : RdP g w' ts (a + 1) (ns ++ [⟨(k : Int), 0, 0, 0, t⟩]) tv nv') : OpPost g ts tv ns nv r w (.returned (.bool true)) w' := OpPost.mkS hr hk h
set_option maxHeartbeats 4000000 in
set_option maxRecDepth 100000 in
theorem atom_any (g : Nat) (ts : List Tok) (tv : Value) (f a : Nat) (hs : ∀ a', a < a' → SumP g ts tv f a') (w : World) (ns : List Nd) (nv : Value) (h : RdP g w ts a ns tv nv) :
    Calls Tryz.prog 159 #[.pointer (some ⟨g, 0, none⟩)] w (OpPost g ts tv ns nv (pAtom (pSum ts f) ts a) w) := by
  have H := Lib.hid h
  have HS := Lib.hid hs
  have hb := h.blk
  have hn := h.row
  obtain ⟨A, c0, rfl, hcell⟩ := h.tok
  obtain ⟨A2, c2, rfl⟩ := hn.shape
  have hle := h.le
  have hmax := h.max
  have hfew := h.few
  obtain ⟨k0, k1, k2, f0, f1, f2, hg⟩ := hb.three'
  clear hb hn h hs
  obtain ⟨n, hnt⟩ : ∃ n, n = ts.length := ⟨_, rfl⟩
  rw [← hnt] at k0 hle hmax
  have HNT := Lib.hid hnt
  clear hnt
  rcases Nat.lt_or_ge a n with hlt | hge
  · have hlt2 : a < ts.length := by rw [← HNT.out]; exact hlt
    obtain ⟨b, rfl, hbg, _, hc⟩ := hcell (by omega)
    obtain ⟨q0, q1, q2⟩ := hc a hlt2
    have hI : ∀ p, pAtom p ts a = (if ts[a].kind = 3 then grpR p ts a
      else if ts[a].kind = 1 then (some (.leaf 1 ts[a].text), a + 1)
      else if funcK ts[a].text ≠ 0 then (match grpR p ts (a + 1) with | (none, b) => (none, b) | (some x, b) => (some (.un (funcK ts[a].text) 0 x), b))
      else if ts[a].text = [112, 105] then (some (.leaf 3 []), a + 1)
      else if ts[a].text = [101] then (some (.leaf 4 []), a + 1)
      else (some (.leaf 2 ts[a].text), a + 1)) := fun p => by
      have hs : isS ts a [40] = ((ts[a].kind == 3) && (ts[a].text == [40])) := by
        unfold isS
        rw [List.getElem?_eq_getElem hlt2]
      unfold pAtom
      rw [List.getElem?_eq_getElem hlt2]
      simp only
      by_cases h3 : ts[a].kind = 3
      · rw [if_pos h3, if_pos h3]
        unfold grpR
        rw [hs, h3]
        by_cases h4 : ts[a].text = [40]
        · rw [if_pos h4, h4]; rfl
        · rw [if_neg h4, if_neg (by simp [h4])]
      · rw [if_neg h3, if_neg h3]
        split
        · rfl
        · split
          · unfold grpR
            by_cases h5 : isS ts (a + 1) [40] = true
            · rw [if_pos h5, if_pos h5]
              rcases p (a + 1 + 1) with ⟨_ | x, b⟩
              · rfl
              · simp only
                by_cases h6 : isS ts b [41] = true
                · rw [if_pos h6, if_pos h6]
                · rw [if_neg h6, if_neg h6]
            · rw [if_neg h5, if_neg h5]
          · rfl
    have HP := Lib.hid (hI (pSum ts f))
    clear hI hcell hc
    generalize ts[a].kind = tk at *
    generalize ts[a].text = tx at *
    generalize ts[a].at_ = ta at *
    generalize hR : pAtom (pSum ts f) ts a = R at *
    clear hR
    have z1 : decide (n ≤ a) = false := decide_eq_false (by omega)
    have z2 : ¬ (n : Int) ≤ (a : Int) := by omega
    go_enter Tryz.func159, Tryz.ntmps159
    go_wp2_with fail
    go_region
    go_upto_region 3 with fail
    go_region
    obtain ⟨w1, hw1⟩ : ∃ w1, w1 = (w.alloc (.cells #[.int .i64 (tk : Int), .int .i64 (ta : Int), str tx] 79)).drew.drew := ⟨_, rfl⟩
    rw [← hw1]
    have hx1 : Ext w w1 := by rw [hw1]; exact (((Ext.refl w).alloc _).drew).drew
    have hb1 : Blk w1 w.heap.size 79 #[.int .i64 (tk : Int), .int .i64 (ta : Int), str tx] := by rw [hw1]; exact (Blk.new w _ _).drew.drew
    have HR1 := Lib.hid (H.out.keep hx1)
    have HX1 := Lib.hid hx1
    have HB1 := Lib.hid hb1
    obtain ⟨j0, j1, j2, _⟩ := hb1.three'
    have hblk1 := (H.out.keep hx1).blk
    obtain ⟨k0, k1, k2, f0, f1, f2, hg1⟩ := hblk1.three'
    clear hw1 hx1 hb1 hblk1 q0 q1 q2 z1 z2
    generalize hgt : w.heap.size = gt at *
    have HGT : Hid (g < gt) := Lib.hid hg
    clear hgt
    by_cases h3 : tk = 3
    · subst h3
      have HRG : Hid (R = grpR (pSum ts f) ts a) := Lib.hid (by rw [HP.out, if_pos rfl])
      have HGR := Lib.hid (group_any g ts _ f a (HS.out (a + 1) (by omega)) w1 ns _ HR1.out)
      clear HP HS
      go_wp2_with fail
      refine HGR.out.mono ?_
      intro e w2 hpost
      obtain ⟨r, hr⟩ : ∃ r, grpR (pSum ts f) ts a = r := ⟨_, rfl⟩
      obtain ⟨_ | x, b2⟩ := r
      · obtain ⟨nv1, rfl, hn, hk⟩ := hpost.none_ hr
        have HE := Lib.hid (And.intro (HRG.out.trans hr) (And.intro ((KR.of_ext HX1.out).trans hk) hn))
        clear hpost hr hn hk
        go_wp2_with fail
        go_ret
        exact OpPost.mkN HE.out.1 HE.out.2.1 HE.out.2.2
      · obtain ⟨nv1, rfl, hrd, hk⟩ := hpost.some_ hr
        have HE := Lib.hid (And.intro (HRG.out.trans hr) (And.intro ((KR.of_ext HX1.out).trans hk) hrd))
        clear hpost hr hrd hk
        go_wp2_with fail
        go_ret
        exact OpPost.mkS HE.out.1 HE.out.2.1 HE.out.2.2
    · have h3b : ((tk : Int) == 3) = false := by rw [beq_eq_false_iff_ne]; omega
      have hw1 : IntKind.i64.wrap ((a : Int) + 1) = (a : Int) + 1 := IntWalk.i64_in _ (by omega)
      have HP2 : Hid (R = (if tk = 1 then (some (.leaf 1 tx), a + 1)
          else if funcK tx ≠ 0 then (match grpR (pSum ts f) ts (a + 1) with | (none, b) => (none, b) | (some x, b) => (some (.un (funcK tx) 0 x), b))
          else if tx = [112, 105] then (some (.leaf 3 []), a + 1)
          else if tx = [101] then (some (.leaf 4 []), a + 1)
          else (some (.leaf 2 tx), a + 1))) := Lib.hid (by rw [HP.out, if_neg h3])
      clear HP h3
      go_upto_region 7 with fail
      have hst := HR1.out.step hlt2
      obtain ⟨w2, hw2⟩ : ∃ w2, w2 = w1.setCell ⟨g, 1, none⟩ (.int .i64 ((a : Int) + 1)) := ⟨_, rfl⟩
      rw [← hw2] at hst ⊢
      have hb2 : Blk w2 gt 79 #[.int .i64 (tk : Int), .int .i64 (ta : Int), str tx] := by
        rw [hw2]
        exact HB1.out.far (p := ⟨g, 1, none⟩) (by show gt ≠ g; have := HGT.out; omega) _
      have HR2 := Lib.hid hst.1
      have HK2 := Lib.hid ((KR.of_ext HX1.out).trans hst.2)
      obtain ⟨j0, j1, j2, _⟩ := hb2.three'
      have HFN := Lib.hid (function_any w2 tx)
      clear hst hw2 hb2 k0 k1 k2 f0 f1 f2
      generalize hfk : funcK tx = fk at *
      go_wp2_with fail
      refine HFN.out.mono ?_
      rintro e w3 ⟨rfl, rfl⟩
      by_cases h1 : tk = 1
      · subst h1
        have HRG : Hid (R = (some (.leaf 1 tx), a + 1)) := Lib.hid (by rw [HP2.out, if_pos rfl])
        have HA := Lib.hid (add_any g w2 ts (a + 1) ns _ _ ⟨1, 0, 0, 0, tx⟩ HR2.out (by omega))
        simp only [ndV] at HA
        clear HP2
        go_wp2_with fail
        refine HA.out.mono ?_
        rintro e w4 ⟨nv2, rfl, hk4, hr4⟩
        have HE := Lib.hid (And.intro (HK2.out.trans hk4) hr4)
        clear hk4 hr4
        go_wp2_with fail
        go_ret
        exact mk_leaf HRG.out HE.out.1 HE.out.2
      · have h1b : ((tk : Int) == 1) = false := by rw [beq_eq_false_iff_ne]; omega
        by_cases hf0 : fk = 0
        · have hfb : ((fk : Int) != 0) = false := by rw [hf0]; rfl
          have HP3 : Hid (R = (if tx = [112, 105] then (some (.leaf 3 []), a + 1)
            else if tx = [101] then (some (.leaf 4 []), a + 1)
            else (some (.leaf 2 tx), a + 1))) := Lib.hid (by rw [HP2.out, if_neg h1, if_neg (by omega)])
          clear HP2 h1 hf0 hfk
          by_cases hpi : tx = [112, 105]
          · have hpb : (tx == [112, 105]) = true := by rw [beq_iff_eq]; exact hpi
            have HRG : Hid (R = (some (.leaf 3 []), a + 1)) := Lib.hid (by rw [HP3.out, if_pos hpi])
            have HA := Lib.hid (add_any g w2 ts (a + 1) ns _ _ ⟨3, 0, 0, 0, []⟩ HR2.out (by omega))
            simp only [ndV] at HA
            rw [show str [] = .string ⟨#[]⟩ from rfl] at HA
            clear HP3 hpi
            go_wp2_with fail
            refine HA.out.mono ?_
            rintro e w4 ⟨nv2, rfl, hk4, hr4⟩
            have HE := Lib.hid (And.intro (HK2.out.trans hk4) hr4)
            clear hk4 hr4
            go_wp2_with fail
            go_ret
            exact mk_leaf HRG.out HE.out.1 HE.out.2
          · have hpb : (tx == [112, 105]) = false := by rw [beq_eq_false_iff_ne]; exact hpi
            by_cases he : tx = [101]
            · have heb : (tx == [101]) = true := by rw [beq_iff_eq]; exact he
              have HRG : Hid (R = (some (.leaf 4 []), a + 1)) := Lib.hid (by rw [HP3.out, if_neg hpi, if_pos he])
              have HA := Lib.hid (add_any g w2 ts (a + 1) ns _ _ ⟨4, 0, 0, 0, []⟩ HR2.out (by omega))
              simp only [ndV] at HA
              rw [show str [] = .string ⟨#[]⟩ from rfl] at HA
              clear HP3 hpi he
              go_wp2_with fail
              refine HA.out.mono ?_
              rintro e w4 ⟨nv2, rfl, hk4, hr4⟩
              have HE := Lib.hid (And.intro (HK2.out.trans hk4) hr4)
              clear hk4 hr4
              go_wp2_with fail
              go_ret
              exact mk_leaf HRG.out HE.out.1 HE.out.2
            · have heb : (tx == [101]) = false := by rw [beq_eq_false_iff_ne]; exact he
              have HRG : Hid (R = (some (.leaf 2 tx), a + 1)) := Lib.hid (by rw [HP3.out, if_neg hpi, if_neg he])
              have HA := Lib.hid (add_any g w2 ts (a + 1) ns _ _ ⟨2, 0, 0, 0, tx⟩ HR2.out (by omega))
              simp only [ndV] at HA
              clear HP3 hpi he
              go_wp2_with fail
              refine HA.out.mono ?_
              rintro e w4 ⟨nv2, rfl, hk4, hr4⟩
              have HE := Lib.hid (And.intro (HK2.out.trans hk4) hr4)
              clear hk4 hr4
              go_wp2_with fail
              go_ret
              exact mk_leaf HRG.out HE.out.1 HE.out.2
        · have hfb : ((fk : Int) != 0) = true := by rw [bne_iff_ne]; omega
          have HP3 : Hid (R = (match grpR (pSum ts f) ts (a + 1) with | (none, b) => (none, b) | (some x, b) => (some (.un fk 0 x), b))) := Lib.hid (by rw [HP2.out, if_neg h1, if_pos hf0])
          have HGR := Lib.hid (group_any g ts _ f (a + 1) (HS.out (a + 1 + 1) (by omega)) w2 ns _ HR2.out)
          have hgp : PGood ts (a + 1) (grpR (pSum ts f) ts (a + 1)) := by
            intro hle1
            have hp := pSum_good ts f
            unfold grpR
            split
            · rename_i hs1
              have hl1 := isS_lt hs1
              have h2 := hp (a + 1 + 1) (by omega)
              split
              · rename_i b3 hb3
                rw [hb3] at h2
                simp only at h2 ⊢
                exact ⟨by omega, h2.2.1, fun x hx => by cases hx⟩
              · rename_i x b3 hb3
                rw [hb3] at h2
                have h4 := h2.2.2 x rfl
                simp only at h2 h4 ⊢
                split
                · rename_i hs2
                  have := isS_lt hs2
                  simp only
                  refine ⟨by omega, by omega, fun y hy => ?_⟩
                  have : x = y := Option.some.inj hy
                  subst this
                  omega
                · simp only
                  exact ⟨by omega, by omega, fun y hy => by cases hy⟩
            · exact ⟨Nat.le_refl _, hle1, fun x hx => by cases hx⟩
          have HGP := Lib.hid hgp
          clear HP2 h1 hf0 hfk hgp HS
          go_wp2_with fail
          refine HGR.out.mono ?_
          intro e w4 hpost
          obtain ⟨r, hr⟩ : ∃ r, grpR (pSum ts f) ts (a + 1) = r := ⟨_, rfl⟩
          obtain ⟨_ | x, b2⟩ := r
          · obtain ⟨nv1, rfl, hn, hk⟩ := hpost.none_ hr
            have HE := Lib.hid (And.intro (show R = (none, b2) by rw [HP3.out, hr]) (And.intro (HK2.out.trans hk) hn))
            clear hpost hr hn hk
            go_wp2_with fail
            go_ret
            exact OpPost.mkN HE.out.1 HE.out.2.1 HE.out.2.2
          · obtain ⟨nv1, rfl, hrd, hk⟩ := hpost.some_ hr
            have hgl := HGP.out (by omega)
            rw [hr] at hgl
            have hgx := hgl.2.2 x rfl
            simp only at hgl hgx
            have hxp := x.size_pos
            have HE := Lib.hid (And.intro (show R = (some (.un fk 0 x), b2) by rw [HP3.out, hr]) (HK2.out.trans hk))
            obtain ⟨n1, hn1⟩ : ∃ n1, n1 = (ns ++ flat ns.length x).length := ⟨_, rfl⟩
            have HN1 := Lib.hid hn1
            have HL4 : Hid (Calls Tryz.prog 107 #[.pointer (some ⟨g, 0, none⟩)] w4 fun e w' => e = .returned (.int .i64 ((n1 : Int) - 1)) ∧ w4 = w') := Lib.hid (by rw [hn1]; exact last_any g w4 ts b2 _ _ nv1 hrd)
            have HA := Lib.hid (add_any g w4 ts b2 _ _ nv1 ⟨(fk : Int), (n1 : Int) - 1, 0, 0, []⟩ hrd (by rw [nds_len]; omega))
            simp only [ndV] at HA
            rw [show str [] = .string ⟨#[]⟩ from rfl] at HA
            clear hpost hr hrd hk hn1 hgl hgx
            go_wp2_with fail
            refine HL4.out.mono ?_
            rintro e w5 ⟨rfl, rfl⟩
            go_wp2_with fail
            refine HA.out.mono ?_
            rintro e w5 ⟨nv2, rfl, hk5, hr5⟩
            have HF : Hid (RdP g w5 ts b2 (ns ++ flat ns.length (.un fk 0 x)) _ nv2) := Lib.hid (by
              have h6 := hr5
              rw [HN1.out, nds_len] at h6
              rw [flat, ← List.append_assoc, show ((ns.length + x.size - 1 : Nat) : Int) = ((ns.length + x.size : Nat) : Int) - 1 by omega]
              exact h6)
            have HK5 := Lib.hid (HE.out.2.trans hk5)
            clear hk5 hr5
            go_wp2_with fail
            go_ret
            exact OpPost.mkS HE.out.1 HK5.out HF.out
  · have HI : Hid (pAtom (pSum ts f) ts a = (none, a)) := Lib.hid (by
      unfold pAtom
      rw [List.getElem?_eq_none (by rw [← HNT.out]; exact hge)])
    have z1 : decide (n ≤ a) = true := decide_eq_true hge
    have z2 : (n : Int) ≤ (a : Int) := by omega
    clear hcell
    go_enter Tryz.func159, Tryz.ntmps159
    go_wp2_with fail
    go_region
    go_wp2_with fail
    go_ret
    exact OpPost.mkN HI.out (KR.of_ext (Ext.refl w).drew) ⟨_, H.out.keep (Ext.refl w).drew⟩
end Big
end Go.Proofs.YtgopljllknbelaaGreatDoor
/- The program's reader: power, minus, product, sum. -/
namespace Go.Proofs.YtgopljllknbelaaGreatDoor
namespace Big
open Go.RowKit
section
variable {p : Nat → Option Ex × Nat} {ts : List Tok} {a b n : Nat} {x : Ex}
theorem pPower_none (h : pAtom p ts a = (none, b)) : pPower p ts a = (none, b) := by unfold pPower; rw [h]
theorem pPower_plain (h : pAtom p ts a = (some x, b)) (h1 : isS ts b [94] = false) : pPower p ts a = (some x, b) := atom_up h h1
theorem pPower_neg (h : pAtom p ts a = (some x, b)) (h1 : isS ts b [94] = true) (h2 : isS ts (b + 1) [45] = true) (h3 : expo ts (b + 2) = some n) : pPower p ts a = (some (.un 10 (-(n : Int)) x), b + 3) := by
  unfold pPower; rw [h]; simp only; rw [if_pos h1, if_pos h2, h3]
theorem pPower_negbad (h : pAtom p ts a = (some x, b)) (h1 : isS ts b [94] = true) (h2 : isS ts (b + 1) [45] = true) (h3 : expo ts (b + 2) = none) : pPower p ts a = (none, b + 2) := by
  unfold pPower; rw [h]; simp only; rw [if_pos h1, if_pos h2, h3]
theorem pPower_pos (h : pAtom p ts a = (some x, b)) (h1 : isS ts b [94] = true) (h2 : isS ts (b + 1) [45] = false) (h3 : expo ts (b + 1) = some n) : pPower p ts a = (some (.un 10 (n : Int) x), b + 2) := by
  unfold pPower; rw [h]; simp only; rw [if_pos h1, if_neg (by rw [h2]; simp), h3]
theorem pPower_posbad (h : pAtom p ts a = (some x, b)) (h1 : isS ts b [94] = true) (h2 : isS ts (b + 1) [45] = false) (h3 : expo ts (b + 1) = none) : pPower p ts a = (none, b + 1) := by
  unfold pPower; rw [h]; simp only; rw [if_pos h1, if_neg (by rw [h2]; simp), h3]
theorem DigPost.some_ {w w' : World} {e : Ending} {r : Option Nat} (h : DigPost w r e w') (hr : r = some n) : e = .returned (.tuple #[.int .i64 (n : Int), .bool true]) ∧ Ext w w' := by subst hr; exact ⟨h.2, h.1⟩
theorem DigPost.none_ {w w' : World} {e : Ending} {r : Option Nat} (h : DigPost w r e w') (hr : r = none) : e = .returned (.tuple #[.int .i64 0, .bool false]) ∧ Ext w w' := by subst hr; exact ⟨h.2, h.1⟩
theorem flat_un_snoc (off k : Nat) (z : Int) : flat off (.un k z x) = flat off x ++ [⟨(k : Int), ((off + x.size - 1 : Nat) : Int), 0, z, []⟩] := rfl
/-- A node over the last operand has been added. -/
theorem un_added {g : Nat} {tv nv : Value} {ns : List Nd} {w : World} {k n1 : Nat} {z : Int} (hn : n1 = (ns ++ flat ns.length x).length) (h : RdP g w ts b ((ns ++ flat ns.length x) ++ [⟨(k : Int), (n1 : Int) - 1, 0, z, []⟩]) tv nv) : RdP g w ts b (ns ++ flat ns.length (.un k z x)) tv nv := by
  have hx := x.size_pos
  rw [hn, nds_len] at h
  rw [flat_un_snoc, ← List.append_assoc, show ((ns.length + x.size - 1 : Nat) : Int) = ((ns.length + x.size : Nat) : Int) - 1 by omega]
  exact h
end
set_option maxHeartbeats 4000000 in
set_option maxRecDepth 100000 in
theorem power_any (g : Nat) (ts : List Tok) (tv : Value) (f a : Nat) (hs : ∀ a', a < a' → SumP g ts tv f a') (w : World) (ns : List Nd) (nv : Value) (h : RdP g w ts a ns tv nv) :
    Calls Tryz.prog 138 #[.pointer (some ⟨g, 0, none⟩)] w (OpPost g ts tv ns nv (pPower (pSum ts f) ts a) w) := by
  have HAT := Lib.hid (atom_any g ts tv f a hs w ns nv h)
  have hga := pAtom_good (pSum_good ts f) a h.le
  have hfew := h.few
  have hmax := h.max
  clear h hs
  have hc94 : str [94] = .string ⟨#[94]⟩ := rfl
  have hc45 : str [45] = .string ⟨#[45]⟩ := rfl
  have HT94 := Lib.hid (fun W b n v h => take_any g W ts b n tv v [94] h)
  have HT45 := Lib.hid (fun W b n v h => take_any g W ts b n tv v [45] h)
  rw [hc94] at HT94
  rw [hc45] at HT45
  clear hc94 hc45
  go_enter Tryz.func138, Tryz.ntmps138
  go_wp2_with fail
  refine HAT.out.mono ?_
  intro e w1 hpost
  obtain ⟨r, hr⟩ : ∃ r, pAtom (pSum ts f) ts a = r := ⟨_, rfl⟩
  rw [hr] at hga
  obtain ⟨_ | x, b⟩ := r
  · obtain ⟨nv1, rfl, hn, hk⟩ := hpost.none_ hr
    have HE := Lib.hid (And.intro (pPower_none hr) (And.intro hk hn))
    clear hpost hr hn hk
    go_wp2_with fail
    go_ret
    exact OpPost.mkN HE.out.1 HE.out.2.1 HE.out.2.2
  · obtain ⟨nv1, rfl, hrd, hk⟩ := hpost.some_ hr
    have hgx := hga.2.2 x rfl
    have hgl := hga.2.1
    simp only at hgx hgl
    have HR := Lib.hid hr
    have HK := Lib.hid hk
    have HT := Lib.hid (HT94.out w1 b _ nv1 hrd)
    clear hpost hr hrd hk hga
    obtain ⟨u1, hu1⟩ : ∃ u, isS ts b [94] = u := ⟨_, rfl⟩
    rw [hu1] at HT
    cases u1
    · have hred : (if false = true then b + 1 else b) = b := rfl
      rw [hred] at HT
      have HD := Lib.hid (pPower_plain HR.out hu1)
      clear hred hu1
      go_wp2_with fail
      refine HT.out.mono ?_
      rintro e w2 ⟨rfl, hk2, hr2⟩
      have HE := Lib.hid (And.intro (HK.out.trans hk2) hr2)
      clear hk2 hr2
      go_wp2_with fail
      go_ret
      exact OpPost.mkS HD.out HE.out.1 HE.out.2
    · simp only [if_true] at HT
      have hlb := isS_lt hu1
      have HU1 := Lib.hid hu1
      clear hu1
      go_wp2_with fail
      refine HT.out.mono ?_
      rintro e w2 ⟨rfl, hk2, hr2⟩
      have HK2 := Lib.hid (HK.out.trans hk2)
      have HM := Lib.hid (HT45.out w2 (b + 1) _ nv1 hr2)
      clear hk2 hr2
      obtain ⟨u2, hu2⟩ : ∃ u, isS ts (b + 1) [45] = u := ⟨_, rfl⟩
      rw [hu2] at HM
      cases u2
      · have hred : (if false = true then b + 1 + 1 else b + 1) = b + 1 := rfl
        rw [hred] at HM
        have HU2 := Lib.hid hu2
        clear hred hu2
        go_wp2_with fail
        refine HM.out.mono ?_
        rintro e w3 ⟨rfl, hk3, hr3⟩
        have HK3 := Lib.hid (HK2.out.trans hk3)
        have HR3 := Lib.hid hr3
        have HDG := Lib.hid (digits_rd g w3 ts (b + 1) _ tv nv1 hr3)
        clear hk3 hr3
        go_wp2_with fail
        refine HDG.out.mono ?_
        intro e w4 hpost
        obtain ⟨r, hr⟩ : ∃ r, expo ts (b + 1) = r := ⟨_, rfl⟩
        cases r with
        | none =>
          obtain ⟨rfl, hx4⟩ := hpost.none_ hr
          have HE := Lib.hid (And.intro (pPower_posbad HR.out HU1.out HU2.out hr) (And.intro (HK3.out.trans (KR.of_ext hx4)) (HR3.out.keep hx4)))
          clear hpost hr hx4
          go_wp2_with fail
          go_ret
          exact OpPost.mkN HE.out.1 HE.out.2.1 ⟨_, HE.out.2.2⟩
        | some n =>
          obtain ⟨rfl, hx4⟩ := hpost.some_ hr
          have hn99 := expo_le hr
          have hlt1 := expo_lt hr
          have HPP := Lib.hid (pPower_pos HR.out HU1.out HU2.out hr)
          have hr4 := HR3.out.keep hx4
          have HK4 := Lib.hid (HK3.out.trans (KR.of_ext hx4))
          have HR4 := Lib.hid hr4
          obtain ⟨k0, k1, k2, f0, f1, f2, hg1⟩ := hr4.blk.three'
          have hwb : IntKind.i64.wrap (((b + 1 : Nat) : Int) + 1) = ((b + 1 : Nat) : Int) + 1 := IntWalk.i64_in _ (by omega)
          clear hpost hr hx4 hr4
          generalize hb1 : b + 1 = b1 at *
          go_upto_region 12 with fail
          have hst := HR4.out.step hlt1
          generalize w4.setCell ⟨g, 1, none⟩ (.int .i64 ((b1 : Int) + 1)) = w5 at *
          have HK5 := Lib.hid (HK4.out.trans hst.2)
          obtain ⟨n1, hn1⟩ : ∃ n1, n1 = (ns ++ flat ns.length x).length := ⟨_, rfl⟩
          have HN1 := Lib.hid hn1
          have HL : Hid (Calls Tryz.prog 107 #[.pointer (some ⟨g, 0, none⟩)] w5 fun e w' => e = .returned (.int .i64 ((n1 : Int) - 1)) ∧ w5 = w') := Lib.hid (by rw [hn1]; exact last_any g w5 ts (b1 + 1) _ _ nv1 hst.1)
          have HA := Lib.hid (add_any g w5 ts (b1 + 1) _ _ nv1 ⟨10, (n1 : Int) - 1, 0, (n : Int), []⟩ hst.1 (by rw [nds_len]; omega))
          simp only [ndV] at HA
          rw [show str [] = .string ⟨#[]⟩ from rfl] at HA
          clear hst hn1 k0 k1 k2 f0 f1 f2 hwb
          go_wp2_with fail
          refine HL.out.mono ?_
          rintro e w6 ⟨rfl, rfl⟩
          go_wp2_with fail
          refine HA.out.mono ?_
          rintro e w6 ⟨nv2, rfl, hk6, hr6⟩
          have HF := Lib.hid (And.intro (HK5.out.trans hk6) (un_added (k := 10) HN1.out hr6))
          have HQ : Hid (b1 + 1 = b + 2) := Lib.hid (by omega)
          clear hk6 hr6
          go_wp2_with fail
          go_ret
          exact OpPost.mkS HPP.out HF.out.1 (by rw [← HQ.out]; exact HF.out.2)
      · simp only [if_true] at HM
        have hlb2 := isS_lt hu2
        have HU2 := Lib.hid hu2
        clear hu2
        go_wp2_with fail
        refine HM.out.mono ?_
        rintro e w3 ⟨rfl, hk3, hr3⟩
        have HK3 := Lib.hid (HK2.out.trans hk3)
        have HR3 := Lib.hid hr3
        have HDG := Lib.hid (digits_rd g w3 ts (b + 1 + 1) _ tv nv1 hr3)
        clear hk3 hr3
        go_wp2_with fail
        refine HDG.out.mono ?_
        intro e w4 hpost
        obtain ⟨r, hr⟩ : ∃ r, expo ts (b + 1 + 1) = r := ⟨_, rfl⟩
        cases r with
        | none =>
          obtain ⟨rfl, hx4⟩ := hpost.none_ hr
          have HE := Lib.hid (And.intro (pPower_negbad HR.out HU1.out HU2.out hr) (And.intro (HK3.out.trans (KR.of_ext hx4)) (HR3.out.keep hx4)))
          clear hpost hr hx4
          go_wp2_with fail
          go_ret
          exact OpPost.mkN HE.out.1 HE.out.2.1 ⟨_, HE.out.2.2⟩
        | some n =>
          obtain ⟨rfl, hx4⟩ := hpost.some_ hr
          have hn99 := expo_le hr
          have hlt1 := expo_lt hr
          have HPP := Lib.hid (pPower_neg HR.out HU1.out HU2.out hr)
          have hr4 := HR3.out.keep hx4
          have HK4 := Lib.hid (HK3.out.trans (KR.of_ext hx4))
          have HR4 := Lib.hid hr4
          obtain ⟨k0, k1, k2, f0, f1, f2, hg1⟩ := hr4.blk.three'
          have hwb : IntKind.i64.wrap (((b + 1 + 1 : Nat) : Int) + 1) = ((b + 1 + 1 : Nat) : Int) + 1 := IntWalk.i64_in _ (by omega)
          obtain ⟨z, hz⟩ : ∃ z : Int, z = -(n : Int) := ⟨_, rfl⟩
          have hwn : IntKind.i64.wrap (-(n : Int)) = z := by rw [IntWalk.i64_in _ (by omega), hz]
          have HZ := Lib.hid hz
          clear hpost hr hx4 hr4 hz
          generalize hb1 : b + 1 + 1 = b1 at *
          go_upto_region 12 with fail
          have hst := HR4.out.step hlt1
          generalize w4.setCell ⟨g, 1, none⟩ (.int .i64 ((b1 : Int) + 1)) = w5 at *
          have HK5 := Lib.hid (HK4.out.trans hst.2)
          obtain ⟨n1, hn1⟩ : ∃ n1, n1 = (ns ++ flat ns.length x).length := ⟨_, rfl⟩
          have HN1 := Lib.hid hn1
          have HL : Hid (Calls Tryz.prog 107 #[.pointer (some ⟨g, 0, none⟩)] w5 fun e w' => e = .returned (.int .i64 ((n1 : Int) - 1)) ∧ w5 = w') := Lib.hid (by rw [hn1]; exact last_any g w5 ts (b1 + 1) _ _ nv1 hst.1)
          have HA := Lib.hid (add_any g w5 ts (b1 + 1) _ _ nv1 ⟨10, (n1 : Int) - 1, 0, z, []⟩ hst.1 (by rw [nds_len]; omega))
          simp only [ndV] at HA
          rw [show str [] = .string ⟨#[]⟩ from rfl] at HA
          clear hst hn1 k0 k1 k2 f0 f1 f2 hwb
          go_wp2_with fail
          refine HL.out.mono ?_
          rintro e w6 ⟨rfl, rfl⟩
          go_wp2_with fail
          refine HA.out.mono ?_
          rintro e w6 ⟨nv2, rfl, hk6, hr6⟩
          have HF := Lib.hid (And.intro (HK5.out.trans hk6) (un_added (k := 10) HN1.out hr6))
          have HQ : Hid (b1 + 1 = b + 3) := Lib.hid (by omega)
          clear hk6 hr6
          go_wp2_with fail
          go_ret
          exact OpPost.mkS HPP.out HF.out.1 (by rw [← HQ.out, ← HZ.out]; exact HF.out.2)
end Big
end Go.Proofs.YtgopljllknbelaaGreatDoor
