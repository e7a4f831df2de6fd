import Derived.Test.YtgopljllknbelaaGreatDoorM26
import Derived.Test.YtgopljllknbelaaGreatDoorM24
import Derived.Test.YtgopljllknbelaaGreatDoorM15
import Derived.Test.YtgopljllknbelaaGreatDoorM10
import Derived.Test.YtgopljllknbelaaGreatDoorM16
import Derived.Test.YtgopljllknbelaaGreatDoorM18
/- Tokens that are written one behind the other are read again. Plain. -/
namespace Go.Proofs.YtgopljllknbelaaGreatDoor
namespace Big
/-- A byte at which words and numbers end. -/
def endB (c : UInt8) : Bool := !(wordN c.toNat) && !(numN c.toNat)
theorem run_halt2 (p : Nat → Bool) (m : List UInt8) (rest : List UInt8) (hr : ∀ c r, rest = c :: r → p c.toNat = false) : runLen p (m.take (runLen p m) ++ rest) = runLen p m := by
  have h0 : runLen p rest = 0 := by
    cases rest with
    | nil => rfl
    | cons c r => rw [runLen, if_neg (by rw [hr c r rfl]; simp)]
  induction m with
  | nil => exact h0
  | cons c t ih =>
    rw [runLen]
    by_cases hc : p c.toNat = true
    · rw [if_pos hc, List.take_succ_cons, List.cons_append, runLen, if_pos hc, ih]
    · rw [if_neg hc]
      exact h0
/-- What a token's text is. -/
def TokFine (t : Tok) : Prop :=
  (t.kind = 1 ∧ code7 t.text = 0 ∧ runLen numN t.text = t.text.length ∧ digN (t.text.getD 0 0).toNat = true ∧ 1 ≤ t.text.length) ∨
  (t.kind = 2 ∧ runLen wordN t.text = t.text.length ∧ letN (t.text.getD 0 0).toNat = true ∧ 1 ≤ t.text.length ∧ t.text.length ≤ 24) ∨
  (t.kind = 3 ∧ ∃ c : UInt8, t.text = [c] ∧ signN c.toNat = true)
theorem take_run (p : Nat → Bool) (m : List UInt8) : runLen p (m.take (runLen p m)) = (m.take (runLen p m)).length := by
  have h1 := run_halt2 p m [] (fun c r h => by cases h)
  rw [List.append_nil] at h1
  have := runLen_le p m
  rw [h1, List.length_take]
  omega
theorem tokLen_fine {m : List UInt8} {k n : Nat} (h : tokLen m = some (k, n)) (a : Nat) : TokFine ⟨k, a, m.take n⟩ := by
  have hn := tokLen_pos h
  unfold tokLen at h
  split at h
  · cases h
  · rename_i c t
    split at h
    · rename_i hc
      split at h
      · rename_i h24
        injection h with h
        injection h with h1 h2
        subst h1
        subst h2
        refine .inr (.inl ⟨rfl, take_run _ _, ?_, ?_, ?_⟩)
        · obtain ⟨n', hn'⟩ : ∃ n', runLen wordN (c :: t) = n' + 1 := ⟨runLen wordN (c :: t) - 1, by omega⟩
          simp only
          rw [hn', List.take_succ_cons]
          exact hc
        · simp only; rw [List.length_take]; omega
        · simp only; rw [List.length_take]; omega
      · cases h
    · split at h
      · rename_i hd
        split at h
        · rename_i h7
          injection h with h
          injection h with h1 h2
          subst h1
          subst h2
          refine .inl ⟨rfl, h7, take_run _ _, ?_, ?_⟩
          · obtain ⟨n', hn'⟩ : ∃ n', runLen numN (c :: t) = n' + 1 := ⟨runLen numN (c :: t) - 1, by omega⟩
            simp only
            rw [hn', List.take_succ_cons]
            exact hd
          · simp only; rw [List.length_take]; omega
        · cases h
      · split at h
        · rename_i hs
          injection h with h
          injection h with h1 h2
          subst h1
          subst h2
          exact .inr (.inr ⟨rfl, c, rfl, hs⟩)
        · cases h
theorem scanF_fine (f : Nat) (l : List UInt8) : ∀ (a : Nat) (ts : List Tok), (∀ t ∈ ts, TokFine t) → ∀ t ∈ (scanF f l a ts).1, TokFine t := by
  induction f with
  | zero => intro a ts _ t h; cases h
  | succ f ih =>
    intro a ts hts t h
    unfold scanF at h
    split at h
    · exact hts t h
    · split at h
      · exact ih _ _ hts t h
      · split at h
        · cases h
        · rename_i k n ht
          refine ih _ _ (fun x hx => ?_) t h
          rcases List.mem_append.1 hx with hx | hx
          · exact hts x hx
          · rw [List.mem_singleton] at hx
            subst hx
            exact tokLen_fine ht a
theorem scanT_fine (l : List UInt8) : ∀ t ∈ (scanT l).1, TokFine t := by
  unfold scanT
  split
  · intro t h; cases h
  · exact scanF_fine _ l 0 [] (fun t h => by cases h)
theorem sign_props (c : UInt8) (h : signN c.toNat = true) : letN c.toNat = false ∧ digN c.toNat = false ∧ c ≠ 32 ∧ endB c = true := by
  have hall : ∀ n : Fin 256, signN n.val = true → letN n.val = false ∧ digN n.val = false ∧ n.val ≠ 32 ∧ (!(wordN n.val) && !(numN n.val)) = true := by decide +kernel
  have h1 := hall ⟨c.toNat, UInt8.toNat_lt c⟩ h
  refine ⟨h1.1, h1.2.1, fun e => h1.2.2.1 (by rw [e]; rfl), h1.2.2.2⟩
theorem fine_head {t : Tok} (h : TokFine t) : ∃ c r, t.text = c :: r ∧ c ≠ 32 := by
  have hne : ∀ l : List UInt8, 1 ≤ l.length → (letN (l.getD 0 0).toNat = true ∨ digN (l.getD 0 0).toNat = true) → ∃ c r, l = c :: r ∧ c ≠ 32 := by
    intro l h1 h2
    cases l with
    | nil => simp at h1
    | cons c r =>
      refine ⟨c, r, rfl, fun e => ?_⟩
      subst e
      rcases h2 with h2 | h2
      · have h3 : letN (32 : UInt8).toNat = true := h2
        revert h3
        decide
      · have h3 : digN (32 : UInt8).toNat = true := h2
        revert h3
        decide
  rcases h with ⟨_, _, _, h1, h2⟩ | ⟨_, _, h1, h2, _⟩ | ⟨_, c, h1, h2⟩
  · exact hne _ h2 (.inr h1)
  · exact hne _ h2 (.inl h1)
  · exact ⟨c, [], h1, (sign_props c h2).2.2.1⟩
/-- A fine token ahead of what ends it is read. -/
theorem fine_read {t : Tok} (h : TokFine t) (rest : List UInt8) (hr : t.kind = 3 ∨ ∀ c r, rest = c :: r → endB c = true) : tokLen (t.text ++ rest) = some (t.kind, t.text.length) := by
  rcases h with ⟨hk, h7, h2, h3, h4⟩ | ⟨hk, h2, h3, h4, h5⟩ | ⟨hk, c, h2, h3⟩
  · have hr2 : ∀ c r, rest = c :: r → numN c.toNat = false := fun c r e => by
      rcases hr with hr | hr
      · omega
      · have := hr c r e
        unfold endB at this
        simpa using (Bool.and_eq_true_iff.1 this).2
    have h5 := run_halt2 numN t.text rest hr2
    rw [h2, List.take_of_length_le (Nat.le_refl _)] at h5
    cases ht : t.text with
    | nil => rw [ht] at h4; simp at h4
    | cons c r =>
      rw [ht] at h3 h5 h7
      replace h3 : digN c.toNat = true := h3
      have hnl : letN c.toNat = false := by
        have hall : ∀ n : Fin 256, digN n.val = true → letN n.val = false := by decide +kernel
        exact hall ⟨c.toNat, UInt8.toNat_lt c⟩ h3
      rw [List.cons_append] at h5 ⊢
      unfold tokLen
      simp only
      have h6 : (c :: (r ++ rest)).take (c :: r).length = c :: r := by rw [← List.cons_append, List.take_left' rfl]
      rw [if_neg (by rw [hnl]; simp), if_pos h3, h5, h6, if_pos h7, hk]
  · have hr2 : ∀ c r, rest = c :: r → wordN c.toNat = false := fun c r e => by
      rcases hr with hr | hr
      · omega
      · have := hr c r e
        unfold endB at this
        simpa using (Bool.and_eq_true_iff.1 this).1
    have h6 := run_halt2 wordN t.text rest hr2
    rw [h2, List.take_of_length_le (Nat.le_refl _)] at h6
    cases ht : t.text with
    | nil => rw [ht] at h4; simp at h4
    | cons c r =>
      rw [ht] at h3 h6 h5
      replace h3 : letN c.toNat = true := h3
      rw [List.cons_append] at h6 ⊢
      unfold tokLen
      simp only
      rw [if_pos h3, h6, if_pos h5, hk]
  · obtain ⟨hl, hd, _, _⟩ := sign_props c h3
    rw [h2, hk]
    show tokLen (c :: rest) = some (3, 1)
    unfold tokLen
    simp only
    rw [if_neg (by rw [hl]; simp), if_neg (by rw [hd]; simp), if_pos h3]
/-- Tokens, each behind some spaces, and spaces at the end. -/
def rend (e : Nat) : List (Nat × Tok) → List UInt8
  | [] => List.replicate e 32
  | (g, t) :: l => List.replicate g 32 ++ (t.text ++ rend e l)
/-- Wherever no space stands between two tokens, the first or the second is a sign. -/
def RendOk : List (Nat × Tok) → Prop
  | [] => True
  | [(_, t)] => TokFine t
  | (_, t) :: (g, u) :: l => TokFine t ∧ (1 ≤ g ∨ t.kind = 3 ∨ u.kind = 3) ∧ RendOk ((g, u) :: l)
theorem RendOk.head {g : Nat} {t : Tok} {l : List (Nat × Tok)} (h : RendOk ((g, t) :: l)) : TokFine t ∧ RendOk l := by
  cases l with
  | nil => exact ⟨h, trivial⟩
  | cons p l => exact ⟨h.1, h.2.2⟩
theorem rend_start {e : Nat} {g : Nat} {t : Tok} {l : List (Nat × Tok)} (h : RendOk ((g, t) :: l)) : t.kind = 3 ∨ ∀ c r, rend e l = c :: r → endB c = true := by
  have h32 : endB 32 = true := by decide
  cases l with
  | nil =>
    right
    intro c r he
    cases e with
    | zero => cases he
    | succ e =>
      injection he with he _
      rw [← he]; exact h32
  | cons p l =>
    obtain ⟨g', u⟩ := p
    obtain ⟨h1, h2, h3⟩ := h
    by_cases hk : t.kind = 3
    · exact .inl hk
    · right
      intro c r he
      cases g' with
      | succ g' =>
        injection he with he _
        rw [← he]; exact h32
      | zero =>
        have hu : u.kind = 3 := by omega
        rcases h3.head.1 with ⟨h4, _⟩ | ⟨h4, _⟩ | ⟨_, c', h4, h5⟩
        · omega
        · omega
        · rw [rend, List.replicate_zero, List.nil_append, h4] at he
          injection he with he _
          rw [← he]
          exact (sign_props c' h5).2.2.2
theorem scanGo_rend (l : List UInt8) (e : Nat) : ∀ (ps : List (Nat × Tok)) (a : Nat) (ts : List Tok), RendOk ps → l.drop a = rend e ps → a ≤ l.length →
    ∃ back, scanGo l a ts = (ts ++ back, l.length, 0) ∧ back.map (fun t => (t.kind, t.text)) = ps.map (fun p => (p.2.kind, p.2.text)) := by
  intro ps
  induction ps with
  | nil =>
    intro a ts _ h ha
    have hl := congrArg List.length h
    rw [List.length_drop, rend, List.length_replicate] at hl
    have h1 := scanGo_spaces l ts e a [] (by rw [List.append_nil]; exact h)
    exact ⟨[], by rw [h1, scanGo_end (by omega), List.append_nil], rfl⟩
  | cons p ps ih =>
    intro a ts hok h ha
    obtain ⟨g, t⟩ := p
    have hf := hok.head.1
    obtain ⟨c0, r0, hc0, hc32⟩ := fine_head hf
    have hl := congrArg List.length h
    rw [List.length_drop, rend, List.length_append, List.length_replicate, List.length_append] at hl
    have htl : 0 < t.text.length := by rw [hc0]; simp
    have h1 := scanGo_spaces l ts g a (t.text ++ rend e ps) h
    have h2 : l.drop (a + g) = t.text ++ rend e ps := by
      rw [← List.drop_drop, h, rend, List.drop_left' (by simp)]
    have h3 : tokLen (l.drop (a + g)) = some (t.kind, t.text.length) := by
      rw [h2]
      exact fine_read hf _ (rend_start hok)
    have h4 : l[a + g]? ≠ some 32 := by
      intro he
      have h5 : (l.drop (a + g))[0]? = some 32 := by rw [List.getElem?_drop]; exact he
      rw [h2, hc0] at h5
      injection h5 with h5
      exact hc32 h5
    have h6 : (l.drop (a + g)).take t.text.length = t.text := by rw [h2, List.take_left' rfl]
    have h7 : l.drop (a + g + t.text.length) = rend e ps := by rw [← List.drop_drop, h2, List.drop_left' rfl]
    obtain ⟨back, h8, h9⟩ := ih (a + g + t.text.length) (ts ++ [⟨t.kind, a + g, t.text⟩]) hok.head.2 h7 (by omega)
    refine ⟨⟨t.kind, a + g, t.text⟩ :: back, ?_, ?_⟩
    · rw [h1, scanGo_some (by omega) h4 h3, h6, h8, List.append_assoc]; rfl
    · rw [List.map_cons, List.map_cons, h9]
/-- The tokens of a rendered text. -/
theorem scanT_rend {e : Nat} {ps : List (Nat × Tok)} (hok : RendOk ps) (hlen : (rend e ps).length ≤ 400) :
    ∃ back, scanT (rend e ps) = (back, (rend e ps).length, 0) ∧ back.map (fun t => (t.kind, t.text)) = ps.map (fun p => (p.2.kind, p.2.text)) := by
  obtain ⟨back, h4, h5⟩ := scanGo_rend (rend e ps) e ps 0 [] hok rfl (Nat.zero_le _)
  refine ⟨back, ?_, h5⟩
  unfold scanT
  rw [if_neg (by omega)]
  exact h4
end Big
end Go.Proofs.YtgopljllknbelaaGreatDoor
/- The text of a printed tree is divided into the tree's tokens. Plain. -/
namespace Go.Proofs.YtgopljllknbelaaGreatDoor
namespace Big
def tkS (t : List UInt8) : Tok := ⟨3, 0, t⟩
def parW (b : Bool) (g : Nat) (q : Nat → List (Nat × Tok)) : List (Nat × Tok) := if b then (g, tkS [40]) :: (q 0 ++ [(0, tkS [41])]) else q g
def pcN (n : Int) : List (Nat × Tok) := if n < 0 then [(0, tkS [45]), (0, ⟨1, 0, dec n.natAbs⟩)] else [(0, ⟨1, 0, dec n.natAbs⟩)]
/-- The tokens of a printed tree with the spaces ahead of each. -/
def pcs : Ex → Nat → List (Nat × Tok)
  | .leaf k t, g => if k = 3 then [(g, ⟨2, 0, [112, 105]⟩)] else if k = 4 then [(g, ⟨2, 0, [101]⟩)] else [(g, ⟨k, 0, t⟩)]
  | .un k n x, g => if k = 5 then (g, tkS [45]) :: parW (decide (levelK x.kind < 3)) 0 (pcs x)
      else if k = 10 then parW (decide (levelK x.kind < 5)) g (pcs x) ++ ((0, tkS [94]) :: pcN n)
      else (g, ⟨2, 0, funcT k⟩) :: (0, tkS [40]) :: (pcs x 0 ++ [(0, tkS [41])])
  | .bin k x y, g => parW (decide (levelK x.kind < levelK k)) g (pcs x) ++ ((1, tkS (sgnT k)) :: parW (decide (levelK y.kind < levelK k + 1)) 1 (pcs y))
theorem parW_map (b : Bool) (g : Nat) (q : Nat → List (Nat × Tok)) (l : List (Nat × List UInt8)) (h : ∀ g, (q g).map (fun p => ktT p.2) = l) : (parW b g q).map (fun p => ktT p.2) = KP b l := by
  unfold parW KP
  cases b
  · exact h g
  · simp only [if_true, List.map_cons, List.map_append, h]
    rfl
theorem pcs_map (e : Ex) : ∀ g, (pcs e g).map (fun p => ktT p.2) = KE e := by
  induction e with
  | leaf k t =>
    intro g
    unfold pcs KE
    split
    · rfl
    · split <;> rfl
  | un k n x ih =>
    intro g
    unfold pcs KE
    split
    · rw [List.map_cons, parW_map _ _ _ _ ih]; rfl
    · split
      · rw [List.map_append, List.map_cons, parW_map _ _ _ _ ih]
        unfold pcN KN
        split <;> rfl
      · rw [List.map_cons, List.map_cons, List.map_append, ih]; rfl
  | bin k x y ihx ihy =>
    intro g
    unfold pcs KE
    rw [List.map_append, List.map_cons, parW_map _ _ _ _ ihx, parW_map _ _ _ _ ihy]; rfl
theorem rend_append (a b : List (Nat × Tok)) : rend 0 (a ++ b) = rend 0 a ++ rend 0 b := by
  induction a with
  | nil => rfl
  | cons p a ih =>
    obtain ⟨g, t⟩ := p
    rw [List.cons_append, rend, rend, ih]
    simp only [List.append_assoc]
theorem parW_rend (b : Bool) (g : Nat) (q : Nat → List (Nat × Tok)) (s : List UInt8) (h : ∀ g, rend 0 (q g) = List.replicate g 32 ++ s) : rend 0 (parW b g q) = List.replicate g 32 ++ parenT b s := by
  unfold parW parenT
  cases b
  · exact h g
  · simp only [if_true]
    rw [rend, rend_append, h]
    simp [tkS, rend]
theorem pcs_rend (e : Ex) (hg : e.Good) : ∀ g, rend 0 (pcs e g) = List.replicate g 32 ++ nodeT fmtI e := by
  induction e with
  | leaf k t =>
    intro g
    unfold pcs nodeT
    split
    · simp [rend]
    · split <;> simp [rend]
  | un k n x ih =>
    intro g
    unfold pcs nodeT
    split
    · rw [rend, parW_rend _ _ _ _ (ih hg.2.2.2.2)]; simp [tkS]
    · split
      · rw [rend_append, parW_rend _ _ _ _ (ih hg.2.2.2.2), rend]
        have hp : rend 0 (pcN n) = fmtI n := by
          unfold pcN fmtI
          split
          · simp [rend, tkS]
          · simp [rend]
        rw [hp]
        simp [tkS]
      · rw [rend, rend, rend_append, ih hg.2.2.2.2]
        simp [tkS, rend]
  | bin k x y ihx ihy =>
    intro g
    unfold pcs nodeT
    rw [rend_append, parW_rend _ _ _ _ (ihx hg.2.1), rend, parW_rend _ _ _ _ (ihy hg.2.2)]
    have hs : signT k = 32 :: (sgnT k ++ [32]) := by
      unfold signT sgnT
      (repeat' split) <;> rfl
    rw [hs]
    simp [tkS]
theorem fine_sign (c : UInt8) (h : signN c.toNat = true) : TokFine (tkS [c]) := .inr (.inr ⟨rfl, c, rfl, h⟩)
theorem RendOk.single {g : Nat} {t : Tok} (h : TokFine t) : RendOk [(g, t)] := h
/-- Two lists with a sign between them. -/
theorem RendOk.glue {g : Nat} {s : Tok} {b : List (Nat × Tok)} (hs : TokFine s) (hk : s.kind = 3) (hb : b = [] ∨ RendOk b) : ∀ a : List (Nat × Tok), (a = [] ∨ RendOk a) → RendOk (a ++ (g, s) :: b) := by
  have h0 : RendOk ((g, s) :: b) := by
    cases b with
    | nil => exact hs
    | cons p b =>
      obtain ⟨g', u⟩ := p
      exact ⟨hs, .inr (.inl hk), hb.resolve_left (by simp)⟩
  intro a
  induction a with
  | nil => intro _; exact h0
  | cons p a ih =>
    obtain ⟨g', t⟩ := p
    intro ha
    have ha := ha.resolve_left (by simp)
    cases a with
    | nil => exact ⟨ha, .inr (.inr hk), h0⟩
    | cons q a =>
      obtain ⟨g2, u⟩ := q
      exact ⟨ha.1, ha.2.1, ih (.inr ha.2.2)⟩
theorem parW_ok (b : Bool) (g : Nat) (q : Nat → List (Nat × Tok)) (h : ∀ g, RendOk (q g)) : RendOk (parW b g q) := by
  unfold parW
  cases b
  · exact h g
  · simp only [if_true]
    exact RendOk.glue (fine_sign 40 (by decide)) rfl (.inr (RendOk.glue (fine_sign 41 (by decide)) rfl (.inl rfl) _ (.inr (h 0)))) [] (.inl rfl)
theorem dec_fine : ∀ n : Fin 65, code7 (dec n.val) = 0 ∧ runLen numN (dec n.val) = (dec n.val).length ∧ digN ((dec n.val).getD 0 0).toNat = true ∧ 1 ≤ (dec n.val).length := by decide +kernel
theorem funcT_fine : ∀ k : Fin 17, runLen wordN (funcT k.val) = (funcT k.val).length ∧ letN ((funcT k.val).getD 0 0).toNat = true ∧ 1 ≤ (funcT k.val).length ∧ (funcT k.val).length ≤ 24 := by decide +kernel
theorem all_runLen (p : Nat → Bool) (l : List UInt8) (h : l.all (fun c => p c.toNat) = true) : runLen p l = l.length := by
  induction l with
  | nil => rfl
  | cons c t ih =>
    rw [List.all_cons, Bool.and_eq_true] at h
    rw [runLen, if_pos h.1, ih h.2]; rfl
theorem name_fine {t : List UInt8} (h : nameB t = true) : TokFine ⟨2, 0, t⟩ := by
  have h2 := (Bool.and_eq_true_iff.1 h).1
  unfold wordB at h2
  simp only [Bool.and_eq_true, decide_eq_true_eq] at h2
  refine .inr (.inl ⟨rfl, all_runLen _ _ h2.2, h2.1.2, ?_, h2.1.1.2⟩)
  cases t with
  | nil => have := h2.1.1.1; revert this; decide
  | cons c r => simp
theorem isDig_num {c : UInt8} (h : isDig c = true) : digN c.toNat = true ∧ numN c.toNat = true := by
  have hall : ∀ n : Fin 256, isDig (UInt8.ofNat n.val) = true → digN n.val = true ∧ numN n.val = true := by decide +kernel
  have h1 := hall ⟨c.toNat, UInt8.toNat_lt c⟩
  rw [UInt8.ofNat_toNat] at h1
  exact h1 h
theorem code7_fine {t : List UInt8} (h : code7 t = 0) (a : Nat) : TokFine ⟨1, a, t⟩ := by
  have hg : good7 t = true := by
    unfold code7 at h
    split at h
    · cases h
    · split at h
      · assumption
      · cases h
  unfold good7 at hg
  rw [Bool.and_eq_true] at hg
  obtain ⟨h1, h2⟩ := hg
  rw [List.all_append, Bool.and_eq_true] at h2
  have hw : whole t ≠ [] := by
    intro he
    have : bad7 t = true := by unfold bad7; rw [he]; simp
    rw [this] at h1
    cases h1
  have hall : t.all (fun c => numN c.toNat) = true := by
    have hW : (whole t).all (fun c => numN c.toNat) = true := by
      rw [List.all_eq_true] at h2 ⊢
      exact fun c hc => (isDig_num (h2.1 c hc)).2
    have hP : (part t).all (fun c => numN c.toNat) = true := by
      have h3 := h2.2
      rw [List.all_eq_true] at h3 ⊢
      exact fun c hc => (isDig_num (h3 c hc)).2
    rcases dot_split t with ⟨_, h3⟩ | ⟨_, h3, _⟩
    · rw [h3, List.all_append, List.all_cons, hW, hP]
      decide
    · rw [h3]; exact hW
  have hhead : digN (t.getD 0 0).toNat = true ∧ 1 ≤ t.length := by
    cases hwt : whole t with
    | nil => exact absurd hwt hw
    | cons c r =>
      have hc : isDig c = true := by
        have h3 := h2.1
        rw [hwt, List.all_cons, Bool.and_eq_true] at h3
        exact h3.1
      rcases dot_split t with ⟨_, h3⟩ | ⟨_, h3, _⟩
      · rw [hwt] at h3
        rw [h3]
        exact ⟨(isDig_num hc).1, by simp⟩
      · rw [hwt] at h3
        rw [h3]
        exact ⟨(isDig_num hc).1, by simp⟩
  exact .inl ⟨rfl, h, all_runLen _ _ hall, hhead.1, hhead.2⟩
theorem pcs_ok (e : Ex) (hg : e.Good) : ∀ g, RendOk (pcs e g) := by
  induction e with
  | leaf k t =>
    intro g
    unfold pcs
    split
    · exact RendOk.single (.inr (.inl ⟨rfl, by decide, by decide, by decide, by decide⟩))
    · split
      · exact RendOk.single (.inr (.inl ⟨rfl, by decide, by decide, by decide, by decide⟩))
      · rcases hg with ⟨rfl, h, _⟩ | ⟨rfl, h⟩ | ⟨h, _⟩
        · exact RendOk.single (code7_fine h 0)
        · exact RendOk.single (name_fine h)
        · omega
  | un k n x ih =>
    intro g
    have hx := ih hg.2.2.2.2
    unfold pcs
    split
    · exact RendOk.glue (fine_sign 45 (by decide)) rfl (.inr (parW_ok _ _ _ hx)) [] (.inl rfl)
    · split
      · have hr1 : -64 ≤ n := hg.2.2.1
        have hr2 : n ≤ 64 := hg.2.2.2.1
        obtain ⟨d1, d2, d3, d4⟩ := dec_fine ⟨n.natAbs, by omega⟩
        have hd : TokFine ⟨1, 0, dec n.natAbs⟩ := .inl ⟨rfl, d1, d2, d3, d4⟩
        refine RendOk.glue (fine_sign 94 (by decide)) rfl (.inr ?_) _ (.inr (parW_ok _ _ _ hx))
        unfold pcN
        split
        · exact RendOk.glue (fine_sign 45 (by decide)) rfl (.inr (RendOk.single hd)) [] (.inl rfl)
        · exact RendOk.single hd
      · rename_i h5 h10
        have hk : 11 ≤ k ∧ k ≤ 16 := by have := hg.1; omega
        obtain ⟨d1, d2, d3, d4⟩ := funcT_fine ⟨k, by omega⟩
        have hd : TokFine ⟨2, 0, funcT k⟩ := .inr (.inl ⟨rfl, d1, d2, d3, d4⟩)
        have h1 : RendOk ([(g, (⟨2, 0, funcT k⟩ : Tok))] ++ (0, tkS [40]) :: (pcs x 0 ++ [(0, tkS [41])])) :=
          RendOk.glue (fine_sign 40 (by decide)) rfl (.inr (RendOk.glue (fine_sign 41 (by decide)) rfl (.inl rfl) _ (.inr (hx 0)))) _ (.inr (RendOk.single hd))
        exact h1
  | bin k x y ihx ihy =>
    intro g
    unfold pcs
    have hs : TokFine (tkS (sgnT k)) := by
      unfold sgnT
      (repeat' split)
      · exact fine_sign 43 (by decide)
      · exact fine_sign 45 (by decide)
      · exact fine_sign 42 (by decide)
      · exact fine_sign 47 (by decide)
    exact RendOk.glue hs rfl (.inr (parW_ok _ _ _ (ihy hg.2.2))) _ (.inr (parW_ok _ _ _ (ihx hg.2.1)))
end Big
end Go.Proofs.YtgopljllknbelaaGreatDoor
/- What the parser reads is a tree of the grammar, but for great exponents. Plain. -/
namespace Go.Proofs.YtgopljllknbelaaGreatDoor
namespace Big
/-- A tree of the grammar, with exponents of up to two digits. -/
def Ex.Well : Ex → Prop
  | .leaf k t => (k = 1 ∧ code7 t = 0) ∨ (k = 2 ∧ nameB t = true) ∨ ((k = 3 ∨ k = 4) ∧ t = [])
  | .un k n x => (k = 5 ∨ (10 ≤ k ∧ k ≤ 16)) ∧ (k ≠ 10 → n = 0) ∧ -99 ≤ n ∧ n ≤ 99 ∧ x.Well
  | .bin k x y => (6 ≤ k ∧ k ≤ 9) ∧ x.Well ∧ y.Well
/-- Has it an exponent that is too great? -/
def Ex.big : Ex → Bool
  | .leaf _ _ => false
  | .un k n x => (k == 10 && !(decide (-64 ≤ n ∧ n ≤ 64))) || x.big
  | .bin _ x y => x.big || y.big
theorem code7_le {t : List UInt8} (h : code7 t = 0) : t.length ≤ 400 := by
  unfold code7 at h
  split at h
  · cases h
  · omega
theorem Ex.Well.good {e : Ex} (h : e.Well) (hb : e.big = false) : e.Good := by
  induction e with
  | leaf k t =>
    rcases h with ⟨h1, h2⟩ | h | h
    · exact .inl ⟨h1, h2, code7_le h2⟩
    · exact .inr (.inl h)
    · exact .inr (.inr h)
  | un k n x ih =>
    obtain ⟨h1, h2, h3, h4, h5⟩ := h
    unfold Ex.big at hb
    rw [Bool.or_eq_false_iff] at hb
    have h6 : -64 ≤ n ∧ n ≤ 64 := by
      by_cases hk : k = 10
      · subst hk
        have := hb.1
        simpa using this
      · rw [h2 hk]; omega
    exact ⟨h1, h2, h6.1, h6.2, ih h5 hb.2⟩
  | bin k x y ihx ihy =>
    obtain ⟨h1, h2, h3⟩ := h
    unfold Ex.big at hb
    rw [Bool.or_eq_false_iff] at hb
    exact ⟨h1, ihx h2 hb.1, ihy h3 hb.2⟩
theorem Ex.Good.well {e : Ex} (h : e.Good) : e.Well ∧ e.big = false := by
  induction e with
  | leaf k t =>
    refine ⟨?_, rfl⟩
    rcases h with ⟨h1, h2, _⟩ | h | h
    · exact .inl ⟨h1, h2⟩
    · exact .inr (.inl h)
    · exact .inr (.inr h)
  | un k n x ih =>
    obtain ⟨h1, h2, h3, h4, h5⟩ := h
    refine ⟨⟨h1, h2, by omega, by omega, (ih h5).1⟩, ?_⟩
    unfold Ex.big
    rw [(ih h5).2, decide_eq_true (And.intro h3 h4)]
    simp
  | bin k x y ihx ihy =>
    obtain ⟨h1, h2, h3⟩ := h
    refine ⟨⟨h1, (ihx h2).1, (ihy h3).1⟩, ?_⟩
    unfold Ex.big
    rw [(ihx h2).2, (ihy h3).2]
    rfl
theorem funcK_range (t : List UInt8) (h : funcK t ≠ 0) : 11 ≤ funcK t ∧ funcK t ≤ 16 := by
  unfold funcK at h ⊢
  (repeat' split) <;> first | omega | (exfalso; revert h; simp_all)
theorem digits2_le {t : List UInt8} {n : Nat} (h : digits2 t = some n) : n ≤ 99 := by
  unfold digits2 at h
  split at h
  · rename_i hc
    injection h with h
    obtain ⟨h1, h2⟩ := hc
    have hd : ∀ c : UInt8, digN c.toNat = true → c.toNat - 48 ≤ 9 := fun c hc => by
      unfold digN at hc
      simp only [Bool.and_eq_true, decide_eq_true_eq] at hc
      omega
    match t, h1, h2, h with
    | [], _, _, h => simp at h; omega
    | [c], _, h2, h =>
      simp only [List.all_cons, List.all_nil, Bool.and_true] at h2
      have := hd c h2
      simp at h
      omega
    | [c, d], _, h2, h =>
      simp only [List.all_cons, List.all_nil, Bool.and_true, Bool.and_eq_true] at h2
      have := hd c h2.1
      have := hd d h2.2
      simp at h
      omega
    | c :: d :: e :: r, h1, _, _ => simp at h1
  · cases h
theorem expo_le {ts : List Tok} {a n : Nat} (h : expo ts a = some n) : n ≤ 99 := by
  unfold expo at h
  split at h
  · split at h
    · exact digits2_le h
    · cases h
  · cases h
theorem word_nameB {t : Tok} (h : TokFine t) (hk1 : t.kind ≠ 1) (hk3 : t.kind ≠ 3) (hf : funcK t.text = 0) (h1 : t.text ≠ [112, 105]) (h2 : t.text ≠ [101]) : nameB t.text = true := by
  rcases h with ⟨hk, _⟩ | ⟨hk, q1, q2, q3, q4⟩ | ⟨hk, _⟩
  · omega
  · have hr : reservedB t.text = false := by
      unfold reservedB
      simp [h1, h2, hf]
    have hw : wordB t.text = true := by
      rw [wordB_ref]
      have hne : (t.text == []) = false := by
        rw [beq_eq_false_iff_ne]
        intro he
        rw [he] at q3
        simp at q3
      have href : refWord t.text = t.text.length := by
        unfold refWord
        have : letN (byteAt t.text 0) = true := q2
        rw [this, if_pos rfl]
        exact q1
      rw [hne, href]
      simp [q4]
    unfold nameB
    rw [hw]
    rw [reservedB_mem] at hr
    have : ([[112, 105], [101], [115, 113, 114, 116], [101, 120, 112], [108, 110], [115, 105, 110], [99, 111, 115], [97, 116, 97, 110]] : List (List UInt8)).contains t.text = false := hr
    rw [this]
    rfl
  · omega
def PW (p : Nat → Option Ex × Nat) : Prop := ∀ a x b, p a = (some x, b) → x.Well
section
variable {ts : List Tok} {p : Nat → Option Ex × Nat}
theorem pAtom_well (ht : ∀ t ∈ ts, TokFine t) (hp : PW p) : PW (pAtom p ts) := by
  intro a x b h
  unfold pAtom at h
  split at h
  · cases h
  · rename_i t hta
    have hf := ht t (List.mem_of_getElem? hta)
    split at h
    · split at h
      · split at h
        · cases h
        · rename_i y c hy
          split at h
          · injection h with h1 _
            injection h1 with h1
            subst h1
            exact hp _ _ _ hy
          · cases h
      · cases h
    · rename_i h3
      split at h
      · rename_i h1
        injection h with h4 _
        injection h4 with h4
        subst h4
        rcases hf with ⟨_, hc, _⟩ | ⟨hk, _⟩ | ⟨hk, _⟩
        · exact .inl ⟨rfl, hc⟩
        · omega
        · omega
      · rename_i h1
        split at h
        · rename_i hfk
          split at h
          · split at h
            · cases h
            · rename_i y c hy
              split at h
              · injection h with h4 _
                injection h4 with h4
                subst h4
                have := funcK_range _ hfk
                exact ⟨.inr ⟨by omega, this.2⟩, fun _ => rfl, by omega, by omega, hp _ _ _ hy⟩
              · cases h
          · cases h
        · rename_i hfk
          split at h
          · injection h with h4 _
            injection h4 with h4
            subst h4
            exact .inr (.inr ⟨.inl rfl, rfl⟩)
          · rename_i hpi
            split at h
            · injection h with h4 _
              injection h4 with h4
              subst h4
              exact .inr (.inr ⟨.inr rfl, rfl⟩)
            · rename_i he
              injection h with h4 _
              injection h4 with h4
              subst h4
              exact .inr (.inl ⟨rfl, word_nameB hf h1 h3 (by omega) hpi he⟩)
theorem pPower_well (ht : ∀ t ∈ ts, TokFine t) (hp : PW p) : PW (pPower p ts) := by
  intro a x b h
  unfold pPower at h
  split at h
  · cases h
  · rename_i y c hy
    have hw := pAtom_well ht hp _ _ _ hy
    split at h
    · split at h
      · split at h
        · rename_i n hn
          have := expo_le hn
          injection h with h4 _
          injection h4 with h4
          subst h4
          exact ⟨.inr ⟨by omega, by omega⟩, fun h => absurd rfl h, by omega, by omega, hw⟩
        · cases h
      · split at h
        · rename_i n hn
          have := expo_le hn
          injection h with h4 _
          injection h4 with h4
          subst h4
          exact ⟨.inr ⟨by omega, by omega⟩, fun h => absurd rfl h, by omega, by omega, hw⟩
        · cases h
    · injection h with h4 _
      injection h4 with h4
      subst h4
      exact hw
theorem negs_well (n : Nat) : ∀ x : Ex, x.Well → (negs n x).Well := by
  induction n with
  | zero => intro x h; exact h
  | succ n ih => intro x h; exact ih _ ⟨.inl rfl, fun _ => rfl, by omega, by omega, h⟩
theorem pMinus_well (ht : ∀ t ∈ ts, TokFine t) (hp : PW p) : PW (pMinus p ts) := by
  intro a x b h
  unfold pMinus at h
  split at h
  · cases h
  · rename_i y c hy
    injection h with h4 _
    injection h4 with h4
    subst h4
    exact negs_well _ _ (pPower_well ht hp _ _ _ hy)
theorem chainGo_well {op : Nat → Option Ex × Nat} {c1 c2 : List UInt8} {k1 k2 : Nat} (h1 : 6 ≤ k1 ∧ k1 ≤ 9) (h2 : 6 ≤ k2 ∧ k2 ≤ 9) (ho : PW op) : ∀ (f : Nat) (e : Ex) (a : Nat), e.Well → ∀ x b, chainGo op ts c1 c2 k1 k2 f e a = (some x, b) → x.Well := by
  intro f
  induction f with
  | zero =>
    intro e a he x b h
    unfold chainGo at h
    injection h with h4 _
    injection h4 with h4
    subst h4
    exact he
  | succ f ih =>
    intro e a he x b h
    unfold chainGo at h
    split at h
    · split at h
      · cases h
      · rename_i y c hy
        exact ih _ _ (show (Ex.bin k1 e y).Well from ⟨h1, he, ho _ _ _ hy⟩) _ _ h
    · split at h
      · split at h
        · cases h
        · rename_i y c hy
          exact ih _ _ (show (Ex.bin k2 e y).Well from ⟨h2, he, ho _ _ _ hy⟩) _ _ h
      · injection h with h4 _
        injection h4 with h4
        subst h4
        exact he
theorem chainP_well {op : Nat → Option Ex × Nat} {c1 c2 : List UInt8} {k1 k2 : Nat} (h1 : 6 ≤ k1 ∧ k1 ≤ 9) (h2 : 6 ≤ k2 ∧ k2 ≤ 9) (ho : PW op) : PW (chainP op ts c1 c2 k1 k2) := by
  intro a x b h
  unfold chainP at h
  split at h
  · cases h
  · rename_i y c hy
    exact chainGo_well h1 h2 ho _ _ _ (ho _ _ _ hy) _ _ h
theorem pSum_well (ht : ∀ t ∈ ts, TokFine t) : ∀ f, PW (pSum ts f) := by
  intro f
  induction f with
  | zero => intro a x b h; cases h
  | succ f ih => exact chainP_well (by omega) (by omega) (chainP_well (by omega) (by omega) (pMinus_well ht ih))
end
/-! ### The list of such a tree, as the program looks at it -/
/-- One step of parts: the operand that ends at the node i, and the operands that are left; none: the list is no expression. -/
def prStep (i : Nat) (st : List (Nat × Nat)) (x : Nd) : Option ((Nat × Nat) × List (Nat × Nat)) :=
  if operI x.kind < 0 ∨ (st.length : Int) < operI x.kind ∨ plainB x = false then none
  else if operI x.kind = 0 then (if x.a = 0 ∧ x.b = 0 then some ((i, 1), st ++ [(i, 1)]) else none)
  else if operI x.kind = 1 then
    (if x.a = (i : Int) - 1 ∧ x.b = 0 then some (((st.getD (st.length - 1) (0, 0)).1, (st.getD (st.length - 1) (0, 0)).2 + 1), st.take (st.length - 1) ++ [((st.getD (st.length - 1) (0, 0)).1, (st.getD (st.length - 1) (0, 0)).2 + 1)]) else none)
  else (if x.a = ((st.getD (st.length - 1) (0, 0)).1 : Int) - 1 ∧ x.b = (i : Int) - 1 then
      some (((st.getD (st.length - 2) (0, 0)).1, max ((st.getD (st.length - 1) (0, 0)).2 + 1) ((st.getD (st.length - 2) (0, 0)).2 + 1)), st.take (st.length - 2) ++ [((st.getD (st.length - 2) (0, 0)).1, max ((st.getD (st.length - 1) (0, 0)).2 + 1) ((st.getD (st.length - 2) (0, 0)).2 + 1))]) else none)
/-- parts from a node on: all operands, and how many are left. -/
def prGo : Nat → List (Nat × Nat) → List (Nat × Nat) → List Nd → List (Nat × Nat) × Nat
  | _, all, st, [] => (all, st.length)
  | i, all, st, x :: t => match prStep i st x with
    | none => (all, 0)
    | some (p, st') => prGo (i + 1) (all ++ [p]) st' t
def prAll (l : List Nd) : List (Nat × Nat) × Nat := prGo 0 [] [] l
/-- The operands of a tree that stands behind off nodes. -/
def ptE : Nat → Ex → List (Nat × Nat)
  | off, .leaf _ _ => [(off, 1)]
  | off, .un _ _ x => ptE off x ++ [(off, x.depth + 1)]
  | off, .bin _ x y => ptE off x ++ (ptE (off + x.size) y ++ [(off, max x.depth y.depth + 1)])
theorem ptE_len (e : Ex) : ∀ off, (ptE off e).length = e.size := by
  induction e with
  | leaf k t => intro off; rfl
  | un k n x ih => intro off; rw [ptE, List.length_append, ih]; rfl
  | bin k x y ihx ihy => intro off; rw [ptE, List.length_append, List.length_append, ihx, ihy, List.length_singleton, Ex.size]; omega
theorem plain_un_big {k : Nat} {n : Int} {x : Ex} (h : (Ex.un k n x).Well) (a b : Int) : plainB ⟨(k : Int), a, b, n, []⟩ = !(k == 10 && !(decide (-64 ≤ n ∧ n ≤ 64))) := by
  obtain ⟨h1, h2, h3, h4, _⟩ := h
  unfold plainB plainT plainM
  rw [if_neg (by simp only; omega), if_neg (by simp only; omega)]
  by_cases hk : k = 10
  · subst hk
    simp
  · rw [if_neg (by simp only; omega)]
    simp [h2 hk]
theorem getD_end {L : List (Nat × Nat)} {x : Nat × Nat} {i : Nat} (h : i = L.length) : (L ++ [x]).getD i (0, 0) = x := by
  subst h
  rw [List.getD_eq_getElem?_getD, List.getElem?_append_right (Nat.le_refl _), Nat.sub_self]
  rfl
/-- A tree's list: all its operands, one more operand left; or it fails at a great exponent. -/
theorem prGo_flat (e : Ex) (hw : e.Well) : ∀ (off : Nat) (all st : List (Nat × Nat)) (t : List Nd), prGo off all st (flat off e ++ t) = if e.big then ((prGo off all st (flat off e ++ t)).1, 0) else prGo (off + e.size) (all ++ ptE off e) (st ++ [(off, e.depth)]) t := by
  induction e with
  | leaf k t' =>
    intro off all st t
    have hk : 1 ≤ k ∧ k ≤ 4 := by unfold Ex.Well at hw; omega
    have ho : operI (k : Int) = 0 := by unfold operI; rw [if_neg (by omega), if_pos (by omega)]
    have hp : plainB ⟨(k : Int), 0, 0, 0, t'⟩ = true := by
      unfold plainB plainT plainM
      rw [if_neg (c := (k : Int) = 10) (by omega)]
      rcases hw with ⟨rfl, h⟩ | ⟨rfl, h⟩ | ⟨h, rfl⟩
      · simp [h]
      · simp [h]
      · rw [if_neg (by simp only; omega), if_neg (by simp only; omega)]; rfl
    have hs : prStep off st ⟨(k : Int), 0, 0, 0, t'⟩ = some ((off, 1), st ++ [(off, 1)]) := by
      unfold prStep
      simp only [ho, hp]
      rw [if_neg (by first | (simp; done) | (simp; omega))]
      simp
    rw [Ex.big, if_neg (by simp), flat, List.singleton_append, prGo, hs]
    rfl
  | un k n x ih =>
    intro off all st t
    have hx := hw.2.2.2.2
    have hz := x.size_pos
    have hk := hw.1
    have ho : operI (k : Int) = 1 := by unfold operI; rw [if_neg (by omega), if_neg (by omega), if_neg (by omega)]
    have h1 := ih hx off all st ([⟨(k : Int), ((off + x.size - 1 : Nat) : Int), 0, n, []⟩] ++ t)
    have hfl : flat off (.un k n x) ++ t = flat off x ++ ([⟨(k : Int), ((off + x.size - 1 : Nat) : Int), 0, n, []⟩] ++ t) := by rw [flat, List.append_assoc]
    rw [hfl]
    cases hb : x.big
    · rw [hb, if_neg (by simp)] at h1
      rw [h1, List.singleton_append, prGo]
      have hpl := plain_un_big hw ((off + x.size - 1 : Nat) : Int) 0
      cases hb2 : (k == 10 && !(decide (-64 ≤ n ∧ n ≤ 64)))
      · rw [hb2] at hpl
        have hs : prStep (off + x.size) (st ++ [(off, x.depth)]) ⟨(k : Int), ((off + x.size - 1 : Nat) : Int), 0, n, []⟩ = some ((off, x.depth + 1), st ++ [(off, x.depth + 1)]) := by
          unfold prStep
          simp only [ho, hpl]
          rw [if_neg (by first | (simp; done) | (simp; omega)), if_neg (by decide), if_pos trivial, if_pos (by first | omega | (refine ⟨?_, trivial⟩; omega))]
          rw [getD_end (by simp), List.take_left' (by simp)]
        rw [hs]
        have hbb : (Ex.un k n x).big = false := by rw [Ex.big, hb2, hb]; rfl
        rw [hbb, if_neg (by simp)]
        simp only [ptE, Ex.size, Ex.depth, List.append_assoc]
        rfl
      · rw [hb2] at hpl
        have hs : prStep (off + x.size) (st ++ [(off, x.depth)]) ⟨(k : Int), ((off + x.size - 1 : Nat) : Int), 0, n, []⟩ = none := by
          unfold prStep
          rw [if_pos (.inr (.inr hpl))]
        rw [hs]
        have hbb : (Ex.un k n x).big = true := by rw [Ex.big, hb2]; rfl
        rw [hbb, if_pos rfl]
    · rw [hb, if_pos rfl] at h1
      have hbb : (Ex.un k n x).big = true := by rw [Ex.big, hb]; simp
      rw [hbb, if_pos rfl]
      exact h1
  | bin k x y ihx ihy =>
    intro off all st t
    have hx := hw.2.1
    have hy := hw.2.2
    have hz := x.size_pos
    have hz2 := y.size_pos
    have hk := hw.1
    have ho : operI (k : Int) = 2 := by unfold operI; rw [if_neg (by omega), if_neg (by omega), if_pos (by omega)]
    have hfl : flat off (.bin k x y) ++ t = flat off x ++ (flat (off + x.size) y ++ ([⟨(k : Int), ((off + x.size - 1 : Nat) : Int), ((off + x.size + y.size - 1 : Nat) : Int), 0, []⟩] ++ t)) := by rw [flat]; simp only [List.append_assoc]
    rw [hfl]
    have h1 := ihx hx off all st (flat (off + x.size) y ++ ([⟨(k : Int), ((off + x.size - 1 : Nat) : Int), ((off + x.size + y.size - 1 : Nat) : Int), 0, []⟩] ++ t))
    cases hb : x.big
    · rw [hb, if_neg (by simp)] at h1
      rw [h1]
      have h2 := ihy hy (off + x.size) (all ++ ptE off x) (st ++ [(off, x.depth)]) ([⟨(k : Int), ((off + x.size - 1 : Nat) : Int), ((off + x.size + y.size - 1 : Nat) : Int), 0, []⟩] ++ t)
      cases hb2 : y.big
      · rw [hb2, if_neg (by simp)] at h2
        rw [h2, List.singleton_append, prGo]
        have hp : plainB ⟨(k : Int), ((off + x.size - 1 : Nat) : Int), ((off + x.size + y.size - 1 : Nat) : Int), 0, []⟩ = true := by
          unfold plainB plainT plainM
          rw [if_neg (by simp only; omega), if_neg (by simp only; omega), if_neg (by simp only; omega)]
          rfl
        have hs : prStep (off + x.size + y.size) (st ++ [(off, x.depth)] ++ [(off + x.size, y.depth)]) ⟨(k : Int), ((off + x.size - 1 : Nat) : Int), ((off + x.size + y.size - 1 : Nat) : Int), 0, []⟩ = some ((off, max x.depth y.depth + 1), st ++ [(off, max x.depth y.depth + 1)]) := by
          unfold prStep
          simp only [ho, hp]
          have e1 : (st ++ [(off, x.depth)] ++ [(off + x.size, y.depth)]).getD ((st ++ [(off, x.depth)] ++ [(off + x.size, y.depth)]).length - 1) (0, 0) = (off + x.size, y.depth) := getD_end (by simp)
          have e2 : (st ++ [(off, x.depth)] ++ [(off + x.size, y.depth)]).getD ((st ++ [(off, x.depth)] ++ [(off + x.size, y.depth)]).length - 2) (0, 0) = (off, x.depth) := by
            rw [List.getD_eq_getElem?_getD, List.append_assoc, List.getElem?_append_right (by simp)]
            simp
          have e3 : (st ++ [(off, x.depth)] ++ [(off + x.size, y.depth)]).take ((st ++ [(off, x.depth)] ++ [(off + x.size, y.depth)]).length - 2) = st := by
            rw [List.append_assoc, List.take_left' (by simp)]
          rw [if_neg (by first | (simp; done) | (simp; omega)), if_neg (by decide), if_neg (by decide), e1, e2, e3, if_pos (by simp only; omega)]
          have e4 : max (y.depth + 1) (x.depth + 1) = max x.depth y.depth + 1 := by omega
          rw [e4]
        rw [hs]
        have hbb : (Ex.bin k x y).big = false := by rw [Ex.big, hb, hb2]; rfl
        rw [hbb, if_neg (by simp)]
        simp only [ptE, Ex.size, Ex.depth, List.append_assoc]
        rw [show off + (x.size + y.size + 1) = off + x.size + y.size + 1 by omega]
      · rw [hb2, if_pos rfl] at h2
        have hbb : (Ex.bin k x y).big = true := by rw [Ex.big, hb2]; simp
        rw [hbb, if_pos rfl]
        exact h2
    · rw [hb, if_pos rfl] at h1
      have hbb : (Ex.bin k x y).big = true := by rw [Ex.big, hb]; simp
      rw [hbb, if_pos rfl]
      exact h1
/-- The program's Valid. -/
def validP (l : List Nd) : Bool := decide (1 ≤ l.length ∧ l.length ≤ 200) && (decide ((prAll l).2 = 1) && decide (((prAll l).1.getD (l.length - 1) (0, 0)).2 ≤ 40))
theorem ptE_last (e : Ex) (off : Nat) : (ptE off e).getD (e.size - 1) (0, 0) = (off, e.depth) := by
  cases e with
  | leaf k t => rfl
  | un k n x => rw [ptE]; exact getD_end (by rw [ptE_len]; rfl)
  | bin k x y => rw [ptE, ← List.append_assoc]; exact getD_end (by rw [List.length_append, ptE_len, ptE_len]; rfl)
theorem validP_flat (e : Ex) (hw : e.Well) : validP (flat 0 e) = (!e.big && decide (e.size ≤ 200 ∧ e.depth ≤ 40)) := by
  have h := prGo_flat e hw 0 [] [] []
  have hz := e.size_pos
  rw [List.append_nil] at h
  cases hb : e.big
  · rw [hb, if_neg (by simp)] at h
    have hp : prAll (flat 0 e) = (ptE 0 e, 1) := h
    have hl := ptE_last e 0
    unfold validP
    rw [hp, flat_len]
    simp only [hl]
    simp only [decide_true, Bool.true_and, Bool.not_false]
    rw [← Bool.decide_and, decide_eq_decide]
    omega
  · rw [hb, if_pos rfl] at h
    have hp : (prAll (flat 0 e)).2 = 0 := by
      unfold prAll
      rw [h]
    unfold validP
    rw [hp]
    simp
end Big
end Go.Proofs.YtgopljllknbelaaGreatDoor
/- The program's reader: group, digits. -/
namespace Go.Proofs.YtgopljllknbelaaGreatDoor
namespace Big
open Go.RowKit
/-- sum's contract at a place. -/
def SumP (g : Nat) (ts : List Tok) (tv : Value) (f a : Nat) : Prop :=
  ∀ w ns nv, RdP g w ts a ns tv nv → Calls Tryz.prog 44 #[.pointer (some ⟨g, 0, none⟩)] w (OpPost g ts tv ns nv (pSum ts f a) w)
/-- A sum in parentheses. -/
def grpR (p : Nat → Option Ex × Nat) (ts : List Tok) (a : Nat) : Option Ex × Nat :=
  if isS ts a [40] then (match p (a + 1) with
    | (none, b) => (none, b)
    | (some x, b) => if isS ts b [41] then (some x, b + 1) else (none, b))
  else (none, a)
theorem grpR_no {p : Nat → Option Ex × Nat} {ts : List Tok} {a : Nat} (h : isS ts a [40] = false) : grpR p ts a = (none, a) := by unfold grpR; rw [if_neg (by rw [h]; simp)]
theorem grpR_none {p : Nat → Option Ex × Nat} {ts : List Tok} {a b : Nat} (h : isS ts a [40] = true) (hp : p (a + 1) = (none, b)) : grpR p ts a = (none, b) := by unfold grpR; rw [if_pos h, hp]
theorem grpR_bad {p : Nat → Option Ex × Nat} {ts : List Tok} {a b : Nat} {x : Ex} (h : isS ts a [40] = true) (hp : p (a + 1) = (some x, b)) (h2 : isS ts b [41] = false) : grpR p ts a = (none, b) := by
  unfold grpR; rw [if_pos h, hp]; simp only; rw [if_neg (by rw [h2]; simp)]
theorem grpR_ok {p : Nat → Option Ex × Nat} {ts : List Tok} {a b : Nat} {x : Ex} (h : isS ts a [40] = true) (hp : p (a + 1) = (some x, b)) (h2 : isS ts b [41] = true) : grpR p ts a = (some x, b + 1) := by
  unfold grpR; rw [if_pos h, hp]; simp only; rw [if_pos h2]
theorem RdP.far {g : Nat} {w : World} {ts : List Tok} {a a' : Nat} {ns : List Nd} {tv nv : Value} (h : RdP g w ts a ns tv nv) (ha : a = a') : RdP g w ts a' ns tv nv := by subst ha; exact h
set_option maxHeartbeats 1000000 in
set_option maxRecDepth 100000 in
theorem group_any (g : Nat) (ts : List Tok) (tv : Value) (f a : Nat) (hs : SumP g ts tv f (a + 1)) (w : World) (ns : List Nd) (nv : Value) (h : RdP g w ts a ns tv nv) :
    Calls Tryz.prog 180 #[.pointer (some ⟨g, 0, none⟩)] w (OpPost g ts tv ns nv (grpR (pSum ts f) ts a) w) := by
  have HT := Lib.hid (take_any g w ts a ns tv nv [40] h)
  have hc40 : str [40] = .string ⟨#[40]⟩ := rfl
  have hc41 : str [41] = .string ⟨#[41]⟩ := rfl
  have HS := Lib.hid hs
  have HT2 := Lib.hid (fun W b n v h => take_any g W ts b n tv v [41] h)
  rw [hc40] at HT
  rw [hc41] at HT2
  clear h hs hc40 hc41
  obtain ⟨u1, hu1⟩ : ∃ u, isS ts a [40] = u := ⟨_, rfl⟩
  rw [hu1] at HT
  cases u1
  · have hred : (if false = true then a + 1 else a) = a := rfl
    rw [hred] at HT
    have HD := Lib.hid (grpR_no (p := pSum ts f) hu1)
    clear hred hu1
    go_enter Tryz.func180, Tryz.ntmps180
    go_wp2_with fail
    refine HT.out.mono ?_
    rintro e w1 ⟨rfl, hk, hr⟩
    have HE := Lib.hid (And.intro hk hr)
    clear hk hr
    go_wp2_with fail
    go_ret
    exact OpPost.mkN HD.out HE.out.1 ⟨_, HE.out.2⟩
  · simp only [if_true] at HT
    have HU1 := Lib.hid hu1
    clear hu1
    go_enter Tryz.func180, Tryz.ntmps180
    go_wp2_with fail
    refine HT.out.mono ?_
    rintro e w1 ⟨rfl, hk, hr⟩
    have HK := Lib.hid hk
    have HS1 := Lib.hid (HS.out w1 ns nv hr)
    clear hk hr
    go_wp2_with fail
    refine HS1.out.mono ?_
    intro e w2 hpost
    obtain ⟨r, hr⟩ : ∃ r, pSum ts f (a + 1) = r := ⟨_, rfl⟩
    obtain ⟨_ | x, b⟩ := r
    · obtain ⟨nv1, rfl, hn, hb⟩ := hpost.none_ hr
      have HE := Lib.hid (And.intro (grpR_none HU1.out hr) (And.intro (HK.out.trans hb) hn))
      clear hpost hr hn hb
      go_wp2_with fail
      go_ret
      exact OpPost.mkN HE.out.1 HE.out.2.1 HE.out.2.2
    · obtain ⟨nv1, rfl, hrd, hb⟩ := hpost.some_ hr
      have HE := Lib.hid (And.intro hr (And.intro (HK.out.trans hb) hrd))
      have HT3 := Lib.hid (HT2.out w2 b _ nv1 hrd)
      clear hpost hr hrd hb
      obtain ⟨u2, hu2⟩ : ∃ u, isS ts b [41] = u := ⟨_, rfl⟩
      rw [hu2] at HT3
      cases u2
      · have hred : (if false = true then b + 1 else b) = b := rfl
        rw [hred] at HT3
        have HD := Lib.hid (grpR_bad HU1.out HE.out.1 hu2)
        clear hred hu2
        go_wp2_with fail
        refine HT3.out.mono ?_
        rintro e w3 ⟨rfl, hk3, hr3⟩
        have HF := Lib.hid (And.intro (HE.out.2.1.trans hk3) hr3)
        clear hk3 hr3
        go_wp2_with fail
        go_ret
        exact OpPost.mkN HD.out HF.out.1 ⟨_, HF.out.2⟩
      · simp only [if_true] at HT3
        have HD := Lib.hid (grpR_ok HU1.out HE.out.1 hu2)
        clear hu2
        go_wp2_with fail
        refine HT3.out.mono ?_
        rintro e w3 ⟨rfl, hk3, hr3⟩
        have HF := Lib.hid (And.intro (HE.out.2.1.trans hk3) hr3)
        clear hk3 hr3
        go_wp2_with fail
        go_ret
        exact OpPost.mkS HD.out HF.out.1 HF.out.2
def dval (t : List UInt8) : Nat := t.foldl (fun n c => 10 * n + (c.toNat - 48)) 0
theorem dval_step (t : List UInt8) (i : Nat) (hi : i < t.length) : dval (t.take (i + 1)) = 10 * dval (t.take i) + (t[i].toNat - 48) := by
  unfold dval
  rw [List.take_succ_eq_append_getElem hi, List.foldl_append]
  rfl
theorem dval_le {t : List UInt8} (i : Nat) (h : (t.take i).all (fun c => digN c.toNat) = true) (hl : t.length ≤ 2) : dval (t.take i) ≤ 99 := by
  refine digits2_le (t := t.take i) ?_
  unfold digits2 dval
  rw [if_pos ⟨by rw [List.length_take]; omega, h⟩]
/-- What digits returns. -/
def DigPost (w : World) (r : Option Nat) (e : Ending) (w' : World) : Prop := Ext w w' ∧ match r with
  | some n => e = .returned (.tuple #[.int .i64 (n : Int), .bool true])
  | none => e = .returned (.tuple #[.int .i64 0, .bool false])
set_option maxHeartbeats 2000000 in
set_option maxRecDepth 100000 in
theorem digits_rd (g : Nat) (w : World) (ts : List Tok) (a : Nat) (ns : List Nd) (tv nv : Value) (h : RdP g w ts a ns tv nv) :
    Calls Tryz.prog 160 #[.pointer (some ⟨g, 0, none⟩)] w (DigPost w (expo ts a)) := by
  have hb := h.blk
  have hn := h.row
  obtain ⟨A, c0, rfl, hcell⟩ := h.tok
  obtain ⟨A2, c2, rfl⟩ := hn.shape
  have hle := h.le
  have hmax := h.max
  obtain ⟨k0, k1, k2, _, _, _, hg⟩ := hb.three'
  clear hb hn h
  obtain ⟨n, hnt⟩ : ∃ n, n = ts.length := ⟨_, rfl⟩
  rw [← hnt] at k0 hle hmax
  have HNT := Lib.hid hnt
  clear hnt
  rcases Nat.lt_or_ge a n with hlt | hge
  · have hlt2 : a < ts.length := by rw [← HNT.out]; exact hlt
    obtain ⟨b, rfl, _, _, hc⟩ := hcell (by omega)
    obtain ⟨q0, q1, q2⟩ := hc a hlt2
    have hI : expo ts a = if ts[a].kind = 1 then digits2 ts[a].text else none := by
      unfold expo
      rw [List.getElem?_eq_getElem hlt2]
    clear hcell hc
    generalize ts[a].kind = tk at *
    generalize ts[a].text = tx at *
    have z1 : decide (n ≤ a) = false := decide_eq_false (by omega)
    by_cases hk : tk = 1
    · subst hk
      rw [if_pos rfl] at hI
      by_cases hl2 : tx.length ≤ 2
      · have z2 : decide (2 < tx.length) = false := decide_eq_false (by omega)
        have z3 : ¬ (2 : Int) < (tx.length : Int) := by omega
        obtain ⟨cf, hcf⟩ : ∃ cf : World → Nat, ∀ W : World, (convert 9 65 (str tx)).run Tryz.prog W = .ok (.slice (some ⟨W.heap.size, 0, none⟩) tx.length (cf W)) (bytesAt W tx) ∧ Arr8 (bytesAt W tx) (.slice (some ⟨W.heap.size, 0, none⟩) tx.length (cf W)) tx :=
          ⟨fun W => Classical.choose (run_bytesAt2 W tx (by omega)), fun W => Classical.choose_spec (run_bytesAt2 W tx (by omega))⟩
        have hcv := fun W => (hcf W).1
        have HARR := Lib.hid (fun W => (hcf W).2)
        clear hcf
        go_enter Tryz.func160, Tryz.ntmps160
        go_wp2_with fail
        go_quiet (fail)
        obtain ⟨w1, hw1⟩ : ∃ w1, w1 = w.drewN nq := ⟨_, rfl⟩
        rw [← hw1]
        have hd : Dr w w1 := by rw [hw1]; exact (Dr.refl w).drewN _
        rw [← hd.cell] at k0 k1 k2 q0 q1 q2
        have HD := Lib.hid hd
        clear hw1 hd
        go_upto_region 4 with fail
        have HI := Lib.hid hI
        have hbsz : (bytesAt w1.drew tx).heap.size = (bytesAt w1.drew tx).heap.size := rfl
        have HBX := Lib.hid ((HD.out.ext.trans (Ext.refl w1).drew).trans (bytesAt_ext w1.drew tx))
        have HCL : Hid (∀ j, j < tx.length → (bytesAt w1.drew tx).cell? ⟨w1.heap.size, j, none⟩ = some (.int .u8 (byteAt tx j : Int))) := Lib.hid (fun j hj => bytesAt_cell w1.drew tx j hj)
        clear hbsz hI
        go_region
        clear hcv k0 k1 k2 q0 q1 q2 HARR
        generalize bytesAt w1.drew tx = wb at *
        generalize w1.heap.size = gb at *
        generalize cf w1.drew = cb at *
        go_wp2_with fail
        go_loop [4, 59] (fun s4 s59 => ∃ i : Nat, i ≤ tx.length ∧ s4 = .int .i64 (dval (tx.take i) : Int) ∧ s59 = .int .i64 (i : Int) ∧ Hid ((tx.take i).all (fun c => digN c.toNat) = true)) (fun _ s59 => tx.length - (intOf s59).toNat)
        case atStart => exact ⟨0, Nat.zero_le _, rfl, rfl, Lib.hid rfl⟩
        case round =>
          obtain ⟨i, hi, rfl, rfl, HALL⟩ := hrel
          by_cases hit : i < tx.length
          · have hst := HCL.out i hit
            have hdl := dval_le i HALL.out hl2
            have HST := Lib.hid (dval_step tx i hit)
            have hbe := byteAt_eq tx i hit
            have HTK := Lib.hid (List.take_succ_eq_append_getElem hit)
            have hc256 := byteAt_lt tx i
            have HBE := Lib.hid hbe
            obtain ⟨c, hc⟩ : ∃ c, c = byteAt tx i := ⟨_, rfl⟩
            rw [← hc] at hst hc256
            have HCC := Lib.hid hc
            clear hbe hc
            generalize hdv : dval (tx.take i) = dv at *
            have HDV := Lib.hid hdv
            clear hdv
            by_cases hdg : 48 ≤ c ∧ c ≤ 57
            · have y1 : decide (c < 48) = false := decide_eq_false (by omega)
              have y2 : decide (57 < c) = false := decide_eq_false (by omega)
              have hw1 : IntKind.i64.wrap (10 * (dv : Int)) = ((10 * dv : Nat) : Int) := by rw [IntWalk.i64_in _ (by omega)]; omega
              have hw2 : IntKind.u8.wrap ((c : Int) - 48) = ((c - 48 : Nat) : Int) := by
                have : IntKind.u8.wrap ((c : Int) - 48) = ((c : Int) - 48) % 256 := rfl
                rw [this]
                omega
              have hw3 : IntKind.i64.wrap (((c - 48 : Nat) : Int)) = ((c - 48 : Nat) : Int) := IntWalk.i64_in _ (by omega)
              obtain ⟨p1, hp1⟩ : ∃ p1, p1 = 10 * dv := ⟨_, rfl⟩
              obtain ⟨p2, hp2⟩ : ∃ p2, p2 = c - 48 := ⟨_, rfl⟩
              rw [← hp1] at hw1
              rw [← hp2] at hw2 hw3
              have hw4 : IntKind.i64.wrap ((p1 : Int) + (p2 : Int)) = ((p1 + p2 : Nat) : Int) := by rw [IntWalk.i64_in _ (by omega)]; omega
              obtain ⟨p3, hp3⟩ : ∃ p3, p3 = p1 + p2 := ⟨_, rfl⟩
              rw [← hp3] at hw4
              have HV : Hid (dval (tx.take (i + 1)) = p3) := Lib.hid (by rw [HST.out, ← HBE.out, ← HCC.out, hp3, hp1, hp2])
              have HA2 : Hid ((tx.take (i + 1)).all (fun c => digN c.toNat) = true) := Lib.hid (by
                rw [HTK.out, List.all_append, HALL.out, List.all_cons, List.all_nil, ← HBE.out, ← HCC.out]
                unfold digN
                simp [hdg.1, hdg.2])
              clear hp1 hp2 hp3
              go_wp2_with fail
              go_round
              case rel => exact ⟨i + 1, by omega, by rw [HV.out], by go_num, HA2⟩
              case measure => simp [intOf]; omega
            · have HN : Hid (expo ts a = none) := Lib.hid (by
                rw [HI.out]
                unfold digits2
                rw [if_neg]
                intro hh
                have h2 := List.all_eq_true.1 hh.2 tx[i] (List.getElem_mem hit)
                rw [← HBE.out, ← HCC.out] at h2
                unfold digN at h2
                simp at h2
                omega)
              by_cases hlo : c < 48
              · have y1 : decide (c < 48) = true := decide_eq_true hlo
                clear hdg
                go_wp2_with fail
                go_ret2
                rw [HN.out]
                exact ⟨HBX.out, rfl⟩
              · have y1 : decide (c < 48) = false := decide_eq_false hlo
                have y2 : decide (57 < c) = true := decide_eq_true (by omega)
                have y3 : 57 < c := by omega
                clear hdg
                go_wp2_with fail
                go_ret2
                rw [HN.out]
                exact ⟨HBX.out, rfl⟩
          · obtain rfl : i = tx.length := by omega
            have hal := HALL.out
            rw [List.take_of_length_le (Nat.le_refl _)] at hal
            rw [List.take_of_length_le (Nat.le_refl _)]
            have HN : Hid (expo ts a = some (dval tx)) := Lib.hid (by
              rw [HI.out]
              unfold digits2 dval
              rw [if_pos ⟨hl2, hal⟩])
            generalize dval tx = dv at *
            clear hal
            go_wp2_with fail
            go_ret2
            rw [HN.out]
            exact ⟨HBX.out, rfl⟩
      · have HI : Hid (expo ts a = none) := Lib.hid (by rw [hI]; unfold digits2; rw [if_neg (fun h => hl2 h.1)])
        have z2 : decide (2 < tx.length) = true := decide_eq_true (by omega)
        have z3 : (2 : Int) < (tx.length : Int) := by omega
        clear hI hl2
        go_enter Tryz.func160, Tryz.ntmps160
        go_wp2_with fail
        go_quiet (fail)
        go_wp2_with fail
        go_ret2
        rw [HI.out]
        exact ⟨(Ext.refl w).drewN _, rfl⟩
    · have hk2 : ((tk : Int) != 1) = true := by rw [bne_iff_ne]; omega
      have HI : Hid (expo ts a = none) := Lib.hid (by rw [hI, if_neg hk])
      clear hI hk
      go_enter Tryz.func160, Tryz.ntmps160
      go_wp2_with fail
      go_quiet (fail)
      go_wp2_with fail
      go_ret2
      rw [HI.out]
      exact ⟨(Ext.refl w).drewN _, rfl⟩
  · have HI : Hid (expo ts a = none) := Lib.hid (by
      unfold expo
      rw [List.getElem?_eq_none (by rw [← HNT.out]; exact hge)])
    have z1 : decide (n ≤ a) = true := decide_eq_true hge
    have z2 : (n : Int) ≤ (a : Int) := by omega
    clear hcell
    go_enter Tryz.func160, Tryz.ntmps160
    go_wp2_with fail
    go_quiet (fail)
    go_wp2_with fail
    go_ret2
    rw [HI.out]
    exact ⟨(Ext.refl w).drewN _, rfl⟩
end Big
end Go.Proofs.YtgopljllknbelaaGreatDoor
