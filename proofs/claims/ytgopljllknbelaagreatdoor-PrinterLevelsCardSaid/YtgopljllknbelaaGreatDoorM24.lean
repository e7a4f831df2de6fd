import Derived.Test.YtgopljllknbelaaGreatDoorM4
import Derived.Test.YtgopljllknbelaaGreatDoorM16
import Derived.Test.YtgopljllknbelaaGreatDoorM20
import Derived.Test.YtgopljllknbelaaGreatDoorM23
import Derived.Test.YtgopljllknbelaaGreatDoorM22
/- Expressions from tokens: plain. -/
namespace Go.Proofs.YtgopljllknbelaaGreatDoor
namespace Big
/-- Is the token at a place a sign with this text? -/
def isS (ts : List Tok) (a : Nat) (c : List UInt8) : Bool := match ts[a]? with
  | some t => t.kind == 3 && t.text == c
  | none => false
/-- How many minus signs stand from a place on. -/
def minusRun (ts : List Tok) : Nat → Nat → Nat
  | 0, _ => 0
  | f + 1, a => if isS ts a [45] then minusRun ts f (a + 1) + 1 else 0
/-- A value of one or two digits. -/
def digits2 (t : List UInt8) : Option Nat :=
  if t.length ≤ 2 ∧ t.all (fun c => digN c.toNat) then some (t.foldl (fun n c => 10 * n + (c.toNat - 48)) 0) else none
/-- An exponent's number. -/
def expo (ts : List Tok) (a : Nat) : Option Nat := match ts[a]? with
  | some t => if t.kind = 1 then digits2 t.text else none
  | none => none
def negs : Nat → Ex → Ex
  | 0, x => x
  | n + 1, x => negs n (.un 5 0 x)
/-- An atom; p reads a sum. -/
def pAtom (p : Nat → Option Ex × Nat) (ts : List Tok) (a : Nat) : Option Ex × Nat := match ts[a]? with
  | none => (none, a)
  | some t =>
    if t.kind = 3 then
      (if t.text = [40] then (match p (a + 1) with
        | (none, b) => (none, b)
        | (some x, b) => if isS ts b [41] then (some x, b + 1) else (none, b))
      else (none, a))
    else if t.kind = 1 then (some (.leaf 1 t.text), a + 1)
    else if funcK t.text ≠ 0 then
      (if isS ts (a + 1) [40] then (match p (a + 2) with
        | (none, b) => (none, b)
        | (some x, b) => if isS ts b [41] then (some (.un (funcK t.text) 0 x), b + 1) else (none, b))
      else (none, a + 1))
    else if t.text = [112, 105] then (some (.leaf 3 []), a + 1)
    else if t.text = [101] then (some (.leaf 4 []), a + 1)
    else (some (.leaf 2 t.text), a + 1)
def pPower (p : Nat → Option Ex × Nat) (ts : List Tok) (a : Nat) : Option Ex × Nat := match pAtom p ts a with
  | (none, b) => (none, b)
  | (some x, b) =>
    if isS ts b [94] then
      (if isS ts (b + 1) [45] then
        (match expo ts (b + 2) with
          | some n => (some (.un 10 (-(n : Int)) x), b + 3)
          | none => (none, b + 2))
      else (match expo ts (b + 1) with
          | some n => (some (.un 10 (n : Int) x), b + 2)
          | none => (none, b + 1)))
    else (some x, b)
def pMinus (p : Nat → Option Ex × Nat) (ts : List Tok) (a : Nat) : Option Ex × Nat :=
  match pPower p ts (a + minusRun ts ts.length a) with
  | (none, b) => (none, b)
  | (some x, b) => (some (negs (minusRun ts ts.length a) x), b)
/-- A chain's rest, behind the operand e. -/
def chainGo (op : Nat → Option Ex × Nat) (ts : List Tok) (c1 c2 : List UInt8) (k1 k2 : Nat) : Nat → Ex → Nat → Option Ex × Nat
  | 0, e, a => (some e, a)
  | f + 1, e, a =>
    if isS ts a c1 then (match op (a + 1) with
      | (none, b) => (none, b)
      | (some y, b) => chainGo op ts c1 c2 k1 k2 f (.bin k1 e y) b)
    else if isS ts a c2 then (match op (a + 1) with
      | (none, b) => (none, b)
      | (some y, b) => chainGo op ts c1 c2 k1 k2 f (.bin k2 e y) b)
    else (some e, a)
def chainP (op : Nat → Option Ex × Nat) (ts : List Tok) (c1 c2 : List UInt8) (k1 k2 : Nat) (a : Nat) : Option Ex × Nat := match op a with
  | (none, b) => (none, b)
  | (some x, b) => chainGo op ts c1 c2 k1 k2 ts.length x b
def pProd (p : Nat → Option Ex × Nat) (ts : List Tok) (a : Nat) : Option Ex × Nat := chainP (pMinus p ts) ts [42] [47] 8 9 a
/-- A sum; the first number bounds how deep parentheses may stand in parentheses. -/
def pSum (ts : List Tok) : Nat → Nat → Option Ex × Nat
  | 0, a => (none, a)
  | f + 1, a => chainP (pProd (pSum ts f) ts) ts [43] [45] 6 7 a
theorem isS_lt {ts : List Tok} {a : Nat} {c : List UInt8} (h : isS ts a c = true) : a < ts.length := by
  unfold isS at h
  split at h
  · rename_i t ht
    exact (List.getElem?_eq_some_iff.1 ht).1
  · cases h
/-- What holds of every reader: it goes on by at least one token if it reads anything, and never beyond the end; the nodes are fewer than the tokens. -/
def PGood (ts : List Tok) (a : Nat) (r : Option Ex × Nat) : Prop := a ≤ ts.length → a ≤ r.2 ∧ r.2 ≤ ts.length ∧ ∀ x, r.1 = some x → a + x.size ≤ r.2
theorem PGood.none_ {ts : List Tok} {a b : Nat} (h1 : a ≤ ts.length → a ≤ b ∧ b ≤ ts.length) : PGood ts a (none, b) := fun h => ⟨(h1 h).1, (h1 h).2, fun x hx => by cases hx⟩
theorem PGood.some_ {ts : List Tok} {a b : Nat} {x : Ex} (h1 : a ≤ ts.length → b ≤ ts.length ∧ a + x.size ≤ b) : PGood ts a (some x, b) := fun h => ⟨by have := h1 h; simp only; omega, (h1 h).1, fun y hy => by
  have : x = y := Option.some.inj hy
  subst this
  exact (h1 h).2⟩
theorem pAtom_good {p : Nat → Option Ex × Nat} {ts : List Tok} (hp : ∀ a, PGood ts a (p a)) (a : Nat) : PGood ts a (pAtom p ts a) := by
  unfold pAtom
  split
  · exact PGood.none_ (fun h => ⟨Nat.le_refl _, h⟩)
  · rename_i t ht
    have hl := (List.getElem?_eq_some_iff.1 ht).1
    split
    · split
      · have h1 := hp (a + 1) (by omega)
        split
        · rename_i b hb
          rw [hb] at h1
          exact PGood.none_ (fun _ => ⟨by have := h1.1; simp only at this; omega, h1.2.1⟩)
        · rename_i x b hb
          rw [hb] at h1
          have h2 := h1.2.2 x rfl
          simp only at h1 h2
          split
          · rename_i hs
            have := isS_lt hs
            exact PGood.some_ (fun _ => ⟨by omega, by omega⟩)
          · exact PGood.none_ (fun _ => ⟨by omega, by omega⟩)
      · exact PGood.none_ (fun h => ⟨Nat.le_refl _, h⟩)
    · split
      · exact PGood.some_ (fun _ => ⟨by omega, by simp [Ex.size]⟩)
      · split
        · split
          · rename_i hs
            have hl2 := isS_lt hs
            have h1 := hp (a + 2) (by omega)
            split
            · rename_i b hb
              rw [hb] at h1
              exact PGood.none_ (fun _ => ⟨by have := h1.1; simp only at this; omega, h1.2.1⟩)
            · rename_i x b hb
              rw [hb] at h1
              have h2 := h1.2.2 x rfl
              simp only at h1 h2
              split
              · rename_i hs2
                have := isS_lt hs2
                exact PGood.some_ (fun _ => ⟨by omega, by rw [Ex.size]; omega⟩)
              · exact PGood.none_ (fun _ => ⟨by omega, by omega⟩)
          · exact PGood.none_ (fun _ => ⟨by omega, by omega⟩)
        · split
          · exact PGood.some_ (fun _ => ⟨by omega, by simp [Ex.size]⟩)
          · split
            · exact PGood.some_ (fun _ => ⟨by omega, by simp [Ex.size]⟩)
            · exact PGood.some_ (fun _ => ⟨by omega, by simp [Ex.size]⟩)
theorem expo_lt {ts : List Tok} {a n : Nat} (h : expo ts a = some n) : a < ts.length := by
  unfold expo at h
  split at h
  · rename_i t ht
    exact (List.getElem?_eq_some_iff.1 ht).1
  · cases h
theorem pPower_good {p : Nat → Option Ex × Nat} {ts : List Tok} (hp : ∀ a, PGood ts a (p a)) (a : Nat) : PGood ts a (pPower p ts a) := by
  intro ha
  have h1 := pAtom_good hp a ha
  revert ha
  show PGood ts a (pPower p ts a)
  unfold pPower
  split
  · rename_i b hb
    rw [hb] at h1
    exact PGood.none_ (fun _ => ⟨h1.1, h1.2.1⟩)
  · rename_i x b hb
    rw [hb] at h1
    have h2 := h1.2.2 x rfl
    simp only at h1 h2
    split
    · rename_i hs
      have hl := isS_lt hs
      split
      · rename_i hs2
        have hl2 := isS_lt hs2
        split
        · rename_i n hn
          have := expo_lt hn
          exact PGood.some_ (fun _ => ⟨by omega, by rw [Ex.size]; omega⟩)
        · exact PGood.none_ (fun _ => ⟨by omega, by omega⟩)
      · split
        · rename_i n hn
          have := expo_lt hn
          exact PGood.some_ (fun _ => ⟨by omega, by rw [Ex.size]; omega⟩)
        · exact PGood.none_ (fun _ => ⟨by omega, by omega⟩)
    · exact PGood.some_ (fun _ => ⟨by omega, by omega⟩)
theorem minusRun_le (ts : List Tok) : ∀ (f a : Nat), a ≤ ts.length → a + minusRun ts f a ≤ ts.length := by
  intro f
  induction f with
  | zero => intro a h; exact h
  | succ f ih =>
    intro a h
    unfold minusRun
    split
    · rename_i hs
      have := ih (a + 1) (isS_lt hs)
      omega
    · omega
theorem negs_size (n : Nat) : ∀ x : Ex, (negs n x).size = n + x.size := by
  induction n with
  | zero => intro x; simp [negs]
  | succ n ih => intro x; rw [negs, ih, Ex.size]; omega
theorem pMinus_good {p : Nat → Option Ex × Nat} {ts : List Tok} (hp : ∀ a, PGood ts a (p a)) (a : Nat) : PGood ts a (pMinus p ts a) := by
  intro ha
  have h0 := minusRun_le ts ts.length a ha
  have h1 := pPower_good hp (a + minusRun ts ts.length a) h0
  revert ha
  show PGood ts a (pMinus p ts a)
  unfold pMinus
  split
  · rename_i b hb
    rw [hb] at h1
    exact PGood.none_ (fun _ => ⟨by have := h1.1; simp only at this; omega, h1.2.1⟩)
  · rename_i x b hb
    rw [hb] at h1
    have h2 := h1.2.2 x rfl
    simp only at h1 h2
    exact PGood.some_ (fun _ => ⟨by omega, by rw [negs_size]; omega⟩)
theorem chainGo_good {op : Nat → Option Ex × Nat} {ts : List Tok} {c1 c2 : List UInt8} {k1 k2 : Nat} (ho : ∀ a, PGood ts a (op a)) (a0 : Nat) : ∀ (f : Nat) (e : Ex) (a : Nat), a ≤ ts.length → a0 + e.size ≤ a → PGood ts a0 (chainGo op ts c1 c2 k1 k2 f e a) := by
  intro f
  induction f with
  | zero => intro e a h1 h2; exact PGood.some_ (fun _ => ⟨h1, h2⟩)
  | succ f ih =>
    intro e a h1 h2
    unfold chainGo
    split
    · rename_i hs
      have hl := isS_lt hs
      have h3 := ho (a + 1) hl
      split
      · rename_i b hb
        rw [hb] at h3
        simp only at h3
        exact PGood.none_ (fun _ => ⟨by omega, h3.2.1⟩)
      · rename_i y b hb
        rw [hb] at h3
        have h4 := h3.2.2 y rfl
        simp only at h3 h4
        exact ih _ _ h3.2.1 (by rw [Ex.size]; omega)
    · split
      · rename_i hs
        have hl := isS_lt hs
        have h3 := ho (a + 1) hl
        split
        · rename_i b hb
          rw [hb] at h3
          simp only at h3
          exact PGood.none_ (fun _ => ⟨by omega, h3.2.1⟩)
        · rename_i y b hb
          rw [hb] at h3
          have h4 := h3.2.2 y rfl
          simp only at h3 h4
          exact ih _ _ h3.2.1 (by rw [Ex.size]; omega)
      · exact PGood.some_ (fun _ => ⟨h1, h2⟩)
theorem chainP_good {op : Nat → Option Ex × Nat} {ts : List Tok} {c1 c2 : List UInt8} {k1 k2 : Nat} (ho : ∀ a, PGood ts a (op a)) (a : Nat) : PGood ts a (chainP op ts c1 c2 k1 k2 a) := by
  intro ha
  have h1 := ho a ha
  revert ha
  show PGood ts a (chainP op ts c1 c2 k1 k2 a)
  unfold chainP
  split
  · rename_i b hb
    rw [hb] at h1
    exact PGood.none_ (fun _ => ⟨h1.1, h1.2.1⟩)
  · rename_i x b hb
    rw [hb] at h1
    have h2 := h1.2.2 x rfl
    simp only at h1 h2
    exact chainGo_good ho a _ _ _ h1.2.1 h2
theorem pProd_good {p : Nat → Option Ex × Nat} {ts : List Tok} (hp : ∀ a, PGood ts a (p a)) (a : Nat) : PGood ts a (pProd p ts a) := chainP_good (pMinus_good hp) a
theorem pSum_good (ts : List Tok) : ∀ (f a : Nat), PGood ts a (pSum ts f a) := by
  intro f
  induction f with
  | zero => intro a; exact PGood.none_ (fun h => ⟨Nat.le_refl _, h⟩)
  | succ f ih => intro a; exact chainP_good (pProd_good ih) a
end Big
end Go.Proofs.YtgopljllknbelaaGreatDoor
/- The program's reader of tokens: sees, take, last, add. -/
namespace Go.Proofs.YtgopljllknbelaaGreatDoor
namespace Big
open Go.RowKit
/-- v reads as the tokens ts, in memory below g. -/
def TokAt (g : Nat) (w : World) (v : Value) (ts : List Tok) : Prop :=
  ∃ A c, v = .slice A ts.length c ∧ (0 < ts.length → ∃ b, A = some ⟨b, 0, none⟩ ∧ b < g ∧ b < w.heap.size ∧ ∀ i (hi : i < ts.length), w.cell? ⟨b, i * 3, none⟩ = some (.int .i64 (ts[i].kind : Int)) ∧ w.cell? ⟨b, i * 3 + 1, none⟩ = some (.int .i64 (ts[i].at_ : Int)) ∧ w.cell? ⟨b, i * 3 + 2, none⟩ = some (str ts[i].text))
theorem TokAt.of {w : World} {v : Value} {ts : List Tok} (h : TokRow w v ts) : TokAt w.heap.size w v ts := by
  obtain ⟨A, c, rfl, h1⟩ := h.cells
  refine ⟨A, c, rfl, fun hp => ?_⟩
  obtain ⟨b, rfl, h2⟩ := h1 hp
  have hb := World.block_lt_of_cell? w _ (h2 0 hp).1
  exact ⟨b, rfl, hb, hb, h2⟩
theorem TokAt.below {g : Nat} {w w' : World} {v : Value} {ts : List Tok} (h : TokAt g w v ts) (hb : Below g w w') : TokAt g w' v ts := by
  obtain ⟨A, c, rfl, h1⟩ := h
  refine ⟨A, c, rfl, fun hp => ?_⟩
  obtain ⟨b, rfl, h2, h3, h4⟩ := h1 hp
  refine ⟨b, rfl, h2, Nat.lt_of_lt_of_le h3 hb.size, fun i hi => ?_⟩
  have hk : ∀ o, w'.cell? ⟨b, o, none⟩ = w.cell? ⟨b, o, none⟩ := fun o => World.cell?_of_block (a := ⟨b, o, none⟩) (hb.block b h2)
  rw [hk, hk, hk]
  exact h4 i hi
/-- The program's reader at block g: its tokens, the place, the nodes. -/
structure RdP (g : Nat) (w : World) (ts : List Tok) (a : Nat) (ns : List Nd) (tv nv : Value) : Prop where
  blk : Blk w g 84 #[tv, .int .i64 (a : Int), nv]
  row : OwnNd (g + 1) w nv ns
  tok : TokAt g w tv ts
  few : ns.length ≤ a
  le : a ≤ ts.length
  max : ts.length ≤ 1000000
/-- All is kept but block g and the row nv, which becomes nv'. -/
structure KR (g : Nat) (nv nv' : Value) (w w' : World) : Prop where
  os : w'.os = w.os
  tape : w'.tape = w.tape
  output : w'.output = w.output
  size : w.heap.size ≤ w'.heap.size
  block : ∀ k, k < w.heap.size → k ≠ g → nv.ownBlock ≠ some k → w'.heap[k]? = w.heap[k]?
  move : ∀ j, nv'.ownBlock = some j → nv.ownBlock = some j ∨ w.heap.size ≤ j
theorem KR.of_ext {g : Nat} {nv : Value} {w w' : World} (h : Ext w w') : KR g nv nv w w' := ⟨h.os, h.tape, h.output, h.size, fun k hk _ _ => h.block k hk, fun _ hj => .inl hj⟩
theorem KR.trans {g : Nat} {n1 n2 n3 : Value} {w1 w2 w3 : World} (h : KR g n1 n2 w1 w2) (k : KR g n2 n3 w2 w3) : KR g n1 n3 w1 w3 :=
  ⟨k.os.trans h.os, k.tape.trans h.tape, k.output.trans h.output, Nat.le_trans h.size k.size, fun i h1 h2 h3 =>
    (k.block i (Nat.lt_of_lt_of_le h1 h.size) h2 (fun e => by
      rcases h.move i e with h4 | h4
      · exact h3 h4
      · omega)).trans (h.block i h1 h2 h3), fun j hj => by
    rcases k.move j hj with h4 | h4
    · exact h.move j h4
    · exact .inr (Nat.le_trans h.size h4)⟩
theorem KR.blk {g b : Nat} {n1 n2 : Value} {w w' : World} {t : TypeId} {cs : Array Value} (h : KR g n1 n2 w w') (hb : Blk w b t cs) (h1 : b ≠ g) (h2 : n1.ownBlock ≠ some b) : Blk w' b t cs := (h.block b hb.lt h1 h2).trans hb
theorem KR.below {g : Nat} {n1 n2 : Value} {w w' : World} {ns : List Nd} (h : KR g n1 n2 w w') (hr : OwnNd (g + 1) w n1 ns) (hg : g ≤ w.heap.size) : Below g w w' :=
  ⟨h.os, h.tape, h.output, h.size, fun k hk => h.block k (by omega) (by omega) (fun e => by have := ownsRow_block hr k e; omega)⟩
theorem RdP.lt {g : Nat} {w : World} {ts : List Tok} {a : Nat} {ns : List Nd} {tv nv : Value} (h : RdP g w ts a ns tv nv) : g < w.heap.size := h.blk.lt
/-- Kept where all but what lies above is kept. -/
theorem RdP.keep {g : Nat} {w w' : World} {ts : List Tok} {a : Nat} {ns : List Nd} {tv nv : Value} (h : RdP g w ts a ns tv nv) (hx : Ext w w') : RdP g w' ts a ns tv nv :=
  ⟨h.blk.ext hx, h.row.ext hx, h.tok.below (Below.mono hx (Nat.le_of_lt h.blk.lt)), h.few, h.le, h.max⟩
/-- What a reading function returns. -/
def OpPost (g : Nat) (ts : List Tok) (tv : Value) (ns : List Nd) (nv : Value) (r : Option Ex × Nat) (w : World) (e : Ending) (w' : World) : Prop :=
  ∃ nv', KR g nv nv' w w' ∧ match r with
    | (some x, b) => e = .returned (.bool true) ∧ RdP g w' ts b (ns ++ flat ns.length x) tv nv'
    | (none, b) => e = .returned (.bool false) ∧ ∃ ns', RdP g w' ts b ns' tv nv'
theorem Blk.three' {w : World} {g : Nat} {t : TypeId} {a b c : Value} (h : Blk w g t #[a, b, c]) : w.cell? ⟨g, 0, none⟩ = some a ∧ w.cell? ⟨g, 1, none⟩ = some b ∧ w.cell? ⟨g, 2, none⟩ = some c ∧ w.frozen? ⟨g, 0, none⟩ = false ∧ w.frozen? ⟨g, 1, none⟩ = false ∧ w.frozen? ⟨g, 2, none⟩ = false ∧ g < w.heap.size :=
  ⟨h.cell 0, h.cell 1, h.cell 2, h.frozen 0, h.frozen 1, h.frozen 2, h.lt⟩
set_option maxRecDepth 100000 in
theorem sees_any (g : Nat) (w : World) (ts : List Tok) (a : Nat) (ns : List Nd) (tv nv : Value) (c : List UInt8) (h : RdP g w ts a ns tv nv) :
    Calls Tryz.prog 137 #[.pointer (some ⟨g, 0, none⟩), str c] w fun e w' => e = .returned (.bool (isS ts a c)) ∧ Dr w w' := by
  have hb := h.blk
  have hn := h.row
  obtain ⟨A, c0, rfl, hcell⟩ := h.tok
  obtain ⟨A2, c2, rfl⟩ := hn.shape
  have hle := h.le
  have hmax := h.max
  obtain ⟨k0, k1, k2, _, _, _, hg⟩ := hb.three'
  clear hb hn h
  obtain ⟨n, hnt⟩ : ∃ n, n = ts.length := ⟨_, rfl⟩
  rw [← hnt] at k0 hle hmax
  have HNT := Lib.hid hnt
  clear hnt
  rcases Nat.lt_or_ge a n with hlt | hge
  · have hlt2 : a < ts.length := by rw [← HNT.out]; exact hlt
    obtain ⟨b, rfl, _, _, hc⟩ := hcell (by omega)
    obtain ⟨q0, q1, q2⟩ := hc a hlt2
    have hI : isS ts a c = ((ts[a].kind == 3) && (ts[a].text == c)) := by
      unfold isS
      rw [List.getElem?_eq_getElem hlt2]
    have HI := Lib.hid hI
    clear hI hcell hc
    generalize ts[a].kind = tk at *
    generalize ts[a].text = tx at *
    generalize isS ts a c = r at *
    have z1 : decide (a < n) = true := decide_eq_true hlt
    cases hk : (tk == 3)
    · have hk2 : ((tk : Int) == 3) = false := by
        rw [beq_eq_false_iff_ne] at hk ⊢
        omega
      rw [hk] at HI
      clear hk
      go_enter Tryz.func137, Tryz.ntmps137
      go_wp2_with fail
      go_quiet (fail)
      go_wp2_with fail
      go_ret
      exact ⟨by rw [HI.out]; rfl, (Dr.refl w).drewN _⟩
    · have hk2 : ((tk : Int) == 3) = true := by
        rw [beq_iff_eq] at hk ⊢
        omega
      rw [hk] at HI
      clear hk
      go_enter Tryz.func137, Tryz.ntmps137
      go_wp2_with fail
      go_quiet (fail)
      go_wp2_with fail
      go_ret
      exact ⟨by rw [HI.out]; rfl, (Dr.refl w).drewN _⟩
  · have HI : Hid (isS ts a c = false) := Lib.hid (by
      unfold isS
      rw [List.getElem?_eq_none (by rw [← HNT.out]; exact hge)])
    have z1 : decide (a < n) = false := decide_eq_false (by omega)
    have z2 : ¬ (a : Int) < (n : Int) := by omega
    clear hcell
    go_enter Tryz.func137, Tryz.ntmps137
    go_wp2_with fail
    go_quiet (fail)
    go_wp2_with fail
    go_ret
    exact ⟨by rw [HI.out]; rfl, (Dr.refl w).drewN _⟩
/-- One token further. -/
theorem RdP.step {g : Nat} {w : World} {ts : List Tok} {a : Nat} {ns : List Nd} {tv nv : Value} (h : RdP g w ts a ns tv nv) (ha : a < ts.length) : RdP g (w.setCell ⟨g, 1, none⟩ (.int .i64 ((a : Int) + 1))) ts (a + 1) ns tv nv ∧ KR g nv nv w (w.setCell ⟨g, 1, none⟩ (.int .i64 ((a : Int) + 1))) := by
  have hb : Below g w (w.setCell ⟨g, 1, none⟩ (.int .i64 ((a : Int) + 1))) := Below.setCell (Below.refl g w) (p := ⟨g, 1, none⟩) (Nat.le_refl _) _
  refine ⟨⟨?_, h.row.kept (fun k hk _ => Below.heap_setCell _ _ _ k (by show k ≠ g; omega)), h.tok.below hb, by have := h.few; omega, ha, h.max⟩, ⟨hb.os, hb.tape, hb.output, hb.size, fun k _ hk _ => Below.heap_setCell _ _ _ k hk, fun _ hj => .inl hj⟩⟩
  have h3 := h.blk.set_ 1 (.int .i64 ((a : Int) + 1))
  rw [Int.natCast_add]
  exact h3
set_option maxRecDepth 100000 in
theorem take_any (g : Nat) (w : World) (ts : List Tok) (a : Nat) (ns : List Nd) (tv nv : Value) (c : List UInt8) (h : RdP g w ts a ns tv nv) :
    Calls Tryz.prog 106 #[.pointer (some ⟨g, 0, none⟩), str c] w fun e w' => e = .returned (.bool (isS ts a c)) ∧ KR g nv nv w w' ∧ RdP g w' ts (if isS ts a c then a + 1 else a) ns tv nv := by
  have HS := Lib.hid (sees_any g w ts a ns tv nv c h)
  have H := Lib.hid h
  have hmax := h.max
  have hle := h.le
  cases hs : isS ts a c
  · rw [hs] at HS
    clear h hs
    go_enter Tryz.func106, Tryz.ntmps106
    go_wp2_with fail
    refine HS.out.mono ?_
    rintro e w1 ⟨rfl, hd⟩
    have HD := Lib.hid hd
    clear hd
    go_wp2_with fail
    go_ret
    exact ⟨rfl, KR.of_ext HD.out.ext, H.out.keep HD.out.ext⟩
  · rw [hs] at HS
    have hlt := isS_lt hs
    have hw1 : IntKind.i64.wrap ((a : Int) + 1) = (a : Int) + 1 := IntWalk.i64_in _ (by omega)
    clear h hs
    go_enter Tryz.func106, Tryz.ntmps106
    go_wp2_with fail
    refine HS.out.mono ?_
    rintro e w1 ⟨rfl, hd⟩
    have hr := H.out.keep hd.ext
    have HR := Lib.hid hr
    have HD := Lib.hid hd
    have hb := hr.blk
    obtain ⟨k0, k1, k2, f0, f1, f2, hg⟩ := hb.three'
    clear hd hr hb
    go_wp2_with fail
    go_ret
    have h3 := HR.out.step hlt
    exact ⟨rfl, (KR.of_ext HD.out.ext).trans h3.2, h3.1⟩
set_option maxRecDepth 100000 in
theorem last_any (g : Nat) (w : World) (ts : List Tok) (a : Nat) (ns : List Nd) (tv nv : Value) (h : RdP g w ts a ns tv nv) :
    Calls Tryz.prog 107 #[.pointer (some ⟨g, 0, none⟩)] w fun e w' => e = .returned (.int .i64 ((ns.length : Int) - 1)) ∧ w = w' := by
  have hb := h.blk
  have hn := h.row
  obtain ⟨A2, c2, rfl⟩ := hn.shape
  have h1 := h.few
  have h2 := h.le
  have h3 := h.max
  obtain ⟨k0, k1, k2, _, _, _, hg⟩ := hb.three'
  have hw1 : IntKind.i64.wrap ((ns.length : Int) - 1) = (ns.length : Int) - 1 := IntWalk.i64_in _ (by omega)
  clear hb hn h
  go_enter Tryz.func107, Tryz.ntmps107
  go_wp2_with fail
  go_ret
  exact ⟨rfl, rfl⟩
set_option maxHeartbeats 1000000 in
set_option maxRecDepth 100000 in
theorem add_any (g : Nat) (w : World) (ts : List Tok) (a : Nat) (ns : List Nd) (tv nv : Value) (nd : Nd) (h : RdP g w ts a ns tv nv) (hf : ns.length + 1 ≤ a) :
    Calls Tryz.prog 108 #[.pointer (some ⟨g, 0, none⟩), ndV nd] w fun e w' => ∃ nv', e = .returned (.tuple #[]) ∧ KR g nv nv' w w' ∧ RdP g w' ts a (ns ++ [nd]) tv nv' := by
  have hblk := h.blk
  have hrow := h.row
  have HT := Lib.hid h.tok
  have hle := h.le
  have hmax := h.max
  have HB := Lib.hid hblk
  have HR := Lib.hid hrow
  obtain ⟨A, c, rfl⟩ := hrow.shape
  have hgz := hblk.lt
  obtain ⟨i0, hi, hz0, hz1, hz2⟩ := info_parts info_node
  obtain ⟨kd, na, nb, nn, nt⟩ := nd
  simp only [ndV]
  obtain ⟨s, hs⟩ : ∃ s : ByteArray, s = ⟨nt.toArray⟩ := ⟨_, rfl⟩
  have HTC : Hid (ndC ⟨kd, na, nb, nn, nt⟩ = [.int .i64 kd, .int .i64 na, .int .i64 nb, .int .i64 nn, .string s]) := Lib.hid (by rw [hs]; rfl)
  have hst : str nt = .string s := by rw [hs]; rfl
  rw [hst]
  clear hst hs h
  obtain ⟨w0, hw0⟩ : ∃ w0, w0 = w.alloc (.cells #[.int .i64 kd, .int .i64 na, .int .i64 nb, .int .i64 nn, .string s] 42) := ⟨_, rfl⟩
  have hx0 : Ext w w0 := by rw [hw0]; exact (Ext.refl w).alloc _
  have hbx : Blk w0 w.heap.size 42 #[.int .i64 kd, .int .i64 na, .int .i64 nb, .int .i64 nn, .string s] := by rw [hw0]; exact Blk.new w _ _
  have hsz : w0.heap.size = w.heap.size + 1 := by rw [hw0]; simp
  have HB0 := Lib.hid (HB.out.ext hx0)
  have HR0 := Lib.hid (HR.out.ext hx0)
  have HX0 := Lib.hid hx0
  have hne : ∀ k, (Value.slice A ns.length c).ownBlock = some k → g ≠ k := fun k hk => by have := ownsRow_block HR.out k hk; omega
  have HMID : Hid (∀ w' : World, (w0.alloc (.cells #[.int .i64 kd, .int .i64 na, .int .i64 nb, .int .i64 nn, .string s] 42)).drew.grownBy w' (Value.slice A ns.length c).ownBlock → Blk w' g 84 #[tv, .int .i64 (a : Int), .slice A ns.length c] ∧ (Below g w0 w' ∧ ∀ k, k < w.heap.size → (Value.slice A ns.length c).ownBlock ≠ some k → w'.heap[k]? = w.heap[k]?)) := Lib.hid (fun w' hgr => by
    refine ⟨?_, ?_⟩
    · have h1 := hgr.block g (show g < (w0.alloc (.cells #[.int .i64 kd, .int .i64 na, .int .i64 nb, .int .i64 nn, .string s] 42)).drew.heap.size by simp; omega) (fun e => hne g e.symm rfl)
      exact h1.trans ((HB0.out.alloc (.cells #[.int .i64 kd, .int .i64 na, .int .i64 nb, .int .i64 nn, .string s] 42)).drew)
    · refine ⟨(((Below.refl g w0).alloc (by omega) _).drew).grown hgr (by simp; omega) (fun k hk => by have := ownsRow_block HR.out k hk; omega), fun k hk hne2 => ?_⟩
      have h1 := hgr.block k (show k < (w0.alloc (.cells #[.int .i64 kd, .int .i64 na, .int .i64 nb, .int .i64 nn, .string s] 42)).drew.heap.size by simp; omega) (fun e => hne2 e.symm)
      rw [h1]
      exact (Below.heap_alloc w0 _ k (by omega)).trans (hx0.block k hk))
  have HC0 : Hid (∀ (j : Nat) (u : Value), [Value.int .i64 kd, Value.int .i64 na, Value.int .i64 nb, Value.int .i64 nn, Value.string s][j]? = some u → (w0.alloc (.cells #[.int .i64 kd, .int .i64 na, .int .i64 nb, .int .i64 nn, .string s] 42)).drew.cell? ((⟨w0.heap.size, 0, none⟩ : Addr).add j) = some u) := Lib.hid (fun j u hj => by
    have h1 := (Blk.new w0 42 #[.int .i64 kd, .int .i64 na, .int .i64 nb, .int .i64 nn, .string s]).drew.cell j
    have h2 : (⟨w0.heap.size, 0, none⟩ : Addr).add j = ⟨w0.heap.size, j, none⟩ := by
      unfold Addr.add
      split
      · rename_i h; subst h; rfl
      · simp
    rw [h2, h1, ← hj]
    simp)
  have HRO : Hid ((w0.alloc (.cells #[.int .i64 kd, .int .i64 na, .int .i64 nb, .int .i64 nn, .string s] 42)).drew.ownsRow (g + 1) 42 5 (.slice A ns.length c) ns.length (ndsC ns)) := Lib.hid (ownsRow_below HR0.out (fun k _ hk => Below.heap_alloc w0 _ k hk))
  have HB1 : Hid (ns.length + 1 ≤ maxLen) := Lib.hid (by unfold maxLen; omega)
  have HB2 : Hid ((ns.length + 1) * 48 ≤ 140737488355328) := Lib.hid (by omega)
  have HB3 : Hid (g + 1 ≤ (w0.alloc (.cells #[.int .i64 kd, .int .i64 na, .int .i64 nb, .int .i64 nn, .string s] 42)).drew.heap.size) := Lib.hid (by simp; omega)
  obtain ⟨q0, q1, q2, q3, q4⟩ := hbx.five
  obtain ⟨k0, k1, k2, f0, f1, f2, hg0⟩ := HB0.out.three'
  clear hne hx0 hbx
  go_enter Tryz.func108, Tryz.ntmps108
  rw [hsz] at HC0
  go_upto_region 1 with fail
  rw [← hw0]
  clear hw0
  go_region_law (refine step_append_lies _ rfl (.tmp 8) (.tmp 10) 25 rfl (g + 1) 42 i0 _ 5 48 Tryz.underlying25 hi hz0 hz1 hz2 rfl (by decide) _ ns.length (ndsC ns) rfl HRO.out ⟨w.heap.size + 1, 0, none⟩ 1 1 [.int .i64 kd, .int .i64 na, .int .i64 nb, .int .i64 nn, .string s] rfl rfl HC0.out (by simp [Value.oneCell']) (by decide) HB1.out HB2.out HB3.out _ rfl ?_; intro g' c' w' hown hgr hat hlt; have HOW := Lib.hid hown; have HM := Lib.hid (HMID.out w' hgr); have HAT := Lib.hid hat; clear hown hgr hat; obtain ⟨m0, m1, m2, g0, g1, g2, hgz2⟩ := HM.out.1.three')
  all_goals
    have hf1 := HM.out.1.set_ 2 (.slice (some ⟨g', 0, none⟩) (ns.length + 1) c')
    have HBE := Lib.hid ((Below.mono HX0.out (Nat.le_of_lt hgz)).trans (HM.out.2.1.setCell (p := ⟨g, 2, none⟩) (Nat.le_refl _) (.slice (some ⟨g', 0, none⟩) (ns.length + 1) c')))
    have HF : Hid (RdP g (w'.setCell ⟨g, 2, none⟩ (.slice (some ⟨g', 0, none⟩) (ns.length + 1) c')) ts a (ns ++ [⟨kd, na, nb, nn, nt⟩]) tv (.slice (some ⟨g', 0, none⟩) (ns.length + 1) c')) := Lib.hid ⟨hf1, by
        have h3 := HOW.out
        unfold OwnNd
        rw [ndsC_append, ndsC_one, HTC.out, List.length_append, List.length_singleton]
        exact ownsRow_below h3 (fun k hk _ => Below.heap_setCell _ _ _ k (by show k ≠ g; omega)), HT.out.below HBE.out, by rw [List.length_append, List.length_singleton]; exact hf, hle, hmax⟩
    have HKR : Hid (KR g (.slice A ns.length c) (.slice (some ⟨g', 0, none⟩) (ns.length + 1) c') w (w'.setCell ⟨g, 2, none⟩ (.slice (some ⟨g', 0, none⟩) (ns.length + 1) c'))) := Lib.hid ⟨HBE.out.os, HBE.out.tape, HBE.out.output, HBE.out.size, fun k h1 h2 h3 => (Below.heap_setCell _ _ _ k h2).trans (HM.out.2.2 k h1 h3), fun j hj => by
        simp only [Value.ownBlock, Option.some.injEq] at hj
        subst hj
        rcases HAT.out with h4 | h4
        · exact .inl h4
        · right
          rw [h4]
          simp
          omega⟩
    clear hf1
    go_wp2_with fail
    go_end0
    exact ⟨_, rfl, HKR.out, HF.out⟩
end Big
end Go.Proofs.YtgopljllknbelaaGreatDoor
/- The tokens of a printed tree are read as the tree. Plain. -/
namespace Go.Proofs.YtgopljllknbelaaGreatDoor
namespace Big
def ktT (t : Tok) : Nat × List UInt8 := (t.kind, t.text)
def KP (b : Bool) (l : List (Nat × List UInt8)) : List (Nat × List UInt8) := if b then (3, [40]) :: (l ++ [(3, [41])]) else l
def sgnT (k : Nat) : List UInt8 := if k = 6 then [43] else if k = 7 then [45] else if k = 8 then [42] else [47]
def KN (n : Int) : List (Nat × List UInt8) := if n < 0 then [(3, [45]), (1, dec n.natAbs)] else [(1, dec n.natAbs)]
/-- The tokens of a printed tree. -/
def KE : Ex → List (Nat × List UInt8)
  | .leaf k t => if k = 3 then [(2, [112, 105])] else if k = 4 then [(2, [101])] else [(k, t)]
  | .un k n x => if k = 5 then (3, [45]) :: KP (decide (levelK x.kind < 3)) (KE x)
      else if k = 10 then KP (decide (levelK x.kind < 5)) (KE x) ++ ((3, [94]) :: KN n)
      else (2, funcT k) :: (3, [40]) :: (KE x ++ [(3, [41])])
  | .bin k x y => KP (decide (levelK x.kind < levelK k)) (KE x) ++ ((3, sgnT k) :: KP (decide (levelK y.kind < levelK k + 1)) (KE y))
/-- Do the tokens of a list stand from a place on? -/
def MT (ts : List Tok) : Nat → List (Nat × List UInt8) → Prop
  | _, [] => True
  | a, x :: l => (ts[a]?).map ktT = some x ∧ MT ts (a + 1) l
theorem MT_append {ts : List Tok} (l m : List (Nat × List UInt8)) : ∀ a, MT ts a (l ++ m) ↔ MT ts a l ∧ MT ts (a + l.length) m := by
  induction l with
  | nil => intro a; simp [MT]
  | cons x l ih =>
    intro a
    rw [List.cons_append, MT, MT, ih, List.length_cons, show a + 1 + l.length = a + (l.length + 1) by omega, and_assoc]
theorem MT.is {ts : List Tok} {a : Nat} {k : Nat} {t : List UInt8} {l : List (Nat × List UInt8)} (h : MT ts a ((k, t) :: l)) (c : List UInt8) : isS ts a c = (k == 3 && t == c) := by
  have h1 := h.1
  unfold isS
  cases ht : ts[a]? with
  | none => rw [ht] at h1; cases h1
  | some x =>
    rw [ht] at h1
    have h2 : ktT x = (k, t) := Option.some.inj h1
    injection h2 with h3 h4
    simp only [h3, h4]
theorem MT.yes {ts : List Tok} {a : Nat} {t : List UInt8} {l : List (Nat × List UInt8)} (h : MT ts a ((3, t) :: l)) : isS ts a t = true := by
  rw [h.is]
  simp
theorem MT.tok {ts : List Tok} {a : Nat} {k : Nat} {t : List UInt8} {l : List (Nat × List UInt8)} (h : MT ts a ((k, t) :: l)) : ∃ x, ts[a]? = some x ∧ x.kind = k ∧ x.text = t := by
  have h1 := h.1
  cases ht : ts[a]? with
  | none => rw [ht] at h1; cases h1
  | some x =>
    rw [ht] at h1
    have h2 : ktT x = (k, t) := Option.some.inj h1
    injection h2 with h3 h4
    exact ⟨x, rfl, h3, h4⟩
theorem funcK_funcT : ∀ k : Fin 17, 11 ≤ k.val → funcK (funcT k.val) = k.val := by decide +kernel
theorem digits2_dec : ∀ n : Fin 65, digits2 (dec n.val) = some n.val := by decide +kernel
theorem levelK_ge (k : Nat) : 1 ≤ levelK k := by unfold levelK; repeat' split <;> try omega
theorem nameB_free {t : List UInt8} (h : nameB t = true) : funcK t = 0 ∧ t ≠ [112, 105] ∧ t ≠ [101] := by
  have h2 : (!(reservedB t)) = true := by
    rw [reservedB_mem]
    exact (Bool.and_eq_true_iff.1 h).2
  unfold reservedB at h2
  simp only [Bool.not_or, Bool.and_eq_true, Bool.not_eq_true', beq_eq_false_iff_ne, bne_eq_false_iff_eq] at h2
  exact ⟨h2.2, h2.1.1, h2.1.2⟩
/-- The first token of a tree of level 4 or more is no minus. -/
theorem KE_head (e : Ex) : 4 ≤ levelK e.kind → e.Good → ∃ h t, KE e = h :: t ∧ h ≠ (3, [45]) := by
  induction e with
  | leaf k t =>
    intro _ hg
    unfold KE
    have hk : 1 ≤ k ∧ k ≤ 4 := by unfold Ex.Good at hg; omega
    split
    · exact ⟨_, _, rfl, by simp⟩
    · split
      · exact ⟨_, _, rfl, by simp⟩
      · exact ⟨_, _, rfl, fun he => by injection he with h1 _; omega⟩
  | un k n x ih =>
    intro hl hg
    unfold KE
    split
    · rename_i hk
      subst hk
      have : levelK (Ex.un 5 n x).kind = 3 := rfl
      omega
    · split
      · unfold KP
        split
        · exact ⟨_, _, rfl, by simp⟩
        · rename_i hb
          have h5 : 4 ≤ levelK x.kind := by simp at hb; omega
          obtain ⟨h, t, h1, h2⟩ := ih h5 hg.2.2.2.2
          exact ⟨h, _, by rw [h1]; rfl, h2⟩
      · exact ⟨_, _, rfl, by simp⟩
  | bin k x y ihx ihy =>
    intro hl hg
    exfalso
    have hk := hg.1
    have : levelK (Ex.bin k x y).kind = levelK k := rfl
    rw [this] at hl
    unfold levelK at hl
    (repeat' split at hl) <;> omega
section
variable {ts : List Tok} {p : Nat → Option Ex × Nat} {a b : Nat} {x : Ex}
theorem atom_up (h : pAtom p ts a = (some x, b)) (hn : isS ts b [94] = false) : pPower p ts a = (some x, b) := by
  unfold pPower
  rw [h]
  simp only
  rw [if_neg (by rw [hn]; simp)]
theorem minusRun_zero (f : Nat) (h : isS ts a [45] = false) : minusRun ts f a = 0 := by
  cases f with
  | zero => rfl
  | succ f => unfold minusRun; rw [if_neg (by rw [h]; simp)]
theorem power_up (h : pPower p ts a = (some x, b)) (hm : isS ts a [45] = false) : pMinus p ts a = (some x, b) := by
  unfold pMinus
  rw [minusRun_zero _ hm, Nat.add_zero, h]
  rfl
theorem minusRun_more : ∀ (f g a : Nat), ts.length ≤ a + f → ts.length ≤ a + g → minusRun ts f a = minusRun ts g a := by
  intro f
  induction f with
  | zero =>
    intro g a h1 h2
    have : isS ts a [45] = false := by
      cases hs : isS ts a [45] with
      | false => rfl
      | true => have := isS_lt hs; omega
    rw [minusRun_zero _ this, minusRun_zero _ this]
  | succ f ih =>
    intro g a h1 h2
    cases hs : isS ts a [45] with
    | false => rw [minusRun_zero _ hs, minusRun_zero _ hs]
    | true =>
      have hl := isS_lt hs
      obtain ⟨g', rfl⟩ : ∃ g', g = g' + 1 := ⟨g - 1, by omega⟩
      rw [minusRun, minusRun, if_pos hs, if_pos hs, ih g' (a + 1) (by omega) (by omega)]
theorem negs_succ (n : Nat) : ∀ x : Ex, negs (n + 1) x = .un 5 0 (negs n x) := by
  induction n with
  | zero => intro x; rfl
  | succ n ih => intro x; rw [negs, ih]; rfl
theorem minus_neg (h : pMinus p ts (a + 1) = (some x, b)) (hm : isS ts a [45] = true) : pMinus p ts a = (some (.un 5 0 x), b) := by
  have hl := isS_lt hm
  have h1 : minusRun ts ts.length a = minusRun ts ts.length (a + 1) + 1 := by
    obtain ⟨n, hn⟩ : ∃ n, ts.length = n + 1 := ⟨ts.length - 1, by omega⟩
    rw [hn, minusRun, if_pos hm, ← minusRun_more (n + 1) n (a + 1) (by omega) (by omega)]
  unfold pMinus at h ⊢
  rw [h1, show a + (minusRun ts ts.length (a + 1) + 1) = a + 1 + minusRun ts ts.length (a + 1) by omega]
  split at h
  · cases h
  · rename_i x' b' hb
    injection h with h2 h3
    injection h2 with h2
    rw [negs_succ, h2, h3]
theorem chainGo_stop {op : Nat → Option Ex × Nat} {c1 c2 : List UInt8} {k1 k2 : Nat} (f : Nat) (h1 : isS ts a c1 = false) (h2 : isS ts a c2 = false) : chainGo op ts c1 c2 k1 k2 f x a = (some x, a) := by
  cases f with
  | zero => rfl
  | succ f => unfold chainGo; rw [if_neg (by rw [h1]; simp), if_neg (by rw [h2]; simp)]
theorem chain_one {op : Nat → Option Ex × Nat} {c1 c2 : List UInt8} {k1 k2 : Nat} (h : op a = (some x, b)) : chainP op ts c1 c2 k1 k2 a = chainGo op ts c1 c2 k1 k2 ts.length x b := by
  unfold chainP; rw [h]
end
/-- How each level's reader reads the tree e that stands at a. -/
structure RD (ts : List Tok) (e : Ex) (f a : Nat) : Prop where
  atom : 5 ≤ levelK e.kind → pAtom (pSum ts f) ts a = (some e, a + (KE e).length)
  power : 4 ≤ levelK e.kind → isS ts (a + (KE e).length) [94] = false → pPower (pSum ts f) ts a = (some e, a + (KE e).length)
  minus : 3 ≤ levelK e.kind → isS ts (a + (KE e).length) [94] = false → pMinus (pSum ts f) ts a = (some e, a + (KE e).length)
  prod : 2 ≤ levelK e.kind → isS ts (a + (KE e).length) [94] = false → ∃ m, m ≤ (KE e).length ∧ chainP (pMinus (pSum ts f) ts) ts [42] [47] 8 9 a = chainGo (pMinus (pSum ts f) ts) ts [42] [47] 8 9 (ts.length - m) e (a + (KE e).length)
  sum : isS ts (a + (KE e).length) [94] = false → isS ts (a + (KE e).length) [42] = false → isS ts (a + (KE e).length) [47] = false →
    ∃ m, m ≤ (KE e).length ∧ chainP (pProd (pSum ts f) ts) ts [43] [45] 6 7 a = chainGo (pProd (pSum ts f) ts) ts [43] [45] 6 7 (ts.length - m) e (a + (KE e).length)
theorem RD.whole {ts : List Tok} {e : Ex} {f a : Nat} (h : RD ts e f a) (h1 : isS ts (a + (KE e).length) [94] = false) (h2 : isS ts (a + (KE e).length) [42] = false) (h3 : isS ts (a + (KE e).length) [47] = false)
    (h4 : isS ts (a + (KE e).length) [43] = false) (h5 : isS ts (a + (KE e).length) [45] = false) : pSum ts (f + 1) a = (some e, a + (KE e).length) := by
  obtain ⟨m, _, h6⟩ := h.sum h1 h2 h3
  rw [pSum, h6, chainGo_stop _ h4 h5]
/-- From an atom up. -/
theorem RD.of_atom {ts : List Tok} {e : Ex} {f a : Nat} (h : pAtom (pSum ts f) ts a = (some e, a + (KE e).length)) (hm : isS ts a [45] = false) : RD ts e f a := by
  have hp := fun hn => atom_up h hn
  have hmi := fun hn => power_up (hp hn) hm
  have hpr := fun hn => chain_one (ts := ts) (c1 := [42]) (c2 := [47]) (k1 := 8) (k2 := 9) (hmi hn)
  refine ⟨fun _ => h, fun _ => hp, fun _ => hmi, fun _ hn => ⟨0, Nat.zero_le _, hpr hn⟩, fun h1 h2 h3 => ⟨0, Nat.zero_le _, ?_⟩⟩
  refine chain_one ?_
  rw [pProd, hpr h1, chainGo_stop _ h2 h3]
theorem RD.of_power {ts : List Tok} {e : Ex} {f a : Nat} (hl : levelK e.kind = 4) (h : pPower (pSum ts f) ts a = (some e, a + (KE e).length)) (hm : isS ts a [45] = false) : RD ts e f a := by
  have hmi := power_up h hm
  have hpr := chain_one (ts := ts) (c1 := [42]) (c2 := [47]) (k1 := 8) (k2 := 9) hmi
  refine ⟨fun h5 => by omega, fun _ _ => h, fun _ _ => hmi, fun _ _ => ⟨0, Nat.zero_le _, hpr⟩, fun h1 h2 h3 => ⟨0, Nat.zero_le _, ?_⟩⟩
  refine chain_one ?_
  rw [pProd, hpr, chainGo_stop _ h2 h3]
theorem RD.of_minus {ts : List Tok} {e : Ex} {f a : Nat} (hl : levelK e.kind = 3) (h : isS ts (a + (KE e).length) [94] = false → pMinus (pSum ts f) ts a = (some e, a + (KE e).length)) : RD ts e f a := by
  have hpr := fun hn => chain_one (ts := ts) (c1 := [42]) (c2 := [47]) (k1 := 8) (k2 := 9) (h hn)
  refine ⟨fun h5 => by omega, fun h5 => by omega, fun _ => h, fun _ hn => ⟨0, Nat.zero_le _, hpr hn⟩, fun h1 h2 h3 => ⟨0, Nat.zero_le _, ?_⟩⟩
  refine chain_one ?_
  rw [pProd, hpr h1, chainGo_stop _ h2 h3]
/-- A tree in parentheses is an atom. -/
theorem paren_atom {ts : List Tok} {x : Ex} {f a : Nat} (hx : ∀ a, MT ts a (KE x) → RD ts x f a) (h : MT ts a (KP true (KE x))) : pAtom (pSum ts (f + 1)) ts a = (some x, a + (KP true (KE x)).length) ∧ isS ts a [45] = false := by
  have h0 : MT ts a ((3, [40]) :: (KE x ++ [(3, [41])])) := h
  have hm : isS ts a [45] = false := h0.is [45]
  obtain ⟨t, ht, htk, htt⟩ := h0.tok
  have h1 := (MT_append _ _ _).1 h0.2
  have hc := h1.2
  have hr := (hx (a + 1) h1.1).whole (hc.is [94]) (hc.is [42]) (hc.is [47]) (hc.is [43]) (hc.is [45])
  refine ⟨?_, hm⟩
  unfold pAtom
  rw [ht]
  simp only
  rw [if_pos htk, if_pos htt, hr]
  simp only
  rw [if_pos (show isS ts _ [41] = true from hc.yes)]
  simp [KP]
  omega
/-- An operand, in parentheses if its level is less than needed. -/
theorem operand_power {ts : List Tok} {x : Ex} {f a L : Nat} (hL : 4 ≤ L) (hg : x.Good) (hx : ∀ f' a, f' + 1 = f ∨ f' = f → MT ts a (KE x) → RD ts x f' a) (hf : 1 ≤ f) (h : MT ts a (KP (decide (levelK x.kind < L)) (KE x))) :
    (5 ≤ L → pAtom (pSum ts f) ts a = (some x, a + (KP (decide (levelK x.kind < L)) (KE x)).length)) ∧ isS ts a [45] = false ∧
    (isS ts (a + (KP (decide (levelK x.kind < L)) (KE x)).length) [94] = false → pPower (pSum ts f) ts a = (some x, a + (KP (decide (levelK x.kind < L)) (KE x)).length)) := by
  obtain ⟨f', rfl⟩ : ∃ f', f = f' + 1 := ⟨f - 1, by omega⟩
  cases hb : decide (levelK x.kind < L)
  · rw [hb] at h
    have hl : L ≤ levelK x.kind := by have := of_decide_eq_false hb; omega
    obtain ⟨hd, tl, hk, hne⟩ := KE_head x (by omega) hg
    have hm : isS ts a [45] = false := by
      have h2 : MT ts a (KE x) := h
      rw [hk] at h2
      obtain ⟨k, t⟩ := hd
      rw [h2.is]
      simp only [Bool.and_eq_false_iff, beq_eq_false_iff_ne]
      by_cases hk3 : k = 3
      · right; intro e; exact hne (by rw [hk3, e])
      · exact .inl hk3
    have hr := hx (f' + 1) a (.inr rfl) h
    exact ⟨fun h5 => hr.atom (by omega), hm, fun hn => hr.power (by omega) hn⟩
  · rw [hb] at h
    obtain ⟨h1, h2⟩ := paren_atom (fun a hm => hx f' a (.inl rfl) hm) h
    exact ⟨fun _ => h1, h2, fun hn => atom_up h1 hn⟩
theorem operand_minus {ts : List Tok} {x : Ex} {f a : Nat} (_hg : x.Good) (hx : ∀ f' a, f' + 1 = f ∨ f' = f → MT ts a (KE x) → RD ts x f' a) (hf : 1 ≤ f) (h : MT ts a (KP (decide (levelK x.kind < 3)) (KE x))) (hn : isS ts (a + (KP (decide (levelK x.kind < 3)) (KE x)).length) [94] = false) :
    pMinus (pSum ts f) ts a = (some x, a + (KP (decide (levelK x.kind < 3)) (KE x)).length) := by
  obtain ⟨f', rfl⟩ : ∃ f', f = f' + 1 := ⟨f - 1, by omega⟩
  cases hb : decide (levelK x.kind < 3)
  · rw [hb] at h hn
    have hl : 3 ≤ levelK x.kind := by have := of_decide_eq_false hb; omega
    exact (hx (f' + 1) a (.inr rfl) h).minus hl hn
  · rw [hb] at h hn
    obtain ⟨h1, h2⟩ := paren_atom (fun a hm => hx f' a (.inl rfl) hm) h
    exact power_up (atom_up h1 hn) h2
theorem operand_prod {ts : List Tok} {x : Ex} {f a : Nat} (hx : ∀ f' a, f' + 1 = f ∨ f' = f → MT ts a (KE x) → RD ts x f' a) (hf : 1 ≤ f) (h : MT ts a (KP (decide (levelK x.kind < 2)) (KE x))) (hn : isS ts (a + (KP (decide (levelK x.kind < 2)) (KE x)).length) [94] = false) :
    ∃ m, m ≤ (KP (decide (levelK x.kind < 2)) (KE x)).length ∧ chainP (pMinus (pSum ts f) ts) ts [42] [47] 8 9 a = chainGo (pMinus (pSum ts f) ts) ts [42] [47] 8 9 (ts.length - m) x (a + (KP (decide (levelK x.kind < 2)) (KE x)).length) := by
  obtain ⟨f', rfl⟩ : ∃ f', f = f' + 1 := ⟨f - 1, by omega⟩
  cases hb : decide (levelK x.kind < 2)
  · rw [hb] at h hn
    have hl : 2 ≤ levelK x.kind := by have := of_decide_eq_false hb; omega
    exact (hx (f' + 1) a (.inr rfl) h).prod hl hn
  · rw [hb] at h hn
    obtain ⟨h1, h2⟩ := paren_atom (fun a hm => hx f' a (.inl rfl) hm) h
    exact ⟨0, Nat.zero_le _, chain_one (power_up (atom_up h1 hn) h2)⟩
/-- All trees are read. -/
theorem read_all (ts : List Tok) (e : Ex) (hg : e.Good) : ∀ f a, e.size ≤ f → MT ts a (KE e) → RD ts e f a := by
  induction e with
  | leaf k t =>
    intro f a _ hM
    have hm : isS ts a [45] = false ∧ pAtom (pSum ts f) ts a = (some (.leaf k t), a + 1) := by
      rcases hg with ⟨rfl, _, _⟩ | ⟨rfl, hn⟩ | ⟨rfl | rfl, rfl⟩
      · have h : MT ts a [(1, t)] := hM
        obtain ⟨x, hx, hk, ht⟩ := h.tok
        refine ⟨h.is [45], ?_⟩
        unfold pAtom
        rw [hx]
        simp only
        rw [if_neg (by omega), if_pos hk, ht]
      · have h : MT ts a [(2, t)] := hM
        obtain ⟨x, hx, hk, ht⟩ := h.tok
        obtain ⟨h1, h2, h3⟩ := nameB_free hn
        refine ⟨h.is [45], ?_⟩
        unfold pAtom
        rw [hx]
        simp only
        rw [if_neg (by omega), if_neg (by omega), ht, if_neg (by omega), if_neg h2, if_neg h3]
      · have h : MT ts a [(2, [112, 105])] := hM
        obtain ⟨x, hx, hk, ht⟩ := h.tok
        refine ⟨h.is [45], ?_⟩
        unfold pAtom
        rw [hx]
        simp only
        rw [if_neg (by omega), if_neg (by omega), ht, if_neg (by decide), if_pos rfl]
      · have h : MT ts a [(2, [101])] := hM
        obtain ⟨x, hx, hk, ht⟩ := h.tok
        refine ⟨h.is [45], ?_⟩
        unfold pAtom
        rw [hx]
        simp only
        rw [if_neg (by omega), if_neg (by omega), ht, if_neg (by decide), if_neg (by decide), if_pos rfl]
    have hl : (KE (.leaf k t)).length = 1 := by unfold KE; split <;> (try split) <;> rfl
    exact RD.of_atom (by rw [hl]; exact hm.2) hm.1
  | un k n x ih =>
    intro f a hf hM
    have hx := hg.2.2.2.2
    have hz : x.size + 1 ≤ f := hf
    have hxp := x.size_pos
    have hX : ∀ f' a, f' + 1 = f ∨ f' = f → MT ts a (KE x) → RD ts x f' a := fun f' a h hm => ih hx f' a (by omega) hm
    by_cases h5 : k = 5
    · subst h5
      have hn0 := hg.2.1 (by omega)
      subst hn0
      have hK : KE (.un 5 0 x) = (3, [45]) :: KP (decide (levelK x.kind < 3)) (KE x) := rfl
      rw [hK] at hM
      refine RD.of_minus rfl (fun hnx => ?_)
      rw [hK, List.length_cons] at hnx ⊢
      have h1 := operand_minus hx hX (by omega) hM.2 (by rw [show a + 1 + (KP (decide (levelK x.kind < 3)) (KE x)).length = a + ((KP (decide (levelK x.kind < 3)) (KE x)).length + 1) by omega]; exact hnx)
      rw [minus_neg h1 (hM.is [45])]
      exact Prod.ext rfl (by simp only; omega)
    · by_cases h10 : k = 10
      · subst h10
        have hK : KE (.un 10 n x) = KP (decide (levelK x.kind < 5)) (KE x) ++ ((3, [94]) :: KN n) := rfl
        rw [hK] at hM
        obtain ⟨h1, h2⟩ := (MT_append _ _ _).1 hM
        obtain ⟨h3, h4, _⟩ := operand_power (by omega) hx hX (by omega) h1
        have h6 := h3 (Nat.le_refl _)
        have hr1 : -64 ≤ n := hg.2.2.1
        have hr2 : n ≤ 64 := hg.2.2.2.1
        have hdg := digits2_dec ⟨n.natAbs, by omega⟩
        refine RD.of_power rfl ?_ h4
        rw [hK]
        generalize hP : KP (decide (levelK x.kind < 5)) (KE x) = P at *
        unfold pPower
        rw [h6]
        simp only
        rw [if_pos (show isS ts _ [94] = true from h2.yes)]
        have h7 := h2.2
        unfold KN at h7 ⊢
        by_cases hneg : n < 0
        · rw [if_pos hneg] at h7 ⊢
          obtain ⟨t, ht, htk, htt⟩ := h7.2.tok
          have he : expo ts (a + P.length + 2) = some n.natAbs := by
            unfold expo
            rw [ht]
            simp only
            rw [if_pos htk, htt]
            exact hdg
          rw [if_pos (show isS ts _ [45] = true from h7.yes), he]
          simp only [List.length_append, List.length_cons, List.length_nil]
          rw [show -((n.natAbs : Nat) : Int) = n by omega]
          exact Prod.ext rfl (by simp only; omega)
        · rw [if_neg hneg] at h7 ⊢
          obtain ⟨t, ht, htk, htt⟩ := h7.tok
          have he : expo ts (a + P.length + 1) = some n.natAbs := by
            unfold expo
            rw [ht]
            simp only
            rw [if_pos htk, htt]
            exact hdg
          have hns : isS ts (a + P.length + 1) [45] = false := h7.is [45]
          rw [if_neg (by rw [hns]; simp), he]
          simp only [List.length_append, List.length_cons, List.length_nil]
          rw [show ((n.natAbs : Nat) : Int) = n by omega]
          exact Prod.ext rfl (by simp only; omega)
      · have hk : 11 ≤ k ∧ k ≤ 16 := by have := hg.1; omega
        have hn0 := hg.2.1 h10
        subst hn0
        have hK : KE (.un k 0 x) = (2, funcT k) :: (3, [40]) :: (KE x ++ [(3, [41])]) := by rw [KE, if_neg h5, if_neg h10]
        rw [hK] at hM
        obtain ⟨t, ht, htk, htt⟩ := hM.tok
        have hfk : funcK (funcT k) = k := funcK_funcT ⟨k, by omega⟩ hk.1
        have hM2 := hM.2
        obtain ⟨h1, h2⟩ := (MT_append _ _ _).1 hM2.2
        obtain ⟨f', rfl⟩ : ∃ f', f = f' + 1 := ⟨f - 1, by omega⟩
        have hr := (hX f' (a + 1 + 1) (.inl rfl) h1).whole (h2.is [94]) (h2.is [42]) (h2.is [47]) (h2.is [43]) (h2.is [45])
        refine RD.of_atom ?_ (hM.is [45])
        rw [hK]
        unfold pAtom
        rw [ht]
        simp only
        rw [if_neg (by omega), if_neg (by omega), htt, hfk, if_pos (by omega), if_pos (show isS ts _ [40] = true from hM2.yes), hr]
        simp only
        rw [if_pos (show isS ts _ [41] = true from h2.yes)]
        simp only [List.length_append, List.length_cons, List.length_nil]
        exact Prod.ext rfl (by simp only; omega)
  | bin k x y ihx ihy =>
    intro f a hf hM
    have hx := hg.2.1
    have hy := hg.2.2
    have hz : x.size + y.size + 1 ≤ f := hf
    have hxp := x.size_pos
    have hyp := y.size_pos
    have hX : ∀ f' a, f' + 1 = f ∨ f' = f → MT ts a (KE x) → RD ts x f' a := fun f' a h hm => ihx hx f' a (by omega) hm
    have hY : ∀ f' a, f' + 1 = f ∨ f' = f → MT ts a (KE y) → RD ts y f' a := fun f' a h hm => ihy hy f' a (by omega) hm
    have hK : KE (.bin k x y) = KP (decide (levelK x.kind < levelK k)) (KE x) ++ ((3, sgnT k) :: KP (decide (levelK y.kind < levelK k + 1)) (KE y)) := rfl
    rw [hK] at hM
    obtain ⟨h1, h2⟩ := (MT_append _ _ _).1 hM
    have h3 := h2.2
    have hlen : (KE (.bin k x y)).length = (KP (decide (levelK x.kind < levelK k)) (KE x)).length + 1 + (KP (decide (levelK y.kind < levelK k + 1)) (KE y)).length := by
      rw [hK, List.length_append, List.length_cons]; omega
    have hlt := isS_lt (by rw [h2.is (sgnT k)]; simp : isS ts (a + (KP (decide (levelK x.kind < levelK k)) (KE x)).length) (sgnT k) = true)
    have hkk : (k = 8 ∨ k = 9) ∨ (k = 6 ∨ k = 7) := by have := hg.1; omega
    rcases hkk with hkk | hkk
    · have hlv : levelK k = 2 := by rcases hkk with rfl | rfl <;> rfl
      rw [hlv] at h1 h2 h3 hlen hlt
      simp only [Nat.reduceAdd] at h2 h3 hlen
      have hsg : isS ts (a + (KP (decide (levelK x.kind < 2)) (KE x)).length) [94] = false := by
        rw [h2.is [94]]; rcases hkk with rfl | rfl <;> rfl
      obtain ⟨m, hm, hcx⟩ := operand_prod hX (by omega) h1 hsg
      have hpr : isS ts (a + (KE (.bin k x y)).length) [94] = false → ∃ m, m ≤ (KE (.bin k x y)).length ∧ chainP (pMinus (pSum ts f) ts) ts [42] [47] 8 9 a = chainGo (pMinus (pSum ts f) ts) ts [42] [47] 8 9 (ts.length - m) (.bin k x y) (a + (KE (.bin k x y)).length) := by
        intro hn
        rw [hlen] at hn
        have hcy := operand_minus hy hY (by omega) h3 (by rw [Nat.add_assoc, Nat.add_assoc, ← Nat.add_assoc _ 1]; exact hn)
        refine ⟨m + 1, by rw [hlen]; omega, ?_⟩
        rw [hcx]
        obtain ⟨q, hq⟩ : ∃ q, ts.length - m = q + 1 := ⟨ts.length - m - 1, by omega⟩
        rw [hq, show ts.length - (m + 1) = q by omega, chainGo]
        rcases hkk with rfl | rfl
        · rw [if_pos (show isS ts _ [42] = true from h2.yes), hcy, hlen]
          simp only
          congr 1
          omega
        · have hns : isS ts (a + (KP (decide (levelK x.kind < 2)) (KE x)).length) [42] = false := h2.is [42]
          rw [if_neg (by rw [hns]; simp), if_pos (show isS ts _ [47] = true from h2.yes), hcy, hlen]
          simp only
          congr 1
          omega
      have hll : levelK (Ex.bin k x y).kind = 2 := hlv
      refine ⟨fun h5 => by omega, fun h5 => by omega, fun h5 => by omega, fun _ => hpr, fun e1 e2 e3 => ⟨0, Nat.zero_le _, ?_⟩⟩
      refine chain_one ?_
      obtain ⟨m', _, h6⟩ := hpr e1
      rw [pProd, h6, chainGo_stop _ e2 e3]
    · have hlv : levelK k = 1 := by rcases hkk with rfl | rfl <;> rfl
      rw [hlv] at h1 h2 h3 hlen hlt
      simp only [Nat.reduceAdd] at h2 h3 hlen
      have hb0 : decide (levelK x.kind < 1) = false := decide_eq_false (by have := levelK_ge x.kind; omega)
      rw [hb0] at h1 h2 h3 hlen hlt
      have hsg : ∀ c, c = [94] ∨ c = [42] ∨ c = [47] → isS ts (a + (KP false (KE x)).length) c = false := fun c hc => by
        rw [h2.is c]; rcases hkk with rfl | rfl <;> rcases hc with rfl | rfl | rfl <;> rfl
      have hkx : KP false (KE x) = KE x := rfl
      rw [hkx] at h1 h2 h3 hlen hlt hsg
      obtain ⟨m, hm, hcx⟩ := (hX f a (.inr rfl) h1).sum (hsg _ (.inl rfl)) (hsg _ (.inr (.inl rfl))) (hsg _ (.inr (.inr rfl)))
      have hll : levelK (Ex.bin k x y).kind = 1 := hlv
      refine ⟨fun h5 => by omega, fun h5 => by omega, fun h5 => by omega, fun h5 => by omega, fun e1 e2 e3 => ?_⟩
      have hle : ∀ c, isS ts (a + (KE (.bin k x y)).length) c = isS ts (a + (KE x).length + 1 + (KP (decide (levelK y.kind < 2)) (KE y)).length) c := fun c => by
        rw [hlen]; congr 1; omega
      rw [hle] at e1 e2 e3
      obtain ⟨m2, _, hcy0⟩ := operand_prod hY (by omega) h3 e1
      have hcy : pProd (pSum ts f) ts (a + (KE x).length + 1) = (some y, a + (KE x).length + 1 + (KP (decide (levelK y.kind < 2)) (KE y)).length) := by
        rw [pProd, hcy0, chainGo_stop _ e2 e3]
      refine ⟨m + 1, by rw [hlen]; omega, ?_⟩
      rw [hcx]
      obtain ⟨q, hq⟩ : ∃ q, ts.length - m = q + 1 := ⟨ts.length - m - 1, by omega⟩
      rw [hq, show ts.length - (m + 1) = q by omega, chainGo]
      rcases hkk with rfl | rfl
      · rw [if_pos (show isS ts _ [43] = true from h2.yes), hcy, hlen]
        simp only
        congr 1
        omega
      · have hns : isS ts (a + (KE x).length) [43] = false := h2.is [43]
        rw [if_neg (by rw [hns]; simp), if_pos (show isS ts _ [45] = true from h2.yes), hcy, hlen]
        simp only
        congr 1
        omega
end Big
end Go.Proofs.YtgopljllknbelaaGreatDoor
/- The program's chain. -/
namespace Go.Proofs.YtgopljllknbelaaGreatDoor
namespace Big
open Go.RowKit
theorem flat_bin (off k : Nat) (x y : Ex) : flat off (.bin k x y) = (flat off x ++ flat (off + x.size) y) ++ [⟨(k : Int), ((off + x.size - 1 : Nat) : Int), ((off + x.size + y.size - 1 : Nat) : Int), 0, []⟩] := by
  rw [flat, List.append_assoc]
/-- What chain's loop holds. -/
structure ChInv (g : Nat) (ts : List Tok) (tv : Value) (ns : List Nd) (nv : Value) (w : World) (C : Option Ex × Nat) (op : Nat → Option Ex × Nat) (s1 s2 : List UInt8) (k1 k2 a f b : Nat) (x : Ex) (nv' : Value) (wr : World) : Prop where
  rd : RdP g wr ts b (ns ++ flat ns.length x) tv nv'
  kr : KR g nv nv' w wr
  eq : C = chainGo op ts s1 s2 k1 k2 f x b
  fuel : ts.length ≤ b + f
  lo : a ≤ b
  sz : ns.length + x.size ≤ b
theorem OpPost.some_ {g : Nat} {ts : List Tok} {tv nv : Value} {ns : List Nd} {r : Option Ex × Nat} {w w' : World} {e : Ending} {x : Ex} {b : Nat} (h : OpPost g ts tv ns nv r w e w') (hr : r = (some x, b)) : ∃ nv', e = .returned (.bool true) ∧ RdP g w' ts b (ns ++ flat ns.length x) tv nv' ∧ KR g nv nv' w w' := by
  subst hr
  obtain ⟨nv', h1, h2, h3⟩ := h
  exact ⟨nv', h2, h3, h1⟩
theorem OpPost.none_ {g : Nat} {ts : List Tok} {tv nv : Value} {ns : List Nd} {r : Option Ex × Nat} {w w' : World} {e : Ending} {b : Nat} (h : OpPost g ts tv ns nv r w e w') (hr : r = (none, b)) : ∃ nv', e = .returned (.bool false) ∧ (∃ ns', RdP g w' ts b ns' tv nv') ∧ KR g nv nv' w w' := by
  subst hr
  obtain ⟨nv', h1, h2, h3⟩ := h
  exact ⟨nv', h2, h3, h1⟩
theorem OpPost.mkN {g : Nat} {ts : List Tok} {tv nv nv' : Value} {ns : List Nd} {r : Option Ex × Nat} {w w' : World} {b : Nat} (hr : r = (none, b)) (hb : KR g nv nv' w w') (h : ∃ ns', RdP g w' ts b ns' tv nv') : OpPost g ts tv ns nv r w (.returned (.bool false)) w' := by
  subst hr
  exact ⟨nv', hb, rfl, h⟩
theorem OpPost.mkS {g : Nat} {ts : List Tok} {tv nv nv' : Value} {ns : List Nd} {r : Option Ex × Nat} {w w' : World} {x : Ex} {b : Nat} (hr : r = (some x, b)) (hb : KR g nv nv' w w') (h : RdP g w' ts b (ns ++ flat ns.length x) tv nv') : OpPost g ts tv ns nv r w (.returned (.bool true)) w' := by
  subst hr
  exact ⟨nv', hb, rfl, h⟩
theorem nds_len {ns : List Nd} {x : Ex} : (ns ++ flat ns.length x).length = ns.length + x.size := by rw [List.length_append, flat_len]
theorem Blk.two' {w : World} {g : Nat} {t : TypeId} {a b : Value} (h : Blk w g t #[a, b]) : w.cell? ⟨g, 0, none⟩ = some a ∧ w.cell? ⟨g, 1, none⟩ = some b := ⟨h.cell 0, h.cell 1⟩
/-- A step of the chain. -/
theorem ChInv.next {g : Nat} {ts : List Tok} {tv nv nv1 nv2 nv3 nv4 : Value} {ns : List Nd} {w wr w1 w2 w3 : World} {C : Option Ex × Nat} {op : Nat → Option Ex × Nat} {s1 s2 : List UInt8} {k1 k2 a f b b' k n1 n2 : Nat} {x y : Ex}
    (h : ChInv g ts tv ns nv w C op s1 s2 k1 k2 a f b x nv1 wr) (hc : C = chainGo op ts s1 s2 k1 k2 (f - 1) (.bin k x y) b') (hb : b + 1 + y.size ≤ b') (hr : RdP g w3 ts b' (((ns ++ flat ns.length x) ++ flat (ns ++ flat ns.length x).length y) ++ [⟨(k : Int), (n1 : Int) - 1, (n2 : Int) - 1, 0, []⟩]) tv nv4)
    (hn1 : n1 = (ns ++ flat ns.length x).length) (hn2 : n2 = ((ns ++ flat ns.length x) ++ flat (ns ++ flat ns.length x).length y).length)
    (hk1 : KR g nv1 nv2 wr w1) (hk2 : KR g nv2 nv3 w1 w2) (hk3 : KR g nv3 nv4 w2 w3) : ChInv g ts tv ns nv w C op s1 s2 k1 k2 a (f - 1) b' (.bin k x y) nv4 w3 := by
  subst hn1
  subst hn2
  have hx := x.size_pos
  have hy := y.size_pos
  have h1 := h.fuel
  have h2 := h.lo
  have h3 := h.sz
  refine ⟨?_, ((h.kr.trans hk1).trans hk2).trans hk3, hc, by omega, by omega, by rw [Ex.size]; omega⟩
  rw [flat_bin]
  have e1 : (ns ++ flat ns.length x).length = ns.length + x.size := nds_len
  rw [e1] at hr
  have e2 : ((ns ++ flat ns.length x) ++ flat (ns.length + x.size) y).length = ns.length + x.size + y.size := by rw [List.length_append, e1, flat_len]
  rw [e2] at hr
  rw [show ((ns.length + x.size - 1 : Nat) : Int) = ((ns.length + x.size : Nat) : Int) - 1 by omega, show ((ns.length + x.size + y.size - 1 : Nat) : Int) = ((ns.length + x.size + y.size : Nat) : Int) - 1 by omega]
  simp only [List.append_assoc] at hr ⊢
  exact hr
/-- What follows behind a sign's operand. -/
def chTail (op : Nat → Option Ex × Nat) (ts : List Tok) (s1 s2 : List UInt8) (k1 k2 f k : Nat) (x : Ex) : Option Ex × Nat → Option Ex × Nat
  | (none, b) => (none, b)
  | (some y, b) => chainGo op ts s1 s2 k1 k2 f (.bin k x y) b
theorem chainGo_one {op : Nat → Option Ex × Nat} {ts : List Tok} {s1 s2 : List UInt8} {k1 k2 f b : Nat} {x : Ex} (hf : 1 ≤ f) (h : isS ts b s1 = true) : chainGo op ts s1 s2 k1 k2 f x b = chTail op ts s1 s2 k1 k2 (f - 1) k1 x (op (b + 1)) := by
  obtain ⟨f', rfl⟩ : ∃ f', f = f' + 1 := ⟨f - 1, by omega⟩
  rw [chainGo, if_pos h, Nat.add_sub_cancel]
  rcases op (b + 1) with ⟨_ | y, b'⟩ <;> rfl
theorem chainGo_two {op : Nat → Option Ex × Nat} {ts : List Tok} {s1 s2 : List UInt8} {k1 k2 f b : Nat} {x : Ex} (hf : 1 ≤ f) (h1 : isS ts b s1 = false) (h : isS ts b s2 = true) : chainGo op ts s1 s2 k1 k2 f x b = chTail op ts s1 s2 k1 k2 (f - 1) k2 x (op (b + 1)) := by
  obtain ⟨f', rfl⟩ : ∃ f', f = f' + 1 := ⟨f - 1, by omega⟩
  rw [chainGo, if_neg (by rw [h1]; simp), if_pos h, Nat.add_sub_cancel]
  rcases op (b + 1) with ⟨_ | y, b'⟩ <;> rfl
def Two (w : World) (h1 : Nat) (n1 : Value) (s1 s2 : List UInt8) (k1 k2 : Nat) : Prop := (Blk w h1 60 #[str s1, str s2] ∧ Blk w (h1 + 1) 114 #[.int .i64 (k1 : Int), .int .i64 (k2 : Int)]) ∧ (n1.ownBlock ≠ some h1 ∧ n1.ownBlock ≠ some (h1 + 1))
theorem Two.kept {g h1 : Nat} {n1 n2 : Value} {w w' : World} {s1 s2 : List UInt8} {k1 k2 : Nat} (h : Two w h1 n1 s1 s2 k1 k2) (hk : KR g n1 n2 w w') (hg : g < h1) : Two w' h1 n2 s1 s2 k1 k2 := by
  obtain ⟨⟨hb1, hb2⟩, hm1, hm2⟩ := h
  have hl1 := hb1.lt
  have hl2 := hb2.lt
  refine ⟨⟨hk.blk hb1 (by omega) hm1, hk.blk hb2 (by omega) hm2⟩, fun e => ?_, fun e => ?_⟩
  · rcases hk.move _ e with h | h
    · exact hm1 h
    · omega
  · rcases hk.move _ e with h | h
    · exact hm2 h
    · omega
set_option maxHeartbeats 4000000 in
set_option maxRecDepth 100000 in
theorem chain_any (g : Nat) (ts : List Tok) (tv : Value) (F : FuncId) (op : Nat → Option Ex × Nat) (s1 s2 : List UInt8) (k1 k2 a : Nat)
    (hop : ∀ a', a ≤ a' → ∀ w ns nv, RdP g w ts a' ns tv nv → Calls Tryz.prog F #[.pointer (some ⟨g, 0, none⟩)] w (OpPost g ts tv ns nv (op a') w)) (hg : ∀ a, PGood ts a (op a))
    (hF : ∀ args w, (callFunc F args).run Tryz.prog w = .ok (.enter F args) w)
    (w : World) (ns : List Nd) (nv : Value) (h : RdP g w ts a ns tv nv) :
    Calls Tryz.prog 75 #[.pointer (some ⟨g, 0, none⟩), .func (.func F) #[] #[], .agg #[str s1, str s2], .agg #[.int .i64 (k1 : Int), .int .i64 (k2 : Int)]] w (OpPost g ts tv ns nv (chainP op ts s1 s2 k1 k2 a) w) := by
  have HOP := Lib.hid hop
  have HG := Lib.hid hg
  have hle := h.le
  have hmax := h.max
  have hx2 : Ext w ((w.alloc (.cells #[str s1, str s2] 60)).alloc (.cells #[.int .i64 (k1 : Int), .int .i64 (k2 : Int)] 114)) := ((Ext.refl w).alloc _).alloc _
  have HX2 := Lib.hid hx2
  have HB2 := Lib.hid ((Blk.new w 60 #[str s1, str s2]).alloc (.cells #[.int .i64 (k1 : Int), .int .i64 (k2 : Int)] 114))
  have hb3 := Blk.new (w.alloc (.cells #[str s1, str s2] 60)) 114 #[.int .i64 (k1 : Int), .int .i64 (k2 : Int)]
  have hsz : (w.alloc (.cells #[str s1, str s2] 60)).heap.size = w.heap.size + 1 := by simp
  rw [hsz] at hb3
  have HB3 := Lib.hid hb3
  have HR := Lib.hid (h.keep hx2)
  have HC : Hid (∀ r, op a = r → chainP op ts s1 s2 k1 k2 a = match r with | (none, b) => (none, b) | (some x, b) => chainGo op ts s1 s2 k1 k2 ts.length x b) := Lib.hid (fun r hr => by unfold chainP; rw [hr] <;> (obtain ⟨_ | x, b⟩ := r <;> rfl))
  have hga := hg a hle
  have hfew := h.few
  have hlt := h.lt
  have hown : ∀ k, nv.ownBlock = some k → k < w.heap.size := fun k hk => by
    rcases h.row.2 with ⟨h1, _⟩ | ⟨q, _, _, h1, _, hh, _⟩
    · rw [h1] at hk; cases hk
    · rw [h1] at hk
      simp only [Value.ownBlock, Option.some.injEq] at hk
      subst hk
      rcases Nat.lt_or_ge q w.heap.size with h | h
      · exact h
      · rw [Array.getElem?_eq_none h] at hh; cases hh
  have HOWN : Hid (nv.ownBlock ≠ some w.heap.size ∧ nv.ownBlock ≠ some (w.heap.size + 1)) := Lib.hid ⟨fun e => by have := hown _ e; omega, fun e => by have := hown _ e; omega⟩
  have HLT := Lib.hid hlt
  have HO := Lib.hid (fun W n' v' h' => hop a (Nat.le_refl _) W n' v' h')
  generalize hC : chainP op ts s1 s2 k1 k2 a = C at *
  clear hop hg hx2 hb3 hsz h hC hown
  go_enter Tryz.func75, Tryz.ntmps75
  go_wp2_with fail
  refine (HO.out _ _ _ HR.out).mono ?_
  intro e w3 hpost
  obtain ⟨r, hr⟩ : ∃ r, op a = r := ⟨_, rfl⟩
  have hC := HC.out r hr
  rw [hr] at hga
  obtain ⟨_ | x, b⟩ := r
  · obtain ⟨nv1, rfl, hn, hb⟩ := hpost.none_ hr
    have HE := Lib.hid (And.intro hC (And.intro ((KR.of_ext HX2.out).trans hb) hn))
    clear hpost hr hC hn hb
    go_wp2_with fail
    go_ret
    exact OpPost.mkN HE.out.1 HE.out.2.1 HE.out.2.2
  · obtain ⟨nv1, rfl, hrd, hb⟩ := hpost.some_ hr
    have hgs := hga.2.2 x rfl
    have hgl := hga.1
    simp only at hgs hgl
    have HINV : Hid (ChInv g ts tv ns nv w C op s1 s2 k1 k2 a ts.length b x nv1 w3) := Lib.hid ⟨hrd, (KR.of_ext HX2.out).trans hb, hC, by omega, hgl, by omega⟩
    have HTW : Hid (Two w3 w.heap.size nv1 s1 s2 k1 k2) := Lib.hid (Two.kept (w := ((w.alloc (.cells #[str s1, str s2] 60)).alloc (.cells #[.int .i64 (k1 : Int), .int .i64 (k2 : Int)] 114))) ⟨⟨HB2.out, HB3.out⟩, HOWN.out⟩ hb hlt)
    clear hpost hr hC hrd hb hga HB2 HB3 HX2 HR HO HC HOWN
    generalize hg1 : w.heap.size = h1 at *
    have HH1 := Lib.hid hg1
    clear hg1
    go_wp2_with fail
    go_loopg [9, 10] (ts.length - b) (fun gh s9 s10 wr => ∃ (f b : Nat) (x : Ex) (nv' : Value), gh = ts.length - b ∧ ChInv g ts tv ns nv w C op s1 s2 k1 k2 a f b x nv' wr ∧ Two wr h1 nv' s1 s2 k1 k2)
    case atStart => exact ⟨_, _, _, _, rfl, HINV.out, HTW.out⟩
    case round =>
      obtain ⟨f, b, x, nv1, hgg, hinv, htw⟩ := hrel
      have HGG := Lib.hid hgg
      have HI := Lib.hid hinv
      have HTW := Lib.hid htw
      have HT1 := Lib.hid (take_any g wr ts b _ tv nv1 s1 hinv.rd)
      have hbl := hinv.rd.le
      have hbf := hinv.fuel
      obtain ⟨q0, q1⟩ := htw.1.1.two'
      clear hgg hinv htw HINV
      obtain ⟨u1, hu1⟩ : ∃ u, isS ts b s1 = u := ⟨_, rfl⟩
      rw [hu1] at HT1
      cases u1
      · have hred : (if false = true then b + 1 else b) = b := rfl
        rw [hred] at HT1
        have hgh : g < h1 := by have := HLT.out; have := HH1.out; omega
        clear hred
        go_wp2_with fail
        refine HT1.out.mono ?_
        rintro e w4 ⟨rfl, hk4, hr4⟩
        have HK0 := Lib.hid hk4
        have ht4 := HTW.out.kept hk4 hgh
        obtain ⟨q0, q1⟩ := ht4.1.1.two'
        have HT0 := Lib.hid ht4
        have HT2 := Lib.hid (take_any g w4 ts b _ tv nv1 s2 hr4)
        have HR4 := Lib.hid hr4
        clear hk4 hr4 ht4
        obtain ⟨u2, hu2⟩ : ∃ u, isS ts b s2 = u := ⟨_, rfl⟩
        rw [hu2] at HT2
        cases u2
        · have hred : (if false = true then b + 1 else b) = b := rfl
          rw [hred] at HT2
          have HDN : Hid (C = (some x, b)) := Lib.hid (by rw [HI.out.eq, chainGo_stop f hu1 hu2])
          clear hred
          go_wp2_with fail
          refine HT2.out.mono ?_
          rintro e w5 ⟨rfl, hk5, hr5⟩
          have HE := Lib.hid (And.intro ((HI.out.kr.trans HK0.out).trans hk5) hr5)
          clear hk5 hr5
          go_wp2_with fail
          go_ret
          exact OpPost.mkS HDN.out HE.out.1 HE.out.2
        · simp only [if_true] at HT2
          have hltb := isS_lt hu2
          go_wp2_with fail
          refine HT2.out.mono ?_
          rintro e w4' ⟨rfl, hk4, hr4⟩
          have HT4 := Lib.hid (HT0.out.kept hk4 hgh)
          have HK4 := Lib.hid (HK0.out.trans hk4)
          have HRB := Lib.hid hr4
          clear hk4 hr4 HT0
          generalize w4' = w4 at *
          obtain ⟨j0, j1⟩ := HT4.out.1.2.two'
          obtain ⟨n1, hn1⟩ : ∃ n1, n1 = (ns ++ flat ns.length x).length := ⟨_, rfl⟩
          have HN1 := Lib.hid hn1
          have HL4 : Hid (Calls Tryz.prog 107 #[.pointer (some ⟨g, 0, none⟩)] w4 fun e w' => e = .returned (.int .i64 ((n1 : Int) - 1)) ∧ w4 = w') := Lib.hid (by rw [hn1]; exact last_any g w4 ts (b + 1) _ tv nv1 HRB.out)
          clear hn1
          go_wp2_with fail
          refine HL4.out.mono ?_
          rintro e w5 ⟨rfl, rfl⟩
          have HO2 := Lib.hid (HOP.out (b + 1) (by have := HI.out.lo; omega) w4 _ _ HRB.out)
          have hgb := HG.out (b + 1) hltb
          obtain ⟨r, hr⟩ : ∃ r, op (b + 1) = r := ⟨_, rfl⟩
          have HCE : Hid (C = chTail op ts s1 s2 k1 k2 (f - 1) k2 x r) := Lib.hid (by rw [HI.out.eq, chainGo_two (by omega) hu1 hu2, hr])
          rw [hr] at hgb
          clear j0 j1
          go_wp2_with fail
          refine HO2.out.mono ?_
          intro e w5 hpost
          obtain ⟨_ | y, b'⟩ := r
          · obtain ⟨nv2, rfl, hn, hk⟩ := hpost.none_ hr
            have HE := Lib.hid (And.intro HCE.out (And.intro ((HI.out.kr.trans HK4.out).trans hk) hn))
            clear hpost hr hn hk hgb
            go_wp2_with fail
            go_ret
            exact OpPost.mkN HE.out.1 HE.out.2.1 HE.out.2.2
          · obtain ⟨nv2, rfl, hrd, hk⟩ := hpost.some_ hr
            have hys := hgb.2.2 y rfl
            simp only at hys
            have HRD := Lib.hid hrd
            have HK5 := Lib.hid hk
            have hfw := hrd.few
            obtain ⟨n2, hn2⟩ : ∃ n2, n2 = ((ns ++ flat ns.length x) ++ flat (ns ++ flat ns.length x).length y).length := ⟨_, rfl⟩
            have HN2 := Lib.hid hn2
            have HL5 : Hid (Calls Tryz.prog 107 #[.pointer (some ⟨g, 0, none⟩)] w5 fun e w' => e = .returned (.int .i64 ((n2 : Int) - 1)) ∧ w5 = w') := Lib.hid (by rw [hn2]; exact last_any g w5 ts b' _ tv nv2 hrd)
            clear hn2
            have HA5 := Lib.hid (add_any g w5 ts b' _ tv nv2 ⟨(k2 : Int), (n1 : Int) - 1, (n2 : Int) - 1, 0, []⟩ hrd (by have := HI.out.sz; rw [nds_len, nds_len]; omega))
            simp only [ndV] at HA5
            have hst0 : str [] = .string ⟨#[]⟩ := rfl
            rw [hst0] at HA5
            clear hpost hr hrd hk hgb hst0
            go_wp2_with fail
            refine HL5.out.mono ?_
            rintro e w6 ⟨rfl, rfl⟩
            go_wp2_with fail
            refine HA5.out.mono ?_
            rintro e w7 ⟨nv3, rfl, hk7, hr7⟩
            have HK7 := Lib.hid hk7
            have HR7 := Lib.hid hr7
            have HT7 := Lib.hid ((HT4.out.kept HK5.out hgh).kept hk7 hgh)
            clear hk7 hr7
            go_wp2_with fail
            go_roundg (ts.length - b')
            case rel => exact ⟨_, _, _, _, rfl, HI.out.next HCE.out hys HR7.out HN1.out HN2.out HK4.out HK5.out HK7.out, HT7.out⟩
            case measure => rw [HGG.out]; have := HI.out.rd.le; omega
      · simp only [if_true] at HT1
        have hltb := isS_lt hu1
        go_wp2_with fail
        refine HT1.out.mono ?_
        rintro e w4 ⟨rfl, hk4, hr4⟩
        have HK4 := Lib.hid hk4
        have HRB := Lib.hid hr4
        have hgh : g < h1 := by have := HLT.out; have := HH1.out; omega
        have HT4 := Lib.hid (HTW.out.kept hk4 hgh)
        clear hk4 hr4
        obtain ⟨j0, j1⟩ := HT4.out.1.2.two'
        obtain ⟨n1, hn1⟩ : ∃ n1, n1 = (ns ++ flat ns.length x).length := ⟨_, rfl⟩
        have HN1 := Lib.hid hn1
        have HL4 : Hid (Calls Tryz.prog 107 #[.pointer (some ⟨g, 0, none⟩)] w4 fun e w' => e = .returned (.int .i64 ((n1 : Int) - 1)) ∧ w4 = w') := Lib.hid (by rw [hn1]; exact last_any g w4 ts (b + 1) _ tv nv1 HRB.out)
        clear hn1
        go_wp2_with fail
        refine HL4.out.mono ?_
        rintro e w5 ⟨rfl, rfl⟩
        have HO2 := Lib.hid (HOP.out (b + 1) (by have := HI.out.lo; omega) w4 _ _ HRB.out)
        have hgb := HG.out (b + 1) hltb
        obtain ⟨r, hr⟩ : ∃ r, op (b + 1) = r := ⟨_, rfl⟩
        have HCE : Hid (C = chTail op ts s1 s2 k1 k2 (f - 1) k1 x r) := Lib.hid (by rw [HI.out.eq, chainGo_one (by omega) hu1, hr])
        rw [hr] at hgb
        clear j0 j1
        go_wp2_with fail
        refine HO2.out.mono ?_
        intro e w5 hpost
        obtain ⟨_ | y, b'⟩ := r
        · obtain ⟨nv2, rfl, hn, hk⟩ := hpost.none_ hr
          have HE := Lib.hid (And.intro HCE.out (And.intro ((HI.out.kr.trans HK4.out).trans hk) hn))
          clear hpost hr hn hk hgb
          go_wp2_with fail
          go_ret
          exact OpPost.mkN HE.out.1 HE.out.2.1 HE.out.2.2
        · obtain ⟨nv2, rfl, hrd, hk⟩ := hpost.some_ hr
          have hys := hgb.2.2 y rfl
          simp only at hys
          have HRD := Lib.hid hrd
          have HK5 := Lib.hid hk
          have hfw := hrd.few
          obtain ⟨n2, hn2⟩ : ∃ n2, n2 = ((ns ++ flat ns.length x) ++ flat (ns ++ flat ns.length x).length y).length := ⟨_, rfl⟩
          have HN2 := Lib.hid hn2
          have HL5 : Hid (Calls Tryz.prog 107 #[.pointer (some ⟨g, 0, none⟩)] w5 fun e w' => e = .returned (.int .i64 ((n2 : Int) - 1)) ∧ w5 = w') := Lib.hid (by rw [hn2]; exact last_any g w5 ts b' _ tv nv2 hrd)
          clear hn2
          have HA5 := Lib.hid (add_any g w5 ts b' _ tv nv2 ⟨(k1 : Int), (n1 : Int) - 1, (n2 : Int) - 1, 0, []⟩ hrd (by have := HI.out.sz; rw [nds_len, nds_len]; omega))
          simp only [ndV] at HA5
          have hst0 : str [] = .string ⟨#[]⟩ := rfl
          rw [hst0] at HA5
          clear hpost hr hrd hk hgb hst0
          go_wp2_with fail
          refine HL5.out.mono ?_
          rintro e w6 ⟨rfl, rfl⟩
          go_wp2_with fail
          refine HA5.out.mono ?_
          rintro e w7 ⟨nv3, rfl, hk7, hr7⟩
          have HK7 := Lib.hid hk7
          have HR7 := Lib.hid hr7
          have HT7 := Lib.hid ((HT4.out.kept HK5.out hgh).kept hk7 hgh)
          clear hk7 hr7
          go_wp2_with fail
          go_roundg (ts.length - b')
          case rel => exact ⟨_, _, _, _, rfl, HI.out.next HCE.out hys HR7.out HN1.out HN2.out HK4.out HK5.out HK7.out, HT7.out⟩
          case measure => rw [HGG.out]; have := HI.out.rd.le; omega
end Big
end Go.Proofs.YtgopljllknbelaaGreatDoor
