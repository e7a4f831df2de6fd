import Derived.Test.YtaccjdbbkmhanaaGreatDoorM4
import Derived.Test.YtaccjdbbkmhanaaGreatDoorM9
import Derived.Test.YtaccjdbbkmhanaaGreatDoorM5
import Derived.Deep.CutBlock
/- Sizes and depths of lists of nodes: plain. -/
namespace Go.Proofs.YtaccjdbbkmhanaaGreatDoor
namespace Big
def plainT (x : Nd) : Bool := if x.kind = 1 then code7 x.text == 0 else if x.kind = 2 then nameB x.text else x.text == []
def plainM (x : Nd) : Bool := if x.kind = 10 then decide (-64 ≤ x.n ∧ x.n ≤ 64) else x.n == 0
/-- Plain. -/
def plainB (x : Nd) : Bool := plainT x && plainM x
/-- One step of sizes: S the sizes, D the depths of the nodes before. -/
def szStep (S D : List Nat) (x : Nd) : Option (Nat × Nat) :=
  if operI x.kind < 0 ∨ plainB x = false ∨ (operI x.kind < 1 ∧ x.a ≠ 0) ∨ (operI x.kind < 2 ∧ x.b ≠ 0) then none
  else if operI x.kind = 0 then some (1, 1)
  else if operI x.kind = 1 then
    (if x.a ≠ (S.length : Int) - 1 ∨ x.a < 0 then none else some (S.getD x.a.toNat 0 + 1, max 1 (D.getD x.a.toNat 0 + 1)))
  else if x.b ≠ (S.length : Int) - 1 ∨ x.b < 0 then none
  else if x.a ≠ (S.length : Int) - ((S.getD x.b.toNat 0 + 1 : Nat) : Int) ∨ x.a < 0 then none
  else some (S.getD x.b.toNat 0 + 1 + S.getD x.a.toNat 0, max (max 1 (D.getD x.b.toNat 0 + 1)) (D.getD x.a.toNat 0 + 1))
def szGo : List Nat → List Nat → List Nd → Option (List Nat × List Nat)
  | S, D, [] => some (S, D)
  | S, D, x :: t => match szStep S D x with
    | none => none
    | some (s, d) => szGo (S ++ [s]) (D ++ [d]) t
/-- sizes. -/
def szAll (l : List Nd) : Option (List Nat × List Nat) := match szGo [] [] l with
  | none => none
  | some (S, D) => if l.length = 0 ∨ S.getD (l.length - 1) 0 ≠ l.length then none else some (S, D)
def validB (l : List Nd) : Bool := decide (1 ≤ l.length ∧ l.length ≤ 200) && match szAll l with
  | none => false
  | some (_, D) => decide (D.getD (l.length - 1) 0 ≤ 40)
theorem szGo_append (l m : List Nd) : ∀ S D, szGo S D (l ++ m) = (match szGo S D l with | none => none | some (S', D') => szGo S' D' m) := by
  induction l with
  | nil => intro S D; rfl
  | cons x t ih =>
    intro S D
    rw [List.cons_append, szGo, szGo]
    cases szStep S D x with
    | none => rfl
    | some p => exact ih _ _
def szE : Ex → List Nat
  | .leaf _ _ => [1]
  | .un _ _ x => szE x ++ [x.size + 1]
  | .bin _ x y => szE x ++ szE y ++ [x.size + y.size + 1]
def dpE : Ex → List Nat
  | .leaf _ _ => [1]
  | .un _ _ x => dpE x ++ [x.depth + 1]
  | .bin _ x y => dpE x ++ dpE y ++ [max x.depth y.depth + 1]
theorem szE_len (e : Ex) : (szE e).length = e.size := by
  induction e with
  | leaf k t => rfl
  | un k n x ih => rw [szE, List.length_append, ih]; rfl
  | bin k x y ihx ihy => rw [szE, List.length_append, List.length_append, ihx, ihy]; rfl
theorem dpE_len (e : Ex) : (dpE e).length = e.size := by
  induction e with
  | leaf k t => rfl
  | un k n x ih => rw [dpE, List.length_append, ih]; rfl
  | bin k x y ihx ihy => rw [dpE, List.length_append, List.length_append, ihx, ihy]; rfl
theorem getD_last {L M : List Nat} {x : Nat} {i : Nat} (h : i = L.length + M.length) : (L ++ (M ++ [x])).getD i 0 = x := by
  subst h
  rw [List.getD_eq_getElem?_getD, List.getElem?_append_right (by omega), Nat.add_sub_cancel_left, List.getElem?_append_right (Nat.le_refl _), Nat.sub_self]
  rfl
theorem szE_last (e : Ex) (L : List Nat) (i : Nat) (h : i + 1 = L.length + e.size) : (L ++ szE e).getD i 0 = e.size := by
  cases e with
  | leaf k t => exact getD_last (M := []) (by have h2 : i + 1 = L.length + 1 := h; simp; omega)
  | un k n x => rw [szE]; have := szE_len x; exact getD_last (by have h2 : i + 1 = L.length + (x.size + 1) := h; omega)
  | bin k x y => rw [szE]; have := szE_len x; have := szE_len y; exact getD_last (by have h2 : i + 1 = L.length + (x.size + y.size + 1) := h; rw [List.length_append]; omega)
theorem dpE_last (e : Ex) (L : List Nat) (i : Nat) (h : i + 1 = L.length + e.size) : (L ++ dpE e).getD i 0 = e.depth := by
  cases e with
  | leaf k t => exact getD_last (M := []) (by have h2 : i + 1 = L.length + 1 := h; simp; omega)
  | un k n x => rw [dpE]; have := dpE_len x; exact getD_last (by have h2 : i + 1 = L.length + (x.size + 1) := h; omega)
  | bin k x y => rw [dpE]; have := dpE_len x; have := dpE_len y; exact getD_last (by have h2 : i + 1 = L.length + (x.size + y.size + 1) := h; rw [List.length_append]; omega)
theorem getD_left {L M : List Nat} {i : Nat} (h : i < L.length) : (L ++ M).getD i 0 = L.getD i 0 := by
  rw [List.getD_eq_getElem?_getD, List.getD_eq_getElem?_getD, List.getElem?_append_left h]
theorem plain_un {k : Nat} {n : Int} {x : Ex} (h : (Ex.un k n x).Good) (a b : Int) : plainB ⟨(k : Int), a, b, n, []⟩ = true := by
  obtain ⟨h1, h2, h3, h4, _⟩ := h
  unfold plainB plainT plainM
  rw [if_neg (by simp only; omega), if_neg (by simp only; omega)]
  by_cases hk : k = 10
  · subst hk
    simp
    omega
  · rw [if_neg (by simp only; omega)]
    simp [h2 hk]
/-- A good tree's list passes. -/
theorem szGo_flat (e : Ex) (hg : e.Good) : ∀ S D : List Nat, D.length = S.length → szGo S D (flat S.length e) = some (S ++ szE e, D ++ dpE e) := by
  induction e with
  | leaf k t =>
    intro S D hD
    have h1 : szStep S D ⟨(k : Int), 0, 0, 0, t⟩ = some (1, 1) := by
      have hk : 1 ≤ k ∧ k ≤ 4 := by unfold Ex.Good at hg; omega
      have ho : operI (k : Int) = 0 := by unfold operI; rw [if_neg (by omega), if_pos (by omega)]
      have hp : plainB ⟨(k : Int), 0, 0, 0, t⟩ = true := by
        unfold plainB plainT plainM
        rw [if_neg (c := (k : Int) = 10) (by omega)]
        rcases hg with ⟨rfl, h, _⟩ | ⟨rfl, h⟩ | ⟨h, rfl⟩
        · simp [h]
        · simp [h]
        · rw [if_neg (by simp only; omega), if_neg (by simp only; omega)]; rfl
      unfold szStep
      rw [ho, hp]
      simp
    rw [flat, szGo, h1]
    rfl
  | un k n x ih =>
    intro S D hD
    have hx := hg.2.2.2.2
    have hz := x.size_pos
    have hk := hg.1
    have ho : operI (k : Int) = 1 := by unfold operI; rw [if_neg (by omega), if_neg (by omega), if_neg (by omega)]
    rw [flat, szGo_append, ih hx S D hD]
    have h1 : szStep (S ++ szE x) (D ++ dpE x) ⟨(k : Int), ((S.length + x.size - 1 : Nat) : Int), 0, n, []⟩ = some (x.size + 1, x.depth + 1) := by
      have h2 := szE_last x S (S.length + x.size - 1) (by omega)
      have h3 := dpE_last x D (S.length + x.size - 1) (by omega)
      unfold szStep
      simp only [ho, plain_un hg, Int.toNat_natCast, h2, h3, List.length_append, szE_len]
      rw [if_neg (by simp), if_neg (by decide), if_pos trivial, if_neg (by omega), Nat.max_eq_right (by omega)]
    simp only [szGo, h1]
    simp [szE, dpE]
  | bin k x y ihx ihy =>
    intro S D hD
    have hx := hg.2.1
    have hy := hg.2.2
    have hz := x.size_pos
    have hz2 := y.size_pos
    have hk := hg.1
    have ho : operI (k : Int) = 2 := by unfold operI; rw [if_neg (by omega), if_neg (by omega), if_pos (by omega)]
    have hp : plainB ⟨(k : Int), ((S.length + x.size - 1 : Nat) : Int), ((S.length + x.size + y.size - 1 : Nat) : Int), 0, []⟩ = true := by
      unfold plainB plainT plainM
      rw [if_neg (by simp only; omega), if_neg (by simp only; omega), if_neg (by simp only; omega)]
      rfl
    have hl : S.length + x.size = (S ++ szE x).length := by rw [List.length_append, szE_len]
    have hl2 : D.length + x.size = (D ++ dpE x).length := by rw [List.length_append, dpE_len]
    have h0 := ihy hy (S ++ szE x) (D ++ dpE x) (by rw [← hl, ← hl2, hD])
    rw [flat, szGo_append, ihx hx S D hD]
    simp only
    rw [szGo_append, hl, h0, ← hl]
    have h1 : szStep ((S ++ szE x) ++ szE y) ((D ++ dpE x) ++ dpE y) ⟨(k : Int), ((S.length + x.size - 1 : Nat) : Int), ((S.length + x.size + y.size - 1 : Nat) : Int), 0, []⟩ = some (x.size + y.size + 1, max x.depth y.depth + 1) := by
      have h2 := szE_last y (S ++ szE x) (S.length + x.size + y.size - 1) (by omega)
      have h3 := dpE_last y (D ++ dpE x) (S.length + x.size + y.size - 1) (by omega)
      have h4 := (getD_left (L := S ++ szE x) (M := szE y) (i := S.length + x.size - 1) (by omega)).trans (szE_last x S (S.length + x.size - 1) (by omega))
      have h5 := (getD_left (L := D ++ dpE x) (M := dpE y) (i := S.length + x.size - 1) (by omega)).trans (dpE_last x D (S.length + x.size - 1) (by omega))
      unfold szStep
      simp only [ho, hp, Int.toNat_natCast, h2, h3, h4, h5]
      rw [if_neg (by simp), if_neg (by decide), if_neg (by decide), if_neg (by rw [List.length_append, ← hl, szE_len]; omega), if_neg (by rw [List.length_append, ← hl, szE_len]; omega)]
      congr 2
      · omega
      · omega
    simp only [szGo, h1]
    simp [szE, dpE]
theorem validB_flat (e : Ex) (hg : e.Good) : validB (flat 0 e) = decide (e.size ≤ 200 ∧ e.depth ≤ 40) := by
  have h := szGo_flat e hg [] [] rfl
  have hz := e.size_pos
  have h1 := szE_last e [] (e.size - 1) (by simp; omega)
  have h2 := dpE_last e [] (e.size - 1) (by simp; omega)
  rw [List.nil_append] at h h1 h2
  rw [List.nil_append, List.length_nil] at h
  unfold validB szAll
  rw [h, flat_len]
  simp only [h1]
  rw [if_neg (by omega)]
  simp only [h2]
  rw [← Bool.decide_and, decide_eq_decide]
  omega
/-- What a pass keeps: as many sizes and depths as nodes, none greater than the place allows. -/
structure SzOk (S D : List Nat) : Prop where
  len : D.length = S.length
  size : ∀ j, j < S.length → S.getD j 0 ≤ j + 1
  depth : ∀ j, j < S.length → D.getD j 0 ≤ j + 1
theorem SzOk.nil : SzOk [] [] := ⟨rfl, fun j h => by simp at h, fun j h => by simp at h⟩
theorem SzOk.step {S D : List Nat} {x : Nd} {s d : Nat} (h : SzOk S D) (hs : szStep S D x = some (s, d)) : s ≤ S.length + 1 ∧ d ≤ S.length + 1 ∧ SzOk (S ++ [s]) (D ++ [d]) := by
  have key : s ≤ S.length + 1 ∧ d ≤ S.length + 1 := by
    unfold szStep at hs
    split at hs
    · cases hs
    · split at hs
      · injection hs with hs; injection hs with h1 h2; omega
      · split at hs
        · split at hs
          · cases hs
          · rename_i hc
            injection hs with hs
            injection hs with h1 h2
            have := h.size x.a.toNat (by omega)
            have := h.depth x.a.toNat (by omega)
            omega
        · split at hs
          · cases hs
          · rename_i hc
            have q1 := h.size x.b.toNat (by omega)
            have q2 := h.depth x.b.toNat (by omega)
            split at hs
            · cases hs
            · rename_i hc2
              injection hs with hs
              injection hs with h1 h2
              have q3 := h.size x.a.toNat (by omega)
              have q4 := h.depth x.a.toNat (by omega)
              omega
  refine ⟨key.1, key.2, ?_, fun j hj => ?_, fun j hj => ?_⟩
  · rw [List.length_append, List.length_append, h.len]; rfl
  · rw [List.length_append, List.length_singleton] at hj
    rcases Nat.lt_or_ge j S.length with h1 | h1
    · rw [getD_left h1]; exact h.size j h1
    · have h2 := getD_last (L := S) (M := []) (x := s) (i := j) (by simp; omega)
      rw [List.nil_append] at h2
      rw [h2]; omega
  · rw [List.length_append, List.length_singleton] at hj
    rcases Nat.lt_or_ge j S.length with h1 | h1
    · rw [getD_left (by rw [h.len]; exact h1)]; exact h.depth j h1
    · have h2 := getD_last (L := D) (M := []) (x := d) (i := j) (by rw [h.len]; simp; omega)
      rw [List.nil_append] at h2
      rw [h2]; omega
end Big
end Go.Proofs.YtaccjdbbkmhanaaGreatDoor
namespace Go.Proofs.YtaccjdbbkmhanaaGreatDoor
namespace Big
open Go.RowKit
@[go_sem high] theorem cells_match_str2 (l : List UInt8) : Value.cells.match_1 (fun _ => Array Value) (str l) (fun cs => cs) (fun v => #[v]) = #[str l] := rfl
end Big
end Go.Proofs.YtaccjdbbkmhanaaGreatDoor
/- mill.part: it appends the nodes of some expression. -/
namespace Go.Proofs.YtaccjdbbkmhanaaGreatDoor
namespace Big
open Go.RowKit
/-- What part returns. -/
def PartPost (B g : Nat) (w : World) (L : Value) (l : List Int) (xs : List Nd) (d : Nat) (e : Ending) (w' : World) : Prop :=
  ∃ (x : Ex) (v' : Value) (a' : Nat), e = .returned v' ∧ x.Good ∧ x.size + 1 ≤ 2 ^ d ∧ x.depth ≤ d ∧ OwnNd B w' v' (xs ++ flat xs.length x) ∧ TapeAt B g w' L l a' ∧ KB B g w w'
theorem newsL (w : World) (ty : TypeId) (cs : List Value) : ∀ (j : Nat) (u : Value), cs[j]? = some u → (w.alloc (.cells cs.toArray ty)).cell? ((⟨w.heap.size, 0, none⟩ : Addr).add j) = some u := fun j u hj => by
  have h1 := (Blk.new w ty cs.toArray).cell j
  have h2 : (⟨w.heap.size, 0, none⟩ : Addr).add j = ⟨w.heap.size, j, none⟩ := by
    unfold Addr.add
    split
    · rename_i h; subst h; rfl
    · simp
  rw [h2, h1, ← hj, List.getElem?_toArray]
theorem nd_after {B n : Nat} {W W' : World} {xs : List Nd} {nd : Nd} {v v' : Value} (hn : n = xs.length) (ho : Obj) (hrow : OwnNd B W v xs) (hB : B ≤ W.heap.size)
    (hown : W'.ownsRow B 50 5 v' (n + 1) (ndsC xs ++ ndC nd)) (hgr : (W.alloc ho).grownBy W' v.ownBlock) : OwnNd B W' v' (xs ++ [nd]) ∧ Below B W W' := by
  refine ⟨?_, ?_⟩
  · unfold OwnNd
    rw [ndsC_append, ndsC_one, List.length_append, List.length_singleton, ← hn]
    exact hown
  · exact Below.grown ((Below.refl B W).alloc hB ho) hgr (by simp; omega) (fun k hk => ownsRow_block hrow k hk)
theorem OwnNd.kbx {B g : Nat} {w w' : World} {v : Value} {l : List Nd} (h : OwnNd B w v l) (hg : g < B) (hk : ∀ B', KB B' g w w') : OwnNd B w' v l :=
  h.kept (fun k h1 h2 => (hk w.heap.size).block k h2 (by omega))
theorem OwnNd.kbs {B g : Nat} {w w' : World} {v : Value} {l : List Nd} (h : OwnNd B w v l) (hg : g < B) (hk : KB w.heap.size g w w') : OwnNd B w' v l :=
  h.kept (fun k h1 h2 => hk.block k h2 (by omega))
theorem OwnNd.ext {B : Nat} {w w' : World} {v : Value} {l : List Nd} (h : OwnNd B w v l) (hk : Ext w w') : OwnNd B w' v l :=
  h.kept (fun k _h1 h2 => hk.block k h2)
theorem names_get {x : Int} (h0 : 0 ≤ x) (h1 : x < 5) : ∃ t, ∃ h : x.toNat < names5.length, names5[x.toNat] = t ∧ nameB t = true ∧ t.length ≤ 5 := by
  obtain ⟨n, rfl⟩ := Int.eq_ofNat_of_zero_le h0
  have hn : n < names5.length := by show n < 5; omega
  refine ⟨names5[n], hn, rfl, ?_⟩
  have hall : ∀ t ∈ names5, nameB t = true ∧ t.length ≤ 5 := by decide +kernel
  exact hall _ (List.getElem_mem hn)
theorem Dr.belowN {w w' : World} (h : Dr w w') (B : Nat) : Below B w w' := by
  have h1 := h.grown none
  exact ⟨h1.os, h1.tape, h1.output, h1.size, fun g _ => by rw [h.heap]⟩
theorem OwnNd.shape3 {B : Nat} {w : World} {v : Value} {l : List Nd} (h : OwnNd B w v l) : ∃ A c n, v = .slice A n c ∧ n = l.length := by
  obtain ⟨A, c, h1⟩ := h.shape
  exact ⟨A, c, _, h1, rfl⟩
theorem pow_two_le {d : Nat} (h : 1 ≤ d) : 2 ≤ 2 ^ d := by
  calc 2 = 2 ^ 1 := rfl
    _ ≤ 2 ^ d := Nat.pow_le_pow_right (by omega) h
set_option maxHeartbeats 2000000 in
set_option maxRecDepth 100000 in
theorem part_any (d : Nat) : ∀ (B g : Nat) (w : World) (L : Value) (l : List Int) (a : Nat) (v : Value) (xs : List Nd) (closed : Bool) (D : Int), TapeAt B g w L l a → OwnNd B w v xs → B ≤ w.heap.size → 1 ≤ d → D = (d : Int) → xs.length + 2 ^ d ≤ 100000 → d ≤ 1000 →
    Calls Tryz.prog 27 #[.pointer (some ⟨g, 0, none⟩), v, .int .i64 D, .bool closed] w (PartPost B g w L l xs d) := by
  induction d using Nat.strongRecOn with
  | _ d IH =>
  intro B g w L l a v xs closed D ht hv hB hd1 hD hlen hdm
  have HIH := Lib.hid IH
  have HT := Lib.hid ht
  have HV := Lib.hid hv
  have HP := Lib.hid hlen
  have HDD := Lib.hid hD
  have hDpos : 1 ≤ D := by omega
  have hgB := ht.lt
  obtain ⟨A0, c0, rfl⟩ := hv.shape
  have HMORE := Lib.hid (more_any B g w L l a ht)
  have HN5 := Lib.hid (fun W h => next_any B g W L l a 5 h (by decide) (by decide))
  have HRK := Lib.hid (fun W h => range_any B g W L l a 1 16 h (by decide) (by decide) (by decide))
  have hr5 := nextV_range (l := l) (a := a) (n := 5) (by decide)
  have hr16 := nextV_range (l := l) (a := a) (n := 16 - 1 + 1) (by decide)
  have hp2 := pow_two_le hd1
  obtain ⟨i0, hi, hz0, hz1, hz2⟩ := info_parts info_node
  have hxl : xs.length ≤ 100000 := by omega
  clear IH ht hv hlen hD
  generalize nextV l a 5 = x5 at *
  generalize nextV l a (16 - 1 + 1) = x16 at *
  generalize nextA l a = a2 at *
  go_enter Tryz.func27, Tryz.ntmps27
  go_upto_region 1 with fail
  go_cut [23] from 12 to 23 (fun s23 wx => ∃ q : Bool, s23 = .bool q ∧ Dr w wx ∧ (q = false → 1 < D ∧ xs.length ≤ 24))
  case first =>
    by_cases hD1 : D ≤ 1
    · have hD2 : decide (D ≤ 1) = true := decide_eq_true hD1
      go_wp2_with fail
      go_meet
      exact ⟨true, rfl, Dr.refl w, fun h => by cases h⟩
    · have hD2 : decide (D ≤ 1) = false := decide_eq_false hD1
      by_cases hal : a < l.length
      · have hal2 : decide (a < l.length) = true := decide_eq_true hal
        rw [hal2] at HMORE
        clear hal2 hal
        go_wp2_with fail
        refine HMORE.out.mono ?_
        rintro e w1 ⟨rfl, hd⟩
        have HD1 := Lib.hid hd
        clear hd
        go_wp2_with fail
        go_meet
        refine ⟨_, rfl, HD1.out, fun h => ⟨by omega, ?_⟩⟩
        have h2 := of_decide_eq_false h
        omega
      · have hal2 : decide (a < l.length) = false := decide_eq_false hal
        rw [hal2] at HMORE
        clear hal2 hal
        go_wp2_with fail
        refine HMORE.out.mono ?_
        rintro e w1 ⟨rfl, hd⟩
        have HD1 := Lib.hid hd
        clear hd
        go_wp2_with fail
        go_meet
        exact ⟨true, rfl, HD1.out, fun h => by cases h⟩
  case rest =>
    obtain ⟨q, rfl, hd, hq⟩ := hcut
    clear HMORE
    have HD := Lib.hid hd
    have HTX := Lib.hid (HT.out.below (hd.belowN B))
    have HVX := Lib.hid (HV.out.ext (hd.belowN w.heap.size))
    have HKX := Lib.hid ((KB.refl B g w).below (hd.belowN B))
    have hBx : B ≤ wc.heap.size := by rw [hd.heap]; exact hB
    clear hd hB
    generalize wc = w1 at *
    cases q
    · obtain ⟨hDgt, hx24⟩ := hq rfl
      obtain ⟨m, rfl⟩ : ∃ m, d = m + 1 := ⟨d - 1, by omega⟩
      have hm1 : 1 ≤ m := by have := HDD.out; omega
      have hpow : 2 ^ (m + 1) = 2 * 2 ^ m := by rw [Nat.pow_succ]; omega
      have hpm := pow_two_le hm1
      have hlen := HP.out
      have hw1 : IntKind.i64.wrap (D - 1) = D - 1 := by have := HDD.out; exact IntWalk.i64_in _ (by omega)
      obtain ⟨K, hK⟩ : ∃ K : Nat, (K : Int) = 1 + x16 := ⟨(1 + x16).toNat, by omega⟩
      rw [← hK] at HRK
      have hK1 : 1 ≤ K := by omega
      have hK16 : K ≤ 16 := by omega
      have HOP := Lib.hid (fun W => operands_any W (K : Int))
      clear hq hK hr16 HN5 hr5
      have key : (operI (K : Int) = 0 ∧ K ≤ 4) ∨ (operI (K : Int) = 1 ∧ (K = 5 ∨ (10 ≤ K ∧ K ≤ 16))) ∨ (operI (K : Int) = 2 ∧ (6 ≤ K ∧ K ≤ 9)) := by
        unfold operI
        repeat' split
        all_goals omega
      rcases key with ⟨hop, _⟩ | ⟨hop, hKu⟩ | ⟨hop, hKu⟩
      · rw [hop] at HOP
        clear hop hx24
        have HI := Lib.hid (fun W h1 h2 h3 => HIH.out 1 (by omega) B g W L l a2 (.slice A0 xs.length c0) xs closed 1 h1 h2 h3 (by decide) rfl (by omega) (by decide))
        go_wp2_with fail
        refine (HRK.out _ HTX.out).mono ?_
        rintro e w2 ⟨rfl, ht2, hk2⟩
        have HT2 := Lib.hid ht2
        have HV2 := Lib.hid (HVX.out.kbx hgB hk2)
        have HK2 := Lib.hid (HKX.out.trans (hk2 B))
        have hB2 : B ≤ w2.heap.size := Nat.le_trans hBx (hk2 B).size
        clear ht2 hk2
        go_wp2_with fail
        refine (HOP.out _).mono ?_
        rintro e w3 ⟨rfl, rfl⟩
        go_wp2_with fail
        refine (HI.out _ HT2.out HV2.out hB2).mono ?_
        rintro e w4 hpost
        obtain ⟨x, v', a', rfl, hg, hs, hdp, hown, htp, hk⟩ := hpost
        have HE := Lib.hid (And.intro hg (And.intro hs (And.intro hdp (And.intro hown (And.intro htp hk)))))
        clear hg hs hdp hown htp hk
        go_wp2_with fail
        go_ret
        obtain ⟨hg, hs, hdp, hown, htp, hk⟩ := HE.out
        exact ⟨x, v', a', rfl, hg, Nat.le_trans hs hp2, by omega, hown, htp, HK2.out.trans hk⟩
      · rw [hop] at HOP
        clear hop hx24
        by_cases hK10 : K = 10
        · subst hK10
          rw [show ((10 : Nat) : Int) = 10 from rfl] at HOP HRK
          have HR8 := Lib.hid (fun W h => range_any B g W L l a2 (-3) 4 h (by decide) (by decide) (by decide))
          have hr8 := nextV_range (l := l) (a := a2) (n := 4 - -3 + 1) (by decide)
          have hn8 : -3 ≤ -3 + nextV l a2 (4 - -3 + 1) ∧ -3 + nextV l a2 (4 - -3 + 1) ≤ 4 := by omega
          generalize -3 + nextV l a2 (4 - -3 + 1) = nn at *
          generalize nextA l a2 = a3 at *
          clear hr8
          go_wp2_with fail
          refine (HRK.out _ HTX.out).mono ?_
          rintro e w2 ⟨rfl, ht2, hk2⟩
          have HT2 := Lib.hid ht2
          have HV2 := Lib.hid (HVX.out.kbx hgB hk2)
          have HK2 := Lib.hid (HKX.out.trans (hk2 B))
          have hB2 : B ≤ w2.heap.size := Nat.le_trans hBx (hk2 B).size
          clear ht2 hk2
          go_wp2_with fail
          refine (HOP.out _).mono ?_
          rintro e w3 ⟨rfl, rfl⟩
          go_wp2_with fail
          refine (HR8.out _ HT2.out).mono ?_
          rintro e w6 ⟨rfl, ht6, hk6⟩
          have HT6 := Lib.hid ht6
          have HV6 := Lib.hid (HV2.out.kbx hgB hk6)
          have HK6 := Lib.hid (HK2.out.trans (hk6 B))
          have hB6 : B ≤ w6.heap.size := Nat.le_trans hB2 (hk6 B).size
          clear ht6 hk6
          go_wp2_with fail
          refine (HIH.out m (by omega) B g _ L l a3 (.slice A0 xs.length c0) (xs) closed (D - 1) HT6.out HV6.out hB6 hm1 (by have := HDD.out; omega) (by omega) (by omega)).mono ?_
          rintro e w7 hpost
          obtain ⟨x, v7, a7, rfl, hg7, hs7, hdp7, hown7, htp7, hk7⟩ := hpost
          obtain ⟨A7, c7, n7, rfl, hn7⟩ := hown7.shape3
          have hL7 : n7 = xs.length + x.size := by rw [hn7, List.length_append, flat_len]
          have HW7 : Hid (w7.ownsRow B 50 5 (.slice A7 n7 c7) n7 (ndsC (xs ++ flat xs.length x))) := Lib.hid (by
            have h := hown7
            unfold OwnNd at h
            rw [← hn7] at h
            exact h)
          have HL7 := Lib.hid hL7
          have hb7a : n7 ≤ 100000 := by omega
          have hb7b : 1 ≤ n7 := by have := x.size_pos; omega
          have HO7 := Lib.hid hown7
          have HN7 := Lib.hid hn7
          have HT7 := Lib.hid htp7
          have HG7 := Lib.hid (And.intro hg7 hdp7)
          have HK7 := Lib.hid (HK6.out.trans hk7)
          have hB7 : B ≤ w7.heap.size := Nat.le_trans hB6 hk7.size
          clear hg7 hdp7 hown7 htp7 hk7 hn7 hL7
          have hw7 : IntKind.i64.wrap ((n7 : Int) - 1) = (n7 : Int) - 1 := IntWalk.i64_in _ (by omega)
          have HRO : Hid ((w7.alloc (.cells #[.int .i64 10, .int .i64 ((n7 : Int) - 1), .int .i64 0, .int .i64 nn, .string ⟨#[]⟩] 50)).ownsRow B 50 5 _ n7 (ndsC (xs ++ flat xs.length x))) := Lib.hid (ownsRow_below HW7.out (fun k _ hk => Below.heap_alloc _ _ k hk))
          have HNW := Lib.hid (newsL w7 50 [.int .i64 10, .int .i64 ((n7 : Int) - 1), .int .i64 0, .int .i64 nn, .string ⟨#[]⟩])
          have HBB1 : Hid (n7 + 1 ≤ maxLen) := Lib.hid (by unfold maxLen; omega)
          have HBB2 : Hid ((n7 + 1) * 48 ≤ 140737488355328) := Lib.hid (by omega)
          have HBB3 : Hid (B ≤ (w7.alloc (.cells #[.int .i64 10, .int .i64 ((n7 : Int) - 1), .int .i64 0, .int .i64 nn, .string ⟨#[]⟩] 50)).heap.size) := Lib.hid (by simp; omega)
          go_wp2_with (at_builtin; go_must (refine wpList_append_own _ rfl _ _ 25 rfl B 50 i0 _ 5 48 Tryz.underlying25 hi hz0 hz1 hz2 rfl (by decide) _ n7 (ndsC (xs ++ flat xs.length x)) rfl HRO.out ⟨w7.heap.size, 0, none⟩ 1 1 [.int .i64 10, .int .i64 ((n7 : Int) - 1), .int .i64 0, .int .i64 nn, .string ⟨#[]⟩] rfl rfl HNW.out (by simp [Value.oneCell']) HBB1.out HBB2.out HBB3.out ?_; intro v' w' hown hgr _; have HDN := Lib.hid (nd_after (nd := ⟨10, (n7 : Int) - 1, 0, nn, []⟩) HN7.out _ HO7.out hB7 hown hgr); obtain ⟨A', c', rfl⟩ := ownsRow_shape hown; clear hown hgr))
          go_wp2_with fail
          go_ret
          have hL7 := HL7.out
          have hsz7 := x.size_pos
          refine ⟨.un 10 nn x, _, _, rfl, ⟨hKu, fun h => absurd rfl h, by omega, by omega, HG7.out.1⟩, by rw [Ex.size]; omega, by rw [Ex.depth]; have := HG7.out.2; omega, ?_, HT7.out.below HDN.out.2, HK7.out.below HDN.out.2⟩
          rw [flat, ← List.append_assoc, show ((xs.length + x.size - 1 : Nat) : Int) = (n7 : Int) - 1 by omega]
          exact HDN.out.1
        · have hKe : ((K : Int) == 10) = false := by rw [beq_eq_false_iff_ne]; omega
          go_wp2_with fail
          refine (HRK.out _ HTX.out).mono ?_
          rintro e w2 ⟨rfl, ht2, hk2⟩
          have HT2 := Lib.hid ht2
          have HV2 := Lib.hid (HVX.out.kbx hgB hk2)
          have HK2 := Lib.hid (HKX.out.trans (hk2 B))
          have hB2 : B ≤ w2.heap.size := Nat.le_trans hBx (hk2 B).size
          clear ht2 hk2
          go_wp2_with fail
          refine (HOP.out _).mono ?_
          rintro e w3 ⟨rfl, rfl⟩
          have HK6 := Lib.hid HK2.out
          have hB6 := hB2
          go_wp2_with fail
          refine (HIH.out m (by omega) B g _ L l a2 (.slice A0 xs.length c0) (xs) closed (D - 1) HT2.out HV2.out hB2 hm1 (by have := HDD.out; omega) (by omega) (by omega)).mono ?_
          rintro e w7 hpost
          obtain ⟨x, v7, a7, rfl, hg7, hs7, hdp7, hown7, htp7, hk7⟩ := hpost
          obtain ⟨A7, c7, n7, rfl, hn7⟩ := hown7.shape3
          have hL7 : n7 = xs.length + x.size := by rw [hn7, List.length_append, flat_len]
          have HW7 : Hid (w7.ownsRow B 50 5 (.slice A7 n7 c7) n7 (ndsC (xs ++ flat xs.length x))) := Lib.hid (by
            have h := hown7
            unfold OwnNd at h
            rw [← hn7] at h
            exact h)
          have HL7 := Lib.hid hL7
          have hb7a : n7 ≤ 100000 := by omega
          have hb7b : 1 ≤ n7 := by have := x.size_pos; omega
          have HO7 := Lib.hid hown7
          have HN7 := Lib.hid hn7
          have HT7 := Lib.hid htp7
          have HG7 := Lib.hid (And.intro hg7 hdp7)
          have HK7 := Lib.hid (HK6.out.trans hk7)
          have hB7 : B ≤ w7.heap.size := Nat.le_trans hB6 hk7.size
          clear hg7 hdp7 hown7 htp7 hk7 hn7 hL7
          have hw7 : IntKind.i64.wrap ((n7 : Int) - 1) = (n7 : Int) - 1 := IntWalk.i64_in _ (by omega)
          have HRO : Hid ((w7.alloc (.cells #[.int .i64 (K : Int), .int .i64 ((n7 : Int) - 1), .int .i64 0, .int .i64 0, .string ⟨#[]⟩] 50)).ownsRow B 50 5 _ n7 (ndsC (xs ++ flat xs.length x))) := Lib.hid (ownsRow_below HW7.out (fun k _ hk => Below.heap_alloc _ _ k hk))
          have HNW := Lib.hid (newsL w7 50 [.int .i64 (K : Int), .int .i64 ((n7 : Int) - 1), .int .i64 0, .int .i64 0, .string ⟨#[]⟩])
          have HBB1 : Hid (n7 + 1 ≤ maxLen) := Lib.hid (by unfold maxLen; omega)
          have HBB2 : Hid ((n7 + 1) * 48 ≤ 140737488355328) := Lib.hid (by omega)
          have HBB3 : Hid (B ≤ (w7.alloc (.cells #[.int .i64 (K : Int), .int .i64 ((n7 : Int) - 1), .int .i64 0, .int .i64 0, .string ⟨#[]⟩] 50)).heap.size) := Lib.hid (by simp; omega)
          go_wp2_with (at_builtin; go_must (refine wpList_append_own _ rfl _ _ 25 rfl B 50 i0 _ 5 48 Tryz.underlying25 hi hz0 hz1 hz2 rfl (by decide) _ n7 (ndsC (xs ++ flat xs.length x)) rfl HRO.out ⟨w7.heap.size, 0, none⟩ 1 1 [.int .i64 (K : Int), .int .i64 ((n7 : Int) - 1), .int .i64 0, .int .i64 0, .string ⟨#[]⟩] rfl rfl HNW.out (by simp [Value.oneCell']) HBB1.out HBB2.out HBB3.out ?_; intro v' w' hown hgr _; have HDN := Lib.hid (nd_after (nd := ⟨(K : Int), (n7 : Int) - 1, 0, 0, []⟩) HN7.out _ HO7.out hB7 hown hgr); obtain ⟨A', c', rfl⟩ := ownsRow_shape hown; clear hown hgr))
          go_wp2_with fail
          go_ret
          have hL7 := HL7.out
          have hsz7 := x.size_pos
          refine ⟨.un K 0 x, _, _, rfl, ⟨hKu, fun _ => rfl, by omega, by omega, HG7.out.1⟩, by rw [Ex.size]; omega, by rw [Ex.depth]; have := HG7.out.2; omega, ?_, HT7.out.below HDN.out.2, HK7.out.below HDN.out.2⟩
          rw [flat, ← List.append_assoc, show ((xs.length + x.size - 1 : Nat) : Int) = (n7 : Int) - 1 by omega]
          exact HDN.out.1
      · rw [hop] at HOP
        clear hop hx24
        go_wp2_with fail
        refine (HRK.out _ HTX.out).mono ?_
        rintro e w2 ⟨rfl, ht2, hk2⟩
        have HT2 := Lib.hid ht2
        have HV2 := Lib.hid (HVX.out.kbx hgB hk2)
        have HK2 := Lib.hid (HKX.out.trans (hk2 B))
        have hB2 : B ≤ w2.heap.size := Nat.le_trans hBx (hk2 B).size
        clear ht2 hk2
        go_wp2_with fail
        refine (HOP.out _).mono ?_
        rintro e w3 ⟨rfl, rfl⟩
        have HK6 := Lib.hid HK2.out
        have hB6 := hB2
        go_wp2_with fail
        refine (HIH.out m (by omega) B g _ L l a2 (.slice A0 xs.length c0) (xs) closed (D - 1) HT2.out HV2.out hB2 hm1 (by have := HDD.out; omega) (by omega) (by omega)).mono ?_
        rintro e w7 hpost
        obtain ⟨x, v7, a7, rfl, hg7, hs7, hdp7, hown7, htp7, hk7⟩ := hpost
        obtain ⟨A7, c7, n7, rfl, hn7⟩ := hown7.shape3
        have hL7 : n7 = xs.length + x.size := by rw [hn7, List.length_append, flat_len]
        have HW7 : Hid (w7.ownsRow B 50 5 (.slice A7 n7 c7) n7 (ndsC (xs ++ flat xs.length x))) := Lib.hid (by
          have h := hown7
          unfold OwnNd at h
          rw [← hn7] at h
          exact h)
        have HL7 := Lib.hid hL7
        have hb7a : n7 ≤ 100000 := by omega
        have hb7b : 1 ≤ n7 := by have := x.size_pos; omega
        have HO7 := Lib.hid hown7
        have HN7 := Lib.hid hn7
        have HT7 := Lib.hid htp7
        have HG7 := Lib.hid (And.intro hg7 hdp7)
        have HK7 := Lib.hid (HK6.out.trans hk7)
        have hB7 : B ≤ w7.heap.size := Nat.le_trans hB6 hk7.size
        clear hg7 hdp7 hown7 htp7 hk7 hn7 hL7
        have hw7 : IntKind.i64.wrap ((n7 : Int) - 1) = (n7 : Int) - 1 := IntWalk.i64_in _ (by omega)
        go_wp2_with fail
        refine (HIH.out m (by omega) B g _ L l a7 (.slice A7 n7 c7) (xs ++ flat xs.length x) closed (D - 1) HT7.out HO7.out hB7 hm1 (by have := HDD.out; omega) (by rw [← HN7.out]; have := HL7.out; omega) (by omega)).mono ?_
        rintro e w8 hpost
        obtain ⟨y, v8, a8, rfl, hg8, hs8, hdp8, hown8, htp8, hk8⟩ := hpost
        have hL7z := HL7.out
        obtain ⟨A8, c8, n8, rfl, hn8⟩ := hown8.shape3
        have hL8 : n8 = n7 + y.size := by rw [hn8, List.length_append, flat_len, ← HN7.out]
        have HW8 : Hid (w8.ownsRow B 50 5 (.slice A8 n8 c8) n8 (ndsC ((xs ++ flat xs.length x) ++ flat (xs ++ flat xs.length x).length y))) := Lib.hid (by
          have h := hown8
          unfold OwnNd at h
          rw [← hn8] at h
          exact h)
        have HL8 := Lib.hid hL8
        have hb8a : n8 ≤ 100000 := by omega
        have hb8b : 1 ≤ n8 := by have := y.size_pos; omega
        have HO8 := Lib.hid hown8
        have HN8 := Lib.hid hn8
        have HT8 := Lib.hid htp8
        have HG8 := Lib.hid (And.intro hg8 hdp8)
        have HK8 := Lib.hid (HK7.out.trans hk8)
        have hB8 : B ≤ w8.heap.size := Nat.le_trans hB7 hk8.size
        clear hg8 hdp8 hown8 htp8 hk8 hn8 hL8 hL7z
        have hw8 : IntKind.i64.wrap ((n8 : Int) - 1) = (n8 : Int) - 1 := IntWalk.i64_in _ (by omega)
        have HRO : Hid ((w8.alloc (.cells #[.int .i64 (K : Int), .int .i64 ((n7 : Int) - 1), .int .i64 ((n8 : Int) - 1), .int .i64 0, .string ⟨#[]⟩] 50)).ownsRow B 50 5 _ n8 (ndsC ((xs ++ flat xs.length x) ++ flat (xs ++ flat xs.length x).length y))) := Lib.hid (ownsRow_below HW8.out (fun k _ hk => Below.heap_alloc _ _ k hk))
        have HNW := Lib.hid (newsL w8 50 [.int .i64 (K : Int), .int .i64 ((n7 : Int) - 1), .int .i64 ((n8 : Int) - 1), .int .i64 0, .string ⟨#[]⟩])
        have HBB1 : Hid (n8 + 1 ≤ maxLen) := Lib.hid (by unfold maxLen; omega)
        have HBB2 : Hid ((n8 + 1) * 48 ≤ 140737488355328) := Lib.hid (by omega)
        have HBB3 : Hid (B ≤ (w8.alloc (.cells #[.int .i64 (K : Int), .int .i64 ((n7 : Int) - 1), .int .i64 ((n8 : Int) - 1), .int .i64 0, .string ⟨#[]⟩] 50)).heap.size) := Lib.hid (by simp; omega)
        go_wp2_with (at_builtin; go_must (refine wpList_append_own _ rfl _ _ 25 rfl B 50 i0 _ 5 48 Tryz.underlying25 hi hz0 hz1 hz2 rfl (by decide) _ n8 (ndsC ((xs ++ flat xs.length x) ++ flat (xs ++ flat xs.length x).length y)) rfl HRO.out ⟨w8.heap.size, 0, none⟩ 1 1 [.int .i64 (K : Int), .int .i64 ((n7 : Int) - 1), .int .i64 ((n8 : Int) - 1), .int .i64 0, .string ⟨#[]⟩] rfl rfl HNW.out (by simp [Value.oneCell']) HBB1.out HBB2.out HBB3.out ?_; intro v' w' hown hgr _; have HDN := Lib.hid (nd_after (nd := ⟨(K : Int), (n7 : Int) - 1, (n8 : Int) - 1, 0, []⟩) HN8.out _ HO8.out hB8 hown hgr); obtain ⟨A', c', rfl⟩ := ownsRow_shape hown; clear hown hgr))
        go_wp2_with fail
        go_ret
        have hL7 := HL7.out
        have hL8 := HL8.out
        have hsz7 := x.size_pos
        have hsz8 := y.size_pos
        refine ⟨.bin K x y, _, _, rfl, ⟨hKu, HG7.out.1, HG8.out.1⟩, by rw [Ex.size]; omega, by rw [Ex.depth]; have := HG7.out.2; have := HG8.out.2; omega, ?_, HT8.out.below HDN.out.2, HK8.out.below HDN.out.2⟩
        rw [flat, show ((xs.length + x.size - 1 : Nat) : Int) = (n7 : Int) - 1 by omega, show ((xs.length + x.size + y.size - 1 : Nat) : Int) = (n8 : Int) - 1 by omega]
        have h9 := HDN.out.1
        rw [show (xs ++ flat xs.length x).length = xs.length + x.size by rw [← HN7.out]; exact hL7] at h9
        simp only [List.append_assoc] at h9 ⊢
        exact h9
    · clear hq HIH HRK hr16
      obtain rfl | h12 | h34 : x5 = 0 ∨ (x5 = 1 ∨ x5 = 2) ∨ (x5 = 3 ∨ x5 = 4) := by omega
      · go_wp2_with fail
        refine (HN5.out _ HTX.out).mono ?_
        rintro e w2 ⟨rfl, ht2, hk2⟩
        have HT2 := Lib.hid ht2
        have HV2 := Lib.hid (HVX.out.kbx hgB hk2)
        have HK2 := Lib.hid (HKX.out.trans (hk2 B))
        have hB2 : B ≤ w2.heap.size := Nat.le_trans hBx (hk2 B).size
        clear ht2 hk2
        have HNN := Lib.hid (fun W h => next_any B g W L l a2 2 h (by decide) (by decide))
        have hr2 := nextV_range (l := l) (a := a2) (n := 2) (by decide)
        generalize nextV l a2 2 = y at *
        generalize nextA l a2 = a3 at *
        obtain rfl | rfl : y = 0 ∨ y = 1 := by omega
        · go_wp2_with fail
          refine (HNN.out _ HT2.out).mono ?_
          rintro e w3 ⟨rfl, ht3, hk3⟩
          have HT3 := Lib.hid ht3
          have HV3 := Lib.hid (HV2.out.kbx hgB hk3)
          have HK3 := Lib.hid (HK2.out.trans (hk3 B))
          have hB3 : B ≤ w3.heap.size := Nat.le_trans hB2 (hk3 B).size
          clear ht3 hk3
          have HRO : Hid ((w3.alloc (.cells #[.int .i64 3, .int .i64 0, .int .i64 0, .int .i64 0, .string ⟨#[]⟩] 50)).ownsRow B 50 5 _ xs.length (ndsC (xs))) := Lib.hid (ownsRow_below HV3.out (fun k _ hk => Below.heap_alloc _ _ k hk))
          have HNW := Lib.hid (newsL w3 50 [.int .i64 3, .int .i64 0, .int .i64 0, .int .i64 0, .string ⟨#[]⟩])
          have HBB1 : Hid (xs.length + 1 ≤ maxLen) := Lib.hid (by unfold maxLen; omega)
          have HBB2 : Hid ((xs.length + 1) * 48 ≤ 140737488355328) := Lib.hid (by omega)
          have HBB3 : Hid (B ≤ (w3.alloc (.cells #[.int .i64 3, .int .i64 0, .int .i64 0, .int .i64 0, .string ⟨#[]⟩] 50)).heap.size) := Lib.hid (by simp; omega)
          go_wp2_with (at_builtin; go_must (refine wpList_append_own _ rfl _ _ 25 rfl B 50 i0 _ 5 48 Tryz.underlying25 hi hz0 hz1 hz2 rfl (by decide) _ xs.length (ndsC (xs)) rfl HRO.out ⟨w3.heap.size, 0, none⟩ 1 1 [.int .i64 3, .int .i64 0, .int .i64 0, .int .i64 0, .string ⟨#[]⟩] rfl rfl HNW.out (by simp [Value.oneCell']) HBB1.out HBB2.out HBB3.out ?_; intro v' w' hown hgr _; have HDN := Lib.hid (nd_after (nd := ⟨3, 0, 0, 0, []⟩) rfl _ HV3.out hB3 hown hgr); obtain ⟨A', c', rfl⟩ := ownsRow_shape hown; clear hown hgr))
          go_wp2_with fail
          go_ret
          exact ⟨.leaf 3 [], _, _, rfl, .inr (.inr ⟨by omega, rfl⟩), by rw [Ex.size]; omega, hd1, HDN.out.1, HT3.out.below HDN.out.2, HK3.out.below HDN.out.2⟩
        · go_wp2_with fail
          refine (HNN.out _ HT2.out).mono ?_
          rintro e w3 ⟨rfl, ht3, hk3⟩
          have HT3 := Lib.hid ht3
          have HV3 := Lib.hid (HV2.out.kbx hgB hk3)
          have HK3 := Lib.hid (HK2.out.trans (hk3 B))
          have hB3 : B ≤ w3.heap.size := Nat.le_trans hB2 (hk3 B).size
          clear ht3 hk3
          have HRO : Hid ((w3.alloc (.cells #[.int .i64 4, .int .i64 0, .int .i64 0, .int .i64 0, .string ⟨#[]⟩] 50)).ownsRow B 50 5 _ xs.length (ndsC (xs))) := Lib.hid (ownsRow_below HV3.out (fun k _ hk => Below.heap_alloc _ _ k hk))
          have HNW := Lib.hid (newsL w3 50 [.int .i64 4, .int .i64 0, .int .i64 0, .int .i64 0, .string ⟨#[]⟩])
          have HBB1 : Hid (xs.length + 1 ≤ maxLen) := Lib.hid (by unfold maxLen; omega)
          have HBB2 : Hid ((xs.length + 1) * 48 ≤ 140737488355328) := Lib.hid (by omega)
          have HBB3 : Hid (B ≤ (w3.alloc (.cells #[.int .i64 4, .int .i64 0, .int .i64 0, .int .i64 0, .string ⟨#[]⟩] 50)).heap.size) := Lib.hid (by simp; omega)
          go_wp2_with (at_builtin; go_must (refine wpList_append_own _ rfl _ _ 25 rfl B 50 i0 _ 5 48 Tryz.underlying25 hi hz0 hz1 hz2 rfl (by decide) _ xs.length (ndsC (xs)) rfl HRO.out ⟨w3.heap.size, 0, none⟩ 1 1 [.int .i64 4, .int .i64 0, .int .i64 0, .int .i64 0, .string ⟨#[]⟩] rfl rfl HNW.out (by simp [Value.oneCell']) HBB1.out HBB2.out HBB3.out ?_; intro v' w' hown hgr _; have HDN := Lib.hid (nd_after (nd := ⟨4, 0, 0, 0, []⟩) rfl _ HV3.out hB3 hown hgr); obtain ⟨A', c', rfl⟩ := ownsRow_shape hown; clear hown hgr))
          go_wp2_with fail
          go_ret
          exact ⟨.leaf 4 [], _, _, rfl, .inr (.inr ⟨by omega, rfl⟩), by rw [Ex.size]; omega, hd1, HDN.out.1, HT3.out.below HDN.out.2, HK3.out.below HDN.out.2⟩
      · cases closed
        · obtain rfl | rfl := h12
          all_goals
            go_wp2_with fail
            refine (HN5.out _ HTX.out).mono ?_
            rintro e w2 ⟨rfl, ht2, hk2⟩
            have HT2 := Lib.hid ht2
            have HV2 := Lib.hid (HVX.out.kbx hgB hk2)
            have HK2 := Lib.hid (HKX.out.trans (hk2 B))
            have hB2 : B ≤ w2.heap.size := Nat.le_trans hBx (hk2 B).size
            clear ht2 hk2
            have HNN := Lib.hid (fun W h => next_any B g W L l a2 5 h (by decide) (by decide))
            have hr2 := nextV_range (l := l) (a := a2) (n := 5) (by decide)
            obtain ⟨t, hyl, hyt, hgt, htl⟩ := names_get hr2.1 hr2.2
            obtain ⟨hy0, hy1⟩ := hr2
            have HG3 := Lib.hid hgt
            have HYT := Lib.hid hyt
            generalize nextV l a2 5 = y at *
            generalize nextA l a2 = a3 at *
            clear hgt hyt
            go_wp2_with fail
            refine (names_any _).mono ?_
            rintro e w4 ⟨rfl, hb4, hx4⟩
            have HB4 := Lib.hid hb4
            have HX4 := Lib.hid hx4
            clear hb4 hx4
            go_wp2_with fail
            refine (names_any _).mono ?_
            rintro e w5 ⟨rfl, _, hx5⟩
            have HB5 := Lib.hid (HB4.out.ext hx5)
            have HX5 := Lib.hid (HX4.out.trans hx5)
            clear hx5
            go_wp2_with fail
            refine (HNN.out _ (HT2.out.below (Below.mono HX5.out hB2))).mono ?_
            rintro e w3 ⟨rfl, ht3, hk3⟩
            have hgl := HT2.out.blk.lt
            have hld := ((hk3 (w2.heap.size + 1)).blk HB5.out (by omega) (by omega)).cell y.toNat
            rw [List.getElem?_toArray, List.getElem?_map, List.getElem?_eq_getElem hyl] at hld
            rw [HYT.out] at hld
            have hld2 : w3.cell? ⟨w2.heap.size, y.toNat, none⟩ = some (str t) := hld
            have HT3 := Lib.hid ht3
            have HV3 := Lib.hid ((HV2.out.ext HX5.out).kbx hgB hk3)
            have HK3 := Lib.hid ((HK2.out.ext HX5.out hB2).trans (hk3 B))
            have hB3 : B ≤ w3.heap.size := Nat.le_trans hB2 (Nat.le_trans HX5.out.size (hk3 B).size)
            clear ht3 hk3 hld hgl
            have HRO : Hid ((w3.alloc (.cells #[.int .i64 2, .int .i64 0, .int .i64 0, .int .i64 0, str t] 50)).ownsRow B 50 5 _ xs.length (ndsC (xs))) := Lib.hid (ownsRow_below HV3.out (fun k _ hk => Below.heap_alloc _ _ k hk))
            have HNW := Lib.hid (newsL w3 50 [.int .i64 2, .int .i64 0, .int .i64 0, .int .i64 0, str t])
            have HBB1 : Hid (xs.length + 1 ≤ maxLen) := Lib.hid (by unfold maxLen; omega)
            have HBB2 : Hid ((xs.length + 1) * 48 ≤ 140737488355328) := Lib.hid (by omega)
            have HBB3 : Hid (B ≤ (w3.alloc (.cells #[.int .i64 2, .int .i64 0, .int .i64 0, .int .i64 0, str t] 50)).heap.size) := Lib.hid (by simp; omega)
            go_wp2_with (at_builtin; go_must (refine wpList_append_own _ rfl _ _ 25 rfl B 50 i0 _ 5 48 Tryz.underlying25 hi hz0 hz1 hz2 rfl (by decide) _ xs.length (ndsC (xs)) rfl HRO.out ⟨w3.heap.size, 0, none⟩ 1 1 [.int .i64 2, .int .i64 0, .int .i64 0, .int .i64 0, str t] rfl rfl HNW.out (by simp [Value.oneCell', str]) HBB1.out HBB2.out HBB3.out ?_; intro v' w' hown hgr _; have HDN := Lib.hid (nd_after (nd := ⟨2, 0, 0, 0, t⟩) rfl _ HV3.out hB3 hown hgr); obtain ⟨A', c', rfl⟩ := ownsRow_shape hown; clear hown hgr))
            go_wp2_with fail
            go_ret
            exact ⟨.leaf 2 t, _, _, rfl, .inr (.inl ⟨rfl, HG3.out⟩), by rw [Ex.size]; omega, hd1, HDN.out.1, HT3.out.below HDN.out.2, HK3.out.below HDN.out.2⟩
        · obtain rfl | rfl := h12
          all_goals
            go_wp2_with fail
            refine (HN5.out _ HTX.out).mono ?_
            rintro e w2 ⟨rfl, ht2, hk2⟩
            have HT2 := Lib.hid ht2
            have HV2 := Lib.hid (HVX.out.kbx hgB hk2)
            have HK2 := Lib.hid (HKX.out.trans (hk2 B))
            have hB2 : B ≤ w2.heap.size := Nat.le_trans hBx (hk2 B).size
            clear ht2 hk2
            go_wp2_with fail
            refine (number_any B g _ L l a2 HT2.out hB2).mono ?_
            rintro e w3 ⟨t, rfl, hc7, htl, ht3, hk3⟩
            have HG3 := Lib.hid (And.intro hc7 htl)
            clear hc7 htl
            have HT3 := Lib.hid ht3
            have HV3 := Lib.hid (HV2.out.kbs hgB hk3)
            have HK3 := Lib.hid (HK2.out.trans (hk3.mono hB2))
            have hB3 : B ≤ w3.heap.size := Nat.le_trans hB2 hk3.size
            clear ht3 hk3
            have HRO : Hid ((w3.alloc (.cells #[.int .i64 1, .int .i64 0, .int .i64 0, .int .i64 0, str t] 50)).ownsRow B 50 5 _ xs.length (ndsC (xs))) := Lib.hid (ownsRow_below HV3.out (fun k _ hk => Below.heap_alloc _ _ k hk))
            have HNW := Lib.hid (newsL w3 50 [.int .i64 1, .int .i64 0, .int .i64 0, .int .i64 0, str t])
            have HBB1 : Hid (xs.length + 1 ≤ maxLen) := Lib.hid (by unfold maxLen; omega)
            have HBB2 : Hid ((xs.length + 1) * 48 ≤ 140737488355328) := Lib.hid (by omega)
            have HBB3 : Hid (B ≤ (w3.alloc (.cells #[.int .i64 1, .int .i64 0, .int .i64 0, .int .i64 0, str t] 50)).heap.size) := Lib.hid (by simp; omega)
            go_wp2_with (at_builtin; go_must (refine wpList_append_own _ rfl _ _ 25 rfl B 50 i0 _ 5 48 Tryz.underlying25 hi hz0 hz1 hz2 rfl (by decide) _ xs.length (ndsC (xs)) rfl HRO.out ⟨w3.heap.size, 0, none⟩ 1 1 [.int .i64 1, .int .i64 0, .int .i64 0, .int .i64 0, str t] rfl rfl HNW.out (by simp [Value.oneCell', str]) HBB1.out HBB2.out HBB3.out ?_; intro v' w' hown hgr _; have HDN := Lib.hid (nd_after (nd := ⟨1, 0, 0, 0, t⟩) rfl _ HV3.out hB3 hown hgr); obtain ⟨A', c', rfl⟩ := ownsRow_shape hown; clear hown hgr))
            go_wp2_with fail
            go_ret
            exact ⟨.leaf 1 t, _, _, rfl, .inl ⟨rfl, HG3.out.1, Nat.le_trans HG3.out.2 (by decide)⟩, by rw [Ex.size]; omega, hd1, HDN.out.1, HT3.out.below HDN.out.2, HK3.out.below HDN.out.2⟩
      · obtain rfl | rfl := h34
        all_goals
          go_wp2_with fail
          refine (HN5.out _ HTX.out).mono ?_
          rintro e w2 ⟨rfl, ht2, hk2⟩
          have HT2 := Lib.hid ht2
          have HV2 := Lib.hid (HVX.out.kbx hgB hk2)
          have HK2 := Lib.hid (HKX.out.trans (hk2 B))
          have hB2 : B ≤ w2.heap.size := Nat.le_trans hBx (hk2 B).size
          clear ht2 hk2
          go_wp2_with fail
          refine (number_any B g _ L l a2 HT2.out hB2).mono ?_
          rintro e w3 ⟨t, rfl, hc7, htl, ht3, hk3⟩
          have HG3 := Lib.hid (And.intro hc7 htl)
          clear hc7 htl
          have HT3 := Lib.hid ht3
          have HV3 := Lib.hid (HV2.out.kbs hgB hk3)
          have HK3 := Lib.hid (HK2.out.trans (hk3.mono hB2))
          have hB3 : B ≤ w3.heap.size := Nat.le_trans hB2 hk3.size
          clear ht3 hk3
          have HRO : Hid ((w3.alloc (.cells #[.int .i64 1, .int .i64 0, .int .i64 0, .int .i64 0, str t] 50)).ownsRow B 50 5 _ xs.length (ndsC (xs))) := Lib.hid (ownsRow_below HV3.out (fun k _ hk => Below.heap_alloc _ _ k hk))
          have HNW := Lib.hid (newsL w3 50 [.int .i64 1, .int .i64 0, .int .i64 0, .int .i64 0, str t])
          have HBB1 : Hid (xs.length + 1 ≤ maxLen) := Lib.hid (by unfold maxLen; omega)
          have HBB2 : Hid ((xs.length + 1) * 48 ≤ 140737488355328) := Lib.hid (by omega)
          have HBB3 : Hid (B ≤ (w3.alloc (.cells #[.int .i64 1, .int .i64 0, .int .i64 0, .int .i64 0, str t] 50)).heap.size) := Lib.hid (by simp; omega)
          go_wp2_with (at_builtin; go_must (refine wpList_append_own _ rfl _ _ 25 rfl B 50 i0 _ 5 48 Tryz.underlying25 hi hz0 hz1 hz2 rfl (by decide) _ xs.length (ndsC (xs)) rfl HRO.out ⟨w3.heap.size, 0, none⟩ 1 1 [.int .i64 1, .int .i64 0, .int .i64 0, .int .i64 0, str t] rfl rfl HNW.out (by simp [Value.oneCell', str]) HBB1.out HBB2.out HBB3.out ?_; intro v' w' hown hgr _; have HDN := Lib.hid (nd_after (nd := ⟨1, 0, 0, 0, t⟩) rfl _ HV3.out hB3 hown hgr); obtain ⟨A', c', rfl⟩ := ownsRow_shape hown; clear hown hgr))
          go_wp2_with fail
          go_ret
          exact ⟨.leaf 1 t, _, _, rfl, .inl ⟨rfl, HG3.out.1, Nat.le_trans HG3.out.2 (by decide)⟩, by rw [Ex.size]; omega, hd1, HDN.out.1, HT3.out.below HDN.out.2, HK3.out.below HDN.out.2⟩
end Big
end Go.Proofs.YtaccjdbbkmhanaaGreatDoor
/- mill.Expr; ref20.Level. -/
namespace Go.Proofs.YtaccjdbbkmhanaaGreatDoor
namespace Big
open Go.RowKit
set_option maxRecDepth 100000 in
theorem expr_any (d g : Nat) (w : World) (L : Value) (l : List Int) (a : Nat) (closed : Bool) (h : TapeAt w.heap.size g w L l a) (hd : 1 ≤ d) (hd2 : d ≤ 16) : Calls Tryz.prog 8 #[.pointer (some ⟨g, 0, none⟩), .int .i64 (d : Int), .bool closed] w (PartPost w.heap.size g w L l [] d) := by
  have hp : 2 ^ d ≤ 2 ^ 16 := Nat.pow_le_pow_right (by omega) hd2
  have HP := Lib.hid (part_any d w.heap.size g w L l a (.slice none 0 0) [] closed (d : Int) h (OwnNd.nil _ w) (Nat.le_refl _) hd rfl (by simp; omega) (by omega))
  clear h hp
  go_enter Tryz.func8, Tryz.ntmps8
  go_wp2_with fail
  refine HP.out.mono ?_
  rintro e w2 ⟨x, v', a', rfl, h1, h2, h3, h4, h5, h6⟩
  have HE := Lib.hid (And.intro h1 (And.intro h2 (And.intro h3 (And.intro h4 (And.intro h5 h6)))))
  clear h1 h2 h3 h4 h5 h6
  go_wp2_with fail
  go_ret
  obtain ⟨h1, h2, h3, h4, h5, h6⟩ := HE.out
  exact ⟨x, v', a', rfl, h1, h2, h3, h4, h5, h6⟩
end Big
end Go.Proofs.YtaccjdbbkmhanaaGreatDoor
