import Derived.Test.YtoehdoghghpmjaaGreatDoorM20
import Derived.Test.YtoehdoghghpmjaaGreatDoorM8
import Derived.Deep.RegionLaw
import Derived.Test.YtoehdoghghpmjaaGreatDoorM6
import Derived.Test.YtoehdoghghpmjaaGreatDoorM7
import Derived.Laws.AppendOwn
/- mill.New, Light, the tape's Next, More, Range. -/
namespace Go.Proofs.YtoehdoghghpmjaaGreatDoor
namespace Big
open Go.RowKit
set_option maxRecDepth 100000 in
theorem more_any (B g : Nat) (w : World) (L : Value) (l : List Int) (a : Nat) (h : TapeAt B g w L l a) : Calls Tryz.prog 66 #[.pointer (some ⟨g, 0, none⟩)] w fun e w' => e = .returned (.bool (decide (a < l.length))) ∧ Dr w w' := by
  obtain ⟨k0, k1, _, _, _⟩ := h.blk.two
  obtain ⟨A, c, rfl, hc, hm, _⟩ := h.arr.open
  have hx : decide ((a : Int) < (l.length : Int)) = decide (a < l.length) := by simp
  have HX := Lib.hid hx
  clear h hc hm hx
  go_enter Tryz.func66, Tryz.ntmps66
  go_wp2_with fail
  go_quiet (fail)
  go_wp2_with fail
  go_ret
  exact ⟨by rw [← HX.out]; rfl, (Dr.refl w).drewN _⟩
set_option maxRecDepth 100000 in
theorem next_any (B g : Nat) (w : World) (L : Value) (l : List Int) (a : Nat) (n : Int) (h : TapeAt B g w L l a) (hn : 1 ≤ n) (hn2 : n ≤ 4611686018427387904) : Calls Tryz.prog 23 #[.pointer (some ⟨g, 0, none⟩), .int .i64 n] w fun e w' => e = .returned (.int .i64 (nextV l a n)) ∧ TapeAt B g w' L l (nextA l a) ∧ (∀ B', KB B' g w w') := by
  have H := Lib.hid h
  obtain ⟨k0, k1, f0, f1, hg⟩ := h.blk.two
  have hpos := h.pos
  have hfew := h.few
  obtain ⟨A, c, rfl, hc, hm, hcell⟩ := h.arr.open
  have hok := h.arr.1
  have HC := Lib.hid hcell
  have HOK := Lib.hid hok
  clear h hc hm hok hcell
  rcases Nat.lt_or_ge a l.length with hlt | hge
  · have hV : nextV l a n = l[a] % n := by unfold nextV; rw [if_pos hlt, List.getD_eq_getElem?_getD, List.getElem?_eq_getElem hlt]; rfl
    have hA : nextA l a = a + 1 := if_pos hlt
    have hb := HOK.out l[a] (List.getElem_mem hlt)
    obtain ⟨b, o, rfl, hbl, hcell⟩ := HC.out (by omega)
    have hoff := H.out.off (by omega) b rfl
    have hst := hcell a hlt
    have HST : Hid (∀ W : World, KB B g w W → W.cell? ⟨b, o + a, none⟩ = some (.int .i64 l[a])) := Lib.hid (fun W hk => (World.cell?_of_block (a := ⟨b, o + a, none⟩) (hk.block b hoff.1 hoff.2)).trans hst)
    have HV := Lib.hid hV
    have HA := Lib.hid hA
    have HMOD := Lib.hid (fun W => mod_any W l[a] n hb.1 hb.2 hn hn2)
    have hw1 : IntKind.i64.wrap ((a : Int) + 1) = (a : Int) + 1 := IntWalk.i64_in _ (by omega)
    have hw2 : IntKind.i64.wrap (a : Int) = (a : Int) := IntWalk.i64_in _ (by omega)
    have hbs := H.out.blk.set_ 1 (.int .i64 ((a : Int) + 1))
    have HBS : Hid (Blk (w.setCell ⟨g, 1, none⟩ (.int .i64 ((a : Int) + 1))) g 44 #[.slice (some ⟨b, o, none⟩) l.length c, .int .i64 ((a : Int) + 1)]) := Lib.hid hbs
    clear hV hA hcell hst hb hoff hbs
    generalize l[a] = x at *
    go_enter Tryz.func23, Tryz.ntmps23
    go_wp2_with fail
    go_quiet (fail)
    go_wp2_with fail
    obtain ⟨W, hW⟩ : ∃ W, W = (w.drewN nq).setCell ⟨g, 1, none⟩ (.int .i64 ((a : Int) + 1)) := ⟨_, rfl⟩
    rw [← hW]
    have HK : Hid (∀ B', KB B' g w W) := Lib.hid (fun B' => by rw [hW]; exact ((KB.refl B' g w).drewN nq).trans (KB.set (p := ⟨g, 1, none⟩) rfl _))
    have hbW : Blk W g 44 #[.slice (some ⟨b, o, none⟩) l.length c, .int .i64 ((a : Int) + 1)] := by
      rw [hW]
      exact (H.out.blk.drewN nq).set_ 1 (.int .i64 ((a : Int) + 1))
    have HBW := Lib.hid hbW
    obtain ⟨m0, m1, _, _, hgW⟩ := hbW.two
    have hst := HST.out W (HK.out B)
    clear hW hbW k0 k1 f0 f1 hg HBS
    have hlt2 : (a : Int) < (l.length : Int) := by omega
    go_region_law (go_simp; go_at_call 11; refine (HMOD.out _).mono ?_; rintro e w3 ⟨rfl, rfl⟩)
    all_goals
      go_wp2_with fail
      go_ret
      refine ⟨by rw [HV.out]; rfl, ?_, fun B' => (HK.out B').drewN _⟩
      rw [HA.out]
      refine H.out.kb ((HK.out B).drewN _) ?_ (by omega)
      rw [Int.natCast_add]
      exact HBW.out
  · have hV : nextV l a n = 0 := if_neg (by omega)
    have hA : nextA l a = a := if_neg (by omega)
    have HV := Lib.hid hV
    have HA := Lib.hid hA
    have hnl : ¬ (a : Int) < (l.length : Int) := by omega
    clear hV hA hn hn2
    go_enter Tryz.func23, Tryz.ntmps23
    go_wp2_with fail
    go_quiet (fail)
    go_wp2_with fail
    go_ret
    refine ⟨by rw [HV.out]; rfl, ?_, fun B' => (KB.refl B' g w).drewN _⟩
    rw [HA.out]
    exact H.out.kb ((KB.refl B g w).drewN _) H.out.blk H.out.pos
set_option maxRecDepth 100000 in
theorem range_any (B g : Nat) (w : World) (L : Value) (l : List Int) (a : Nat) (lo hi : Int) (h : TapeAt B g w L l a) (h1 : lo ≤ hi) (h2 : -1000000 ≤ lo) (h3 : hi ≤ 1000000) : Calls Tryz.prog 25 #[.pointer (some ⟨g, 0, none⟩), .int .i64 lo, .int .i64 hi] w fun e w' => e = .returned (.int .i64 (lo + nextV l a (hi - lo + 1))) ∧ TapeAt B g w' L l (nextA l a) ∧ (∀ B', KB B' g w w') := by
  have HN := Lib.hid (next_any B g w L l a (hi - lo + 1) h (by omega) (by omega))
  have hr := nextV_range (l := l) (a := a) (n := hi - lo + 1) (by omega)
  have hw0 : IntKind.i64.wrap (hi - lo) = hi - lo := IntWalk.i64_in _ (by omega)
  have hw1 : IntKind.i64.wrap (hi - lo + 1) = hi - lo + 1 := IntWalk.i64_in _ (by omega)
  generalize nextV l a (hi - lo + 1) = x at *
  have hw2 : IntKind.i64.wrap (lo + x) = lo + x := IntWalk.i64_in _ (by omega)
  clear h
  go_enter Tryz.func25, Tryz.ntmps25
  go_wp2_with fail
  refine HN.out.mono ?_
  rintro e w2 ⟨rfl, ht, hk⟩
  have HTT := Lib.hid ht
  have HK := Lib.hid hk
  clear ht hk
  go_wp2_with fail
  go_ret
  exact ⟨rfl, HTT.out, HK.out⟩
/-- mill.New. -/
theorem new_any (w : World) (v : Value) (l : List Int) (h : ArrI w v l) (hn : l.length ≤ 1000000) : Calls Tryz.prog 8 #[v] w fun e w' => e = .returned (.pointer (some ⟨w.heap.size, 0, none⟩)) ∧ TapeAt (w.heap.size + 1) w.heap.size w' v l 0 ∧ Ext w w' ∧ w'.heap.size = w.heap.size + 1 := by
  have H := Lib.hid h
  obtain ⟨A, c, rfl, _⟩ := h.open
  clear h
  go_enter Tryz.func8, Tryz.ntmps8
  go_wp2_with fail
  go_ret
  refine ⟨rfl, ⟨Blk.new w _ _, H.out.ext ((Ext.refl w).alloc _), fun h0 b hb => ?_, by omega, Nat.zero_le _, hn⟩, (Ext.refl w).alloc _, by simp⟩
  have := H.out.lt h0 b hb
  omega
theorem light_any (w : World) (v : Value) (l : List Int) (h : ArrI w v l) : Calls Tryz.prog 7 #[v] w fun e w' => e = .returned (.bool (decide (l.length ≤ 120))) ∧ w = w' := by
  obtain ⟨A, c, rfl, _⟩ := h.open
  have hx : decide ((l.length : Int) ≤ 120) = decide (l.length ≤ 120) := by
    rw [decide_eq_decide]
    omega
  have HX := Lib.hid hx
  clear h hx
  go_enter Tryz.func7, Tryz.ntmps7
  go_wp2_with fail
  go_ret
  exact ⟨by rw [← HX.out]; rfl, rfl⟩
end Big
end Go.Proofs.YtoehdoghghpmjaaGreatDoor
/- Expressions: plain. A tree, the list of its nodes with the operands first, the tree's text. -/
namespace Go.Proofs.YtoehdoghghpmjaaGreatDoor
namespace Big
inductive Ex where
  | leaf (k : Nat) (t : List UInt8)
  | un (k : Nat) (n : Int) (x : Ex)
  | bin (k : Nat) (x y : Ex)
structure Nd where
  kind : Int
  a : Int
  b : Int
  n : Int
  text : List UInt8
def Ex.kind : Ex → Nat
  | .leaf k _ => k
  | .un k _ _ => k
  | .bin k _ _ => k
def Ex.size : Ex → Nat
  | .leaf _ _ => 1
  | .un _ _ x => x.size + 1
  | .bin _ x y => x.size + y.size + 1
def Ex.depth : Ex → Nat
  | .leaf _ _ => 1
  | .un _ _ x => x.depth + 1
  | .bin _ x y => max x.depth y.depth + 1
theorem Ex.size_pos (e : Ex) : 1 ≤ e.size := by cases e <;> simp [Ex.size]
theorem Ex.depth_pos (e : Ex) : 1 ≤ e.depth := by cases e <;> simp [Ex.depth]
/-- The nodes of a tree, behind off others. -/
def flat : Nat → Ex → List Nd
  | _, .leaf k t => [⟨(k : Int), 0, 0, 0, t⟩]
  | off, .un k n x => flat off x ++ [⟨(k : Int), ((off + x.size - 1 : Nat) : Int), 0, n, []⟩]
  | off, .bin k x y => flat off x ++ (flat (off + x.size) y ++ [⟨(k : Int), ((off + x.size - 1 : Nat) : Int), ((off + x.size + y.size - 1 : Nat) : Int), 0, []⟩])
theorem flat_len (e : Ex) : ∀ off, (flat off e).length = e.size := by
  induction e with
  | leaf k t => intro off; rfl
  | un k n x ih => intro off; rw [flat, List.length_append, ih]; rfl
  | bin k x y ihx ihy => intro off; rw [flat, List.length_append, List.length_append, ihx, ihy, List.length_singleton, Ex.size]; omega
/-- A name: a word that is not reserved. -/
def nameB (t : List UInt8) : Bool := wordB t && !([[112, 105], [101], [115, 113, 114, 116], [101, 120, 112], [108, 110], [115, 105, 110], [99, 111, 115], [97, 116, 97, 110]] : List (List UInt8)).contains t
/-- Is the tree one that the grammar has? -/
def Ex.Good : Ex → Prop
  | .leaf k t => (k = 1 ∧ code7 t = 0 ∧ t.length ≤ 400) ∨ (k = 2 ∧ nameB t = true) ∨ ((k = 3 ∨ k = 4) ∧ t = [])
  | .un k n x => (k = 5 ∨ (10 ≤ k ∧ k ≤ 16)) ∧ (k ≠ 10 → n = 0) ∧ -64 ≤ n ∧ n ≤ 64 ∧ x.Good
  | .bin k x y => (6 ≤ k ∧ k ≤ 9) ∧ x.Good ∧ y.Good
/-- The level of a node's kind. -/
def levelK (k : Nat) : Nat := if k = 6 ∨ k = 7 then 1 else if k = 8 ∨ k = 9 then 2 else if k = 5 then 3 else if k = 10 then 4 else 5
def signT (k : Nat) : List UInt8 := if k = 6 then [32, 43, 32] else if k = 7 then [32, 45, 32] else if k = 8 then [32, 42, 32] else [32, 47, 32]
def funcT (k : Nat) : List UInt8 :=
  if k = 11 then [115, 113, 114, 116] else if k = 12 then [101, 120, 112] else if k = 13 then [108, 110] else if k = 14 then [115, 105, 110] else if k = 15 then [99, 111, 115] else [97, 116, 97, 110]
def parenT (b : Bool) (s : List UInt8) : List UInt8 := if b then 40 :: (s ++ [41]) else s
/-- The text of a tree. fmt: the texts of integers. -/
def nodeT (fmt : Int → List UInt8) : Ex → List UInt8
  | .leaf k t => if k = 3 then [112, 105] else if k = 4 then [101] else t
  | .un k n x => if k = 5 then 45 :: parenT (decide (levelK x.kind < 3)) (nodeT fmt x)
      else if k = 10 then parenT (decide (levelK x.kind < 5)) (nodeT fmt x) ++ (94 :: fmt n)
      else funcT k ++ (40 :: (nodeT fmt x ++ [41]))
  | .bin k x y => parenT (decide (levelK x.kind < levelK k)) (nodeT fmt x) ++ (signT k ++ parenT (decide (levelK y.kind < levelK k + 1)) (nodeT fmt y))
theorem parenT_len (b : Bool) (s : List UInt8) : (parenT b s).length ≤ s.length + 2 := by
  unfold parenT; split <;> simp
theorem funcT_len (k : Nat) : (funcT k).length ≤ 4 := by
  unfold funcT
  (repeat' split) <;> decide
theorem signT_len (k : Nat) : (signT k).length = 3 := by
  unfold signT
  (repeat' split) <;> rfl
theorem wordB_le {t : List UInt8} (h : wordB t = true) : t.length ≤ 24 := by
  unfold wordB at h
  simp only [Bool.and_eq_true, decide_eq_true_eq] at h
  exact h.1.1.2
theorem nodeT_len (fmt : Int → List UInt8) (hf : ∀ n : Int, -64 ≤ n → n ≤ 64 → (fmt n).length ≤ 100) (e : Ex) (h : e.Good) : (nodeT fmt e).length ≤ 410 * e.size := by
  induction e with
  | leaf k t =>
    unfold nodeT Ex.size
    split
    · simp
    · split
      · simp
      · rcases h with ⟨_, _, h⟩ | ⟨_, h⟩ | ⟨_, rfl⟩
        · omega
        · have := wordB_le (Bool.and_eq_true_iff.1 h).1; omega
        · simp
  | un k n x ih =>
    obtain ⟨_, _, h3, h4, hx⟩ := h
    have h5 := ih hx
    unfold nodeT
    rw [Ex.size, Nat.mul_add]
    split
    · have := parenT_len (decide (levelK x.kind < 3)) (nodeT fmt x)
      rw [List.length_cons]
      omega
    · split
      · have := parenT_len (decide (levelK x.kind < 5)) (nodeT fmt x)
        have := hf n h3 h4
        rw [List.length_append, List.length_cons]
        omega
      · have := funcT_len k
        rw [List.length_append, List.length_cons, List.length_append, List.length_singleton]
        omega
  | bin k x y ihx ihy =>
    obtain ⟨_, hx, hy⟩ := h
    have h5 := ihx hx
    have h6 := ihy hy
    have h7 := parenT_len (decide (levelK x.kind < levelK k)) (nodeT fmt x)
    have h8 := parenT_len (decide (levelK y.kind < levelK k + 1)) (nodeT fmt y)
    unfold nodeT
    rw [Ex.size, Nat.mul_add, Nat.mul_add, List.length_append, List.length_append, signT_len]
    omega
/-- The operand that ends at i in the list l is the tree e. -/
def AtEx (l : List Nd) (i : Nat) (e : Ex) : Prop := ∃ pre post, l = pre ++ (flat pre.length e ++ post) ∧ i + 1 = pre.length + e.size
theorem AtEx.lt {l : List Nd} {i : Nat} {e : Ex} (h : AtEx l i e) : i < l.length ∧ e.size ≤ i + 1 := by
  obtain ⟨pre, post, rfl, h⟩ := h
  have := flat_len e pre.length
  rw [List.length_append, List.length_append]
  omega
theorem get_last {α : Type} {pre mid post : List α} {x : α} {i : Nat} (h : i = pre.length + mid.length) : (pre ++ ((mid ++ [x]) ++ post))[i]? = some x := by
  subst h
  rw [List.getElem?_append_right (by omega), Nat.add_sub_cancel_left, List.getElem?_append_left (by simp), List.getElem?_append_right (Nat.le_refl _), Nat.sub_self]
  rfl
theorem AtEx.leaf {l : List Nd} {i k : Nat} {t : List UInt8} (h : AtEx l i (.leaf k t)) : l[i]? = some ⟨(k : Int), 0, 0, 0, t⟩ := by
  obtain ⟨pre, post, rfl, h⟩ := h
  simp only [Ex.size] at h
  exact get_last (mid := []) (by simp; omega)
theorem AtEx.un {l : List Nd} {i k : Nat} {n : Int} {x : Ex} (h : AtEx l i (.un k n x)) : 1 ≤ i ∧ l[i]? = some ⟨(k : Int), ((i - 1 : Nat) : Int), 0, n, []⟩ ∧ AtEx l (i - 1) x := by
  obtain ⟨pre, post, rfl, h⟩ := h
  simp only [Ex.size] at h
  have hx := x.size_pos
  have hl := flat_len x pre.length
  refine ⟨by omega, ?_, ⟨pre, [⟨(k : Int), ((pre.length + x.size - 1 : Nat) : Int), 0, n, []⟩] ++ post, ?_, by omega⟩⟩
  · rw [show i - 1 = pre.length + x.size - 1 by omega]
    exact get_last (mid := flat pre.length x) (by omega)
  · rw [flat, List.append_assoc]
theorem AtEx.bin {l : List Nd} {i k : Nat} {x y : Ex} (h : AtEx l i (.bin k x y)) : ∃ j, j + 1 + y.size = i ∧ l[i]? = some ⟨(k : Int), (j : Int), ((i - 1 : Nat) : Int), 0, []⟩ ∧ AtEx l j x ∧ AtEx l (i - 1) y := by
  obtain ⟨pre, post, rfl, h⟩ := h
  simp only [Ex.size] at h
  have hx := x.size_pos
  have hy := y.size_pos
  have hl := flat_len x pre.length
  have hl2 := flat_len y (pre.length + x.size)
  refine ⟨pre.length + x.size - 1, by omega, ?_, ⟨pre, flat (pre.length + x.size) y ++ ([⟨(k : Int), ((pre.length + x.size - 1 : Nat) : Int), ((pre.length + x.size + y.size - 1 : Nat) : Int), 0, []⟩] ++ post), ?_, by omega⟩, ⟨pre ++ flat pre.length x, [⟨(k : Int), ((pre.length + x.size - 1 : Nat) : Int), ((pre.length + x.size + y.size - 1 : Nat) : Int), 0, []⟩] ++ post, ?_, ?_⟩⟩
  · rw [flat, ← List.append_assoc (flat pre.length x), show i - 1 = pre.length + x.size + y.size - 1 by omega]
    exact get_last (mid := flat pre.length x ++ flat (pre.length + x.size) y) (by rw [List.length_append]; omega)
  · rw [flat]; simp only [List.append_assoc]
  · rw [flat, List.length_append, hl]; simp only [List.append_assoc]
  · rw [List.length_append, hl]; omega
end Big
end Go.Proofs.YtoehdoghghpmjaaGreatDoor
/- The scanner's add. -/
namespace Go.Proofs.YtoehdoghghpmjaaGreatDoor
namespace Big
open Go.RowKit
def tokC (t : Tok) : List Value := [.int .i64 (t.kind : Int), .int .i64 (t.at_ : Int), str t.text]
def toksC (ts : List Tok) : List Value := ts.flatMap tokC
theorem toksC_length (ts : List Tok) : (toksC ts).length = ts.length * 3 := by
  induction ts with
  | nil => rfl
  | cons t ts ih =>
    unfold toksC at *
    rw [List.flatMap_cons, List.length_append, ih, List.length_cons]
    simp [tokC]
    omega
theorem toksC_snoc (ts : List Tok) (t : Tok) : toksC (ts ++ [t]) = toksC ts ++ tokC t := by simp [toksC]
theorem step_append_own {P : Program} {ops : Array Oper} {o : Oper} {a : Act} {w : World} {K : Act → World → Prop} {Q : Exit → Act → World → Prop} {E : Prop}
    (hg : o.guard = none) (s x : Operand) (t : TypeId) (hop : o.op = Op.call { callee := Callee.builtin Builtin.append, args := #[s, x], argTypes := #[t, t] })
    (base : Nat) (e : TypeId) (i : TypeInfo) (z : Value) (size bytes : Nat) (h1 : P.underlying t = some (.slice e)) (h2 : P.info? e = some i) (h3 : i.zero = some z) (h4 : i.size = size) (h5 : i.bytes = bytes) (h6 : z.cells.size = size) (h7 : 0 < size)
    (v : Value) (n : Nat) (xs : List Value) (hs : a.eval s = v) (hown : w.ownsRow base e size v n xs)
    (ad : Addr) (m c : Nat) (news : List Value) (hx : a.eval x = .slice (some ad) m c) (hn : news.length = m * size) (hc : ∀ j u, news[j]? = some u → w.cell? (ad.add j) = some u) (h1c : ∀ u ∈ news, u.oneCell' = true)
    (b1 : n + m ≤ maxLen) (b2 : (n + m) * bytes ≤ 140737488355328) (b3 : base ≤ w.heap.size)
    (hK : ∀ v' w', w'.ownsRow base e size v' (n + m) (xs ++ news) → w.grownBy w' v.ownBlock → K (a.put o.dst v') w') :
    if Region.wanted o (yielded ops a.tmps) = true then Oper.wp P o a w K Q else E := by
  have hw : Region.wanted o (yielded ops a.tmps) = true := by simp [Region.wanted, hg]
  rw [if_pos hw]
  obtain ⟨v', w', hrun, r1, r2, _⟩ := run_append_own (P := P) w base t o.type e i z size bytes h1 h2 h3 h4 h5 h6 h7 v n xs hown ad m c news hn hc h1c b1 b2 b3
  unfold Oper.wp
  simp [execOp, hop, resolve, invoke, builtin, hs, hx, hrun, Result.andThen]
  exact hK v' w' r1 r2
theorem ownsRow_below {w w' : World} {base : Nat} {e : TypeId} {size n : Nat} {v : Value} {xs : List Value} (h : w.ownsRow base e size v n xs) (hb : ∀ g, base ≤ g → g < w.heap.size → w'.heap[g]? = w.heap[g]?) : w'.ownsRow base e size v n xs := by
  obtain ⟨h1, h2⟩ := h
  refine ⟨h1, ?_⟩
  rcases h2 with h2 | ⟨g, cap, cur, rfl, hg, hh, r1, r2, r3, r4⟩
  · exact .inl h2
  · refine .inr ⟨g, cap, cur, rfl, hg, ?_, r1, r2, r3, r4⟩
    have hlt : g < w.heap.size := by
      rcases Nat.lt_or_ge g w.heap.size with h | h
      · exact h
      · rw [Array.getElem?_eq_none h] at hh; cases hh
    rw [hb g hg hlt, hh]
theorem ownsRow_block {w : World} {base : Nat} {e : TypeId} {size n : Nat} {v : Value} {xs : List Value} (h : w.ownsRow base e size v n xs) : ∀ k, v.ownBlock = some k → base ≤ k := by
  obtain ⟨h1, h2⟩ := h
  rcases h2 with ⟨rfl, _⟩ | ⟨g, cap, cur, rfl, hg, _⟩
  · intro k hk; simp [Value.ownBlock] at hk
  · intro k hk
    simp only [Value.ownBlock, Option.some.injEq] at hk
    omega
theorem ownsRow_shape {w : World} {base : Nat} {e : TypeId} {size n : Nat} {v : Value} {xs : List Value} (h : w.ownsRow base e size v n xs) : ∃ A c, v = .slice A n c := by
  obtain ⟨h1, h2⟩ := h
  rcases h2 with ⟨rfl, rfl⟩ | ⟨g, cap, cur, rfl, _⟩
  · exact ⟨_, _, rfl⟩
  · exact ⟨_, _, rfl⟩

end Big
end Go.Proofs.YtoehdoghghpmjaaGreatDoor
/- Words for lists of nodes. -/
namespace Go.Proofs.YtoehdoghghpmjaaGreatDoor
namespace Big
open Go.RowKit
def ndC (x : Nd) : List Value := [.int .i64 x.kind, .int .i64 x.a, .int .i64 x.b, .int .i64 x.n, str x.text]
def ndsC (l : List Nd) : List Value := l.flatMap ndC
theorem ndsC_length (l : List Nd) : (ndsC l).length = l.length * 5 := by
  induction l with
  | nil => rfl
  | cons t ts ih =>
    unfold ndsC at *
    rw [List.flatMap_cons, List.length_append, ih, List.length_cons]
    simp [ndC]
    omega
theorem ndsC_append (l m : List Nd) : ndsC (l ++ m) = ndsC l ++ ndsC m := by simp [ndsC]
theorem ndsC_one (x : Nd) : ndsC [x] = ndC x := by simp [ndsC]
theorem ndsC_get (ts : List Nd) (i j : Nat) (hi : i < ts.length) (hj : j < 5) : (ndsC ts)[i * 5 + j]? = (ndC ts[i])[j]? := by
  induction ts generalizing i with
  | nil => simp at hi
  | cons t ts ih =>
    have hl : (ndC t).length = 5 := rfl
    unfold ndsC at *
    rw [List.flatMap_cons]
    cases i with
    | zero =>
      rw [Nat.zero_mul, Nat.zero_add, List.getElem?_append_left (by omega)]
      rfl
    | succ i =>
      rw [List.getElem?_append_right (by omega), hl, show (i + 1) * 5 + j - 5 = i * 5 + j by omega, ih i (by simpa using hi)]
      rfl
/-- The five cells of a node. -/
def NdAt (w : World) (b o : Nat) (x : Nd) : Prop :=
  w.cell? ⟨b, o, none⟩ = some (.int .i64 x.kind) ∧ w.cell? ⟨b, o + 1, none⟩ = some (.int .i64 x.a) ∧ w.cell? ⟨b, o + 2, none⟩ = some (.int .i64 x.b) ∧ w.cell? ⟨b, o + 3, none⟩ = some (.int .i64 x.n) ∧ w.cell? ⟨b, o + 4, none⟩ = some (str x.text)
/-- v reads as the list l of nodes. -/
def RNd (w : World) (v : Value) (l : List Nd) : Prop :=
  ∃ A c, v = .slice A l.length c ∧ (0 < l.length → ∃ b o, A = some ⟨b, o, none⟩ ∧ b < w.heap.size ∧ ∀ i (hi : i < l.length), NdAt w b (o + i * 5) l[i])
theorem NdAt.ext {w w' : World} {b o : Nat} {x : Nd} (h : NdAt w b o x) (hx : Ext w w') (hb : b < w.heap.size) : NdAt w' b o x := by
  obtain ⟨h0, h1, h2, h3, h4⟩ := h
  exact ⟨(hx.cell hb).trans h0, (hx.cell hb).trans h1, (hx.cell hb).trans h2, (hx.cell hb).trans h3, (hx.cell hb).trans h4⟩
theorem RNd.ext {w w' : World} {v : Value} {l : List Nd} (h : RNd w v l) (hx : Ext w w') : RNd w' v l := by
  obtain ⟨A, c, rfl, h2⟩ := h
  refine ⟨A, c, rfl, fun hp => ?_⟩
  obtain ⟨b, o, rfl, hb, hc⟩ := h2 hp
  exact ⟨b, o, rfl, Nat.lt_of_lt_of_le hb hx.size, fun i hi => (hc i hi).ext hx hb⟩
/-- v is a row of nodes of one's own. -/
def OwnNd (B : Nat) (w : World) (v : Value) (l : List Nd) : Prop := w.ownsRow B 101 5 v l.length (ndsC l)
theorem OwnNd.nil (B : Nat) (w : World) : OwnNd B w (.slice none 0 0) [] := World.ownsRow_nil w B _ 5
theorem OwnNd.read {B : Nat} {w : World} {v : Value} {l : List Nd} (h : OwnNd B w v l) : RNd w v l := by
  unfold OwnNd at h
  rcases h.2 with ⟨h1, h2⟩ | ⟨g, cap, cur, rfl, hg, hh, _⟩
  · exact ⟨none, 0, by rw [h1, h2], fun h3 => by omega⟩
  · refine ⟨_, _, rfl, fun _ => ⟨g, 0, rfl, ?_, fun i hi => ?_⟩⟩
    · rcases Nat.lt_or_ge g w.heap.size with h | h
      · exact h
      · rw [Array.getElem?_eq_none h] at hh; cases hh
    · have hk : ∀ j, j < 5 → w.cell? ⟨g, 0 + i * 5 + j, none⟩ = (ndC l[i])[j]? := fun j hj => by
        rw [Nat.zero_add, h.cellAt (i * 5 + j) (by omega), ndsC_get l i j hi hj]
      exact ⟨hk 0 (by omega), hk 1 (by omega), hk 2 (by omega), hk 3 (by omega), hk 4 (by omega)⟩
theorem OwnNd.shape {B : Nat} {w : World} {v : Value} {l : List Nd} (h : OwnNd B w v l) : ∃ A c, v = .slice A l.length c := ownsRow_shape h
theorem OwnNd.mono {B B' : Nat} {w : World} {v : Value} {l : List Nd} (h : OwnNd B w v l) (hB : B' ≤ B) : OwnNd B' w v l := by
  obtain ⟨h1, h2⟩ := h
  exact ⟨h1, h2.imp id (fun ⟨g, cap, cur, q1, q2, q3⟩ => ⟨g, cap, cur, q1, by omega, q3⟩)⟩
/-- The row is kept where what lies from B on is kept, but for blocks that are not its own. -/
theorem OwnNd.kept {B : Nat} {w w' : World} {v : Value} {l : List Nd} (h : OwnNd B w v l) (hk : ∀ k, B ≤ k → k < w.heap.size → w'.heap[k]? = w.heap[k]?) : OwnNd B w' v l := ownsRow_below h hk
theorem info_node : (Tryz.prog.info? 101).map (fun i => (i.zero, i.size, i.bytes)) = some (some (.agg #[.int .i64 0, .int .i64 0, .int .i64 0, .int .i64 0, .string ⟨#[]⟩]), 5, 48) := by kernel_rfl
end Big
end Go.Proofs.YtoehdoghghpmjaaGreatDoor
