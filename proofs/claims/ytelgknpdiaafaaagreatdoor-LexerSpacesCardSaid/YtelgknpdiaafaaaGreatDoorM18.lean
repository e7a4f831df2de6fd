import Derived.Test.YtelgknpdiaafaaaGreatDoorM4
import Derived.Test.YtelgknpdiaafaaaGreatDoorM6
import Derived.Test.YtelgknpdiaafaaaGreatDoorM14
import Derived.Test.YtelgknpdiaafaaaGreatDoorM7
import Derived.Deep.RegionLaw
import Derived.Test.YtelgknpdiaafaaaGreatDoorM17
import Derived.Test.YtelgknpdiaafaaaGreatDoorM9
import Derived.Test.YtelgknpdiaafaaaGreatDoorM13
/- Words for lists of integers; what is as it was but for one block; a tape. -/
namespace Go.Proofs.YtelgknpdiaafaaaGreatDoor
namespace Big
open Go.RowKit
def di (x : Int) : Value := .int .i64 x
def IntsOk (l : List Int) : Prop := ∀ x ∈ l, -9223372036854775808 ≤ x ∧ x ≤ 9223372036854775807
/-- v reads as the list l of integers. -/
def ArrI (w : World) (v : Value) (l : List Int) : Prop := IntsOk l ∧ RArr w v (l.map di)
/-- Below B, but for block g, all is as it was. -/
structure KB (B g : Nat) (w w' : World) : Prop where
  os : w'.os = w.os
  tape : w'.tape = w.tape
  output : w'.output = w.output
  size : w.heap.size ≤ w'.heap.size
  block : ∀ k, k < B → k ≠ g → w'.heap[k]? = w.heap[k]?
section
variable {w w' w'' : World} {B B' g : Nat} {v : Value} {l : List Int}
theorem KB.refl (B g : Nat) (w : World) : KB B g w w := ⟨rfl, rfl, rfl, Nat.le_refl _, fun _ _ _ => rfl⟩
theorem KB.trans (h : KB B g w w') (k : KB B g w' w'') : KB B g w w'' :=
  ⟨k.os.trans h.os, k.tape.trans h.tape, k.output.trans h.output, Nat.le_trans h.size k.size, fun i h1 h2 => (k.block i h1 h2).trans (h.block i h1 h2)⟩
theorem KB.mono (h : KB B g w w') (hB : B' ≤ B) : KB B' g w w' := ⟨h.os, h.tape, h.output, h.size, fun k h1 h2 => h.block k (by omega) h2⟩
theorem KB.below (h : KB B g w w') (k : Below B w' w'') : KB B g w w'' := h.trans ⟨k.os, k.tape, k.output, k.size, fun i h1 _ => k.block i h1⟩
theorem KB.ext (h : KB B g w w') (k : Ext w' w'') (hB : B ≤ w'.heap.size) : KB B g w w'' := h.below (Below.mono k hB)
theorem KB.to_ext {w0 : World} (h : KB B g w w') (k : Ext w0 w) (hB : w0.heap.size ≤ B) (hg : w0.heap.size ≤ g) : Ext w0 w' :=
  ⟨h.os.trans k.os, h.tape.trans k.tape, h.output.trans k.output, Nat.le_trans k.size h.size, fun i hi => (h.block i (by omega) (by omega)).trans (k.block i hi)⟩
theorem KB.blk {t : TypeId} {cs : Array Value} {b : Nat} (h : KB B g w w') (hb : Blk w b t cs) (h1 : b < B) (h2 : b ≠ g) : Blk w' b t cs := (h.block b h1 h2).trans hb
theorem KB.set {p : Addr} (hp : p.block = g) (u : Value) : KB B g w (w.setCell p u) :=
  ⟨rfl, rfl, rfl, by simp [World.setCell], fun k _ h2 => Below.heap_setCell w p u k (by rw [hp]; exact h2)⟩
theorem KB.drewN (h : KB B g w w') (n : Nat) : KB B g w (w'.drewN n) := ⟨h.os, h.tape, h.output, h.size, h.block⟩
theorem RArr.kb {vs : List Value} (h : RArr w v vs) (hk : KB B g w w') (hv : ∀ b, v.ownBlock = some b → b < B ∧ b ≠ g) : RArr w' v vs := by
  obtain ⟨A, c, rfl, h2, h3, h4⟩ := h
  refine ⟨A, c, rfl, h2, h3, fun hp => ?_⟩
  obtain ⟨b, o, rfl, hlt, hc⟩ := h4 hp
  obtain ⟨h5, h6⟩ := hv b rfl
  refine ⟨b, o, rfl, Nat.lt_of_lt_of_le hlt hk.size, fun j u hj => ?_⟩
  have h7 := hc j u hj
  rw [← h7]
  exact World.cell?_of_block (a := ⟨b, o + j, none⟩) (hk.block b h5 h6)
theorem ArrI.ext (h : ArrI w v l) (hb : Ext w w') : ArrI w' v l := ⟨h.1, h.2.ext hb⟩
theorem ArrI.kb (h : ArrI w v l) (hk : KB B g w w') (hv : ∀ b, v.ownBlock = some b → b < B ∧ b ≠ g) : ArrI w' v l := ⟨h.1, h.2.kb hk hv⟩
theorem ArrI.open (h : ArrI w v l) : ∃ A c, v = .slice A l.length c ∧ l.length ≤ c ∧ c ≤ maxLen ∧
    (0 < l.length → ∃ b o, A = some ⟨b, o, none⟩ ∧ b < w.heap.size ∧ ∀ j (hj : j < l.length), w.cell? ⟨b, o + j, none⟩ = some (.int .i64 l[j])) := by
  obtain ⟨A, c, rfl, h2, h3, h4⟩ := h.2
  rw [List.length_map] at h2 h4
  refine ⟨A, c, by rw [List.length_map], h2, h3, fun hp => ?_⟩
  obtain ⟨b, o, rfl, hlt, hc⟩ := h4 hp
  exact ⟨b, o, rfl, hlt, fun j hj => hc j _ (by rw [List.getElem?_map, List.getElem?_eq_getElem hj]; rfl)⟩
theorem ArrI.lt (h : ArrI w v l) (hp : 0 < l.length) : ∀ b, v.ownBlock = some b → b < w.heap.size := by
  intro b hb
  obtain ⟨A, c, rfl, _, _, h4⟩ := h.open
  obtain ⟨b', o, rfl, hlt, _⟩ := h4 hp
  simp only [Value.ownBlock, Option.some.injEq] at hb
  omega
end
/-- What a tape gives next, and where it then stands. -/
def nextV (l : List Int) (a : Nat) (n : Int) : Int := if a < l.length then l.getD a 0 % n else 0
def nextA (l : List Int) (a : Nat) : Nat := if a < l.length then a + 1 else a
/-- The tape at block g: its list's value and the place; all its memory but g lies below B and is not g. -/
structure TapeAt (B g : Nat) (w : World) (L : Value) (l : List Int) (a : Nat) : Prop where
  blk : Blk w g 44 #[L, .int .i64 (a : Int)]
  arr : ArrI w L l
  off : 0 < l.length → ∀ b, L.ownBlock = some b → b < B ∧ b ≠ g
  lt : g < B
  pos : a ≤ l.length
  few : l.length ≤ 1000000
theorem nextV_range {l : List Int} {a : Nat} {n : Int} (hn : 1 ≤ n) : 0 ≤ nextV l a n ∧ nextV l a n < n := by
  unfold nextV
  split
  · exact ⟨Int.emod_nonneg _ (by omega), Int.emod_lt_of_pos _ (by omega)⟩
  · exact ⟨Int.le_refl _, by omega⟩
theorem nextA_le {l : List Int} {a : Nat} (h : a ≤ l.length) : nextA l a ≤ l.length := by unfold nextA; split <;> omega
theorem ArrI.nil_kb {w w' : World} {v : Value} {l : List Int} (h : ArrI w v l) (h0 : l.length = 0) (hs : w.heap.size ≤ w'.heap.size) : ArrI w' v l := by
  refine ⟨h.1, ?_⟩
  obtain ⟨A, c, rfl, h2, h3, _⟩ := h.2
  exact ⟨A, c, rfl, h2, h3, fun hp => by rw [List.length_map] at hp; omega⟩
/-- The tape is kept where its own block and what lies below B are kept. -/
theorem TapeAt.kb {B g : Nat} {w w' : World} {L : Value} {l : List Int} {a a' : Nat} (h : TapeAt B g w L l a) (hk : KB B g w w') (hb : Blk w' g 44 #[L, .int .i64 (a' : Int)]) (ha : a' ≤ l.length) : TapeAt B g w' L l a' := by
  refine ⟨hb, ?_, h.off, h.lt, ha, h.few⟩
  rcases Nat.eq_zero_or_pos l.length with h0 | h0
  · exact h.arr.nil_kb h0 hk.size
  · exact h.arr.kb hk (h.off h0)
theorem TapeAt.below {B g : Nat} {w w' : World} {L : Value} {l : List Int} {a : Nat} (h : TapeAt B g w L l a) (hk : Below B w w') : TapeAt B g w' L l a :=
  h.kb ((KB.refl B g w).below hk) ((hk.block g h.lt).trans h.blk) h.pos
theorem TapeAt.mono {B B' g : Nat} {w : World} {L : Value} {l : List Int} {a : Nat} (h : TapeAt B g w L l a) (hB : B ≤ B') : TapeAt B' g w L l a :=
  ⟨h.blk, h.arr, fun h0 b hb => ⟨Nat.lt_of_lt_of_le (h.off h0 b hb).1 hB, (h.off h0 b hb).2⟩, Nat.lt_of_lt_of_le h.lt hB, h.pos, h.few⟩
end Big
end Go.Proofs.YtelgknpdiaafaaaGreatDoor
/- mill.New, Light, the tape's Next, More, Range. -/
namespace Go.Proofs.YtelgknpdiaafaaaGreatDoor
namespace Big
open Go.RowKit
set_option maxRecDepth 100000 in
theorem more_any (B g : Nat) (w : World) (L : Value) (l : List Int) (a : Nat) (h : TapeAt B g w L l a) : Calls Tryz.prog 31 #[.pointer (some ⟨g, 0, none⟩)] w fun e w' => e = .returned (.bool (decide (a < l.length))) ∧ Dr w w' := by
  obtain ⟨k0, k1, _, _, _⟩ := h.blk.two
  obtain ⟨A, c, rfl, hc, hm, _⟩ := h.arr.open
  have hx : decide ((a : Int) < (l.length : Int)) = decide (a < l.length) := by simp
  have HX := Lib.hid hx
  clear h hc hm hx
  go_enter Tryz.func31, Tryz.ntmps31
  go_wp2_with fail
  go_quiet (fail)
  go_wp2_with fail
  go_ret
  exact ⟨by rw [← HX.out]; rfl, (Dr.refl w).drewN _⟩
set_option maxRecDepth 100000 in
theorem next_any (B g : Nat) (w : World) (L : Value) (l : List Int) (a : Nat) (n : Int) (h : TapeAt B g w L l a) (hn : 1 ≤ n) (hn2 : n ≤ 4611686018427387904) : Calls Tryz.prog 16 #[.pointer (some ⟨g, 0, none⟩), .int .i64 n] w fun e w' => e = .returned (.int .i64 (nextV l a n)) ∧ TapeAt B g w' L l (nextA l a) ∧ (∀ B', KB B' g w w') := by
  have H := Lib.hid h
  obtain ⟨k0, k1, f0, f1, hg⟩ := h.blk.two
  have hpos := h.pos
  have hfew := h.few
  obtain ⟨A, c, rfl, hc, hm, hcell⟩ := h.arr.open
  have hok := h.arr.1
  have HC := Lib.hid hcell
  have HOK := Lib.hid hok
  clear h hc hm hok hcell
  rcases Nat.lt_or_ge a l.length with hlt | hge
  · have hV : nextV l a n = l[a] % n := by unfold nextV; rw [if_pos hlt, List.getD_eq_getElem?_getD, List.getElem?_eq_getElem hlt]; rfl
    have hA : nextA l a = a + 1 := if_pos hlt
    have hb := HOK.out l[a] (List.getElem_mem hlt)
    obtain ⟨b, o, rfl, hbl, hcell⟩ := HC.out (by omega)
    have hoff := H.out.off (by omega) b rfl
    have hst := hcell a hlt
    have HST : Hid (∀ W : World, KB B g w W → W.cell? ⟨b, o + a, none⟩ = some (.int .i64 l[a])) := Lib.hid (fun W hk => (World.cell?_of_block (a := ⟨b, o + a, none⟩) (hk.block b hoff.1 hoff.2)).trans hst)
    have HV := Lib.hid hV
    have HA := Lib.hid hA
    have HMOD := Lib.hid (fun W => mod_any W l[a] n hb.1 hb.2 hn hn2)
    have hw1 : IntKind.i64.wrap ((a : Int) + 1) = (a : Int) + 1 := IntWalk.i64_in _ (by omega)
    have hw2 : IntKind.i64.wrap (a : Int) = (a : Int) := IntWalk.i64_in _ (by omega)
    have hbs := H.out.blk.set_ 1 (.int .i64 ((a : Int) + 1))
    have HBS : Hid (Blk (w.setCell ⟨g, 1, none⟩ (.int .i64 ((a : Int) + 1))) g 44 #[.slice (some ⟨b, o, none⟩) l.length c, .int .i64 ((a : Int) + 1)]) := Lib.hid hbs
    clear hV hA hcell hst hb hoff hbs
    generalize l[a] = x at *
    go_enter Tryz.func16, Tryz.ntmps16
    go_wp2_with fail
    go_quiet (fail)
    go_wp2_with fail
    obtain ⟨W, hW⟩ : ∃ W, W = (w.drewN nq).setCell ⟨g, 1, none⟩ (.int .i64 ((a : Int) + 1)) := ⟨_, rfl⟩
    rw [← hW]
    have HK : Hid (∀ B', KB B' g w W) := Lib.hid (fun B' => by rw [hW]; exact ((KB.refl B' g w).drewN nq).trans (KB.set (p := ⟨g, 1, none⟩) rfl _))
    have hbW : Blk W g 44 #[.slice (some ⟨b, o, none⟩) l.length c, .int .i64 ((a : Int) + 1)] := by
      rw [hW]
      exact (H.out.blk.drewN nq).set_ 1 (.int .i64 ((a : Int) + 1))
    have HBW := Lib.hid hbW
    obtain ⟨m0, m1, _, _, hgW⟩ := hbW.two
    have hst := HST.out W (HK.out B)
    clear hW hbW k0 k1 f0 f1 hg HBS
    have hlt2 : (a : Int) < (l.length : Int) := by omega
    go_region_law (go_simp; go_at_call 11; refine (HMOD.out _).mono ?_; rintro e w3 ⟨rfl, rfl⟩)
    all_goals
      go_wp2_with fail
      go_ret
      refine ⟨by rw [HV.out]; rfl, ?_, fun B' => (HK.out B').drewN _⟩
      rw [HA.out]
      refine H.out.kb ((HK.out B).drewN _) ?_ (by omega)
      rw [Int.natCast_add]
      exact HBW.out
  · have hV : nextV l a n = 0 := if_neg (by omega)
    have hA : nextA l a = a := if_neg (by omega)
    have HV := Lib.hid hV
    have HA := Lib.hid hA
    have hnl : ¬ (a : Int) < (l.length : Int) := by omega
    clear hV hA hn hn2
    go_enter Tryz.func16, Tryz.ntmps16
    go_wp2_with fail
    go_quiet (fail)
    go_wp2_with fail
    go_ret
    refine ⟨by rw [HV.out]; rfl, ?_, fun B' => (KB.refl B' g w).drewN _⟩
    rw [HA.out]
    exact H.out.kb ((KB.refl B g w).drewN _) H.out.blk H.out.pos
set_option maxRecDepth 100000 in
theorem range_any (B g : Nat) (w : World) (L : Value) (l : List Int) (a : Nat) (lo hi : Int) (h : TapeAt B g w L l a) (h1 : lo ≤ hi) (h2 : -1000000 ≤ lo) (h3 : hi ≤ 1000000) : Calls Tryz.prog 34 #[.pointer (some ⟨g, 0, none⟩), .int .i64 lo, .int .i64 hi] w fun e w' => e = .returned (.int .i64 (lo + nextV l a (hi - lo + 1))) ∧ TapeAt B g w' L l (nextA l a) ∧ (∀ B', KB B' g w w') := by
  have HN := Lib.hid (next_any B g w L l a (hi - lo + 1) h (by omega) (by omega))
  have hr := nextV_range (l := l) (a := a) (n := hi - lo + 1) (by omega)
  have hw0 : IntKind.i64.wrap (hi - lo) = hi - lo := IntWalk.i64_in _ (by omega)
  have hw1 : IntKind.i64.wrap (hi - lo + 1) = hi - lo + 1 := IntWalk.i64_in _ (by omega)
  generalize nextV l a (hi - lo + 1) = x at *
  have hw2 : IntKind.i64.wrap (lo + x) = lo + x := IntWalk.i64_in _ (by omega)
  clear h
  go_enter Tryz.func34, Tryz.ntmps34
  go_wp2_with fail
  refine HN.out.mono ?_
  rintro e w2 ⟨rfl, ht, hk⟩
  have HTT := Lib.hid ht
  have HK := Lib.hid hk
  clear ht hk
  go_wp2_with fail
  go_ret
  exact ⟨rfl, HTT.out, HK.out⟩
/-- mill.New. -/
theorem new_any (w : World) (v : Value) (l : List Int) (h : ArrI w v l) (hn : l.length ≤ 1000000) : Calls Tryz.prog 8 #[v] w fun e w' => e = .returned (.pointer (some ⟨w.heap.size, 0, none⟩)) ∧ TapeAt (w.heap.size + 1) w.heap.size w' v l 0 ∧ Ext w w' ∧ w'.heap.size = w.heap.size + 1 := by
  have H := Lib.hid h
  obtain ⟨A, c, rfl, _⟩ := h.open
  clear h
  go_enter Tryz.func8, Tryz.ntmps8
  go_wp2_with fail
  go_ret
  refine ⟨rfl, ⟨Blk.new w _ _, H.out.ext ((Ext.refl w).alloc _), fun h0 b hb => ?_, by omega, Nat.zero_le _, hn⟩, (Ext.refl w).alloc _, by simp⟩
  have := H.out.lt h0 b hb
  omega
theorem light_any (w : World) (v : Value) (l : List Int) (h : ArrI w v l) : Calls Tryz.prog 7 #[v] w fun e w' => e = .returned (.bool (decide (l.length ≤ 120))) ∧ w = w' := by
  obtain ⟨A, c, rfl, _⟩ := h.open
  have hx : decide ((l.length : Int) ≤ 120) = decide (l.length ≤ 120) := by
    rw [decide_eq_decide]
    omega
  have HX := Lib.hid hx
  clear h hx
  go_enter Tryz.func7, Tryz.ntmps7
  go_wp2_with fail
  go_ret
  exact ⟨by rw [← HX.out]; rfl, rfl⟩
end Big
end Go.Proofs.YtelgknpdiaafaaaGreatDoor
/- Words for lists of nodes. -/
namespace Go.Proofs.YtelgknpdiaafaaaGreatDoor
namespace Big
open Go.RowKit
def ndC (x : Nd) : List Value := [.int .i64 x.kind, .int .i64 x.a, .int .i64 x.b, .int .i64 x.n, str x.text]
def ndsC (l : List Nd) : List Value := l.flatMap ndC
theorem ndsC_length (l : List Nd) : (ndsC l).length = l.length * 5 := by
  induction l with
  | nil => rfl
  | cons t ts ih =>
    unfold ndsC at *
    rw [List.flatMap_cons, List.length_append, ih, List.length_cons]
    simp [ndC]
    omega
theorem ndsC_append (l m : List Nd) : ndsC (l ++ m) = ndsC l ++ ndsC m := by simp [ndsC]
theorem ndsC_one (x : Nd) : ndsC [x] = ndC x := by simp [ndsC]
theorem ndsC_get (ts : List Nd) (i j : Nat) (hi : i < ts.length) (hj : j < 5) : (ndsC ts)[i * 5 + j]? = (ndC ts[i])[j]? := by
  induction ts generalizing i with
  | nil => simp at hi
  | cons t ts ih =>
    have hl : (ndC t).length = 5 := rfl
    unfold ndsC at *
    rw [List.flatMap_cons]
    cases i with
    | zero =>
      rw [Nat.zero_mul, Nat.zero_add, List.getElem?_append_left (by omega)]
      rfl
    | succ i =>
      rw [List.getElem?_append_right (by omega), hl, show (i + 1) * 5 + j - 5 = i * 5 + j by omega, ih i (by simpa using hi)]
      rfl
/-- The five cells of a node. -/
def NdAt (w : World) (b o : Nat) (x : Nd) : Prop :=
  w.cell? ⟨b, o, none⟩ = some (.int .i64 x.kind) ∧ w.cell? ⟨b, o + 1, none⟩ = some (.int .i64 x.a) ∧ w.cell? ⟨b, o + 2, none⟩ = some (.int .i64 x.b) ∧ w.cell? ⟨b, o + 3, none⟩ = some (.int .i64 x.n) ∧ w.cell? ⟨b, o + 4, none⟩ = some (str x.text)
/-- v reads as the list l of nodes. -/
def RNd (w : World) (v : Value) (l : List Nd) : Prop :=
  ∃ A c, v = .slice A l.length c ∧ (0 < l.length → ∃ b o, A = some ⟨b, o, none⟩ ∧ b < w.heap.size ∧ ∀ i (hi : i < l.length), NdAt w b (o + i * 5) l[i])
theorem NdAt.ext {w w' : World} {b o : Nat} {x : Nd} (h : NdAt w b o x) (hx : Ext w w') (hb : b < w.heap.size) : NdAt w' b o x := by
  obtain ⟨h0, h1, h2, h3, h4⟩ := h
  exact ⟨(hx.cell hb).trans h0, (hx.cell hb).trans h1, (hx.cell hb).trans h2, (hx.cell hb).trans h3, (hx.cell hb).trans h4⟩
theorem RNd.ext {w w' : World} {v : Value} {l : List Nd} (h : RNd w v l) (hx : Ext w w') : RNd w' v l := by
  obtain ⟨A, c, rfl, h2⟩ := h
  refine ⟨A, c, rfl, fun hp => ?_⟩
  obtain ⟨b, o, rfl, hb, hc⟩ := h2 hp
  exact ⟨b, o, rfl, Nat.lt_of_lt_of_le hb hx.size, fun i hi => (hc i hi).ext hx hb⟩
/-- v is a row of nodes of one's own. -/
def OwnNd (B : Nat) (w : World) (v : Value) (l : List Nd) : Prop := w.ownsRow B 63 5 v l.length (ndsC l)
theorem OwnNd.nil (B : Nat) (w : World) : OwnNd B w (.slice none 0 0) [] := World.ownsRow_nil w B _ 5
theorem OwnNd.read {B : Nat} {w : World} {v : Value} {l : List Nd} (h : OwnNd B w v l) : RNd w v l := by
  unfold OwnNd at h
  rcases h.2 with ⟨h1, h2⟩ | ⟨g, cap, cur, rfl, hg, hh, _⟩
  · exact ⟨none, 0, by rw [h1, h2], fun h3 => by omega⟩
  · refine ⟨_, _, rfl, fun _ => ⟨g, 0, rfl, ?_, fun i hi => ?_⟩⟩
    · rcases Nat.lt_or_ge g w.heap.size with h | h
      · exact h
      · rw [Array.getElem?_eq_none h] at hh; cases hh
    · have hk : ∀ j, j < 5 → w.cell? ⟨g, 0 + i * 5 + j, none⟩ = (ndC l[i])[j]? := fun j hj => by
        rw [Nat.zero_add, h.cellAt (i * 5 + j) (by omega), ndsC_get l i j hi hj]
      exact ⟨hk 0 (by omega), hk 1 (by omega), hk 2 (by omega), hk 3 (by omega), hk 4 (by omega)⟩
theorem OwnNd.shape {B : Nat} {w : World} {v : Value} {l : List Nd} (h : OwnNd B w v l) : ∃ A c, v = .slice A l.length c := ownsRow_shape h
theorem OwnNd.mono {B B' : Nat} {w : World} {v : Value} {l : List Nd} (h : OwnNd B w v l) (hB : B' ≤ B) : OwnNd B' w v l := by
  obtain ⟨h1, h2⟩ := h
  exact ⟨h1, h2.imp id (fun ⟨g, cap, cur, q1, q2, q3⟩ => ⟨g, cap, cur, q1, by omega, q3⟩)⟩
/-- The row is kept where what lies from B on is kept, but for blocks that are not its own. -/
theorem OwnNd.kept {B : Nat} {w w' : World} {v : Value} {l : List Nd} (h : OwnNd B w v l) (hk : ∀ k, B ≤ k → k < w.heap.size → w'.heap[k]? = w.heap[k]?) : OwnNd B w' v l := ownsRow_below h hk
theorem info_node : (Tryz.prog.info? 63).map (fun i => (i.zero, i.size, i.bytes)) = some (some (.agg #[.int .i64 0, .int .i64 0, .int .i64 0, .int .i64 0, .string ⟨#[]⟩]), 5, 48) := by kernel_rfl
end Big
end Go.Proofs.YtelgknpdiaafaaaGreatDoor
/- mill.names, number; ref19.Operands; ref20.Level. -/
namespace Go.Proofs.YtelgknpdiaafaaaGreatDoor
namespace Big
open Go.RowKit
def names5 : List (List UInt8) := [[97], [98], [99], [120, 49], [89, 95, 50]]
def decs14 : List (List UInt8) := [[48], [49], [50], [51], [48, 46, 53], [49, 46, 50, 53], [55], [49, 48], [48, 46, 49], [49, 50, 46, 55, 53], [49, 48, 48], [51, 46, 49, 52], [54, 52], [48, 46, 48, 48, 49]]
theorem names_any (w : World) : Calls Tryz.prog 32 #[] w fun e w' => e = .returned (.slice (some ⟨w.heap.size, 0, none⟩) 5 5) ∧ Blk w' w.heap.size 9 (names5.map str).toArray ∧ Ext w w' := by
  go_enter Tryz.func32, Tryz.ntmps32
  go_wp2_with fail
  go_ret
  exact ⟨rfl, Blk.new w 9 _, (Ext.refl w).alloc _⟩
theorem decs_get {x : Int} (h0 : 0 ≤ x) (h1 : x < 14) : ∃ t, decs14[x.toNat]? = some t ∧ code7 t = 0 ∧ t.length ≤ 5 := by
  obtain ⟨n, rfl⟩ := Int.eq_ofNat_of_zero_le h0
  have hn : n < decs14.length := by show n < 14; omega
  refine ⟨decs14[n], by simp, ?_⟩
  have hall : ∀ t ∈ decs14, code7 t = 0 ∧ t.length ≤ 5 := by decide +kernel
  exact hall _ (List.getElem_mem hn)
set_option maxRecDepth 100000 in
theorem number_any (B g : Nat) (w : World) (L : Value) (l : List Int) (a : Nat) (h : TapeAt B g w L l a) (hB : B ≤ w.heap.size) : Calls Tryz.prog 33 #[.pointer (some ⟨g, 0, none⟩)] w fun e w' => ∃ t, e = .returned (str t) ∧ code7 t = 0 ∧ t.length ≤ 5 ∧ TapeAt B g w' L l (nextA l a) ∧ KB w.heap.size g w w' := by
  have hcs : (decs14.map str).toArray = #[.string ⟨#[48]⟩, .string ⟨#[49]⟩, .string ⟨#[50]⟩, .string ⟨#[51]⟩, .string ⟨#[48, 46, 53]⟩, .string ⟨#[49, 46, 50, 53]⟩, .string ⟨#[55]⟩, .string ⟨#[49, 48]⟩, .string ⟨#[48, 46, 49]⟩, .string ⟨#[49, 50, 46, 55, 53]⟩, .string ⟨#[49, 48, 48]⟩, .string ⟨#[51, 46, 49, 52]⟩, .string ⟨#[54, 52]⟩, .string ⟨#[48, 46, 48, 48, 49]⟩] := rfl
  have hb1 := Blk.new w 9 (decs14.map str).toArray
  have hx1 := (Ext.refl w).alloc (.cells (decs14.map str).toArray 9)
  have hs1 : (w.alloc (.cells (decs14.map str).toArray 9)).heap.size = w.heap.size + 1 := by simp
  have ht1 := h.below (Below.mono hx1 hB)
  rw [hcs] at hb1 hx1 ht1 hs1
  have HN := Lib.hid (next_any B g _ L l a 14 ht1 (by decide) (by decide))
  have HB1 := Lib.hid hb1
  have HX1 := Lib.hid hx1
  have hg := h.blk.lt
  have HG : Hid (g ≠ w.heap.size) := Lib.hid (by omega)
  have hr := nextV_range (l := l) (a := a) (n := 14) (by decide)
  obtain ⟨t, ht, hc, htl⟩ := decs_get hr.1 hr.2
  obtain ⟨h0, h1⟩ := hr
  have HTT := Lib.hid ht
  have HC := Lib.hid (And.intro hc htl)
  generalize nextV l a 14 = x at *
  clear h hb1 hx1 ht1 hcs ht hc htl
  go_enter Tryz.func33, Tryz.ntmps33
  go_wp2_with fail
  refine HN.out.mono ?_
  rintro e w2 ⟨rfl, htp, hk⟩
  have hb2 := (hk (w.heap.size + 1)).blk HB1.out (by omega) (fun e => HG.out e.symm)
  have hst := hb2.cell x.toNat
  have hget : (decs14.map str)[x.toNat]? = some (str t) := by rw [List.getElem?_map, HTT.out]; rfl
  have hget2 : ((decs14.map str).toArray)[x.toNat]? = some (str t) := by rw [List.getElem?_toArray]; exact hget
  replace hst := hst.trans hget2
  have HTP := Lib.hid htp
  have HK := Lib.hid (((KB.refl w.heap.size g w).ext HX1.out (Nat.le_refl _)).trans (hk w.heap.size))
  clear htp hk hb2 hget hget2
  go_wp2_with fail
  go_ret
  exact ⟨t, rfl, HC.out.1, HC.out.2, HTP.out, HK.out⟩
/-- How many operands a kind has. -/
def operI (k : Int) : Int := if k < 1 ∨ 16 < k then -1 else if k ≤ 4 then 0 else if 6 ≤ k ∧ k ≤ 9 then 2 else 1
theorem operands_any (w : World) (k : Int) : Calls Tryz.prog 35 #[.int .i64 k] w fun e w' => e = .returned (.int .i64 (operI k)) ∧ w = w' := by
  have key : (k < 1 ∧ operI k = -1) ∨ (¬ k < 1 ∧ 16 < k ∧ operI k = -1) ∨ (¬ k < 1 ∧ ¬ 16 < k ∧ k ≤ 4 ∧ operI k = 0) ∨ (¬ k < 1 ∧ ¬ 16 < k ∧ ¬ k ≤ 4 ∧ 6 ≤ k ∧ k ≤ 9 ∧ operI k = 2) ∨ (¬ k < 1 ∧ ¬ 16 < k ∧ ¬ k ≤ 4 ∧ ¬ 6 ≤ k ∧ operI k = 1) ∨ (¬ k < 1 ∧ ¬ 16 < k ∧ ¬ k ≤ 4 ∧ 6 ≤ k ∧ ¬ k ≤ 9 ∧ operI k = 1) := by
    unfold operI
    by_cases h1 : k < 1
    · simp [h1]
    by_cases h2 : 16 < k
    · simp [h1, h2]
    by_cases h3 : k ≤ 4
    · simp [h1, h2, h3]
    by_cases h4 : 6 ≤ k
    · by_cases h5 : k ≤ 9
      · simp [h1, h2, h3, h4, h5]
      · simp [h1, h2, h3, h4, h5]
    · simp [h1, h2, h3, h4]
  rcases key with ⟨h1, h⟩ | ⟨h1, h2, h⟩ | ⟨h1, h2, h3, h⟩ | ⟨h1, h2, h3, h4, h5, h⟩ | ⟨h1, h2, h3, h4, h⟩ | ⟨h1, h2, h3, h4, h5, h⟩
  all_goals
    have H := Lib.hid h
    clear h
    go_enter Tryz.func35, Tryz.ntmps35
    go_wp2_with fail
    go_ret
    exact ⟨by rw [H.out]; rfl, rfl⟩
end Big
end Go.Proofs.YtelgknpdiaafaaaGreatDoor
