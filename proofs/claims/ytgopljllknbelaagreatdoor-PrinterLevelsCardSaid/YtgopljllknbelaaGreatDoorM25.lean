import Derived.Test.YtgopljllknbelaaGreatDoorM4
import Derived.Lib.LaidTab
import Derived.Lib.ItoaMem
import Derived.Test.YtgopljllknbelaaGreatDoorM24
import Derived.Lib.Builder
import Derived.Lib.AppendStr
import Derived.Lib.UnsafeStr
import Derived.Laws.Externs
/- The library's table that Itoa reads. -/
namespace Go.Proofs.YtgopljllknbelaaGreatDoor
namespace Big
open Go.RowKit
def Pow10 (w : World) : Prop := Lib.TabIs Tryz.prog w "internal/strconv.uint64pow10" .u64 Lib.pow10Tab
theorem Pow10.ext {w w' : World} (h : Pow10 w) (hx : Ext w w') : Pow10 w' := by
  unfold Pow10 Lib.TabIs World.var? at h ⊢
  cases hg : Tryz.prog.globalNamed "internal/strconv.uint64pow10" with
  | none => rw [hg] at h; cases h
  | some g =>
    rw [hg] at h
    simp only [Option.bind_some] at h ⊢
    cases hh : w.heap[g]? with
    | none => rw [hh] at h; cases h
    | some b =>
      have hlt : g < w.heap.size := (Array.getElem?_eq_some_iff.1 hh).1
      have h2 : w'.heap[g]? = w.heap[g]? := Below.block hx g hlt
      rw [h2]
      exact h
theorem gPow10 : Tryz.prog.globalNamed "internal/strconv.uint64pow10" = some 1 := by kernel_rfl
theorem Pow10.below {g : Nat} {w w' : World} (h : Pow10 w) (hb : Below g w w') (hg : 1 < g) : Pow10 w' := by
  unfold Pow10 Lib.TabIs World.var? at h ⊢
  rw [gPow10] at h ⊢
  simp only [Option.bind_some] at h ⊢
  rw [hb.block _ hg]
  exact h
theorem Pow10.lt {w : World} (h : Pow10 w) : 1 < w.heap.size := by
  unfold Pow10 Lib.TabIs World.var? at h
  rw [gPow10] at h
  simp only [Option.bind_some] at h
  rcases Nat.lt_or_ge 1 w.heap.size with h' | h'
  · exact h'
  · rw [Array.getElem?_eq_none h'] at h; cases h
end Big
end Go.Proofs.YtgopljllknbelaaGreatDoor
/- The program's writer: a strings.Builder in its second field. -/
namespace Go.Proofs.YtgopljllknbelaaGreatDoor
namespace Big
open Go.RowKit
/-- v reads as the nodes l, in memory below g. -/
def NdLow (g : Nat) (w : World) (v : Value) (l : List Nd) : Prop :=
  ∃ A c, v = .slice A l.length c ∧ (0 < l.length → ∃ b o, A = some ⟨b, o, none⟩ ∧ b < g ∧ b < w.heap.size ∧ ∀ i (hi : i < l.length), NdAt w b (o + i * 5) l[i])
theorem NdLow.of {w : World} {v : Value} {l : List Nd} (h : RNd w v l) : NdLow w.heap.size w v l := by
  obtain ⟨A, c, rfl, h1⟩ := h
  refine ⟨A, c, rfl, fun hp => ?_⟩
  obtain ⟨b, o, rfl, hb, hc⟩ := h1 hp
  exact ⟨b, o, rfl, hb, hb, hc⟩
theorem NdLow.read {g : Nat} {w : World} {v : Value} {l : List Nd} (h : NdLow g w v l) : RNd w v l := by
  obtain ⟨A, c, rfl, h1⟩ := h
  refine ⟨A, c, rfl, fun hp => ?_⟩
  obtain ⟨b, o, rfl, _, hb, hc⟩ := h1 hp
  exact ⟨b, o, rfl, hb, hc⟩
theorem NdLow.below {g : Nat} {w w' : World} {v : Value} {l : List Nd} (h : NdLow g w v l) (hb : Below g w w') : NdLow g w' v l := by
  obtain ⟨A, c, rfl, h1⟩ := h
  refine ⟨A, c, rfl, fun hp => ?_⟩
  obtain ⟨b, o, rfl, h2, h3, h4⟩ := h1 hp
  have hk : ∀ o, w'.cell? ⟨b, o, none⟩ = w.cell? ⟨b, o, none⟩ := fun o => World.cell?_of_block (a := ⟨b, o, none⟩) (hb.block b h2)
  refine ⟨b, o, rfl, h2, Nat.lt_of_lt_of_le h3 hb.size, fun i hi => ?_⟩
  obtain ⟨q0, q1, q2, q3, q4⟩ := h4 i hi
  exact ⟨(hk _).trans q0, (hk _).trans q1, (hk _).trans q2, (hk _).trans q3, (hk _).trans q4⟩
/-- The program's writer at block g: its nodes, and the text that it has written. -/
structure PrAt (g : Nat) (w : World) (nv : Value) (l : List Nd) (bs : List UInt8) (av bv : Value) : Prop where
  blk : Blk w g 69 #[nv, av, bv]
  addr : av = .pointer none ∨ av = .pointer (some ⟨g, 1, none⟩)
  row : w.ownsRow (g + 1) 5 1 bv bs.length (Lib.byteCells bs)
  nodes : NdLow g w nv l
  pow : Pow10 w
  low : 1 < g
/-- All is kept but block g, and rows of bytes that lie above it. -/
structure KW (g : Nat) (w w' : World) : Prop where
  os : w'.os = w.os
  tape : w'.tape = w.tape
  output : w'.output = w.output
  size : w.heap.size ≤ w'.heap.size
  block : ∀ k, k < w.heap.size → k ≠ g → (k < g ∨ ∀ cs fr, w.heap[k]? ≠ some (.cells cs 5 fr)) → w'.heap[k]? = w.heap[k]?
theorem KW.of_ext {g : Nat} {w w' : World} (h : Ext w w') : KW g w w' := ⟨h.os, h.tape, h.output, h.size, fun k hk _ _ => h.block k hk⟩
theorem KW.trans {g : Nat} {w1 w2 w3 : World} (h : KW g w1 w2) (k : KW g w2 w3) : KW g w1 w3 :=
  ⟨k.os.trans h.os, k.tape.trans h.tape, k.output.trans h.output, Nat.le_trans h.size k.size, fun i h1 h2 h3 => by
    have e := h.block i h1 h2 h3
    exact (k.block i (Nat.lt_of_lt_of_le h1 h.size) h2 (h3.imp id (fun h4 cs fr => by rw [e]; exact h4 cs fr))).trans e⟩
theorem KW.blk {g b : Nat} {w w' : World} {t : TypeId} {cs : Array Value} (h : KW g w w') (hb : Blk w b t cs) (h1 : b ≠ g) (h2 : t ≠ 5) : Blk w' b t cs :=
  (h.block b hb.lt h1 (.inr fun cs' fr e => h2 (by
    unfold Blk at hb
    rw [hb] at e
    injection e with e
    injection e with _ e _))).trans hb
theorem KW.low {g : Nat} {w w' : World} (h : KW g w w') (hg : g ≤ w.heap.size) : Below g w w' :=
  ⟨h.os, h.tape, h.output, h.size, fun k hk => h.block k (by omega) (by omega) (.inl hk)⟩
theorem KW.grown {g : Nat} {w w' : World} {v : Value} {n : Nat} {xs : List Value} (hr : w.ownsRow (g + 1) 5 1 v n xs) (h : w.grownBy w' v.ownBlock) : KW g w w' :=
  ⟨h.os, h.tape, h.output, h.size, fun k h1 h2 h3 => h.block k h1 (fun e => by
    rcases h3 with h3 | h3
    · have := ownsRow_block hr k e.symm
      omega
    · rcases hr.2 with ⟨rfl, _⟩ | ⟨q, cap, cur, rfl, _, hh, _⟩
      · cases e
      · simp only [Value.ownBlock, Option.some.injEq] at e
        subst e
        exact h3 _ _ hh)⟩
theorem KW.set {g : Nat} (w : World) (o : Nat) (u : Value) : KW g w (w.setCell ⟨g, o, none⟩ u) := by
  have hbe : Below g w (w.setCell ⟨g, o, none⟩ u) := Below.setCell (Below.refl g w) (p := ⟨g, o, none⟩) (Nat.le_refl _) _
  exact ⟨hbe.os, hbe.tape, hbe.output, hbe.size, fun k _ hk _ => Below.heap_setCell _ _ _ k hk⟩
theorem PrAt.lt {g : Nat} {w : World} {nv : Value} {l : List Nd} {bs : List UInt8} {av bv : Value} (h : PrAt g w nv l bs av bv) : g < w.heap.size := h.blk.lt
/-- Kept where all but what lies above is kept. -/
theorem PrAt.keep {g : Nat} {w w' : World} {nv : Value} {l : List Nd} {bs : List UInt8} {av bv : Value} (h : PrAt g w nv l bs av bv) (hx : Ext w w') : PrAt g w' nv l bs av bv :=
  ⟨h.blk.ext hx, h.addr, ownsRow_below h.row (fun k _ hk => hx.block k hk), h.nodes.below (Below.mono hx (Nat.le_of_lt h.blk.lt)), h.pow.ext hx, h.low⟩
theorem run_neq_ptr {w : World} (a : Addr) : (binOp .neq 64 (.pointer (some a)) (.pointer (some a))).run Tryz.prog w = .ok (.bool false) w := by
  obtain ⟨j, hj, _⟩ := Option.map_eq_some_iff.1 (show (Tryz.prog.info? 67).map (fun i => i.size) = some 2 by kernel_rfl)
  exact Lib.run_neq_ptr_same w a Tryz.underlying64 hj
set_option maxRecDepth 100000 in
theorem check_used (b : Nat) (w : World) (h0 : w.cell? ⟨b, 1, none⟩ = some (.pointer (some ⟨b, 1, none⟩))) :
    Calls Tryz.prog 93 #[.pointer (some ⟨b, 1, none⟩)] w fun e w' => e = .returned (.tuple #[]) ∧ w = w' := by
  have hn : ∀ W : World, (binOp .neq 64 (.pointer (some ⟨b, 1, none⟩)) (.pointer (some ⟨b, 1, none⟩))).run Tryz.prog W = .ok (.bool false) W := fun W => run_neq_ptr ⟨b, 1, none⟩
  go_enter Tryz.func93, Tryz.ntmps93
  go_wp2_with fail
  go_end0
  exact ⟨rfl, rfl⟩
set_option maxRecDepth 100000 in
theorem check_fresh (b : Nat) (w : World) (nv bv : Value) (h : Blk w b 69 #[nv, .pointer none, bv]) :
    Calls Tryz.prog 93 #[.pointer (some ⟨b, 1, none⟩)] w fun e w' => e = .returned (.tuple #[]) ∧ w.setCell ⟨b, 1, none⟩ (.pointer (some ⟨b, 1, none⟩)) = w' := by
  obtain ⟨j, hj, hjs⟩ := Option.map_eq_some_iff.1 (show (Tryz.prog.info? 67).map (fun i => i.size) = some 2 by kernel_rfl)
  have hsh : w.shape? b = some (69, 3) := by unfold Blk at h; simp [World.shape?, h]
  have hfz := h.frozen 1
  have h0 := h.cell 1
  rw [show (#[nv, Value.pointer none, bv] : Array Value)[1]? = some (.pointer none) from rfl] at h0
  clear h
  go_enter Tryz.func93, Tryz.ntmps93
  go_wp2_with fail
  rw [Lib.run_to_unsafe w ⟨b, 1, none⟩ Tryz.underlying64 Tryz.underlying154 hj (by rw [hjs]; decide) hsh (by show 1 < 3; omega)]
  simp only [Result.andThen]
  rw [Oper.upon_value]
  go_wp2_with fail
  rw [run_callFunc_extern Tryz.func130 (by kernel_rfl) (by kernel_rfl) (by kernel_rfl) (e := Extern.AbiNoEscape.same) (by kernel_rfl)]
  rw [Lib.run_noEscape]
  simp only [Result.andThen]
  rw [Oper.upon_value]
  go_wp2_with fail
  rw [Lib.run_from_unsafe w ⟨b, 1, none⟩ Tryz.underlying154 Tryz.underlying64 hj hsh (by kernel_rfl)]
  simp only [Result.andThen]
  rw [Oper.upon_value]
  go_wp2_with fail
  go_end0
  exact ⟨rfl, rfl⟩
theorem check_any (g : Nat) (w : World) (nv : Value) (l : List Nd) (bs : List UInt8) (av bv : Value) (h : PrAt g w nv l bs av bv) :
    Calls Tryz.prog 93 #[.pointer (some ⟨g, 1, none⟩)] w fun e w' => e = .returned (.tuple #[]) ∧ PrAt g w' nv l bs (.pointer (some ⟨g, 1, none⟩)) bv ∧ KW g w w' := by
  obtain ⟨hb, ha, hr, hn, hpw, hlo⟩ := h
  rcases ha with rfl | rfl
  · refine (check_fresh g w nv bv hb).mono ?_
    rintro e w' ⟨rfl, rfl⟩
    have hbe : Below g w (w.setCell ⟨g, 1, none⟩ (.pointer (some ⟨g, 1, none⟩))) := Below.setCell (Below.refl g w) (p := ⟨g, 1, none⟩) (Nat.le_refl _) _
    exact ⟨rfl, ⟨hb.set_ 1 _, .inr rfl, ownsRow_below hr (fun k hk _ => Below.heap_setCell _ _ _ k (by show k ≠ g; omega)), hn.below hbe, hpw.below hbe hlo, hlo⟩, KW.set w 1 _⟩
  · refine (check_used g w (hb.cell 1)).mono ?_
    rintro e w' ⟨rfl, rfl⟩
    exact ⟨rfl, ⟨hb, .inr rfl, hr, hn, hpw, hlo⟩, KW.of_ext (Ext.refl w)⟩
/-- A text has been written. -/
def Wrote (g : Nat) (nv : Value) (l : List Nd) (bs T : List UInt8) (w w' : World) : Prop := ∃ av' bv', PrAt g w' nv l (bs ++ T) av' bv' ∧ KW g w w'
theorem info_byte : (Tryz.prog.info? 5).map (fun i => (i.zero, i.size, i.bytes)) = some (some (.int .u8 0), 1, 1) := by kernel_rfl
theorem strCells_str (s : List UInt8) : Lib.strCells ⟨s.toArray⟩ = Lib.byteCells s := by
  first | rfl | (unfold Lib.strCells Lib.byteCells; simp)
theorem byteCells_append (a b : List UInt8) : Lib.byteCells (a ++ b) = Lib.byteCells a ++ Lib.byteCells b := by unfold Lib.byteCells; simp
set_option maxHeartbeats 2000000 in
set_option maxRecDepth 100000 in
theorem wstr_any (g : Nat) (w : World) (nv : Value) (l : List Nd) (bs s : List UInt8) (av bv : Value) (h : PrAt g w nv l bs av bv) (hl : bs.length + s.length ≤ 2147483648) :
    Calls Tryz.prog 56 #[.pointer (some ⟨g, 1, none⟩), str s] w fun e w' => e = .returned (.tuple #[.int .i64 (s.length : Int), .nilIface]) ∧ Wrote g nv l bs s w w' := by
  obtain ⟨i0, hi, hz0, hz1, hz2⟩ := info_parts info_byte
  have HC := Lib.hid (check_any g w nv l bs av bv h)
  have HS := Lib.hid (strCells_str s)
  have hsz : (⟨s.toArray⟩ : ByteArray).size = s.length := size_str s
  have hst : str s = .string ⟨s.toArray⟩ := rfl
  rw [hst]
  generalize (⟨s.toArray⟩ : ByteArray) = sb at *
  rw [← hsz] at hl
  have HZ := Lib.hid hsz
  clear h hsz hst
  go_enter Tryz.func56, Tryz.ntmps56
  go_wp2_with fail
  refine HC.out.mono ?_
  rintro e w1 ⟨rfl, hp, hk⟩
  have HP := Lib.hid hp
  have HK := Lib.hid hk
  obtain ⟨_, c1, c2, _, _, f2, hg⟩ := hp.blk.three'
  have hown := hp.row
  obtain ⟨A, cp, rfl⟩ := ownsRow_shape hown
  clear hp hk
  go_wp2_with (at_builtin; refine Lib.wpList_append_own_string _ rfl _ _ 65 9 rfl (g + 1) 5 i0 Tryz.underlying65 Tryz.underlying9 hi hz0 hz1 hz2 _ _ _ rfl hown sb rfl ?c3 ?c4 ?c5 ?_)
  case c3 => unfold maxLen; omega
  case c4 => omega
  case c5 => omega
  intro v' w2 hown' hgrow _
  rw [HZ.out] at hown'
  have hbl : ∀ k, (Value.slice A bs.length cp).ownBlock = some k → g + 1 ≤ k := fun k hk => ownsRow_block hown k hk
  have hne : ∀ k, (Value.slice A bs.length cp).ownBlock = some k → g ≠ k := fun k hk => by have := hbl k hk; omega
  have hb2 : Blk w2 g 69 #[nv, .pointer (some ⟨g, 1, none⟩), .slice A bs.length cp] := (hgrow.block g hg (fun e => hne g e.symm rfl)).trans HP.out.blk
  have hbe : Below g w1 w2 := (Below.refl g w1).grown hgrow (by omega) (fun k hk => by have := hbl k hk; omega)
  have HB2 := Lib.hid hb2
  have HO := Lib.hid hown'
  have HG := Lib.hid hgrow
  have HE := Lib.hid hbe
  obtain ⟨_, d1, d2, _, _, f2', hg2⟩ := hb2.three'
  obtain ⟨A', cp', rfl⟩ := ownsRow_shape hown'
  clear hown hown' hgrow hbl hne hb2 hbe c1 c2 f2
  go_wp2_with fail
  go_ret2
  refine ⟨by rw [HZ.out]; rfl, .pointer (some ⟨g, 1, none⟩), .slice A' (bs.length + s.length) cp', ⟨HB2.out.set_ 2 _, .inr rfl, ?_, HP.out.nodes.below (HE.out.setCell (p := ⟨g, 2, none⟩) (Nat.le_refl _) _), HP.out.pow.below (HE.out.setCell (p := ⟨g, 2, none⟩) (Nat.le_refl _) _) HP.out.low, HP.out.low⟩, (HK.out.trans (KW.grown HP.out.row HG.out)).trans (KW.set _ 2 _)⟩
  rw [byteCells_append, ← HS.out, List.length_append]
  exact ownsRow_below HO.out (fun k hk _ => Below.heap_setCell _ _ _ k (by show k ≠ g; omega))
end Big
end Go.Proofs.YtgopljllknbelaaGreatDoor
/- The program's levels of kinds, and its words. Printed by a program. -/
namespace Go.Proofs.YtgopljllknbelaaGreatDoor
namespace Big
open Go.RowKit
/-- The level of any kind. -/
def levelI (k : Int) : Int := if k = 6 ∨ k = 7 then 1 else if k = 8 ∨ k = 9 then 2 else if k = 5 then 3 else if k = 10 then 4 else if 1 ≤ k ∧ k ≤ 16 then 5 else 0
theorem levelI_nat (k : Nat) (h1 : 1 ≤ k) (h2 : k ≤ 16) : levelI (k : Int) = (levelK k : Int) := by
  have : k = 1 ∨ k = 2 ∨ k = 3 ∨ k = 4 ∨ k = 5 ∨ k = 6 ∨ k = 7 ∨ k = 8 ∨ k = 9 ∨ k = 10 ∨ k = 11 ∨ k = 12 ∨ k = 13 ∨ k = 14 ∨ k = 15 ∨ k = 16 := by omega
  rcases this with rfl | rfl | rfl | rfl | rfl | rfl | rfl | rfl | rfl | rfl | rfl | rfl | rfl | rfl | rfl | rfl <;> rfl
theorem plevel_1 (W : World) (a b n : Int) (t : ByteArray) : Calls Tryz.prog 24 #[.agg #[.int .i64 1, .int .i64 a, .int .i64 b, .int .i64 n, .string t]] W fun e w' => e = .returned (.int .i64 5) ∧ Ext W w' := by
  go_enter Tryz.func24, Tryz.ntmps24
  go_wp2_with fail
  go_ret
  exact ⟨rfl, (Ext.refl W).alloc _⟩
theorem plevel_2 (W : World) (a b n : Int) (t : ByteArray) : Calls Tryz.prog 24 #[.agg #[.int .i64 2, .int .i64 a, .int .i64 b, .int .i64 n, .string t]] W fun e w' => e = .returned (.int .i64 5) ∧ Ext W w' := by
  go_enter Tryz.func24, Tryz.ntmps24
  go_wp2_with fail
  go_ret
  exact ⟨rfl, (Ext.refl W).alloc _⟩
theorem plevel_3 (W : World) (a b n : Int) (t : ByteArray) : Calls Tryz.prog 24 #[.agg #[.int .i64 3, .int .i64 a, .int .i64 b, .int .i64 n, .string t]] W fun e w' => e = .returned (.int .i64 5) ∧ Ext W w' := by
  go_enter Tryz.func24, Tryz.ntmps24
  go_wp2_with fail
  go_ret
  exact ⟨rfl, (Ext.refl W).alloc _⟩
theorem plevel_4 (W : World) (a b n : Int) (t : ByteArray) : Calls Tryz.prog 24 #[.agg #[.int .i64 4, .int .i64 a, .int .i64 b, .int .i64 n, .string t]] W fun e w' => e = .returned (.int .i64 5) ∧ Ext W w' := by
  go_enter Tryz.func24, Tryz.ntmps24
  go_wp2_with fail
  go_ret
  exact ⟨rfl, (Ext.refl W).alloc _⟩
theorem plevel_5 (W : World) (a b n : Int) (t : ByteArray) : Calls Tryz.prog 24 #[.agg #[.int .i64 5, .int .i64 a, .int .i64 b, .int .i64 n, .string t]] W fun e w' => e = .returned (.int .i64 3) ∧ Ext W w' := by
  go_enter Tryz.func24, Tryz.ntmps24
  go_wp2_with fail
  go_ret
  exact ⟨rfl, (Ext.refl W).alloc _⟩
theorem plevel_6 (W : World) (a b n : Int) (t : ByteArray) : Calls Tryz.prog 24 #[.agg #[.int .i64 6, .int .i64 a, .int .i64 b, .int .i64 n, .string t]] W fun e w' => e = .returned (.int .i64 1) ∧ Ext W w' := by
  go_enter Tryz.func24, Tryz.ntmps24
  go_wp2_with fail
  go_ret
  exact ⟨rfl, (Ext.refl W).alloc _⟩
theorem plevel_7 (W : World) (a b n : Int) (t : ByteArray) : Calls Tryz.prog 24 #[.agg #[.int .i64 7, .int .i64 a, .int .i64 b, .int .i64 n, .string t]] W fun e w' => e = .returned (.int .i64 1) ∧ Ext W w' := by
  go_enter Tryz.func24, Tryz.ntmps24
  go_wp2_with fail
  go_ret
  exact ⟨rfl, (Ext.refl W).alloc _⟩
theorem plevel_8 (W : World) (a b n : Int) (t : ByteArray) : Calls Tryz.prog 24 #[.agg #[.int .i64 8, .int .i64 a, .int .i64 b, .int .i64 n, .string t]] W fun e w' => e = .returned (.int .i64 2) ∧ Ext W w' := by
  go_enter Tryz.func24, Tryz.ntmps24
  go_wp2_with fail
  go_ret
  exact ⟨rfl, (Ext.refl W).alloc _⟩
theorem plevel_9 (W : World) (a b n : Int) (t : ByteArray) : Calls Tryz.prog 24 #[.agg #[.int .i64 9, .int .i64 a, .int .i64 b, .int .i64 n, .string t]] W fun e w' => e = .returned (.int .i64 2) ∧ Ext W w' := by
  go_enter Tryz.func24, Tryz.ntmps24
  go_wp2_with fail
  go_ret
  exact ⟨rfl, (Ext.refl W).alloc _⟩
theorem plevel_10 (W : World) (a b n : Int) (t : ByteArray) : Calls Tryz.prog 24 #[.agg #[.int .i64 10, .int .i64 a, .int .i64 b, .int .i64 n, .string t]] W fun e w' => e = .returned (.int .i64 4) ∧ Ext W w' := by
  go_enter Tryz.func24, Tryz.ntmps24
  go_wp2_with fail
  go_ret
  exact ⟨rfl, (Ext.refl W).alloc _⟩
theorem plevel_11 (W : World) (a b n : Int) (t : ByteArray) : Calls Tryz.prog 24 #[.agg #[.int .i64 11, .int .i64 a, .int .i64 b, .int .i64 n, .string t]] W fun e w' => e = .returned (.int .i64 5) ∧ Ext W w' := by
  go_enter Tryz.func24, Tryz.ntmps24
  go_wp2_with fail
  go_ret
  exact ⟨rfl, (Ext.refl W).alloc _⟩
theorem plevel_12 (W : World) (a b n : Int) (t : ByteArray) : Calls Tryz.prog 24 #[.agg #[.int .i64 12, .int .i64 a, .int .i64 b, .int .i64 n, .string t]] W fun e w' => e = .returned (.int .i64 5) ∧ Ext W w' := by
  go_enter Tryz.func24, Tryz.ntmps24
  go_wp2_with fail
  go_ret
  exact ⟨rfl, (Ext.refl W).alloc _⟩
theorem plevel_13 (W : World) (a b n : Int) (t : ByteArray) : Calls Tryz.prog 24 #[.agg #[.int .i64 13, .int .i64 a, .int .i64 b, .int .i64 n, .string t]] W fun e w' => e = .returned (.int .i64 5) ∧ Ext W w' := by
  go_enter Tryz.func24, Tryz.ntmps24
  go_wp2_with fail
  go_ret
  exact ⟨rfl, (Ext.refl W).alloc _⟩
theorem plevel_14 (W : World) (a b n : Int) (t : ByteArray) : Calls Tryz.prog 24 #[.agg #[.int .i64 14, .int .i64 a, .int .i64 b, .int .i64 n, .string t]] W fun e w' => e = .returned (.int .i64 5) ∧ Ext W w' := by
  go_enter Tryz.func24, Tryz.ntmps24
  go_wp2_with fail
  go_ret
  exact ⟨rfl, (Ext.refl W).alloc _⟩
theorem plevel_15 (W : World) (a b n : Int) (t : ByteArray) : Calls Tryz.prog 24 #[.agg #[.int .i64 15, .int .i64 a, .int .i64 b, .int .i64 n, .string t]] W fun e w' => e = .returned (.int .i64 5) ∧ Ext W w' := by
  go_enter Tryz.func24, Tryz.ntmps24
  go_wp2_with fail
  go_ret
  exact ⟨rfl, (Ext.refl W).alloc _⟩
theorem plevel_16 (W : World) (a b n : Int) (t : ByteArray) : Calls Tryz.prog 24 #[.agg #[.int .i64 16, .int .i64 a, .int .i64 b, .int .i64 n, .string t]] W fun e w' => e = .returned (.int .i64 5) ∧ Ext W w' := by
  go_enter Tryz.func24, Tryz.ntmps24
  go_wp2_with fail
  go_ret
  exact ⟨rfl, (Ext.refl W).alloc _⟩
theorem plevel_none (W : World) (k a b n : Int) (t : ByteArray) (h : k < 1 ∨ 16 < k) : Calls Tryz.prog 24 #[.agg #[.int .i64 k, .int .i64 a, .int .i64 b, .int .i64 n, .string t]] W fun e w' => e = .returned (.int .i64 0) ∧ Ext W w' := by
  have e1 : (k == 1) = false := by rw [beq_eq_false_iff_ne]; omega
  have e2 : (k == 2) = false := by rw [beq_eq_false_iff_ne]; omega
  have e3 : (k == 3) = false := by rw [beq_eq_false_iff_ne]; omega
  have e4 : (k == 4) = false := by rw [beq_eq_false_iff_ne]; omega
  have e5 : (k == 5) = false := by rw [beq_eq_false_iff_ne]; omega
  have e6 : (k == 6) = false := by rw [beq_eq_false_iff_ne]; omega
  have e7 : (k == 7) = false := by rw [beq_eq_false_iff_ne]; omega
  have e8 : (k == 8) = false := by rw [beq_eq_false_iff_ne]; omega
  have e9 : (k == 9) = false := by rw [beq_eq_false_iff_ne]; omega
  have e10 : (k == 10) = false := by rw [beq_eq_false_iff_ne]; omega
  have e11 : (k == 11) = false := by rw [beq_eq_false_iff_ne]; omega
  have e12 : (k == 12) = false := by rw [beq_eq_false_iff_ne]; omega
  have e13 : (k == 13) = false := by rw [beq_eq_false_iff_ne]; omega
  have e14 : (k == 14) = false := by rw [beq_eq_false_iff_ne]; omega
  have e15 : (k == 15) = false := by rw [beq_eq_false_iff_ne]; omega
  have e16 : (k == 16) = false := by rw [beq_eq_false_iff_ne]; omega
  clear h
  go_enter Tryz.func24, Tryz.ntmps24
  go_wp2_with fail
  go_ret
  exact ⟨rfl, (Ext.refl W).alloc _⟩
theorem plevel_any (W : World) (k a b n : Int) (t : List UInt8) : Calls Tryz.prog 24 #[.agg #[.int .i64 k, .int .i64 a, .int .i64 b, .int .i64 n, str t]] W fun e w' => e = .returned (.int .i64 (levelI k)) ∧ Ext W w' := by
  by_cases h : k < 1 ∨ 16 < k
  · have hz : levelI k = 0 := by unfold levelI; rw [if_neg (by omega), if_neg (by omega), if_neg (by omega), if_neg (by omega), if_neg (by omega)]
    rw [hz]
    exact plevel_none W k a b n _ h
  · have : k = 1 ∨ k = 2 ∨ k = 3 ∨ k = 4 ∨ k = 5 ∨ k = 6 ∨ k = 7 ∨ k = 8 ∨ k = 9 ∨ k = 10 ∨ k = 11 ∨ k = 12 ∨ k = 13 ∨ k = 14 ∨ k = 15 ∨ k = 16 := by omega
    rcases this with rfl | rfl | rfl | rfl | rfl | rfl | rfl | rfl | rfl | rfl | rfl | rfl | rfl | rfl | rfl | rfl
    · exact plevel_1 W a b n _
    · exact plevel_2 W a b n _
    · exact plevel_3 W a b n _
    · exact plevel_4 W a b n _
    · exact plevel_5 W a b n _
    · exact plevel_6 W a b n _
    · exact plevel_7 W a b n _
    · exact plevel_8 W a b n _
    · exact plevel_9 W a b n _
    · exact plevel_10 W a b n _
    · exact plevel_11 W a b n _
    · exact plevel_12 W a b n _
    · exact plevel_13 W a b n _
    · exact plevel_14 W a b n _
    · exact plevel_15 W a b n _
    · exact plevel_16 W a b n _
theorem word_3 (W : World) : Calls Tryz.prog 57 #[.int .i64 3] W fun e w' => e = .returned (.string ⟨#[112, 105]⟩) ∧ W = w' := by
  go_enter Tryz.func57, Tryz.ntmps57
  go_wp2_with fail
  go_ret
  exact ⟨rfl, rfl⟩
theorem word_4 (W : World) : Calls Tryz.prog 57 #[.int .i64 4] W fun e w' => e = .returned (.string ⟨#[101]⟩) ∧ W = w' := by
  go_enter Tryz.func57, Tryz.ntmps57
  go_wp2_with fail
  go_ret
  exact ⟨rfl, rfl⟩
theorem word_6 (W : World) : Calls Tryz.prog 57 #[.int .i64 6] W fun e w' => e = .returned (.string ⟨#[32, 43, 32]⟩) ∧ W = w' := by
  go_enter Tryz.func57, Tryz.ntmps57
  go_wp2_with fail
  go_ret
  exact ⟨rfl, rfl⟩
theorem word_7 (W : World) : Calls Tryz.prog 57 #[.int .i64 7] W fun e w' => e = .returned (.string ⟨#[32, 45, 32]⟩) ∧ W = w' := by
  go_enter Tryz.func57, Tryz.ntmps57
  go_wp2_with fail
  go_ret
  exact ⟨rfl, rfl⟩
theorem word_8 (W : World) : Calls Tryz.prog 57 #[.int .i64 8] W fun e w' => e = .returned (.string ⟨#[32, 42, 32]⟩) ∧ W = w' := by
  go_enter Tryz.func57, Tryz.ntmps57
  go_wp2_with fail
  go_ret
  exact ⟨rfl, rfl⟩
theorem word_9 (W : World) : Calls Tryz.prog 57 #[.int .i64 9] W fun e w' => e = .returned (.string ⟨#[32, 47, 32]⟩) ∧ W = w' := by
  go_enter Tryz.func57, Tryz.ntmps57
  go_wp2_with fail
  go_ret
  exact ⟨rfl, rfl⟩
theorem word_11 (W : World) : Calls Tryz.prog 57 #[.int .i64 11] W fun e w' => e = .returned (.string ⟨#[115, 113, 114, 116]⟩) ∧ W = w' := by
  go_enter Tryz.func57, Tryz.ntmps57
  go_wp2_with fail
  go_ret
  exact ⟨rfl, rfl⟩
theorem word_12 (W : World) : Calls Tryz.prog 57 #[.int .i64 12] W fun e w' => e = .returned (.string ⟨#[101, 120, 112]⟩) ∧ W = w' := by
  go_enter Tryz.func57, Tryz.ntmps57
  go_wp2_with fail
  go_ret
  exact ⟨rfl, rfl⟩
theorem word_13 (W : World) : Calls Tryz.prog 57 #[.int .i64 13] W fun e w' => e = .returned (.string ⟨#[108, 110]⟩) ∧ W = w' := by
  go_enter Tryz.func57, Tryz.ntmps57
  go_wp2_with fail
  go_ret
  exact ⟨rfl, rfl⟩
theorem word_14 (W : World) : Calls Tryz.prog 57 #[.int .i64 14] W fun e w' => e = .returned (.string ⟨#[115, 105, 110]⟩) ∧ W = w' := by
  go_enter Tryz.func57, Tryz.ntmps57
  go_wp2_with fail
  go_ret
  exact ⟨rfl, rfl⟩
theorem word_15 (W : World) : Calls Tryz.prog 57 #[.int .i64 15] W fun e w' => e = .returned (.string ⟨#[99, 111, 115]⟩) ∧ W = w' := by
  go_enter Tryz.func57, Tryz.ntmps57
  go_wp2_with fail
  go_ret
  exact ⟨rfl, rfl⟩
theorem word_16 (W : World) : Calls Tryz.prog 57 #[.int .i64 16] W fun e w' => e = .returned (.string ⟨#[97, 116, 97, 110]⟩) ∧ W = w' := by
  go_enter Tryz.func57, Tryz.ntmps57
  go_wp2_with fail
  go_ret
  exact ⟨rfl, rfl⟩
end Big
end Go.Proofs.YtgopljllknbelaaGreatDoor
/- The program's writer: operand. Printed by a program. -/
namespace Go.Proofs.YtgopljllknbelaaGreatDoor
namespace Big
open Go.RowKit
/-- The program's node writes the tree e, wherever it stands in l. -/
def NodeW (l : List Nd) (e : Ex) : Prop := ∀ (g : Nat) (w : World) (nv : Value) (bs : List UInt8) (av bv : Value) (i : Nat) (I : Int), PrAt g w nv l bs av bv → AtEx l i e → I = (i : Int) → bs.length + (nodeT fmtI e).length ≤ 2000000 →
  Calls Tryz.prog 36 #[.pointer (some ⟨g, 0, none⟩), .int .i64 I] w fun r w' => r = .returned (.tuple #[]) ∧ Wrote g nv l bs (nodeT fmtI e) w w'
theorem Wrote.mk {g : Nat} {w w' : World} {nv : Value} {l : List Nd} {bs s t : List UInt8} {av bv : Value} (h : PrAt g w' nv l (bs ++ s) av bv) (hk : KW g w w') (he : s = t) : Wrote g nv l bs t w w' := by
  subst he
  exact ⟨av, bv, h, hk⟩
theorem PrAt.as {g : Nat} {w : World} {nv : Value} {l : List Nd} {bs cs : List UInt8} {av bv : Value} (h : PrAt g w nv l bs av bv) (he : bs = cs) : PrAt g w nv l cs av bv := by
  subst he
  exact h
/-- The node's cells, and its kind. -/
theorem AtEx.root {l : List Nd} {i : Nat} {e : Ex} (h : AtEx l i e) (hg : e.Good) : ∃ a b n t, l[i]? = some ⟨(e.kind : Int), a, b, n, t⟩ ∧ 1 ≤ e.kind ∧ e.kind ≤ 16 := by
  cases e with
  | leaf k t =>
    have hk : 1 ≤ k ∧ k ≤ 16 := by rcases hg with ⟨rfl, _⟩ | ⟨rfl, _⟩ | ⟨h | h, _⟩ <;> omega
    exact ⟨_, _, _, _, h.leaf, hk⟩
  | un k n x =>
    have hk : 1 ≤ k ∧ k ≤ 16 := by have := hg.1; omega
    exact ⟨_, _, _, _, h.un.2.1, hk⟩
  | bin k x y =>
    have hk : 1 ≤ k ∧ k ≤ 16 := by have := hg.1; omega
    obtain ⟨j, _, h2, _⟩ := h.bin
    exact ⟨_, _, _, _, h2, hk⟩
theorem wc40 (g : Nat) (nv : Value) (l : List Nd) : Hid (∀ (W : World) (bs : List UInt8) (av bv : Value), PrAt g W nv l bs av bv → bs.length ≤ 2000000 → Calls Tryz.prog 56 #[.pointer (some ⟨g, 1, none⟩), .string ⟨#[40]⟩] W fun e w' => e = .returned (.tuple #[.int .i64 1, .nilIface]) ∧ Wrote g nv l bs [40] W w') :=
  Lib.hid (fun W bs av bv h hl => wstr_any g W nv l bs [40] av bv h (by simp; omega))
theorem wc41 (g : Nat) (nv : Value) (l : List Nd) : Hid (∀ (W : World) (bs : List UInt8) (av bv : Value), PrAt g W nv l bs av bv → bs.length ≤ 2000000 → Calls Tryz.prog 56 #[.pointer (some ⟨g, 1, none⟩), .string ⟨#[41]⟩] W fun e w' => e = .returned (.tuple #[.int .i64 1, .nilIface]) ∧ Wrote g nv l bs [41] W w') :=
  Lib.hid (fun W bs av bv h hl => wstr_any g W nv l bs [41] av bv h (by simp; omega))
set_option maxHeartbeats 1000000 in
set_option maxRecDepth 100000 in
theorem poperand_any (l : List Nd) (e : Ex) (hn : NodeW l e) (hgd : e.Good) (g : Nat) (w : World) (nv : Value) (bs : List UInt8) (av bv : Value) (i : Nat) (I : Int) (need : Nat) (hp : PrAt g w nv l bs av bv) (ha : AtEx l i e) (hI : I = (i : Int))
    (hln : bs.length + (parenT (decide (levelK e.kind < need)) (nodeT fmtI e)).length ≤ 2000000) (_hneed : need ≤ 10) :
    Calls Tryz.prog 58 #[.pointer (some ⟨g, 0, none⟩), .int .i64 I, .int .i64 (need : Int)] w fun r w' => r = .returned (.tuple #[]) ∧ Wrote g nv l bs (parenT (decide (levelK e.kind < need)) (nodeT fmtI e)) w w' := by
  subst hI
  obtain ⟨ka, kb, kn, kt, hnd, hk1, hk2⟩ := ha.root hgd
  have hi := ha.lt.1
  have HP := Lib.hid hp
  obtain ⟨c0, _, _, _, _, _, hg⟩ := hp.blk.three'
  obtain ⟨A, c, rfl, hc⟩ := hp.nodes
  obtain ⟨b, o, rfl, _, hb, hc⟩ := hc (by omega)
  have hat := hc i hi
  rw [List.getElem?_eq_getElem hi] at hnd
  injection hnd with hnd
  rw [hnd] at hat
  obtain ⟨k0, k1, k2, k3, k4⟩ := hat
  simp only at k0 k1 k2 k3 k4
  have HLV := Lib.hid (fun W => plevel_any W (e.kind : Int) ka kb kn kt)
  rw [levelI_nat e.kind hk1 hk2] at HLV
  have HN := Lib.hid (fun W bs' av' bv' h hl => hn g W (.slice (some ⟨b, o, none⟩) l.length c) bs' av' bv' i (i : Int) h ha rfl hl)
  have hst : str kt = .string ⟨kt.toArray⟩ := rfl
  rw [hst] at k4 HLV
  generalize (⟨kt.toArray⟩ : ByteArray) = tb at *
  obtain ⟨lv, hlv⟩ : ∃ lv, lv = levelK e.kind := ⟨_, rfl⟩
  rw [← hlv] at HLV hln ⊢
  generalize (e.kind : Int) = ek at *
  generalize nodeT fmtI e = s at *
  have hi0 : (0 : Int) ≤ (i : Int) := by omega
  have hil : (i : Int) < (l.length : Int) := by omega
  clear hn hgd hp ha hc hnd hk1 hk2 hlv hst
  by_cases hlt : lv < need
  · have hd : decide (lv < need) = true := decide_eq_true hlt
    have hdi : ¬ (need : Int) ≤ (lv : Int) := by omega
    have hde : decide ((lv : Int) ≥ (need : Int)) = false := decide_eq_false (by omega)
    rw [hd] at hln ⊢
    have HLN : Hid (bs.length + s.length + 2 ≤ 2000000) := Lib.hid (by simp [parenT] at hln; omega)
    have W40 := wc40 g (.slice (some ⟨b, o, none⟩) l.length c) l
    have W41 := wc41 g (.slice (some ⟨b, o, none⟩) l.length c) l
    clear hd hlt _hneed hln
    go_enter Tryz.func58, Tryz.ntmps58
    go_wp2_with fail
    refine (HLV.out _).mono ?_
    rintro r w1 ⟨rfl, hx1⟩
    have HX1 := Lib.hid hx1
    have HP1 := Lib.hid (HP.out.keep hx1)
    clear hx1 k0 k1 k2 k3 k4 c0
    go_wp2_with fail
    refine (W40.out _ _ _ _ HP1.out (by have := HLN.out; omega)).mono ?_
    rintro r w2 ⟨rfl, av2, bv2, hp2, hkw2⟩
    have HP2 := Lib.hid hp2
    have HK2 := Lib.hid ((KW.of_ext HX1.out).trans hkw2)
    clear hp2 hkw2
    go_wp2_with fail
    refine (HN.out _ _ _ _ HP2.out (by have := HLN.out; simp; omega)).mono ?_
    rintro r w3 ⟨rfl, av3, bv3, hp3, hkw3⟩
    have HP3 := Lib.hid hp3
    have HK3 := Lib.hid (HK2.out.trans hkw3)
    clear hp3 hkw3
    go_wp2_with fail
    refine (W41.out _ _ _ _ HP3.out (by have := HLN.out; simp; omega)).mono ?_
    rintro r w4 ⟨rfl, av4, bv4, hp4, hkw4⟩
    have HE := Lib.hid (Wrote.mk (hp4.as (by simp only [List.append_assoc]; rfl)) (HK3.out.trans hkw4) (show [40] ++ (s ++ [41]) = parenT true s from rfl))
    clear hp4 hkw4
    go_wp2_with fail
    go_end0
    exact ⟨rfl, HE.out⟩
  · have hd : decide (lv < need) = false := decide_eq_false hlt
    have hdi : (need : Int) ≤ (lv : Int) := by omega
    have hde : decide ((lv : Int) ≥ (need : Int)) = true := decide_eq_true (by omega)
    rw [hd] at hln ⊢
    have HLN : Hid (bs.length + s.length ≤ 2000000) := Lib.hid (by simpa [parenT] using hln)
    clear hd hlt _hneed hln
    go_enter Tryz.func58, Tryz.ntmps58
    go_wp2_with fail
    refine (HLV.out _).mono ?_
    rintro r w1 ⟨rfl, hx1⟩
    have HX1 := Lib.hid hx1
    have HP1 := Lib.hid (HP.out.keep hx1)
    clear hx1 k0 k1 k2 k3 k4 c0
    go_wp2_with fail
    refine (HN.out _ _ _ _ HP1.out (by have := HLN.out; omega)).mono ?_
    rintro r w2 ⟨rfl, av2, bv2, hp2, hkw2⟩
    have HE := Lib.hid (Wrote.mk hp2 ((KW.of_ext HX1.out).trans hkw2) (show s = parenT false s from rfl))
    clear hp2 hkw2
    go_wp2_with fail
    refine bodyPost_ret (results_none rfl _ _ _) rfl ?_
    exact ⟨rfl, HE.out⟩
end Big
end Go.Proofs.YtgopljllknbelaaGreatDoor
