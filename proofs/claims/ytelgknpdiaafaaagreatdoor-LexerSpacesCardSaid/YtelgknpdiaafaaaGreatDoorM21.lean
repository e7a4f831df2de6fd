import Derived.Test.YtelgknpdiaafaaaGreatDoorM19
import Derived.Test.YtelgknpdiaafaaaGreatDoorM6
import Derived.Test.YtelgknpdiaafaaaGreatDoorM20
import Derived.Test.YtelgknpdiaafaaaGreatDoorM8
import Derived.Deep.RegionHeld3
import Derived.Deep.RegionLaw
/- ref05.Of. -/
namespace Go.Proofs.YtelgknpdiaafaaaGreatDoor
namespace Big
open Go.RowKit
theorem limbs_small {n : Nat} (hn : n ≤ 1000000) : (limbs n).length ≤ 1 := by
  have h := limbs_mono (a := n) (b := 1000000) hn
  have h2 : (limbs 1000000).length = 1 := by decide +kernel
  omega
theorem r5of_pos (w : World) (n : Nat) (hn : n ≤ 1000000) :
    Calls Tryz.prog 50 #[.int .i64 (n : Int)] w fun e w' => ∃ v', e = .returned v' ∧ ArrInt w' v' (n : Int) ∧ Ext w w' := by
  have HT := Lib.hid (fun W => rof_any W n (by omega))
  have HSG := Lib.hid (show sgn false n = (n : Int) by unfold sgn; simp)
  go_enter Tryz.func50, Tryz.ntmps50
  go_wp2_with fail
  refine (HT.out _).mono ?_
  rintro e w1 ⟨v1, rfl, ho, hx⟩
  have HNT := Lib.hid (rnat_any w1 false v1 (limbs n) ho.arr (by have := limbs_small hn; omega))
  rw [val_limbs, HSG.out] at HNT
  have HX1 := Lib.hid (((Ext.refl w).alloc (.cells #[Value.bool false, Value.slice none 0 0] 55)).trans hx)
  have HB1 := Lib.hid ((Blk.new w 55 #[Value.bool false, Value.slice none 0 0]).ext hx)
  obtain ⟨A1, c1, hv1, _⟩ := ho.2
  rw [List.length_map] at hv1
  obtain ⟨n1, hn1⟩ : ∃ n1, n1 = (limbs n).length := ⟨_, rfl⟩
  rw [← hn1] at hv1
  subst hv1
  clear ho hx hn1
  go_wp2_with fail
  refine HNT.out.mono ?_
  rintro e w2 ⟨v2, rfl, hi, hx2⟩
  have HI := Lib.hid hi
  have HLT := Lib.hid HB1.out.lt
  obtain ⟨m2, hv2, hm2⟩ := hi
  obtain ⟨A2, c2, hv3, _⟩ := hm2.2
  subst hv3
  generalize (List.map d32 (limbs ((n : Int)).natAbs)).length = n2 at *
  generalize decide ((n : Int) < 0) = bb at *
  subst hv2
  have HX2 := Lib.hid (HX1.out.trans hx2)
  have hbk := HB1.out.ext hx2
  obtain ⟨k0, k1, f0, f1, hz2⟩ := hbk.two
  have HB := Lib.hid hbk
  clear hx2 hbk hm2
  go_wp2_with fail
  obtain ⟨hr0, hr1⟩ := two_set' HB.out (.bool bb) (.slice A2 n2 c2)
  refine bodyPost_ret (v := .agg #[.bool bb, .slice A2 n2 c2]) (by simp [results, Tryz.results50, go_sem, hr0, hr1]) rfl ?_
  exact ⟨_, rfl, ((HI.out.far (p := ⟨w.heap.size, 0, none⟩) HLT.out _).far (p := ⟨w.heap.size, 1, none⟩) HLT.out _).arr, (HX2.out.setCell (p := ⟨w.heap.size, 0, none⟩) (Nat.le_refl _) _).setCell (p := ⟨w.heap.size, 1, none⟩) (Nat.le_refl _) _⟩
theorem r5of_neg (w : World) (n : Nat) (hn : n ≤ 1000000) (h0 : 1 ≤ n) :
    Calls Tryz.prog 50 #[.int .i64 (-(n : Int))] w fun e w' => ∃ v', e = .returned v' ∧ ArrInt w' v' (-(n : Int)) ∧ Ext w w' := by
  have HT := Lib.hid (fun W => rof_any W n (by omega))
  have HSG := Lib.hid (show sgn true n = -(n : Int) by unfold sgn; simp)
  have hz : -(n : Int) < 0 := by omega
  have hw : ∀ x : Int, IntKind.u64.wrap x = x % 18446744073709551616 := fun x => by simp [IntKind.wrap, IntKind.bits, IntKind.signed]
  have hwn : IntKind.u64.wrap (-IntKind.u64.wrap (-(n : Int))) = (n : Int) := by rw [hw, hw]; omega
  clear hw
  go_enter Tryz.func50, Tryz.ntmps50
  go_wp2_with fail
  refine (HT.out _).mono ?_
  rintro e w1 ⟨v1, rfl, ho, hx⟩
  have HNT := Lib.hid (rnat_any w1 true v1 (limbs n) ho.arr (by have := limbs_small hn; omega))
  rw [val_limbs, HSG.out] at HNT
  have HX1 := Lib.hid (((Ext.refl w).alloc (.cells #[Value.bool false, Value.slice none 0 0] 55)).trans hx)
  have HB1 := Lib.hid ((Blk.new w 55 #[Value.bool false, Value.slice none 0 0]).ext hx)
  obtain ⟨A1, c1, hv1, _⟩ := ho.2
  rw [List.length_map] at hv1
  obtain ⟨n1, hn1⟩ : ∃ n1, n1 = (limbs n).length := ⟨_, rfl⟩
  rw [← hn1] at hv1
  subst hv1
  clear ho hx hn1
  go_wp2_with fail
  refine HNT.out.mono ?_
  rintro e w2 ⟨v2, rfl, hi, hx2⟩
  have HI := Lib.hid hi
  have HLT := Lib.hid HB1.out.lt
  obtain ⟨m2, hv2, hm2⟩ := hi
  obtain ⟨A2, c2, hv3, _⟩ := hm2.2
  subst hv3
  generalize (List.map d32 (limbs (-(n : Int)).natAbs)).length = n2 at *
  generalize decide (-(n : Int) < 0) = bb at *
  subst hv2
  have HX2 := Lib.hid (HX1.out.trans hx2)
  have hbk := HB1.out.ext hx2
  obtain ⟨k0, k1, f0, f1, hz2⟩ := hbk.two
  have HB := Lib.hid hbk
  clear hx2 hbk hm2
  go_wp2_with fail
  obtain ⟨hr0, hr1⟩ := two_set' HB.out (.bool bb) (.slice A2 n2 c2)
  refine bodyPost_ret (v := .agg #[.bool bb, .slice A2 n2 c2]) (by simp [results, Tryz.results50, go_sem, hr0, hr1]) rfl ?_
  exact ⟨_, rfl, ((HI.out.far (p := ⟨w.heap.size, 0, none⟩) HLT.out _).far (p := ⟨w.heap.size, 1, none⟩) HLT.out _).arr, (HX2.out.setCell (p := ⟨w.heap.size, 0, none⟩) (Nat.le_refl _) _).setCell (p := ⟨w.heap.size, 1, none⟩) (Nat.le_refl _) _⟩
end Big
end Go.Proofs.YtelgknpdiaafaaaGreatDoor
/- ref20.operand, from node's contract. -/
namespace Go.Proofs.YtelgknpdiaafaaaGreatDoor
namespace Big
open Go.RowKit
/-- node's contract at the tree e of the list l. -/
def NodeC (l : List Nd) (e : Ex) : Prop :=
  ∀ (w : World) (v : Value) (i : Nat) (I : Int), RNd w v l → AtEx l i e → I = (i : Int) →
    Calls Tryz.prog 30 #[v, .int .i64 I] w fun r w' => r = .returned (str (nodeT fmtI e)) ∧ Ext w w'
theorem AtEx.node {l : List Nd} {i : Nat} {e : Ex} (h : AtEx l i e) : ∃ hi : i < l.length, l[i].kind = (e.kind : Int) := by
  have hi := h.lt.1
  refine ⟨hi, ?_⟩
  have h2 : ∃ nd, l[i]? = some nd ∧ nd.kind = (e.kind : Int) := by
    cases e with
    | leaf k t => exact ⟨_, h.leaf, rfl⟩
    | un k n x => exact ⟨_, h.un.2.1, rfl⟩
    | bin k x y => obtain ⟨j, _, h3, _⟩ := h.bin; exact ⟨_, h3, rfl⟩
  obtain ⟨nd, h3, h4⟩ := h2
  rw [List.getElem?_eq_getElem hi] at h3
  injection h3 with h3
  rw [h3, h4]
theorem Ex.Good.kinds {e : Ex} (h : e.Good) : 1 ≤ e.kind ∧ e.kind ≤ 16 := by
  cases e with
  | leaf k t => unfold Ex.Good at h; show 1 ≤ k ∧ k ≤ 16; omega
  | un k n x => obtain ⟨h1, _⟩ := h; show 1 ≤ k ∧ k ≤ 16; omega
  | bin k x y => obtain ⟨h1, _⟩ := h; show 1 ≤ k ∧ k ≤ 16; omega
set_option maxRecDepth 100000 in
theorem operand_any (l : List Nd) (e : Ex) (hn : NodeC l e) (hg : e.Good) (hs : (nodeT fmtI e).length ≤ 1000000) (hl : l.length ≤ 1000000)
    (w : World) (v : Value) (i : Nat) (I : Int) (m : Nat) (hr : RNd w v l) (ha : AtEx l i e) (hI : I = (i : Int)) :
    Calls Tryz.prog 48 #[v, .int .i64 I, .int .i64 (m : Int)] w fun r w' => r = .returned (str (parenT (decide (levelK e.kind < m)) (nodeT fmtI e))) ∧ Ext w w' := by
  subst hI
  have HN := Lib.hid (hn w v i (i : Int) hr ha rfl)
  obtain ⟨hi, hk⟩ := ha.node
  obtain ⟨hk1, hk2⟩ := hg.kinds
  obtain ⟨A, c, rfl, hc⟩ := hr
  obtain ⟨b, o, rfl, hb, hc⟩ := hc (by omega)
  have hat := hc i hi
  generalize l[i] = nd at *
  obtain ⟨kd, na, nb, nn, nt⟩ := nd
  simp only at hk
  subst hk
  have HL := Lib.hid (fun W => level_any W e.kind na nb nn nt hk1 hk2)
  have HAT := Lib.hid hat
  generalize levelK e.kind = lv at *
  generalize e.kind = k at *
  generalize nodeT fmtI e = s at *
  have hadd1 : ∀ W : World, (binOp .add 9 (.string ⟨#[40]⟩) (str s)).run Tryz.prog W = .ok (str (40 :: s)) W := fun W => run_add_str [40] s (by simp; omega) W
  have hadd2 : ∀ W : World, (binOp .add 9 (str (40 :: s)) (.string ⟨#[41]⟩)).run Tryz.prog W = .ok (str (40 :: (s ++ [41]))) W := fun W => run_add_str (40 :: s) [41] (by simp; omega) W
  clear hn ha hg hc hat
  go_enter Tryz.func48, Tryz.ntmps48
  go_wp2_with fail
  refine HN.out.mono ?_
  rintro r w1 ⟨rfl, hx1⟩
  obtain ⟨k0, k1, k2, k3, k4⟩ := HAT.out.ext hx1 hb
  have HX1 := Lib.hid hx1
  clear hx1
  simp only at k0 k1 k2 k3 k4
  go_wp2_with fail
  refine (HL.out _).mono ?_
  rintro r w2 ⟨rfl, hx2⟩
  have HX2 := Lib.hid (HX1.out.trans hx2)
  clear hx2 k0 k1 k2 k3 k4
  by_cases hlv : lv < m
  · have hli : (lv : Int) < (m : Int) := by omega
    have HP : Hid (parenT (decide (lv < m)) s = 40 :: (s ++ [41])) := Lib.hid (by rw [decide_eq_true hlv]; rfl)
    clear hlv
    go_wp2_with fail
    go_ret
    exact ⟨by rw [HP.out]; rfl, HX2.out⟩
  · have hli : ¬ (lv : Int) < (m : Int) := by omega
    have HP : Hid (parenT (decide (lv < m)) s = s) := Lib.hid (by rw [decide_eq_false hlv]; rfl)
    clear hlv
    go_wp2_with fail
    go_ret
    exact ⟨by rw [HP.out]; rfl, HX2.out⟩
end Big
end Go.Proofs.YtelgknpdiaafaaaGreatDoor
/- ref20.node: leaves, minus. -/
namespace Go.Proofs.YtelgknpdiaafaaaGreatDoor
namespace Big
open Go.RowKit
theorem Blk.five {w : World} {g : Nat} {t : TypeId} {a b c d e : Value} (h : Blk w g t #[a, b, c, d, e]) : w.cell? ⟨g, 0, none⟩ = some a ∧ w.cell? ⟨g, 1, none⟩ = some b ∧ w.cell? ⟨g, 2, none⟩ = some c ∧ w.cell? ⟨g, 3, none⟩ = some d ∧ w.cell? ⟨g, 4, none⟩ = some e :=
  ⟨h.cell 0, h.cell 1, h.cell 2, h.cell 3, h.cell 4⟩
set_option maxRecDepth 100000 in
theorem node_leaf (l : List Nd) (k : Nat) (t : List UInt8) (hg : (Ex.leaf k t).Good) : NodeC l (.leaf k t) := by
  intro w v i I hr ha hI
  subst hI
  obtain ⟨A, c, rfl, hc⟩ := hr
  have hi := ha.lt.1
  obtain ⟨b, o, rfl, hb, hc⟩ := hc (by omega)
  have hat := hc i hi
  have hnd := ha.leaf
  rw [List.getElem?_eq_getElem hi] at hnd
  injection hnd with hnd
  rw [hnd] at hat
  obtain ⟨k0, k1, k2, k3, k4⟩ := hat
  simp only at k0 k1 k2 k3 k4
  have hst : str t = .string ⟨t.toArray⟩ := rfl
  rw [hst] at k4
  have hsr : ∀ s : ByteArray, s = ⟨t.toArray⟩ → str t = .string s := fun s h => by rw [h]; rfl
  have key : (k = 1 ∨ k = 2) ∨ k = 3 ∨ k = 4 := by unfold Ex.Good at hg; omega
  have HSR := Lib.hid hsr
  clear hg hc hnd ha hst hsr
  obtain ⟨s, hs⟩ : ∃ s : ByteArray, s = ⟨t.toArray⟩ := ⟨_, rfl⟩
  rw [← hs] at k4
  have HS := Lib.hid (HSR.out s hs)
  clear hs HSR
  rcases key with hk | hk | hk
  · have HT : Hid (nodeT fmtI (.leaf k t) = t) := Lib.hid (by unfold nodeT; rw [if_neg (by omega), if_neg (by omega)])
    rcases hk with rfl | rfl
    all_goals
      go_enter Tryz.func30, Tryz.ntmps30
      go_wp2_with fail
      go_ret
      refine ⟨by rw [HT.out, HS.out]; rfl, ?_⟩
      exact (((Ext.refl w).alloc _).alloc _).alloc _
  · subst hk
    go_enter Tryz.func30, Tryz.ntmps30
    go_wp2_with fail
    go_ret
    exact ⟨rfl, (((Ext.refl w).alloc _).alloc _).alloc _⟩
  · subst hk
    go_enter Tryz.func30, Tryz.ntmps30
    go_wp2_with fail
    go_ret
    exact ⟨rfl, (((Ext.refl w).alloc _).alloc _).alloc _⟩
end Big
end Go.Proofs.YtelgknpdiaafaaaGreatDoor
/- ref20.node: minus, functions. -/
namespace Go.Proofs.YtelgknpdiaafaaaGreatDoor
namespace Big
open Go.RowKit
set_option maxRecDepth 100000 in
theorem node_neg (l : List Nd) (n : Int) (x : Ex) (hx : NodeC l x) (hg : (Ex.un 5 n x).Good) (hs : (nodeT fmtI x).length ≤ 999990) (hl : l.length ≤ 1000000) : NodeC l (.un 5 n x) := by
  intro w v i I hr ha hI
  subst hI
  obtain ⟨h1, hnd, hax⟩ := ha.un
  have hi := ha.lt.1
  have HOPD := Lib.hid (fun W h => operand_any l x hx hg.2.2.2.2 (by omega) hl W v (i - 1) ((i - 1 : Nat) : Int) 3 h hax rfl)
  have HR := Lib.hid hr
  obtain ⟨A, c, rfl, hc⟩ := hr
  obtain ⟨b, o, rfl, hb, hc⟩ := hc (by omega)
  have hat := hc i hi
  rw [List.getElem?_eq_getElem hi] at hnd
  injection hnd with hnd
  rw [hnd] at hat
  obtain ⟨k0, k1, k2, k3, k4⟩ := hat
  simp only at k0 k1 k2 k3 k4
  have hst : str [] = .string ⟨#[]⟩ := rfl
  rw [hst] at k4
  have HT : Hid (nodeT fmtI (.un 5 n x) = 45 :: parenT (decide (levelK x.kind < 3)) (nodeT fmtI x)) := Lib.hid rfl
  have hpl := parenT_len (decide (levelK x.kind < 3)) (nodeT fmtI x)
  have hj : ((i - 1 : Nat) : Int) = (i : Int) - 1 := by omega
  rw [hj] at k1 HOPD
  rw [show ((3 : Nat) : Int) = 3 from rfl] at HOPD
  generalize parenT (decide (levelK x.kind < 3)) (nodeT fmtI x) = s at *
  have hadd1 : ∀ W : World, (binOp .add 9 (.string ⟨#[45]⟩) (str s)).run Tryz.prog W = .ok (str (45 :: s)) W := fun W => run_add_str [45] s (by simp; omega) W
  clear hx hg hc hnd ha hax hst hj
  go_enter Tryz.func30, Tryz.ntmps30
  go_wp2_with fail
  refine (HOPD.out _ (HR.out.ext ((((Ext.refl w).alloc _).alloc _).alloc _))).mono ?_
  rintro r w1 ⟨rfl, hx1⟩
  have HX1 := Lib.hid (Ext.trans ((((Ext.refl w).alloc _).alloc _).alloc _) hx1)
  clear hx1
  go_wp2_with fail
  go_ret
  exact ⟨by rw [HT.out]; rfl, HX1.out⟩
end Big
end Go.Proofs.YtelgknpdiaafaaaGreatDoor
