import Derived.Test.YtgopljllknbelaaGreatDoorM12
import Derived.Test.YtgopljllknbelaaGreatDoorM5
import Derived.Test.YtgopljllknbelaaGreatDoorM1
import Derived.Test.YtgopljllknbelaaGreatDoorM11
import Derived.Test.YtgopljllknbelaaGreatDoorM10
import Derived.Test.YtgopljllknbelaaGreatDoorM6
namespace Go.Proofs.YtgopljllknbelaaGreatDoor
namespace Big
open Go.RowKit

theorem rdigits_any (w : World) (v : Value) (N : Nat) (h : Arr w v (limbs N)) (hn : (limbs N).length ≤ 67108864) :
    Calls Tryz.prog 139 #[v] w fun e w' => e = .returned (str (dec N)) ∧ Ext w w' := by
  have HLEN := Lib.hid (fun m (hm : m ≤ N) => length_limbs_lt (ok_limbs N) (n := m) (by rw [val_limbs]; exact hm))
  have HN := Lib.hid hn
  have HA := Lib.hid h
  have HLN := Lib.hid (show (low N).length ≤ 1073741823 by
    have := length_low_val (ok_limbs N)
    rw [val_limbs] at this
    omega)
  clear h
  go_enter Tryz.func139, Tryz.ntmps139
  go_wp2_with fail
  go_loopg [0, 3] N (fun g a s wr => ∃ t : List UInt8, g ≤ N ∧ Arr wr a (limbs g) ∧ s = str t ∧ (low N).reverse = (low g).reverse ++ t ∧ Ext w wr)
  case atStart => exact ⟨[], Nat.le_refl _, HA.out, rfl, by simp, Ext.refl _⟩
  case round =>
    obtain ⟨t, hg, har, rfl, hlow, hext⟩ := hrel
    have HLOW := Lib.hid hlow; clear hlow
    have HAR := Lib.hid har
    obtain ⟨_, A, c, rfl, hc, hm, _⟩ := har.open
    have HM := Lib.hid hm; clear hm
    rcases Nat.eq_zero_or_pos gk with h0 | h0
    · subst h0
      clear hc har
      simp only [limbs_zero, List.length_nil, low_zero, List.reverse_nil, List.nil_append] at HLOW ⊢
      rcases t with _ | ⟨b, t⟩
      · have HD := Lib.hid (show dec N = [48] by rw [low_nil (List.reverse_eq_nil_iff.1 HLOW.out)]; rfl)
        simp only [str]
        go_wp2_with fail
        go_ret
        exact ⟨congrArg (fun l => Ending.returned (str l)) HD.out.symm, hext⟩
      · have HD := Lib.hid (show dec N = b :: t by rw [dec_pos N (by rintro rfl; simp [low_zero] at HLOW; exact absurd HLOW.out (by simp)), HLOW.out])
        simp only [str]
        go_wp2_with fail
        go_ret
        exact ⟨congrArg (fun l => Ending.returned (str l)) HD.out.symm, hext⟩
    · have hlp : 0 < (limbs gk).length := by rw [limbs_pos gk (by omega)]; simp
      have hll := Nat.le_trans (HLEN.out gk hg) HN.out
      clear har hc
      go_wp2_with fail
      have HOF := rof_any wr 10 (by omega)
      rw [show ((10 : Nat) : Int) = 10 from rfl] at HOF
      refine HOF.mono ?_
      rintro e w1 ⟨v1, rfl, ho1, hx1⟩
      go_wp2_with fail
      have HD := rdivmod_any w1 _ v1 (limbs gk) (limbs 10) (HAR.out.ext hx1) ho1.arr (by omega) (by decide) (by rw [val_limbs]; omega)
      rw [val_limbs, val_limbs] at HD
      refine HD.mono ?_
      rintro e w2 ⟨v2, v3, rfl, ho2, har3, hx2⟩
      have HA2 := Lib.hid ho2.arr
      clear ho2 ho1
      have hr10 := Nat.mod_lt gk (show 0 < 10 by omega)
      have hq10 : gk / 10 < gk := by omega
      have HAH := Lib.hid (low_ahead gk (by omega) t)
      obtain ⟨q, hq⟩ : ∃ q, gk / 10 = q := ⟨_, rfl⟩
      obtain ⟨r, hr⟩ : ∃ r, gk % 10 = r := ⟨_, rfl⟩
      rw [hq] at HA2 hq10 HAH
      rw [hr] at har3 hr10 HAH
      clear hq hr
      have HAR3 := Lib.hid har3
      have htl : t.length ≤ 1073741824 := by
        have h1 := congrArg List.length HLOW.out
        rw [List.length_reverse, List.length_append] at h1
        have := HLN.out
        omega
      have hadd := run_add_digit r hr10 t htl
      obtain ⟨dg, hdg⟩ : ∃ dg, UInt8.ofNat (48 + r) = dg := ⟨_, rfl⟩
      rw [hdg] at hadd HAH
      clear hdg
      obtain ⟨_, A3, c3, rfl, hc3, hm3, hcell⟩ := har3.open
      have HM3 := Lib.hid hm3; clear hm3 har3
      rcases Nat.eq_zero_or_pos r with hr0 | hr0
      · subst hr0
        simp only [limbs_zero, List.length_nil]
        clear hcell hc3
        simp only [Nat.zero_add] at hadd
        go_wp2_with fail
        go_roundg q
        case measure => omega
        case rel => exact ⟨_, by omega, HA2.out, rfl, by rw [HLOW.out]; exact HAH.out, hext.trans (hx1.trans hx2)⟩
      · have hlr : limbs r = [r] := by rw [limbs_pos r (by omega), Nat.mod_eq_of_lt (by omega), Nat.div_eq_of_lt (by omega)]; rfl
        rw [hlr] at hcell hc3 ⊢
        obtain ⟨b, o, rfl, hb, hcell⟩ := hcell (by simp)
        have hx := hcell 0 (by simp)
        simp only [List.length_cons, List.length_nil, d32, List.getD_cons_zero, Nat.add_zero] at hx hc3 ⊢
        clear hcell hlr
        go_wp2_with fail
        go_roundg q
        case measure => omega
        case rel => exact ⟨_, by omega, HA2.out, rfl, by rw [HLOW.out]; exact HAH.out, hext.trans (hx1.trans hx2)⟩
end Big
end Go.Proofs.YtgopljllknbelaaGreatDoor
namespace Go.Proofs.YtgopljllknbelaaGreatDoor
namespace Big
open Go.RowKit

/-- The text of an integer. -/
def fmtI (z : Int) : List UInt8 := if z < 0 then 45 :: dec z.natAbs else dec z.natAbs
theorem length_dec_le {n k : Nat} (hk : 1 ≤ k) (h : (low n).length ≤ k) : (dec n).length ≤ k := by
  unfold dec
  split
  · simpa using hk
  · simpa using h
theorem dec_len (N : Nat) (h : (limbs N).length ≤ 67108864) : (dec N).length ≤ 1073741823 := by
  refine length_dec_le (by omega) ?_
  have := length_low_val (ok_limbs N)
  rw [val_limbs] at this
  omega

theorem rformat_any (w : World) (v : Value) (z : Int) (h : ArrInt w v z) (hn : (limbs z.natAbs).length ≤ 67108864) :
    Calls Tryz.prog 111 #[v] w fun e w' => e = .returned (str (fmtI z)) ∧ Ext w w' := by
  obtain ⟨m, rfl, ha⟩ := h
  have hl := dec_len z.natAbs hn
  have HD := Lib.hid (fun W hx => rdigits_any W m z.natAbs (ha.ext hx) hn)
  obtain ⟨_, A, c, rfl, _⟩ := ha.open
  clear ha
  have hF : fmtI z = if z < 0 then [45] ++ dec z.natAbs else dec z.natAbs := rfl
  have HF := Lib.hid hF; clear hF
  have hadd := run_add_str [45] (dec z.natAbs) (by simp; omega)
  rcases Int.lt_or_le z 0 with hz | hz
  · rw [decide_eq_true hz]
    have HZ := Lib.hid (show (if z < 0 then [45] ++ dec z.natAbs else dec z.natAbs) = [45] ++ dec z.natAbs from if_pos hz)
    clear hz
    generalize dec z.natAbs = dz at *
    generalize (limbs z.natAbs).length = ln at *
    go_enter Tryz.func111, Tryz.ntmps111
    go_wp2_with fail
    refine (HD.out _ ((Ext.refl w).alloc _)).mono ?_
    rintro e w1 ⟨rfl, hx⟩
    simp only [str, List.cons_append, List.nil_append] at hadd ⊢
    go_wp2_with fail
    go_ret
    exact ⟨congrArg (fun l => Ending.returned (str l)) (HF.out.trans HZ.out).symm, ((Ext.refl w).alloc _).trans hx⟩
  · rw [decide_eq_false (by omega)]
    have HZ := Lib.hid (show (if z < 0 then [45] ++ dec z.natAbs else dec z.natAbs) = dec z.natAbs from if_neg (show ¬ z < 0 by omega))
    clear hz
    generalize dec z.natAbs = dz at *
    generalize (limbs z.natAbs).length = ln at *
    go_enter Tryz.func111, Tryz.ntmps111
    go_wp2_with fail
    refine (HD.out _ ((Ext.refl w).alloc _)).mono ?_
    rintro e w1 ⟨rfl, hx⟩
    go_wp2_with fail
    go_ret
    exact ⟨congrArg (fun l => Ending.returned (str l)) (HF.out.trans HZ.out).symm, ((Ext.refl w).alloc _).trans hx⟩
end Big
end Go.Proofs.YtgopljllknbelaaGreatDoor
/- ref05.Of. -/
namespace Go.Proofs.YtgopljllknbelaaGreatDoor
namespace Big
open Go.RowKit
theorem limbs_small {n : Nat} (hn : n ≤ 1000000) : (limbs n).length ≤ 1 := by
  have h := limbs_mono (a := n) (b := 1000000) hn
  have h2 : (limbs 1000000).length = 1 := by decide +kernel
  omega
theorem r5of_pos (w : World) (n : Nat) (hn : n ≤ 1000000) :
    Calls Tryz.prog 112 #[.int .i64 (n : Int)] w fun e w' => ∃ v', e = .returned v' ∧ ArrInt w' v' (n : Int) ∧ Ext w w' := by
  have HT := Lib.hid (fun W => rof_any W n (by omega))
  have HSG := Lib.hid (show sgn false n = (n : Int) by unfold sgn; simp)
  go_enter Tryz.func112, Tryz.ntmps112
  go_wp2_with fail
  refine (HT.out _).mono ?_
  rintro e w1 ⟨v1, rfl, ho, hx⟩
  have HNT := Lib.hid (rnat_any w1 false v1 (limbs n) ho.arr (by have := limbs_small hn; omega))
  rw [val_limbs, HSG.out] at HNT
  have HX1 := Lib.hid (((Ext.refl w).alloc (.cells #[Value.bool false, Value.slice none 0 0] 102)).trans hx)
  have HB1 := Lib.hid ((Blk.new w 102 #[Value.bool false, Value.slice none 0 0]).ext hx)
  obtain ⟨A1, c1, hv1, _⟩ := ho.2
  rw [List.length_map] at hv1
  obtain ⟨n1, hn1⟩ : ∃ n1, n1 = (limbs n).length := ⟨_, rfl⟩
  rw [← hn1] at hv1
  subst hv1
  clear ho hx hn1
  go_wp2_with fail
  refine HNT.out.mono ?_
  rintro e w2 ⟨v2, rfl, hi, hx2⟩
  have HI := Lib.hid hi
  have HLT := Lib.hid HB1.out.lt
  obtain ⟨m2, hv2, hm2⟩ := hi
  obtain ⟨A2, c2, hv3, _⟩ := hm2.2
  subst hv3
  generalize (List.map d32 (limbs ((n : Int)).natAbs)).length = n2 at *
  generalize decide ((n : Int) < 0) = bb at *
  subst hv2
  have HX2 := Lib.hid (HX1.out.trans hx2)
  have hbk := HB1.out.ext hx2
  obtain ⟨k0, k1, f0, f1, hz2⟩ := hbk.two
  have HB := Lib.hid hbk
  clear hx2 hbk hm2
  go_wp2_with fail
  obtain ⟨hr0, hr1⟩ := two_set' HB.out (.bool bb) (.slice A2 n2 c2)
  refine bodyPost_ret (v := .agg #[.bool bb, .slice A2 n2 c2]) (by simp [results, Tryz.results112, go_sem, hr0, hr1]) rfl ?_
  exact ⟨_, rfl, ((HI.out.far (p := ⟨w.heap.size, 0, none⟩) HLT.out _).far (p := ⟨w.heap.size, 1, none⟩) HLT.out _).arr, (HX2.out.setCell (p := ⟨w.heap.size, 0, none⟩) (Nat.le_refl _) _).setCell (p := ⟨w.heap.size, 1, none⟩) (Nat.le_refl _) _⟩
theorem r5of_neg (w : World) (n : Nat) (hn : n ≤ 1000000) (h0 : 1 ≤ n) :
    Calls Tryz.prog 112 #[.int .i64 (-(n : Int))] w fun e w' => ∃ v', e = .returned v' ∧ ArrInt w' v' (-(n : Int)) ∧ Ext w w' := by
  have HT := Lib.hid (fun W => rof_any W n (by omega))
  have HSG := Lib.hid (show sgn true n = -(n : Int) by unfold sgn; simp)
  have hz : -(n : Int) < 0 := by omega
  have hw : ∀ x : Int, IntKind.u64.wrap x = x % 18446744073709551616 := fun x => by simp [IntKind.wrap, IntKind.bits, IntKind.signed]
  have hwn : IntKind.u64.wrap (-IntKind.u64.wrap (-(n : Int))) = (n : Int) := by rw [hw, hw]; omega
  clear hw
  go_enter Tryz.func112, Tryz.ntmps112
  go_wp2_with fail
  refine (HT.out _).mono ?_
  rintro e w1 ⟨v1, rfl, ho, hx⟩
  have HNT := Lib.hid (rnat_any w1 true v1 (limbs n) ho.arr (by have := limbs_small hn; omega))
  rw [val_limbs, HSG.out] at HNT
  have HX1 := Lib.hid (((Ext.refl w).alloc (.cells #[Value.bool false, Value.slice none 0 0] 102)).trans hx)
  have HB1 := Lib.hid ((Blk.new w 102 #[Value.bool false, Value.slice none 0 0]).ext hx)
  obtain ⟨A1, c1, hv1, _⟩ := ho.2
  rw [List.length_map] at hv1
  obtain ⟨n1, hn1⟩ : ∃ n1, n1 = (limbs n).length := ⟨_, rfl⟩
  rw [← hn1] at hv1
  subst hv1
  clear ho hx hn1
  go_wp2_with fail
  refine HNT.out.mono ?_
  rintro e w2 ⟨v2, rfl, hi, hx2⟩
  have HI := Lib.hid hi
  have HLT := Lib.hid HB1.out.lt
  obtain ⟨m2, hv2, hm2⟩ := hi
  obtain ⟨A2, c2, hv3, _⟩ := hm2.2
  subst hv3
  generalize (List.map d32 (limbs (-(n : Int)).natAbs)).length = n2 at *
  generalize decide (-(n : Int) < 0) = bb at *
  subst hv2
  have HX2 := Lib.hid (HX1.out.trans hx2)
  have hbk := HB1.out.ext hx2
  obtain ⟨k0, k1, f0, f1, hz2⟩ := hbk.two
  have HB := Lib.hid hbk
  clear hx2 hbk hm2
  go_wp2_with fail
  obtain ⟨hr0, hr1⟩ := two_set' HB.out (.bool bb) (.slice A2 n2 c2)
  refine bodyPost_ret (v := .agg #[.bool bb, .slice A2 n2 c2]) (by simp [results, Tryz.results112, go_sem, hr0, hr1]) rfl ?_
  exact ⟨_, rfl, ((HI.out.far (p := ⟨w.heap.size, 0, none⟩) HLT.out _).far (p := ⟨w.heap.size, 1, none⟩) HLT.out _).arr, (HX2.out.setCell (p := ⟨w.heap.size, 0, none⟩) (Nat.le_refl _) _).setCell (p := ⟨w.heap.size, 1, none⟩) (Nat.le_refl _) _⟩
end Big
end Go.Proofs.YtgopljllknbelaaGreatDoor
/- ref20.operand, from node's contract. -/
namespace Go.Proofs.YtgopljllknbelaaGreatDoor
namespace Big
open Go.RowKit
/-- node's contract at the tree e of the list l. -/
def NodeC (l : List Nd) (e : Ex) : Prop :=
  ∀ (w : World) (v : Value) (i : Nat) (I : Int), RNd w v l → AtEx l i e → I = (i : Int) →
    Calls Tryz.prog 77 #[v, .int .i64 I] w fun r w' => r = .returned (str (nodeT fmtI e)) ∧ Ext w w'
theorem AtEx.node {l : List Nd} {i : Nat} {e : Ex} (h : AtEx l i e) : ∃ hi : i < l.length, l[i].kind = (e.kind : Int) := by
  have hi := h.lt.1
  refine ⟨hi, ?_⟩
  have h2 : ∃ nd, l[i]? = some nd ∧ nd.kind = (e.kind : Int) := by
    cases e with
    | leaf k t => exact ⟨_, h.leaf, rfl⟩
    | un k n x => exact ⟨_, h.un.2.1, rfl⟩
    | bin k x y => obtain ⟨j, _, h3, _⟩ := h.bin; exact ⟨_, h3, rfl⟩
  obtain ⟨nd, h3, h4⟩ := h2
  rw [List.getElem?_eq_getElem hi] at h3
  injection h3 with h3
  rw [h3, h4]
theorem Ex.Good.kinds {e : Ex} (h : e.Good) : 1 ≤ e.kind ∧ e.kind ≤ 16 := by
  cases e with
  | leaf k t => unfold Ex.Good at h; show 1 ≤ k ∧ k ≤ 16; omega
  | un k n x => obtain ⟨h1, _⟩ := h; show 1 ≤ k ∧ k ≤ 16; omega
  | bin k x y => obtain ⟨h1, _⟩ := h; show 1 ≤ k ∧ k ≤ 16; omega
set_option maxRecDepth 100000 in
theorem operand_any (l : List Nd) (e : Ex) (hn : NodeC l e) (hg : e.Good) (hs : (nodeT fmtI e).length ≤ 1000000) (hl : l.length ≤ 1000000)
    (w : World) (v : Value) (i : Nat) (I : Int) (m : Nat) (hr : RNd w v l) (ha : AtEx l i e) (hI : I = (i : Int)) :
    Calls Tryz.prog 110 #[v, .int .i64 I, .int .i64 (m : Int)] w fun r w' => r = .returned (str (parenT (decide (levelK e.kind < m)) (nodeT fmtI e))) ∧ Ext w w' := by
  subst hI
  have HN := Lib.hid (hn w v i (i : Int) hr ha rfl)
  obtain ⟨hi, hk⟩ := ha.node
  obtain ⟨hk1, hk2⟩ := hg.kinds
  obtain ⟨A, c, rfl, hc⟩ := hr
  obtain ⟨b, o, rfl, hb, hc⟩ := hc (by omega)
  have hat := hc i hi
  generalize l[i] = nd at *
  obtain ⟨kd, na, nb, nn, nt⟩ := nd
  simp only at hk
  subst hk
  have HL := Lib.hid (fun W => level_any W e.kind na nb nn nt hk1 hk2)
  have HAT := Lib.hid hat
  generalize levelK e.kind = lv at *
  generalize e.kind = k at *
  generalize nodeT fmtI e = s at *
  have hadd1 : ∀ W : World, (binOp .add 9 (.string ⟨#[40]⟩) (str s)).run Tryz.prog W = .ok (str (40 :: s)) W := fun W => run_add_str [40] s (by simp; omega) W
  have hadd2 : ∀ W : World, (binOp .add 9 (str (40 :: s)) (.string ⟨#[41]⟩)).run Tryz.prog W = .ok (str (40 :: (s ++ [41]))) W := fun W => run_add_str (40 :: s) [41] (by simp; omega) W
  clear hn ha hg hc hat
  go_enter Tryz.func110, Tryz.ntmps110
  go_wp2_with fail
  refine HN.out.mono ?_
  rintro r w1 ⟨rfl, hx1⟩
  obtain ⟨k0, k1, k2, k3, k4⟩ := HAT.out.ext hx1 hb
  have HX1 := Lib.hid hx1
  clear hx1
  simp only at k0 k1 k2 k3 k4
  go_wp2_with fail
  refine (HL.out _).mono ?_
  rintro r w2 ⟨rfl, hx2⟩
  have HX2 := Lib.hid (HX1.out.trans hx2)
  clear hx2 k0 k1 k2 k3 k4
  by_cases hlv : lv < m
  · have hli : (lv : Int) < (m : Int) := by omega
    have HP : Hid (parenT (decide (lv < m)) s = 40 :: (s ++ [41])) := Lib.hid (by rw [decide_eq_true hlv]; rfl)
    clear hlv
    go_wp2_with fail
    go_ret
    exact ⟨by rw [HP.out]; rfl, HX2.out⟩
  · have hli : ¬ (lv : Int) < (m : Int) := by omega
    have HP : Hid (parenT (decide (lv < m)) s = s) := Lib.hid (by rw [decide_eq_false hlv]; rfl)
    clear hlv
    go_wp2_with fail
    go_ret
    exact ⟨by rw [HP.out]; rfl, HX2.out⟩
end Big
end Go.Proofs.YtgopljllknbelaaGreatDoor
