import Derived.Test.YtaccjdbbkmhanaaGreatDoorM32
import Derived.Test.YtaccjdbbkmhanaaGreatDoorM29
import Derived.Test.YtaccjdbbkmhanaaGreatDoorM21
import Derived.Test.YtaccjdbbkmhanaaGreatDoorM31
import Derived.Test.YtaccjdbbkmhanaaGreatDoorM24
/- The reference's Parse. -/
namespace Go.Proofs.YtaccjdbbkmhanaaGreatDoor
namespace Big
open Go.RowKit
set_option maxHeartbeats 2000000 in
set_option maxRecDepth 100000 in
theorem rparse_any (w : World) (s : List UInt8) (hm : MaxV w) : Calls Tryz.prog 25 #[str s] w (ParseP w s) := by
  have HSC := Lib.hid (rscan_any w s hm)
  have HM := Lib.hid hm
  have HFI := Lib.hid (scanT_fine s)
  have hll := scanT_len s
  have HPR : Hid (parseR s = if (scanT s).2.2 ≠ 0 then (none, (scanT s).2.1, (scanT s).2.2)
    else if (pSum (scanT s).1 ((scanT s).1.length + 1) 0).2 < (scanT s).1.length then (none, ((scanT s).1.getD (pSum (scanT s).1 ((scanT s).1.length + 1) 0).2 ⟨0, 0, []⟩).at_, 6)
    else match (pSum (scanT s).1 ((scanT s).1.length + 1) 0).1 with
      | none => (none, s.length, 6)
      | some x => if x.big = false ∧ x.size ≤ 200 ∧ x.depth ≤ 40 then (some x, s.length, 0) else (none, 0, 7)) := Lib.hid rfl
  unfold ScanRes at HSC
  unfold ParseP
  generalize parseR s = R at *
  generalize (scanT s).2.1 = sk at *
  generalize (scanT s).2.2 = se at *
  generalize (scanT s).1 = ts at *
  clear hm
  by_cases he0 : se = 0
  · subst he0
    have hred : (if (0 : Nat) ≠ 0 then ((none : Option Ex), sk, (0 : Nat)) else if (pSum ts (ts.length + 1) 0).2 < ts.length then (none, (ts.getD (pSum ts (ts.length + 1) 0).2 ⟨0, 0, []⟩).at_, 6) else match (pSum ts (ts.length + 1) 0).1 with | none => (none, s.length, 6) | some x => if x.big = false ∧ x.size ≤ 200 ∧ x.depth ≤ 40 then (some x, s.length, 0) else (none, 0, 7)) = (if (pSum ts (ts.length + 1) 0).2 < ts.length then (none, (ts.getD (pSum ts (ts.length + 1) 0).2 ⟨0, 0, []⟩).at_, 6) else match (pSum ts (ts.length + 1) 0).1 with | none => (none, s.length, 6) | some x => if x.big = false ∧ x.size ≤ 200 ∧ x.depth ≤ 40 then (some x, s.length, 0) else (none, 0, 7)) := by rw [if_neg (by simp)]
    have HPR2 := Lib.hid (HPR.out.trans hred)
    clear HPR hred
    have hwell := pSum_well HFI.out (ts.length + 1)
    have hgood := pSum_good ts (ts.length + 1) 0 (Nat.zero_le _)
    have hz : (((0 : Nat) : Int)) = 0 := rfl
    rw [hz] at HSC
    clear hz
    obtain ⟨n, hn⟩ : ∃ n, n = ts.length := ⟨_, rfl⟩
    have HN := Lib.hid hn
    rw [← hn] at HSC
    clear hn
    go_enter Tryz.func25, Tryz.ntmps25
    go_wp2_with fail
    refine HSC.out.mono ?_
    rintro e w1 ⟨v1, rfl, hr1, hx1⟩
    have htr : TokRow w1 v1 ts := TokRow.of (by rw [HN.out] at hr1; exact hr1)
    obtain ⟨A1, c1, rfl⟩ := ownsRow_shape hr1
    obtain ⟨w2, hw2⟩ : ∃ w2, w2 = w1.alloc (.cells #[.slice A1 n c1, .int .i64 0, .bool false, .slice none 0 0, .bool false] 90) := ⟨_, rfl⟩
    have hx12 : Ext w1 w2 := by rw [hw2]; exact (Ext.refl w1).alloc _
    have HX2 := Lib.hid (hx1.trans hx12)
    have HMW := Lib.hid (HM.out.ext (hx1.trans hx12))
    have hrd : RdR w1.heap.size w2 ts 0 false [] false (.slice A1 n c1) (.slice none 0 0) := ⟨by rw [hw2]; exact Blk.new w1 _ _, OwnNd.nil _ _, (TokAt.of htr).below hx12, Nat.zero_le _, Nat.zero_le _, hll⟩
    have HRD := Lib.hid hrd
    have HTA := Lib.hid ((TokAt.of htr).below hx12)
    have HSUM := Lib.hid (rsum_any w1.heap.size ts (.slice A1 n c1) HFI.out (ts.length + 1) 0 (by omega) w2 [] false (.slice none 0 0) hrd)
    have HG1 : Hid (w.heap.size ≤ w1.heap.size) := Lib.hid hx1.size
    clear hr1 hx1 htr hx12 hrd
    go_upto_region 5 with fail
    rw [← hw2]
    clear hw2
    generalize w1.heap.size = g at *
    go_wp2_with fail
    refine HSUM.out.mono ?_
    intro e w3 hpost
    obtain ⟨r, hr⟩ : ∃ r, pSum ts (ts.length + 1) 0 = r := ⟨_, rfl⟩
    rw [hr] at hgood
    have HR := Lib.hid HPR2.out
    rw [hr] at HR
    have hall : ∀ b : Nat, b < ts.length → Hid (∃ A : Addr, True) := fun _ _ => Lib.hid ⟨⟨0, 0, none⟩, trivial⟩
    clear hall
    obtain ⟨_ | x, b⟩ := r
    · obtain ⟨rfl, nv1, ns1, lg1, hrd, hk⟩ := hpost.none_ hr
      have hbw := hk.below (ns := []) (OwnNd.nil _ _) (Nat.le_of_lt HRD.out.blk.lt)
      have HX3 : Hid (Ext w w3) := Lib.hid (HX2.out.more (Below.mono hbw HG1.out))
      obtain ⟨⟨k0, k1, k2, k3, k4⟩, _, hg3⟩ := hrd.blk.five'
      obtain ⟨A9, c9, he9, hc9⟩ := HTA.out.below hbw
      injection he9 with he1 he2 he3
      subst he1
      clear he2 he3
      simp only at HR
      by_cases hb : b < ts.length
      · obtain ⟨bk, hbk, _, _, hcx⟩ := hc9 (by omega)
        clear hc9
        subst hbk
        have q1 := (hcx b hb).2.1
        have hta : (ts.getD b ⟨0, 0, []⟩).at_ = ts[b].at_ := by rw [List.getD_eq_getElem?_getD, List.getElem?_eq_getElem hb]; rfl
        have HRR : Hid (R = (none, ts[b].at_, 6)) := Lib.hid (by rw [HR.out, if_pos hb, hta])
        have hbn : b < n := by rw [HN.out]; exact hb
        have z1 : decide (b < n) = true := decide_eq_true hbn
        generalize ts[b].at_ = ta at *
        clear hpost hr hrd hk hbw hcx hta HR HPR2 hb hgood
        go_wp2_with fail
        go_region
        go_wp2_with fail
        go_ret3
        rw [HRR.out]
        exact ⟨_, rfl, HX3.out.trans (Ext.refl w3).drew, RNd.nil _⟩
      · have HRR : Hid (R = (none, s.length, 6)) := Lib.hid (by rw [HR.out, if_neg hb])
        have hbn : ¬ b < n := by rw [HN.out]; exact hb
        have z1 : decide (b < n) = false := decide_eq_false hbn
        clear hpost hr hrd hk hbw hc9 HR HPR2 hb hgood
        go_wp2_with fail
        go_ret3
        rw [HRR.out]
        exact ⟨_, rfl, HX3.out, RNd.nil _⟩
    · obtain ⟨rfl, nv1, hrd, hk⟩ := hpost.some_ hr
      rw [Bool.false_or] at hrd
      have hw := hwell _ _ _ hr
      have hbw := hk.below (ns := []) (OwnNd.nil _ _) (Nat.le_of_lt HRD.out.blk.lt)
      have HX3 : Hid (Ext w w3) := Lib.hid (HX2.out.more (Below.mono hbw HG1.out))
      obtain ⟨⟨k0, k1, k2, k3, k4⟩, _, hg3⟩ := hrd.blk.five'
      obtain ⟨A9, c9, he9, hc9⟩ := HTA.out.below hbw
      injection he9 with he1 he2 he3
      subst he1
      clear he2 he3
      simp only at HR
      by_cases hb : b < ts.length
      · obtain ⟨bk, hbk, _, _, hcx⟩ := hc9 (by omega)
        clear hc9
        subst hbk
        have q1 := (hcx b hb).2.1
        have hta : (ts.getD b ⟨0, 0, []⟩).at_ = ts[b].at_ := by rw [List.getD_eq_getElem?_getD, List.getElem?_eq_getElem hb]; rfl
        have HRR : Hid (R = (none, ts[b].at_, 6)) := Lib.hid (by rw [HR.out, if_pos hb, hta])
        have hbn : b < n := by rw [HN.out]; exact hb
        have z1 : decide (b < n) = true := decide_eq_true hbn
        generalize ts[b].at_ = ta at *
        clear hpost hr hrd hk hbw hcx hta HR HPR2 hb hgood
        go_wp2_with fail
        go_region
        go_wp2_with fail
        go_ret3
        rw [HRR.out]
        exact ⟨_, rfl, HX3.out.trans (Ext.refl w3).drew, RNd.nil _⟩
      · have hbn : ¬ b < n := by rw [HN.out]; exact hb
        have z1 : decide (b < n) = false := decide_eq_false hbn
        have hrow := hrd.row
        have hfew := hrd.few
        have hble := hrd.le
        rw [List.nil_append, List.length_nil] at hrow hfew
        have HRN := Lib.hid hrow.read
        cases hbg : x.big
        · have hgd := hw.good hbg
          have hvp := validB_flat x hgd
          have HPV := Lib.hid (valid_any w3 nv1 (flat 0 x) hrow.read (by omega) (flat_text_well x hw 0))
          have HRR : Hid (R = if validB (flat 0 x) = true then (some x, s.length, 0) else (none, 0, 7)) := Lib.hid (by
            rw [HR.out, if_neg hb, hvp, hbg]
            simp)
          rw [hbg] at k4
          obtain ⟨A2, c2, m2, rfl, hm2⟩ := hrow.shape3
          generalize validB (flat 0 x) = vb at *
          clear hpost hr hrd hk hbw hc9 HR HPR2 hb hgood hrow hfew hvp hm2 hbg
          cases vb
          · go_wp2_with fail
            refine HPV.out.mono ?_
            rintro e w4 ⟨rfl, hx4⟩
            have HX4 := Lib.hid (HX3.out.trans hx4)
            clear hx4
            go_wp2_with fail
            go_ret3
            rw [HRR.out]
            exact ⟨_, rfl, HX4.out, RNd.nil _⟩
          · go_wp2_with fail
            refine HPV.out.mono ?_
            rintro e w4 ⟨rfl, hx4⟩
            have HX4 := Lib.hid (HX3.out.trans hx4)
            have HRN4 := Lib.hid (HRN.out.ext hx4)
            have hj2 := (hx4.cell (b := g) (o := 3) hg3).trans k3
            clear hx4
            go_wp2_with fail
            go_ret3
            rw [HRR.out]
            exact ⟨_, rfl, HX4.out, HRN4.out⟩
        · have HRR : Hid (R = (none, 0, 7)) := Lib.hid (by
            rw [HR.out, if_neg hb, hbg]
            simp)
          rw [hbg] at k4
          clear hpost hr hrd hk hbw hc9 HR HPR2 hb hgood hrow hfew hbg HRN
          go_wp2_with fail
          go_ret3
          rw [HRR.out]
          exact ⟨_, rfl, HX3.out, RNd.nil _⟩
  · have hse : ((se : Int) != 0) = true := by rw [bne_iff_ne]; omega
    have HR0 : Hid (R = (none, sk, se)) := Lib.hid (by rw [HPR.out, if_pos he0])
    clear HPR HFI
    obtain ⟨sz, hsz⟩ : ∃ sz : Int, sz = (se : Int) := ⟨_, rfl⟩
    rw [← hsz] at hse HSC
    have HSZ := Lib.hid hsz
    clear hsz he0
    go_enter Tryz.func25, Tryz.ntmps25
    go_wp2_with fail
    refine HSC.out.mono ?_
    rintro e w1 ⟨v1, rfl, hr1, hx1⟩
    obtain ⟨A1, c1, rfl⟩ := ownsRow_shape hr1
    have HX1 := Lib.hid hx1
    clear hr1 hx1
    go_wp2_with fail
    go_ret3
    rw [HR0.out]
    exact ⟨_, by rw [HSZ.out]; rfl, HX1.out, RNd.nil _⟩
end Big
end Go.Proofs.YtaccjdbbkmhanaaGreatDoor
/- awake of chapter 21. -/
namespace Go.Proofs.YtaccjdbbkmhanaaGreatDoor
namespace Big
open Go.RowKit
theorem aw21_0 : parseR [120, 32, 43, 32, 120] = (some (.bin 6 (.leaf 2 [120]) (.leaf 2 [120])), 5, 0) := by kernel_rfl
theorem aw21_1 : parseR [120] = (some (.leaf 2 [120]), 1, 0) := by kernel_rfl
def aw21L : List Nd := [⟨2, 0, 0, 0, [120]⟩, ⟨6, 0, 0, 0, []⟩]
theorem aw21_2 : addG [] (.bin 6 (.leaf 2 [120]) (.leaf 2 [120])) = (1, aw21L) := by decide
theorem aw21_3 : addG aw21L (.leaf 2 [120]) = (0, aw21L) := by decide
theorem good_x : (Ex.leaf 2 [120]).Good := .inr (.inl ⟨rfl, by decide⟩)
theorem good_xx : (Ex.bin 6 (.leaf 2 [120]) (.leaf 2 [120])).Good := ⟨⟨by decide, by decide⟩, good_x, good_x⟩
set_option maxHeartbeats 4000000 in
set_option maxRecDepth 100000 in
theorem awake21_any (w : World) (hm : MaxV w) : Calls Tryz.prog 6 #[] w fun e w' => e = .returned (.bool true) ∧ Ext w w' := by
  have HM := Lib.hid hm
  have HNW := Lib.hid (gnew_any w hm)
  have HP0 := Lib.hid (fun W h => rparse_any W [120, 32, 43, 32, 120] h)
  have HP1 := Lib.hid (fun W h => rparse_any W [120] h)
  unfold ParseP at HP0 HP1
  rw [aw21_0] at HP0
  rw [aw21_1] at HP1
  clear hm
  go_enter Tryz.func6, Tryz.ntmps6
  go_wp2_with fail
  refine HNW.out.mono ?_
  rintro e w1 ⟨g, b, rfl, hg1, hx1⟩
  have HX1 := Lib.hid hx1
  have HG1 := Lib.hid hg1
  clear hg1 hx1
  go_wp2_with fail
  refine (HP0.out w1 (HM.out.ext HX1.out)).mono ?_
  rintro e w2 ⟨v2, rfl, hx2, hr2⟩
  have HX2 := Lib.hid (HX1.out.trans hx2)
  have HG2 := Lib.hid (HG1.out.keep hx2)
  have HR2 := Lib.hid hr2
  clear hx2 hr2
  go_wp2_with fail
  refine (HP1.out w2 (HM.out.ext HX2.out)).mono ?_
  rintro e w3 ⟨v3, rfl, hx3, hr3⟩
  have HX3 := Lib.hid (HX2.out.trans hx3)
  have HG3 := Lib.hid (HG2.out.keep hx3)
  have HF2 := Lib.hid (NdFar.none (HR2.out.ext hx3) HG3.out)
  have HF3 := Lib.hid (NdFar.none hr3 HG3.out)
  clear hx3 hr3
  go_wp2_with fail
  refine (add_graph w.heap.size g b w3 [] (.slice none 0 0) v2 (.bin 6 (.leaf 2 [120]) (.leaf 2 [120])) HG3.out HF2.out good_xx (by decide) (by decide) (HM.out.ext HX3.out) (by decide)).mono ?_
  rintro r w4 ⟨nv4, rfl, hk4, hg4⟩
  rw [aw21_2] at hg4 ⊢
  have HF4 := Lib.hid (HF3.out.keep hk4)
  have HM4 : Hid (MaxV w4) := Lib.hid ((HM.out.ext HX3.out).below (hk4.below HG3.out) HG3.out.low)
  have HX4 : Hid (Ext w w4) := Lib.hid (HX3.out.more (hk4.below HG3.out))
  have HG4 := Lib.hid hg4
  clear hk4 hg4
  go_wp2_with fail
  refine (add_graph w.heap.size g b w4 aw21L nv4 v3 (.leaf 2 [120]) HG4.out HF4.out good_x (by decide) (by decide) HM4.out (by decide)).mono ?_
  rintro r w5 ⟨nv5, rfl, hk5, hg5⟩
  rw [aw21_3] at hg5 ⊢
  have HX5 : Hid (Ext w w5) := Lib.hid (HX4.out.more (hk5.below HG4.out))
  have HG5 := Lib.hid hg5
  clear hk5 hg5
  go_wp2_with fail
  refine (put_bad w.heap.size g b w5 aw21L nv5 HG5.out 7 (by decide)).mono ?_
  rintro r w6 ⟨rfl, hx6⟩
  have HX6 := Lib.hid (HX5.out.trans hx6)
  have HGL := Lib.hid (glen_any w.heap.size g b w6 aw21L nv5 (HG5.out.keep hx6))
  clear hx6
  go_wp2_with fail
  refine HGL.out.mono ?_
  rintro r w7 ⟨rfl, rfl⟩
  go_wp2_with fail
  go_ret
  exact ⟨rfl, HX6.out⟩
end Big
end Go.Proofs.YtaccjdbbkmhanaaGreatDoor
/- The reference's Same on nodes; both sides' Parse agree. -/
namespace Go.Proofs.YtaccjdbbkmhanaaGreatDoor
namespace Big
open Go.RowKit
end Big
end Go.Proofs.YtaccjdbbkmhanaaGreatDoor
/- The reference's Same on nodes, decided. Printed by a program. -/
namespace Go.Proofs.YtaccjdbbkmhanaaGreatDoor
namespace Big
open Go.RowKit
/-- Same says whether two lists of nodes agree. -/
def SaysNd (l m : List Nd) (w : World) (e : Ending) (w' : World) : Prop := ∃ r : Bool, e = .returned (.bool r) ∧ (r = true ↔ l = m) ∧ Dr w w'
theorem take_stepN {l m : List Nd} {k : Nat} (h : l.take k = m.take k) (h1 : k < l.length) (h2 : k < m.length) (he : l[k] = m[k]) : l.take (k + 1) = m.take (k + 1) := by
  rw [List.take_succ_eq_append_getElem h1, List.take_succ_eq_append_getElem h2, h, he]
theorem ne_of_getN {l m : List Nd} {k : Nat} (h1 : k < l.length) (h2 : k < m.length) (he : l[k] ≠ m[k]) : l ≠ m := fun e => he (by subst e; rfl)
theorem SaysNd.no {l m : List Nd} {w w' : World} {e : Ending} (he : e = .returned (.bool false)) (h : l ≠ m) (hd : Dr w w') : SaysNd l m w e w' := ⟨false, he, ⟨fun h' => Bool.noConfusion h', fun h' => absurd h' h⟩, hd⟩
theorem SaysNd.yes {l m : List Nd} {w w' : World} {e : Ending} (he : e = .returned (.bool true)) (h : l = m) (hd : Dr w w') : SaysNd l m w e w' := ⟨true, he, ⟨fun _ => h, fun _ => rfl⟩, hd⟩
set_option maxHeartbeats 4000000 in
set_option maxRecDepth 100000 in
theorem rsameD_any (w : World) (v u : Value) (l m : List Nd) (h : RNd w v l) (h' : RNd w u m) (hn : l.length ≤ 1000000) (hn2 : m.length ≤ 1000000) : Calls Tryz.prog 13 #[v, u] w (SaysNd l m w) := by
  obtain ⟨A, c, rfl, H1⟩ := h
  obtain ⟨A', c', rfl, H2⟩ := h'
  have HH1 := Lib.hid H1
  have HH2 := Lib.hid H2
  clear H1 H2
  obtain ⟨n, hnn⟩ : ∃ n, n = l.length := ⟨_, rfl⟩
  have HN := Lib.hid hnn
  rw [← hnn] at hn ⊢
  clear hnn
  obtain ⟨q, hqq⟩ : ∃ q, q = m.length := ⟨_, rfl⟩
  have HQ := Lib.hid hqq
  rw [← hqq] at hn2 ⊢
  clear hqq
  by_cases hl : n = q
  · subst hl
    have hne0 : ((n : Int) != (n : Int)) = false := by simp
    have hne1 : ((n : Int) == (n : Int)) = true := by simp
    go_enter Tryz.func13, Tryz.ntmps13
    go_wp2_with fail
    go_loopw [8] (fun s8 wr => ∃ i : Nat, i ≤ n ∧ s8 = .int .i64 (i : Int) ∧ Hid (l.take i = m.take i) ∧ Dr w wr) (fun s8 _ => n - (intOf s8).toNat)
    case atStart => exact ⟨0, Nat.zero_le _, rfl, Lib.hid rfl, Dr.refl w⟩
    case round =>
      obtain ⟨i, hi, rfl, HTK, hd⟩ := hrel
      have HD := Lib.hid hd
      by_cases hlt : i < n
      · have hit : i < l.length := by rw [← HN.out]; exact hlt
        have hit2 : i < m.length := by rw [← HQ.out]; exact hlt
        obtain ⟨g, o, rfl, hgw, hc⟩ := HH1.out (by omega)
        obtain ⟨g', o', rfl, hgw', hc'⟩ := HH2.out (by omega)
        obtain ⟨k0, k1, k2, k3, k4⟩ := hc i hit
        obtain ⟨j0, j1, j2, j3, j4⟩ := hc' i hit2
        rw [← hd.cell] at k0 k1 k2 k3 k4 j0 j1 j2 j3 j4
        have HST := Lib.hid (fun he => take_stepN HTK.out hit hit2 he)
        have HNG := Lib.hid (fun he => ne_of_getN hit hit2 he)
        clear hc hc' hd
        have hd0 : decide ((0 : Int) ≤ (i : Int)) = true := by simp
        have hi0 : (0 : Int) ≤ (i : Int) := by omega
        have hil : (i : Int) < (n : Int) := by omega
        generalize l[i] = x at *
        generalize m[i] = z at *
        clear hit hit2
        obtain ⟨y0, y1, y2, y3, y4⟩ := x
        obtain ⟨z0, z1, z2, z3, z4⟩ := z
        simp only at k0 k1 k2 k3 k4 j0 j1 j2 j3 j4
        have hsy : str y4 = .string ⟨y4.toArray⟩ := rfl
        have hsz : str z4 = .string ⟨z4.toArray⟩ := rfl
        rw [hsy] at k4
        rw [hsz] at j4
        have hty : (⟨y4.toArray⟩ : ByteArray).toList = y4 := ByteArray.toList_mk _
        have htz : (⟨z4.toArray⟩ : ByteArray).toList = z4 := ByteArray.toList_mk _
        have HTY := Lib.hid hty
        have HTZ := Lib.hid htz
        clear hsy hsz hty htz
        by_cases e0 : y0 = z0
        case neg =>
          have b0 : (y0 == z0) = false := by rw [beq_eq_false_iff_ne]; exact e0
          have c0 : (y0 != z0) = true := by rw [bne_iff_ne]; exact e0
          have HN2 := Lib.hid (HNG.out (fun he => e0 (by injection he)))
          clear e0 HST HNG
          go_wp2_with fail
          go_quiet (fail)
          go_wp2_with fail
          go_ret
          exact SaysNd.no rfl HN2.out (HD.out.drewN _)
        case pos =>
          subst e0
          by_cases e1 : y1 = z1
          case neg =>
            have b1 : (y1 == z1) = false := by rw [beq_eq_false_iff_ne]; exact e1
            have c1 : (y1 != z1) = true := by rw [bne_iff_ne]; exact e1
            have HN2 := Lib.hid (HNG.out (fun he => e1 (by injection he)))
            clear e1 HST HNG
            go_wp2_with fail
            go_quiet (fail)
            go_wp2_with fail
            go_ret
            exact SaysNd.no rfl HN2.out (HD.out.drewN _)
          case pos =>
            subst e1
            by_cases e2 : y2 = z2
            case neg =>
              have b2 : (y2 == z2) = false := by rw [beq_eq_false_iff_ne]; exact e2
              have c2 : (y2 != z2) = true := by rw [bne_iff_ne]; exact e2
              have HN2 := Lib.hid (HNG.out (fun he => e2 (by injection he)))
              clear e2 HST HNG
              go_wp2_with fail
              go_quiet (fail)
              go_wp2_with fail
              go_ret
              exact SaysNd.no rfl HN2.out (HD.out.drewN _)
            case pos =>
              subst e2
              by_cases e3 : y3 = z3
              case neg =>
                have b3 : (y3 == z3) = false := by rw [beq_eq_false_iff_ne]; exact e3
                have c3 : (y3 != z3) = true := by rw [bne_iff_ne]; exact e3
                have HN2 := Lib.hid (HNG.out (fun he => e3 (by injection he)))
                clear e3 HST HNG
                go_wp2_with fail
                go_quiet (fail)
                go_wp2_with fail
                go_ret
                exact SaysNd.no rfl HN2.out (HD.out.drewN _)
              case pos =>
                subst e3
                by_cases e4 : y4 = z4
                case neg =>
                  have b4 : ((⟨y4.toArray⟩ : ByteArray).toList == (⟨z4.toArray⟩ : ByteArray).toList) = false := by rw [HTY.out, HTZ.out, beq_eq_false_iff_ne]; exact e4
                  have HN2 := Lib.hid (HNG.out (fun he => e4 (by injection he)))
                  clear e4 HST HNG
                  generalize (⟨y4.toArray⟩ : ByteArray) = ty at *
                  generalize (⟨z4.toArray⟩ : ByteArray) = tz at *
                  go_wp2_with fail
                  go_quiet (fail)
                  go_wp2_with fail
                  go_ret
                  exact SaysNd.no rfl HN2.out (HD.out.drewN _)
                case pos =>
                  subst e4
                  have HS2 := Lib.hid (HST.out rfl)
                  generalize (⟨y4.toArray⟩ : ByteArray) = ty at *
                  clear HST HNG
                  go_wp2_with fail
                  go_quiet (fail)
                  go_wp2_with fail
                  go_roundw
                  case rel => exact ⟨i + 1, by omega, by go_num, HS2, HD.out.drewN _⟩
                  case measure => simp [intOf]; omega
      · obtain rfl : i = n := by omega
        have HE : Hid (l = m) := Lib.hid (by
          have h1 := HTK.out
          rw [List.take_of_length_le (by rw [← HN.out]; exact Nat.le_refl _), List.take_of_length_le (by rw [← HQ.out]; exact Nat.le_refl _)] at h1
          exact h1)
        clear hd
        go_wp2_with fail
        go_ret
        exact SaysNd.yes rfl HE.out HD.out
  · have HNE : Hid (l ≠ m) := Lib.hid (fun e => hl (by rw [HN.out, HQ.out, e]))
    have hb : ((n : Int) != (q : Int)) = true := by rw [bne_iff_ne]; omega
    have hb2 : ((n : Int) == (q : Int)) = false := by rw [beq_eq_false_iff_ne]; omega
    clear hl
    go_enter Tryz.func13, Tryz.ntmps13
    go_wp2_with fail
    go_loopw [8] (fun s8 wr => s8 = .int .i64 0 ∧ Dr w wr) (fun s8 _ => n - (intOf s8).toNat)
    case atStart => exact ⟨rfl, Dr.refl w⟩
    case round =>
      obtain ⟨rfl, hd⟩ := hrel
      have HD := Lib.hid hd
      clear hd
      by_cases hlt : 0 < n
      · go_wp2_with fail
        go_quiet (fail)
        go_wp2_with fail
        go_ret
        exact SaysNd.no rfl HNE.out (HD.out.drewN _)
      · go_wp2_with fail
        go_ret
        exact SaysNd.no rfl HNE.out HD.out
end Big
end Go.Proofs.YtaccjdbbkmhanaaGreatDoor
