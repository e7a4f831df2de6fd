import Derived.Test.YtgopljllknbelaaGreatDoorM28
import Derived.Test.YtgopljllknbelaaGreatDoorM26
import Derived.Test.YtgopljllknbelaaGreatDoorM20
import Derived.Test.YtgopljllknbelaaGreatDoorM23
/- The program's Valid, Parse. -/
namespace Go.Proofs.YtgopljllknbelaaGreatDoor
namespace Big
open Go.RowKit
theorem prGo_len (l : List Nd) : ∀ (i : Nat) (all st : List (Nat × Nat)), (prGo i all st l).2 ≠ 0 → (prGo i all st l).1.length = all.length + l.length := by
  induction l with
  | nil => intro i all st _; rfl
  | cons x t ih =>
    intro i all st h
    rw [prGo] at h ⊢
    cases hs : prStep i st x with
    | none => rw [hs] at h; exact absurd rfl h
    | some q =>
      obtain ⟨p, st'⟩ := q
      rw [hs] at h
      simp only at h ⊢
      rw [ih _ _ _ h, List.length_append, List.length_cons]
      simp
      omega
set_option maxRecDepth 100000 in
theorem pvalid_any (w : World) (v : Value) (l : List Nd) (hr : RNd w v l) (hl : l.length ≤ 1000000) (htx : ∀ x ∈ l, x.text.length ≤ 1073741824) (hm : MaxV w) : Calls Tryz.prog 35 #[v] w fun e w' => e = .returned (.bool (validP l)) ∧ Ext w w' := by
  have HS := Lib.hid (parts_any w v l hr hl htx hm)
  have HV : Hid (validP l = (decide (1 ≤ l.length ∧ l.length ≤ 200) && (decide ((prAll l).2 = 1) && decide (((prAll l).1.getD (l.length - 1) (0, 0)).2 ≤ 40)))) := Lib.hid rfl
  have HPL : Hid ((prAll l).2 ≠ 0 → (prAll l).1.length = l.length) := Lib.hid (fun h => by have := prGo_len l 0 [] [] h; rw [List.length_nil, Nat.zero_add] at this; exact this)
  obtain ⟨A, c, rfl, _⟩ := hr
  generalize validP l = r at *
  clear htx hm
  obtain ⟨n, hn⟩ : ∃ n, n = l.length := ⟨_, rfl⟩
  rw [← hn] at hl HV HS HPL ⊢
  clear hn
  by_cases h1 : n < 1
  · obtain rfl : n = 0 := by omega
    clear HS h1 HPL
    go_enter Tryz.func35, Tryz.ntmps35
    go_wp2_with fail
    go_ret
    exact ⟨by rw [HV.out]; rfl, Ext.refl w⟩
  · have h1c : ¬ ((n : Int) < 1) := by omega
    by_cases h2 : 200 < n
    · have h2c : (200 : Int) < (n : Int) := by omega
      have hd : decide (1 ≤ n ∧ n ≤ 200) = false := decide_eq_false (by omega)
      rw [hd] at HV
      clear HS h1 h2 hd HPL
      go_enter Tryz.func35, Tryz.ntmps35
      go_wp2_with fail
      go_ret
      exact ⟨by rw [HV.out]; rfl, Ext.refl w⟩
    · have h2c : ¬ (200 : Int) < (n : Int) := by omega
      have hd : decide (1 ≤ n ∧ n ≤ 200) = true := decide_eq_true (by omega)
      rw [hd, Bool.true_and] at HV
      have h1n : 1 ≤ n := by omega
      clear h1 h2 hd
      unfold PartsPost at HS
      generalize (prAll l).2 = cnt at *
      generalize (prAll l).1 = all at *
      go_enter Tryz.func35, Tryz.ntmps35
      go_wp2_with fail
      refine HS.out.mono ?_
      rintro e w1 ⟨v1, rfl, hx, hrow⟩
      have HX := Lib.hid hx
      have HRW := Lib.hid hrow
      obtain ⟨A4, c4, rfl⟩ := ownsRow_shape hrow
      clear hx hrow
      by_cases hc1 : cnt = 1
      · subst hc1
        have hal := HPL.out (by decide)
        obtain ⟨g4, d4, he4, _, _⟩ := HRW.out.form (by omega)
        injection he4 with he4 he5 he6
        subst he4
        clear he5 he6
        have hrw := HRW.out
        rw [hal] at hrw
        have hcell := (RowP.get hrw (n - 1) (by omega)).2
        obtain ⟨y, hy⟩ : ∃ y : Int, y = (n : Int) - 1 := ⟨_, rfl⟩
        have hj : y.toNat = n - 1 := by omega
        rw [← hj] at hcell HV
        have hw : IntKind.i64.wrap ((n : Int) - 1) = y := by rw [IntWalk.i64_in _ (by omega), hy]
        have hq0 : (0 : Int) ≤ y := by omega
        have hq1 : y < (n : Int) := by omega
        have hdv : decide ((all.getD y.toNat (0, 0)).2 ≤ 40) = decide (((all.getD y.toNat (0, 0)).2 : Int) ≤ 40) := by rw [decide_eq_decide]; omega
        have HDV : Hid (r = decide (((all.getD y.toNat (0, 0)).2 : Int) ≤ 40)) := Lib.hid (by rw [HV.out, ← hdv]; rfl)
        generalize (all.getD y.toNat (0, 0)).2 = dv at *
        rw [hal]
        clear hrw hj hy hdv hal HV HPL
        go_wp2_with fail
        go_ret
        exact ⟨by rw [HDV.out]; rfl, HX.out⟩
      · have hcb : ((cnt : Int) == 1) = false := by rw [beq_eq_false_iff_ne]; omega
        have HR0 : Hid (r = false) := Lib.hid (by rw [HV.out, decide_eq_false hc1]; rfl)
        generalize all.length = m at *
        clear hc1 HV HPL
        generalize (cnt : Int) = cz at *
        go_wp2_with fail
        go_ret
        exact ⟨by rw [HR0.out]; rfl, HX.out⟩
theorem flat_text_well (e : Ex) (hg : e.Well) : ∀ off, ∀ x ∈ flat off e, x.text.length ≤ 1073741824 := by
  induction e with
  | leaf k t =>
    intro off x hx
    rw [flat, List.mem_singleton] at hx
    subst hx
    rcases hg with ⟨_, h⟩ | ⟨_, h⟩ | ⟨_, rfl⟩
    · have := code7_le h
      simp only; omega
    · have := wordB_le (Bool.and_eq_true_iff.1 h).1
      simp only; omega
    · simp
  | un k n x ih =>
    intro off y hy
    rw [flat, List.mem_append, List.mem_singleton] at hy
    rcases hy with hy | rfl
    · exact ih hg.2.2.2.2 off y hy
    · simp
  | bin k x z ihx ihy =>
    intro off y hy
    rw [flat, List.mem_append, List.mem_append, List.mem_singleton] at hy
    rcases hy with hy | hy | rfl
    · exact ihx hg.2.1 _ y hy
    · exact ihy hg.2.2 _ y hy
    · simp
/-- What reading an expression gives: its nodes, a place, a code. -/
def parseR (s : List UInt8) : Option Ex × Nat × Nat :=
  if (scanT s).2.2 ≠ 0 then (none, (scanT s).2.1, (scanT s).2.2)
  else if (pSum (scanT s).1 ((scanT s).1.length + 1) 0).2 < (scanT s).1.length then (none, ((scanT s).1.getD (pSum (scanT s).1 ((scanT s).1.length + 1) 0).2 ⟨0, 0, []⟩).at_, 6)
  else match (pSum (scanT s).1 ((scanT s).1.length + 1) 0).1 with
    | none => (none, s.length, 6)
    | some x => if x.big = false ∧ x.size ≤ 200 ∧ x.depth ≤ 40 then (some x, s.length, 0) else (none, 0, 7)
def exNodes : Option Ex → List Nd
  | none => []
  | some x => flat 0 x
/-- What Parse returns. -/
def ParseP (w : World) (s : List UInt8) (e : Ending) (w' : World) : Prop :=
  ∃ v, e = .returned (.tuple #[v, .int .i64 ((parseR s).2.1 : Int), .int .i64 ((parseR s).2.2 : Int)]) ∧ Ext w w' ∧ RNd w' v (exNodes (parseR s).1)
theorem RNd.nil (w : World) : RNd w (.slice none 0 0) [] := ⟨none, 0, rfl, fun h => by simp at h⟩
set_option maxHeartbeats 2000000 in
set_option maxRecDepth 100000 in
theorem pparse_any (w : World) (s : List UInt8) (hm : MaxV w) : Calls Tryz.prog 27 #[str s] w (ParseP w s) := by
  have HSC := Lib.hid (scan_any w s hm)
  have HM := Lib.hid hm
  have HFI := Lib.hid (scanT_fine s)
  have hll := scanT_len s
  have HPR : Hid (parseR s = if (scanT s).2.2 ≠ 0 then (none, (scanT s).2.1, (scanT s).2.2)
    else if (pSum (scanT s).1 ((scanT s).1.length + 1) 0).2 < (scanT s).1.length then (none, ((scanT s).1.getD (pSum (scanT s).1 ((scanT s).1.length + 1) 0).2 ⟨0, 0, []⟩).at_, 6)
    else match (pSum (scanT s).1 ((scanT s).1.length + 1) 0).1 with
      | none => (none, s.length, 6)
      | some x => if x.big = false ∧ x.size ≤ 200 ∧ x.depth ≤ 40 then (some x, s.length, 0) else (none, 0, 7)) := Lib.hid rfl
  unfold ScanRes at HSC
  unfold ParseP
  generalize parseR s = R at *
  generalize (scanT s).2.1 = sk at *
  generalize (scanT s).2.2 = se at *
  generalize (scanT s).1 = ts at *
  clear hm
  by_cases he0 : se = 0
  · subst he0
    have hred : (if (0 : Nat) ≠ 0 then ((none : Option Ex), sk, (0 : Nat)) else if (pSum ts (ts.length + 1) 0).2 < ts.length then (none, (ts.getD (pSum ts (ts.length + 1) 0).2 ⟨0, 0, []⟩).at_, 6) else match (pSum ts (ts.length + 1) 0).1 with | none => (none, s.length, 6) | some x => if x.big = false ∧ x.size ≤ 200 ∧ x.depth ≤ 40 then (some x, s.length, 0) else (none, 0, 7)) = (if (pSum ts (ts.length + 1) 0).2 < ts.length then (none, (ts.getD (pSum ts (ts.length + 1) 0).2 ⟨0, 0, []⟩).at_, 6) else match (pSum ts (ts.length + 1) 0).1 with | none => (none, s.length, 6) | some x => if x.big = false ∧ x.size ≤ 200 ∧ x.depth ≤ 40 then (some x, s.length, 0) else (none, 0, 7)) := by rw [if_neg (by simp)]
    have HPR2 := Lib.hid (HPR.out.trans hred)
    clear HPR hred
    have hwell := pSum_well HFI.out (ts.length + 1)
    have hgood := pSum_good ts (ts.length + 1) 0 (Nat.zero_le _)
    have hz : (((0 : Nat) : Int)) = 0 := rfl
    rw [hz] at HSC
    clear hz
    obtain ⟨n, hn⟩ : ∃ n, n = ts.length := ⟨_, rfl⟩
    have HN := Lib.hid hn
    rw [← hn] at HSC
    clear hn
    go_enter Tryz.func27, Tryz.ntmps27
    go_wp2_with fail
    refine HSC.out.mono ?_
    rintro e w1 ⟨v1, rfl, hr1, hx1⟩
    have htr : TokRow w1 v1 ts := TokRow.of (by rw [HN.out] at hr1; exact hr1)
    obtain ⟨A1, c1, rfl⟩ := ownsRow_shape hr1
    obtain ⟨w2, hw2⟩ : ∃ w2, w2 = w1.alloc (.cells #[.slice A1 n c1, .int .i64 0, .slice none 0 0] 84) := ⟨_, rfl⟩
    have hx12 : Ext w1 w2 := by rw [hw2]; exact (Ext.refl w1).alloc _
    have HX2 := Lib.hid (hx1.trans hx12)
    have HMW := Lib.hid (HM.out.ext (hx1.trans hx12))
    have hrd : RdP w1.heap.size w2 ts 0 [] (.slice A1 n c1) (.slice none 0 0) := ⟨by rw [hw2]; exact Blk.new w1 _ _, OwnNd.nil _ _, (TokAt.of htr).below hx12, Nat.zero_le _, Nat.zero_le _, hll⟩
    have HRD := Lib.hid hrd
    have HTA := Lib.hid ((TokAt.of htr).below hx12)
    have HSUM := Lib.hid (sum_any w1.heap.size ts (.slice A1 n c1) (ts.length + 1) 0 (by omega) w2 [] (.slice none 0 0) hrd)
    have HG1 : Hid (w.heap.size ≤ w1.heap.size) := Lib.hid hx1.size
    clear hr1 hx1 htr hx12 hrd
    go_upto_region 5 with fail
    rw [← hw2]
    clear hw2
    generalize w1.heap.size = g at *
    go_wp2_with fail
    refine HSUM.out.mono ?_
    intro e w3 hpost
    obtain ⟨r, hr⟩ : ∃ r, pSum ts (ts.length + 1) 0 = r := ⟨_, rfl⟩
    rw [hr] at hgood
    have HR := Lib.hid HPR2.out
    rw [hr] at HR
    have hall : ∀ b : Nat, b < ts.length → Hid (∃ A : Addr, True) := fun _ _ => Lib.hid ⟨⟨0, 0, none⟩, trivial⟩
    clear hall
    obtain ⟨_ | x, b⟩ := r
    · obtain ⟨nv1, rfl, ⟨ns1, hrd⟩, hk⟩ := hpost.none_ hr
      have hbw := hk.below (ns := []) (OwnNd.nil _ _) (Nat.le_of_lt HRD.out.lt)
      have HX3 : Hid (Ext w w3) := Lib.hid (HX2.out.more (Below.mono hbw HG1.out))
      obtain ⟨k0, k1, k2, _, _, _, hg3⟩ := hrd.blk.three'
      obtain ⟨A9, c9, he9, hc9⟩ := HTA.out.below hbw
      injection he9 with he1 he2 he3
      subst he1
      clear he2 he3
      simp only at HR
      by_cases hb : b < ts.length
      · obtain ⟨bk, hbk, _, _, hcx⟩ := hc9 (by omega)
        clear hc9
        subst hbk
        have q1 := (hcx b hb).2.1
        have hta : (ts.getD b ⟨0, 0, []⟩).at_ = ts[b].at_ := by rw [List.getD_eq_getElem?_getD, List.getElem?_eq_getElem hb]; rfl
        have HRR : Hid (R = (none, ts[b].at_, 6)) := Lib.hid (by rw [HR.out, if_pos hb, hta])
        have hbn : b < n := by rw [HN.out]; exact hb
        have z1 : decide (b < n) = true := decide_eq_true hbn
        generalize ts[b].at_ = ta at *
        clear hpost hr hrd hk hbw hcx hta HR HPR2 hb hgood
        go_wp2_with fail
        go_region
        go_wp2_with fail
        go_ret3
        rw [HRR.out]
        exact ⟨_, rfl, HX3.out.trans (Ext.refl w3).drew, RNd.nil _⟩
      · have HRR : Hid (R = (none, s.length, 6)) := Lib.hid (by rw [HR.out, if_neg hb])
        have hbn : ¬ b < n := by rw [HN.out]; exact hb
        have z1 : decide (b < n) = false := decide_eq_false hbn
        clear hpost hr hrd hk hbw hc9 HR HPR2 hb hgood
        go_wp2_with fail
        go_ret3
        rw [HRR.out]
        exact ⟨_, rfl, HX3.out, RNd.nil _⟩
    · obtain ⟨nv1, rfl, hrd, hk⟩ := hpost.some_ hr
      have hw := hwell _ _ _ hr
      have hbw := hk.below (ns := []) (OwnNd.nil _ _) (Nat.le_of_lt HRD.out.lt)
      have HX3 : Hid (Ext w w3) := Lib.hid (HX2.out.more (Below.mono hbw HG1.out))
      obtain ⟨k0, k1, k2, _, _, _, hg3⟩ := hrd.blk.three'
      obtain ⟨A9, c9, he9, hc9⟩ := HTA.out.below hbw
      injection he9 with he1 he2 he3
      subst he1
      clear he2 he3
      simp only at HR
      by_cases hb : b < ts.length
      · obtain ⟨bk, hbk, _, _, hcx⟩ := hc9 (by omega)
        clear hc9
        subst hbk
        have q1 := (hcx b hb).2.1
        have hta : (ts.getD b ⟨0, 0, []⟩).at_ = ts[b].at_ := by rw [List.getD_eq_getElem?_getD, List.getElem?_eq_getElem hb]; rfl
        have HRR : Hid (R = (none, ts[b].at_, 6)) := Lib.hid (by rw [HR.out, if_pos hb, hta])
        have hbn : b < n := by rw [HN.out]; exact hb
        have z1 : decide (b < n) = true := decide_eq_true hbn
        generalize ts[b].at_ = ta at *
        clear hpost hr hrd hk hbw hcx hta HR HPR2 hb hgood
        go_wp2_with fail
        go_region
        go_wp2_with fail
        go_ret3
        rw [HRR.out]
        exact ⟨_, rfl, HX3.out.trans (Ext.refl w3).drew, RNd.nil _⟩
      · have hbn : ¬ b < n := by rw [HN.out]; exact hb
        have z1 : decide (b < n) = false := decide_eq_false hbn
        have hrow := hrd.row
        have hfew := hrd.few
        have hble := hrd.le
        rw [List.nil_append, List.length_nil] at hrow hfew
        have hvp := validP_flat x hw
        have HPV := Lib.hid (pvalid_any w3 nv1 (flat 0 x) hrow.read (by omega) (flat_text_well x hw 0) (HM.out.ext HX3.out))
        have HRN := Lib.hid hrow.read
        have HRR : Hid (R = if validP (flat 0 x) = true then (some x, s.length, 0) else (none, 0, 7)) := Lib.hid (by
          rw [HR.out, if_neg hb, hvp]
          cases hbg : x.big
          · simp
          · simp)
        obtain ⟨A2, c2, m2, rfl, hm2⟩ := hrow.shape3
        generalize validP (flat 0 x) = vb at *
        clear hpost hr hrd hk hbw hc9 HR HPR2 hb hgood hrow hfew hvp hm2
        cases vb
        · go_wp2_with fail
          refine HPV.out.mono ?_
          rintro e w4 ⟨rfl, hx4⟩
          have HX4 := Lib.hid (HX3.out.trans hx4)
          clear hx4
          go_wp2_with fail
          go_ret3
          rw [HRR.out]
          exact ⟨_, rfl, HX4.out, RNd.nil _⟩
        · go_wp2_with fail
          refine HPV.out.mono ?_
          rintro e w4 ⟨rfl, hx4⟩
          have HX4 := Lib.hid (HX3.out.trans hx4)
          have HRN4 := Lib.hid (HRN.out.ext hx4)
          have hj2 := (hx4.cell (b := g) (o := 2) hg3).trans k2
          clear hx4
          go_wp2_with fail
          go_ret3
          rw [HRR.out]
          exact ⟨_, rfl, HX4.out, HRN4.out⟩
  · have hse : ((se : Int) != 0) = true := by rw [bne_iff_ne]; omega
    have HR0 : Hid (R = (none, sk, se)) := Lib.hid (by rw [HPR.out, if_pos he0])
    clear HPR HFI
    obtain ⟨sz, hsz⟩ : ∃ sz : Int, sz = (se : Int) := ⟨_, rfl⟩
    rw [← hsz] at hse HSC
    have HSZ := Lib.hid hsz
    clear hsz he0
    go_enter Tryz.func27, Tryz.ntmps27
    go_wp2_with fail
    refine HSC.out.mono ?_
    rintro e w1 ⟨v1, rfl, hr1, hx1⟩
    obtain ⟨A1, c1, rfl⟩ := ownsRow_shape hr1
    have HX1 := Lib.hid hx1
    clear hr1 hx1
    go_wp2_with fail
    go_ret3
    rw [HR0.out]
    exact ⟨_, by rw [HSZ.out]; rfl, HX1.out, RNd.nil _⟩
end Big
end Go.Proofs.YtgopljllknbelaaGreatDoor
/- The reference's Parse. -/
namespace Go.Proofs.YtgopljllknbelaaGreatDoor
namespace Big
open Go.RowKit
set_option maxHeartbeats 2000000 in
set_option maxRecDepth 100000 in
theorem rparse_any (w : World) (s : List UInt8) (hm : MaxV w) : Calls Tryz.prog 22 #[str s] w (ParseP w s) := by
  have HSC := Lib.hid (rscan_any w s hm)
  have HM := Lib.hid hm
  have HFI := Lib.hid (scanT_fine s)
  have hll := scanT_len s
  have HPR : Hid (parseR s = if (scanT s).2.2 ≠ 0 then (none, (scanT s).2.1, (scanT s).2.2)
    else if (pSum (scanT s).1 ((scanT s).1.length + 1) 0).2 < (scanT s).1.length then (none, ((scanT s).1.getD (pSum (scanT s).1 ((scanT s).1.length + 1) 0).2 ⟨0, 0, []⟩).at_, 6)
    else match (pSum (scanT s).1 ((scanT s).1.length + 1) 0).1 with
      | none => (none, s.length, 6)
      | some x => if x.big = false ∧ x.size ≤ 200 ∧ x.depth ≤ 40 then (some x, s.length, 0) else (none, 0, 7)) := Lib.hid rfl
  unfold ScanRes at HSC
  unfold ParseP
  generalize parseR s = R at *
  generalize (scanT s).2.1 = sk at *
  generalize (scanT s).2.2 = se at *
  generalize (scanT s).1 = ts at *
  clear hm
  by_cases he0 : se = 0
  · subst he0
    have hred : (if (0 : Nat) ≠ 0 then ((none : Option Ex), sk, (0 : Nat)) else if (pSum ts (ts.length + 1) 0).2 < ts.length then (none, (ts.getD (pSum ts (ts.length + 1) 0).2 ⟨0, 0, []⟩).at_, 6) else match (pSum ts (ts.length + 1) 0).1 with | none => (none, s.length, 6) | some x => if x.big = false ∧ x.size ≤ 200 ∧ x.depth ≤ 40 then (some x, s.length, 0) else (none, 0, 7)) = (if (pSum ts (ts.length + 1) 0).2 < ts.length then (none, (ts.getD (pSum ts (ts.length + 1) 0).2 ⟨0, 0, []⟩).at_, 6) else match (pSum ts (ts.length + 1) 0).1 with | none => (none, s.length, 6) | some x => if x.big = false ∧ x.size ≤ 200 ∧ x.depth ≤ 40 then (some x, s.length, 0) else (none, 0, 7)) := by rw [if_neg (by simp)]
    have HPR2 := Lib.hid (HPR.out.trans hred)
    clear HPR hred
    have hwell := pSum_well HFI.out (ts.length + 1)
    have hgood := pSum_good ts (ts.length + 1) 0 (Nat.zero_le _)
    have hz : (((0 : Nat) : Int)) = 0 := rfl
    rw [hz] at HSC
    clear hz
    obtain ⟨n, hn⟩ : ∃ n, n = ts.length := ⟨_, rfl⟩
    have HN := Lib.hid hn
    rw [← hn] at HSC
    clear hn
    go_enter Tryz.func22, Tryz.ntmps22
    go_wp2_with fail
    refine HSC.out.mono ?_
    rintro e w1 ⟨v1, rfl, hr1, hx1⟩
    have htr : TokRow w1 v1 ts := TokRow.of (by rw [HN.out] at hr1; exact hr1)
    obtain ⟨A1, c1, rfl⟩ := ownsRow_shape hr1
    obtain ⟨w2, hw2⟩ : ∃ w2, w2 = w1.alloc (.cells #[.slice A1 n c1, .int .i64 0, .bool false, .slice none 0 0, .bool false] 77) := ⟨_, rfl⟩
    have hx12 : Ext w1 w2 := by rw [hw2]; exact (Ext.refl w1).alloc _
    have HX2 := Lib.hid (hx1.trans hx12)
    have HMW := Lib.hid (HM.out.ext (hx1.trans hx12))
    have hrd : RdR w1.heap.size w2 ts 0 false [] false (.slice A1 n c1) (.slice none 0 0) := ⟨by rw [hw2]; exact Blk.new w1 _ _, OwnNd.nil _ _, (TokAt.of htr).below hx12, Nat.zero_le _, Nat.zero_le _, hll⟩
    have HRD := Lib.hid hrd
    have HTA := Lib.hid ((TokAt.of htr).below hx12)
    have HSUM := Lib.hid (rsum_any w1.heap.size ts (.slice A1 n c1) HFI.out (ts.length + 1) 0 (by omega) w2 [] false (.slice none 0 0) hrd)
    have HG1 : Hid (w.heap.size ≤ w1.heap.size) := Lib.hid hx1.size
    clear hr1 hx1 htr hx12 hrd
    go_upto_region 5 with fail
    rw [← hw2]
    clear hw2
    generalize w1.heap.size = g at *
    go_wp2_with fail
    refine HSUM.out.mono ?_
    intro e w3 hpost
    obtain ⟨r, hr⟩ : ∃ r, pSum ts (ts.length + 1) 0 = r := ⟨_, rfl⟩
    rw [hr] at hgood
    have HR := Lib.hid HPR2.out
    rw [hr] at HR
    have hall : ∀ b : Nat, b < ts.length → Hid (∃ A : Addr, True) := fun _ _ => Lib.hid ⟨⟨0, 0, none⟩, trivial⟩
    clear hall
    obtain ⟨_ | x, b⟩ := r
    · obtain ⟨rfl, nv1, ns1, lg1, hrd, hk⟩ := hpost.none_ hr
      have hbw := hk.below (ns := []) (OwnNd.nil _ _) (Nat.le_of_lt HRD.out.blk.lt)
      have HX3 : Hid (Ext w w3) := Lib.hid (HX2.out.more (Below.mono hbw HG1.out))
      obtain ⟨⟨k0, k1, k2, k3, k4⟩, _, hg3⟩ := hrd.blk.five'
      obtain ⟨A9, c9, he9, hc9⟩ := HTA.out.below hbw
      injection he9 with he1 he2 he3
      subst he1
      clear he2 he3
      simp only at HR
      by_cases hb : b < ts.length
      · obtain ⟨bk, hbk, _, _, hcx⟩ := hc9 (by omega)
        clear hc9
        subst hbk
        have q1 := (hcx b hb).2.1
        have hta : (ts.getD b ⟨0, 0, []⟩).at_ = ts[b].at_ := by rw [List.getD_eq_getElem?_getD, List.getElem?_eq_getElem hb]; rfl
        have HRR : Hid (R = (none, ts[b].at_, 6)) := Lib.hid (by rw [HR.out, if_pos hb, hta])
        have hbn : b < n := by rw [HN.out]; exact hb
        have z1 : decide (b < n) = true := decide_eq_true hbn
        generalize ts[b].at_ = ta at *
        clear hpost hr hrd hk hbw hcx hta HR HPR2 hb hgood
        go_wp2_with fail
        go_region
        go_wp2_with fail
        go_ret3
        rw [HRR.out]
        exact ⟨_, rfl, HX3.out.trans (Ext.refl w3).drew, RNd.nil _⟩
      · have HRR : Hid (R = (none, s.length, 6)) := Lib.hid (by rw [HR.out, if_neg hb])
        have hbn : ¬ b < n := by rw [HN.out]; exact hb
        have z1 : decide (b < n) = false := decide_eq_false hbn
        clear hpost hr hrd hk hbw hc9 HR HPR2 hb hgood
        go_wp2_with fail
        go_ret3
        rw [HRR.out]
        exact ⟨_, rfl, HX3.out, RNd.nil _⟩
    · obtain ⟨rfl, nv1, hrd, hk⟩ := hpost.some_ hr
      rw [Bool.false_or] at hrd
      have hw := hwell _ _ _ hr
      have hbw := hk.below (ns := []) (OwnNd.nil _ _) (Nat.le_of_lt HRD.out.blk.lt)
      have HX3 : Hid (Ext w w3) := Lib.hid (HX2.out.more (Below.mono hbw HG1.out))
      obtain ⟨⟨k0, k1, k2, k3, k4⟩, _, hg3⟩ := hrd.blk.five'
      obtain ⟨A9, c9, he9, hc9⟩ := HTA.out.below hbw
      injection he9 with he1 he2 he3
      subst he1
      clear he2 he3
      simp only at HR
      by_cases hb : b < ts.length
      · obtain ⟨bk, hbk, _, _, hcx⟩ := hc9 (by omega)
        clear hc9
        subst hbk
        have q1 := (hcx b hb).2.1
        have hta : (ts.getD b ⟨0, 0, []⟩).at_ = ts[b].at_ := by rw [List.getD_eq_getElem?_getD, List.getElem?_eq_getElem hb]; rfl
        have HRR : Hid (R = (none, ts[b].at_, 6)) := Lib.hid (by rw [HR.out, if_pos hb, hta])
        have hbn : b < n := by rw [HN.out]; exact hb
        have z1 : decide (b < n) = true := decide_eq_true hbn
        generalize ts[b].at_ = ta at *
        clear hpost hr hrd hk hbw hcx hta HR HPR2 hb hgood
        go_wp2_with fail
        go_region
        go_wp2_with fail
        go_ret3
        rw [HRR.out]
        exact ⟨_, rfl, HX3.out.trans (Ext.refl w3).drew, RNd.nil _⟩
      · have hbn : ¬ b < n := by rw [HN.out]; exact hb
        have z1 : decide (b < n) = false := decide_eq_false hbn
        have hrow := hrd.row
        have hfew := hrd.few
        have hble := hrd.le
        rw [List.nil_append, List.length_nil] at hrow hfew
        have HRN := Lib.hid hrow.read
        cases hbg : x.big
        · have hgd := hw.good hbg
          have hvp := validB_flat x hgd
          have HPV := Lib.hid (valid_any w3 nv1 (flat 0 x) hrow.read (by omega) (flat_text_well x hw 0))
          have HRR : Hid (R = if validB (flat 0 x) = true then (some x, s.length, 0) else (none, 0, 7)) := Lib.hid (by
            rw [HR.out, if_neg hb, hvp, hbg]
            simp)
          rw [hbg] at k4
          obtain ⟨A2, c2, m2, rfl, hm2⟩ := hrow.shape3
          generalize validB (flat 0 x) = vb at *
          clear hpost hr hrd hk hbw hc9 HR HPR2 hb hgood hrow hfew hvp hm2 hbg
          cases vb
          · go_wp2_with fail
            refine HPV.out.mono ?_
            rintro e w4 ⟨rfl, hx4⟩
            have HX4 := Lib.hid (HX3.out.trans hx4)
            clear hx4
            go_wp2_with fail
            go_ret3
            rw [HRR.out]
            exact ⟨_, rfl, HX4.out, RNd.nil _⟩
          · go_wp2_with fail
            refine HPV.out.mono ?_
            rintro e w4 ⟨rfl, hx4⟩
            have HX4 := Lib.hid (HX3.out.trans hx4)
            have HRN4 := Lib.hid (HRN.out.ext hx4)
            have hj2 := (hx4.cell (b := g) (o := 3) hg3).trans k3
            clear hx4
            go_wp2_with fail
            go_ret3
            rw [HRR.out]
            exact ⟨_, rfl, HX4.out, HRN4.out⟩
        · have HRR : Hid (R = (none, 0, 7)) := Lib.hid (by
            rw [HR.out, if_neg hb, hbg]
            simp)
          rw [hbg] at k4
          clear hpost hr hrd hk hbw hc9 HR HPR2 hb hgood hrow hfew hbg HRN
          go_wp2_with fail
          go_ret3
          rw [HRR.out]
          exact ⟨_, rfl, HX3.out, RNd.nil _⟩
  · have hse : ((se : Int) != 0) = true := by rw [bne_iff_ne]; omega
    have HR0 : Hid (R = (none, sk, se)) := Lib.hid (by rw [HPR.out, if_pos he0])
    clear HPR HFI
    obtain ⟨sz, hsz⟩ : ∃ sz : Int, sz = (se : Int) := ⟨_, rfl⟩
    rw [← hsz] at hse HSC
    have HSZ := Lib.hid hsz
    clear hsz he0
    go_enter Tryz.func22, Tryz.ntmps22
    go_wp2_with fail
    refine HSC.out.mono ?_
    rintro e w1 ⟨v1, rfl, hr1, hx1⟩
    obtain ⟨A1, c1, rfl⟩ := ownsRow_shape hr1
    have HX1 := Lib.hid hx1
    clear hr1 hx1
    go_wp2_with fail
    go_ret3
    rw [HR0.out]
    exact ⟨_, by rw [HSZ.out]; rfl, HX1.out, RNd.nil _⟩
end Big
end Go.Proofs.YtgopljllknbelaaGreatDoor
/- The reference's Same on nodes; both sides' Parse agree. -/
namespace Go.Proofs.YtgopljllknbelaaGreatDoor
namespace Big
open Go.RowKit
set_option maxRecDepth 100000 in
theorem rsameN_any (w : World) (v u : Value) (l : List Nd) (h : RNd w v l) (h' : RNd w u l) (hn : l.length ≤ 1000000) : Calls Tryz.prog 23 #[v, u] w fun e w' => e = .returned (.bool true) ∧ Dr w w' := by
  obtain ⟨A, c, rfl, H1⟩ := h
  obtain ⟨A', c', rfl, H2⟩ := h'
  have HH1 := Lib.hid H1
  have HH2 := Lib.hid H2
  clear H1 H2
  obtain ⟨n, hnn⟩ : ∃ n, n = l.length := ⟨_, rfl⟩
  have HN := Lib.hid hnn
  rw [← hnn] at hn
  rw [← hnn]
  clear hnn
  go_enter Tryz.func23, Tryz.ntmps23
  go_wp2_with fail
  go_loopw [8] (fun s8 wr => ∃ i : Nat, i ≤ n ∧ s8 = .int .i64 (i : Int) ∧ Dr w wr) (fun s8 _ => n - (intOf s8).toNat)
  case atStart => exact ⟨0, Nat.zero_le _, rfl, Dr.refl w⟩
  case round =>
    obtain ⟨i, hi, rfl, hd⟩ := hrel
    have HD := Lib.hid hd
    by_cases hlt : i < n
    · have hit : i < l.length := by rw [← HN.out]; exact hlt
      obtain ⟨g, o, rfl, hgw, hc⟩ := HH1.out (by omega)
      obtain ⟨g', o', rfl, hgw', hc'⟩ := HH2.out (by omega)
      obtain ⟨k0, k1, k2, k3, k4⟩ := hc i hit
      obtain ⟨j0, j1, j2, j3, j4⟩ := hc' i hit
      rw [← hd.cell] at k0 k1 k2 k3 k4 j0 j1 j2 j3 j4
      clear hc hc' hd
      have hst : str l[i].text = .string ⟨l[i].text.toArray⟩ := rfl
      rw [hst] at k4 j4
      clear hst
      generalize (⟨l[i].text.toArray⟩ : ByteArray) = t at *
      generalize l[i].kind = y0 at *
      generalize l[i].a = y1 at *
      generalize l[i].b = y2 at *
      generalize l[i].n = y3 at *
      have hd0 : decide ((0 : Int) ≤ (i : Int)) = true := by simp
      have hnb : ((n : Int) != (n : Int)) = false := by simp
      go_wp2_with fail
      go_quiet (fail)
      go_wp2_with fail
      go_roundw
      case rel => exact ⟨i + 1, by omega, by go_num, HD.out.drewN _⟩
      case measure => simp [intOf]; omega
    · obtain rfl : i = n := by omega
      clear hd
      have hne : ((i : Int) == (i : Int)) = true := by simp
      go_wp2_with fail
      go_ret
      exact ⟨rfl, HD.out⟩
end Big
end Go.Proofs.YtgopljllknbelaaGreatDoor
/- same, awake. -/
namespace Go.Proofs.YtgopljllknbelaaGreatDoor
namespace Big
open Go.RowKit
theorem parseR_some {s : List UInt8} {x : Ex} {n k : Nat} (h : parseR s = (some x, n, k)) : x.big = false ∧ x.size ≤ 200 ∧ x.depth ≤ 40 ∧ x.Good ∧ n = s.length ∧ k = 0 := by
  unfold parseR at h
  split at h
  · simp at h
  · split at h
    · simp at h
    · rcases hp : pSum (scanT s).1 ((scanT s).1.length + 1) 0 with ⟨_ | y, b⟩
      · rw [hp] at h; simp at h
      · rw [hp] at h
        simp only at h
        split at h
        · rename_i h2
          simp only [Prod.mk.injEq, Option.some.injEq] at h
          obtain ⟨rfl, rfl, rfl⟩ := h
          have hw := pSum_well (scanT_fine s) _ _ _ _ hp
          exact ⟨h2.1, h2.2.1, h2.2.2, hw.good h2.1, rfl, rfl⟩
        · simp at h
theorem exNodes_len (s : List UInt8) : (exNodes (parseR s).1).length ≤ 200 := by
  rcases h : parseR s with ⟨_ | x, n, k⟩
  · simp [exNodes]
  · have h2 := parseR_some h
    simp only [exNodes]
    rw [flat_len]
    exact h2.2.1
theorem RNd.shape {w : World} {v : Value} {l : List Nd} (h : RNd w v l) : ∃ A c, v = .slice A l.length c := by
  obtain ⟨A, c, h, _⟩ := h
  exact ⟨A, c, h⟩
theorem parse_1 : parseR [45, 120, 94, 50] = (some (.un 5 0 (.un 10 2 (.leaf 2 [120]))), 4, 0) := by kernel_rfl
theorem parse_2 : parseR [49, 45, 50, 45, 51] = (some (.bin 7 (.bin 7 (.leaf 1 [49]) (.leaf 1 [50])) (.leaf 1 [51])), 5, 0) := by kernel_rfl
theorem parse_3 : parseR [50, 94, 51, 94, 50] = (none, 3, 6) := by kernel_rfl
theorem parse_4 : parseR [] = (none, 0, 6) := by kernel_rfl
theorem parse_5 : parseR [120, 94, 54, 53] = (none, 0, 7) := by kernel_rfl
set_option maxHeartbeats 2000000 in
set_option maxRecDepth 100000 in
theorem awake19_any (w : World) (hm : MaxV w) : Calls Tryz.prog 8 #[] w fun e w' => e = .returned (.bool true) ∧ Ext w w' := by
  have H1 := Lib.hid (pparse_any w [45, 120, 94, 50] hm)
  have H2 := Lib.hid (fun W hx => pparse_any W [49, 45, 50, 45, 51] (hm.ext (w' := W) hx))
  have H3 := Lib.hid (fun W hx => pparse_any W [50, 94, 51, 94, 50] (hm.ext (w' := W) hx))
  have H4 := Lib.hid (fun W hx => pparse_any W [] (hm.ext (w' := W) hx))
  have H5 := Lib.hid (fun W hx => pparse_any W [120, 94, 54, 53] (hm.ext (w' := W) hx))
  unfold ParseP at H1 H2 H3 H4 H5
  rw [parse_1] at H1
  rw [parse_2] at H2
  rw [parse_3] at H3
  rw [parse_4] at H4
  rw [parse_5] at H5
  simp only [exNodes] at H1 H2 H3 H4 H5
  clear hm
  go_enter Tryz.func8, Tryz.ntmps8
  go_wp2_with fail
  refine H1.out.mono ?_
  rintro e w1 ⟨v1, rfl, hx1, hr1⟩
  have HX1 := Lib.hid hx1
  have HR1 := Lib.hid hr1
  clear hx1 hr1
  go_wp2_with fail
  refine (H2.out w1 HX1.out).mono ?_
  rintro e w2 ⟨v2, rfl, hx2, hr2⟩
  have HX2 := Lib.hid (HX1.out.trans hx2)
  have HR1 := Lib.hid (HR1.out.ext hx2)
  have HR2 := Lib.hid hr2
  clear hx2 hr2
  go_wp2_with fail
  refine (H3.out w2 HX2.out).mono ?_
  rintro e w3 ⟨v3, rfl, hx3, hr3⟩
  have HX3 := Lib.hid (HX2.out.trans hx3)
  have HR1 := Lib.hid (HR1.out.ext hx3)
  have HR2 := Lib.hid (HR2.out.ext hx3)
  clear hx3 hr3
  go_wp2_with fail
  refine (H4.out w3 HX3.out).mono ?_
  rintro e w4 ⟨v4, rfl, hx4, hr4⟩
  have HX4 := Lib.hid (HX3.out.trans hx4)
  have HR1 := Lib.hid (HR1.out.ext hx4)
  have HR2 := Lib.hid (HR2.out.ext hx4)
  clear hx4 hr4
  go_wp2_with fail
  refine (H5.out w4 HX4.out).mono ?_
  rintro e w5 ⟨v5, rfl, hx5, hr5⟩
  have HX5 := Lib.hid (HX4.out.trans hx5)
  obtain ⟨A1, c1, rfl, hc1⟩ := HR1.out.ext hx5
  obtain ⟨A2, c2, rfl, hc2⟩ := HR2.out.ext hx5
  obtain ⟨b1, o1, rfl, hb1, hd1⟩ := hc1 (by decide)
  obtain ⟨b2, o2, rfl, hb2, hd2⟩ := hc2 (by decide)
  have k1 := (hd1 2 (by decide)).1
  have k2 := (hd2 4 (by decide)).2.1
  clear hx5 hr5 hc1 hc2 hd1 hd2
  go_wp2_with fail
  go_ret
  exact ⟨rfl, HX5.out⟩
end Big
end Go.Proofs.YtgopljllknbelaaGreatDoor
