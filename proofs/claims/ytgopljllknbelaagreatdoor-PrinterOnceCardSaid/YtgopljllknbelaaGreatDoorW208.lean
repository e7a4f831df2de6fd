import Derived.Test.YtgopljllknbelaaGreatDoorM34
/- PrinterOnce. Printed by a program. -/
namespace Go.Proofs.YtgopljllknbelaaGreatDoor
namespace Big
open Go.RowKit
set_option maxHeartbeats 4000000 in
set_option maxRecDepth 100000 in
theorem printerOnce_any (w : World) (s : List UInt8) (v : Value) (l : List Int) (h : ArrI w v l) (hm : MaxV w) (hpw : Pow10 w) :
    Calls Tryz.prog 7 #[str s, v] w fun e w' => e = .returned (.bool true) ∧ Ext w w' := by
  have HAW := Lib.hid (awake20_any w hm hpw)
  have HM := Lib.hid hm
  have HPW := Lib.hid hpw
  have HL := Lib.hid h
  have HLT := Lib.hid (fun W hx => light_any W v l (HL.out.ext hx))
  obtain ⟨A0, c0, rfl, _⟩ := h.open
  clear h hm hpw
  rcases Nat.lt_or_ge 450 s.length with hs | hs
  · have h' : (450 : Int) < (s.length : Int) := by omega
    clear hs HL HLT
    go_enter Tryz.func7, Tryz.ntmps7
    go_wp2_with fail
    refine HAW.out.mono ?_
    rintro e w1 ⟨rfl, hx1⟩
    have HX1 := Lib.hid hx1
    clear hx1
    go_wp2_with fail
    go_ret
    exact ⟨rfl, HX1.out⟩
  have h' : ¬ (450 : Int) < (s.length : Int) := by omega
  by_cases hlt : 120 < l.length
  · have hd : decide (l.length ≤ 120) = false := decide_eq_false (by omega)
    rw [hd] at HLT
    clear HL hlt hd
    go_enter Tryz.func7, Tryz.ntmps7
    go_wp2_with fail
    refine HAW.out.mono ?_
    rintro e w1 ⟨rfl, hx1⟩
    have HX1 := Lib.hid hx1
    clear hx1
    go_wp2_with fail
    refine (HLT.out _ HX1.out).mono ?_
    rintro e w2 ⟨rfl, rfl⟩
    go_wp2_with fail
    go_ret
    exact ⟨rfl, HX1.out⟩
  have hd : decide (l.length ≤ 120) = true := decide_eq_true (by omega)
  rw [hd] at HLT
  have hll : l.length ≤ 120 := by omega
  clear hlt hd hs
  go_enter Tryz.func7, Tryz.ntmps7
  go_wp2_with fail
  refine HAW.out.mono ?_
  rintro e w1 ⟨rfl, hx1⟩
  have HX1 := Lib.hid hx1
  clear hx1
  go_wp2_with fail
  refine (HLT.out _ HX1.out).mono ?_
  rintro e w2 ⟨rfl, rfl⟩
  go_wp2_with fail
  refine (new_any _ _ l (HL.out.ext HX1.out) (by omega)).mono ?_
  rintro e w2 ⟨rfl, ht2, hx2, hs2⟩
  rw [← hs2] at ht2
  have HX2 := Lib.hid (HX1.out.trans hx2)
  have hg2 : w.heap.size ≤ w1.heap.size := HX1.out.size
  have hg3 : w.heap.size ≤ w2.heap.size := HX2.out.size
  have HEX := Lib.hid (expr_any 5 w1.heap.size w2 _ l 0 false ht2 (by decide) (by decide))
  generalize w1.heap.size = g at *
  clear ht2 hx2 hs2 HLT
  go_wp2_with fail
  refine HEX.out.mono ?_
  rintro e w3 ⟨x, v3, a3, rfl, hgd, hsz, hdp, hown, htp, hk⟩
  have HTX := Lib.hid (text_any w2.heap.size g w3 _ l a3 v3 x htp hk.size (by rw [List.nil_append] at hown; exact hown.read) hgd (by have : 2 ^ 5 ≤ 32 := (by decide); omega) (by omega))
  have HKB := Lib.hid hk
  obtain ⟨A3, c3, rfl⟩ := hown.shape
  generalize wayT (nextV l a3 4) (nodeT fmtI x) = tt at *
  clear hgd hsz hdp hown htp hk
  go_wp2_with fail
  refine HTX.out.mono ?_
  rintro e w4 ⟨rfl, _, hk4⟩
  have HX4 := Lib.hid ((HKB.out.trans hk4).to_ext HX2.out hg3 hg2)
  clear hk4 HTX HKB HEX hg2 hg3
  have hob := OwnS.block (B := w4.heap.size) (ls := [s, tt]) (Blk.new w4 9 _) (Nat.le_refl _) (by simp)
  have HRD : Hid (ArrS (w4.alloc (.cells #[str s, str tt] 9)) (.slice (some ⟨w4.heap.size, 0, none⟩) 2 2) [s, tt]) := Lib.hid hob.arr
  have HXW := Lib.hid (HX4.out.alloc (.cells #[str s, str tt] 9))
  obtain ⟨sv, hsv⟩ : ∃ sv, sv = [s, tt] := ⟨_, rfl⟩
  rw [← hsv] at HRD
  have hn2' : sv.length = 2 := by rw [hsv]; rfl
  clear hsv hob
  go_wp2_with fail
  generalize (w4.alloc (.cells #[str s, str tt] 9)) = wz at *
  generalize w4.heap.size = gz at *
  go_loopw [34] (fun i wq => ∃ k : Nat, k ≤ 2 ∧ i = .int .i64 k ∧ Ext wz wq) (fun i _ => 2 - (intOf i).toNat)
  case atStart => exact ⟨0, by omega, rfl, Ext.refl _⟩
  case round =>
    obtain ⟨k, hk, rfl, hext⟩ := hrel
    have HX7 := Lib.hid (HXW.out.trans hext)
    by_cases hlt : k < 2
    · obtain ⟨A', c', hv, _, _, hcell⟩ := (HRD.out.ext hext).open
      injection hv with hv hv1 hv2
      clear hv1 hv2
      obtain ⟨b, o, hbo, _, hcells⟩ := hcell (by rw [hn2']; omega)
      clear hcell
      rw [hbo] at hv
      injection hv with hv
      injection hv with hv1 hv2 hv3
      subst hv1
      subst hv2
      clear hv3
      have hx := hcells k (by rw [hn2']; exact hlt)
      rw [Nat.zero_add] at hx
      clear hcells hbo
      generalize sv[k] = y at *
      have hki : (k : Int) < 2 := by omega
      have HO1 := Lib.hid (fun W hx => pparse_any W y (HM.out.ext (w' := W) hx))
      unfold ParseP at HO1
      have HEX := Lib.hid hext
      clear hext
      obtain ⟨r, hr⟩ : ∃ r, parseR y = r := ⟨_, rfl⟩
      rw [hr] at HO1
      obtain ⟨_ | x1, n1, k1⟩ := r
      · have hk1 := parseR_none hr
        have hkb : ((k1 : Int) != 0) = true := by rw [bne_iff_ne]; omega
        simp only [exNodes] at HO1
        clear hr hk1
        generalize (k1 : Int) = k1i at *
        go_wp2_with fail
        refine (HO1.out _ HX7.out).mono ?_
        rintro e w5 ⟨v5, rfl, hx5, hr5⟩
        obtain ⟨A5, c5, rfl⟩ := hr5.shape
        have HE5 := Lib.hid (HEX.out.trans hx5)
        clear hr5 hx5
        go_wp2_with fail
        go_roundw
        case rel => exact ⟨k + 1, by omega, by go_num, HE5.out⟩
        case measure => simp [intOf]; omega
      · have hps := parseR_some hr
        obtain ⟨_, hq2, hq3, hq4, rfl, rfl⟩ := hps
        simp only [exNodes] at HO1
        have HF := Lib.hid (fun W v h hx => pformat_any W v x1 h hq4 hq2 hq3 (HM.out.ext (w' := W) hx) (HPW.out.ext hx))
        have HPP := Lib.hid (fun W hx => pparse_any W (nodeT fmtI x1) (HM.out.ext (w' := W) hx))
        have HRB := Lib.hid (fun hl => read_back hq4 hq2 hq3 hl)
        have HFL : Hid ((flat 0 x1).length ≤ 1000000) := Lib.hid (by rw [flat_len]; omega)
        unfold ParseP at HPP
        obtain ⟨p, hp⟩ : ∃ p, nodeT fmtI x1 = p := ⟨_, rfl⟩
        rw [hp] at HF HPP HRB
        obtain ⟨fl, hfe⟩ : ∃ fl, flat 0 x1 = fl := ⟨_, rfl⟩
        have HFE := Lib.hid hfe
        rw [hfe] at HO1 HF HFL
        have hk0 : (((0 : Nat) : Int)) = 0 := rfl
        rw [hk0] at HO1
        clear hr hq2 hq3 hq4 hp hfe hk0
        rcases Nat.lt_or_ge 400 p.length with hy | hy
        · have hy' : (400 : Int) < (p.length : Int) := by omega
          clear hy HRB HPP HFE
          go_wp2_with fail
          refine (HO1.out _ HX7.out).mono ?_
          rintro e w5 ⟨v5, rfl, hx5, hr5⟩
          have HE5 := Lib.hid (HEX.out.trans hx5)
          have HX5 := Lib.hid (HX7.out.trans hx5)
          have HFX := Lib.hid (HF.out w5 _ hr5 HX5.out)
          obtain ⟨A5, c5, rfl⟩ := hr5.shape
          clear hr5 hx5
          go_wp2_with fail
          refine HFX.out.mono ?_
          rintro e w6 ⟨rfl, hx6⟩
          have HE6 := Lib.hid (HE5.out.trans hx6)
          clear hx6
          go_wp2_with fail
          go_roundw
          case rel => exact ⟨k + 1, by omega, by go_num, HE6.out⟩
          case measure => simp [intOf]; omega
        · rw [HRB.out hy] at HPP
          simp only [exNodes] at HPP
          rw [HFE.out] at HPP
          have hk0 : (((0 : Nat) : Int)) = 0 := rfl
          rw [hk0] at HPP
          have hy' : ¬ (400 : Int) < (p.length : Int) := by omega
          have hpp : (p == p) = true := beq_self_eq_true p
          clear hy HRB HFE hk0
          go_wp2_with fail
          refine (HO1.out _ HX7.out).mono ?_
          rintro e w5 ⟨v5, rfl, hx5, hr5⟩
          have HE5 := Lib.hid (HEX.out.trans hx5)
          have HX5 := Lib.hid (HX7.out.trans hx5)
          have HFX := Lib.hid (HF.out w5 _ hr5 HX5.out)
          have HR5 := Lib.hid hr5
          obtain ⟨A5, c5, rfl⟩ := hr5.shape
          clear hr5 hx5
          go_wp2_with fail
          refine HFX.out.mono ?_
          rintro e w6 ⟨rfl, hx6⟩
          have HE6 := Lib.hid (HE5.out.trans hx6)
          have HX6 := Lib.hid (HX5.out.trans hx6)
          have HR6 := Lib.hid (HR5.out.ext hx6)
          clear hx6
          go_wp2_with fail
          refine (HPP.out _ HX6.out).mono ?_
          rintro e w8 ⟨v8, rfl, hx8, hr8⟩
          have HE8 := Lib.hid (HE6.out.trans hx8)
          have HX8 := Lib.hid (HX6.out.trans hx8)
          have HSM := Lib.hid (rsameN_any w8 _ _ fl (HR6.out.ext hx8) hr8 HFL.out)
          have HR8 := Lib.hid hr8
          obtain ⟨A8, c8, rfl⟩ := hr8.shape
          clear hx8 hr8
          go_wp2_with fail
          refine HSM.out.mono ?_
          rintro e w9 ⟨rfl, hd9⟩
          have HE9 := Lib.hid (HE8.out.trans hd9.ext)
          have HFY := Lib.hid (HF.out w9 _ (HR8.out.ext hd9.ext) (HX8.out.trans hd9.ext))
          clear hd9
          go_wp2_with fail
          refine HFY.out.mono ?_
          rintro e w10 ⟨rfl, hx10⟩
          have HE10 := Lib.hid (HE9.out.trans hx10)
          clear hx10
          go_wp2_with fail
          go_roundw
          case rel => exact ⟨k + 1, by omega, by go_num, HE10.out⟩
          case measure => simp [intOf]; omega
    · obtain rfl : k = 2 := by omega
      clear hext
      go_wp2_with fail
      go_ret
      exact ⟨rfl, HX7.out⟩
end Big
end Go.Proofs.YtgopljllknbelaaGreatDoor
