import Derived.Test.YtgbfppdkpolkdaaGreatDoorM29
import Derived.Test.YtgbfppdkpolkdaaGreatDoorM20
import Derived.Test.YtgbfppdkpolkdaaGreatDoorM10
import Derived.Test.YtgbfppdkpolkdaaGreatDoorM31
import Derived.Test.YtgbfppdkpolkdaaGreatDoorM30
/- ParserSpaces. -/
namespace Go.Proofs.YtgbfppdkpolkdaaGreatDoor
namespace Big
open Go.RowKit
theorem print_any (w : World) (v : Value) (e : Ex) (hr : RNd w v (flat 0 e)) (hg : e.Good) (hs : e.size ≤ 200) (hd : e.depth ≤ 40) : Calls Tryz.prog 17 #[v] w fun r w' => r = .returned (str (nodeT fmtI e)) ∧ Ext w w' := by
  have H := Lib.hid (format20_any w v e hr hg hs hd)
  obtain ⟨A, c, rfl⟩ := hr.shape
  generalize nodeT fmtI e = s at *
  clear hr hg hs hd
  go_enter Tryz.func17, Tryz.ntmps17
  go_wp2_with fail
  refine H.out.mono ?_
  rintro r w1 ⟨rfl, hx1⟩
  have HX1 := Lib.hid hx1
  clear hx1
  go_wp2_with fail
  go_ret
  exact ⟨rfl, HX1.out⟩
set_option maxHeartbeats 4000000 in
set_option maxRecDepth 100000 in
theorem parserSpaces_any (w : World) (v : Value) (l : List Int) (n : Int) (h : ArrI w v l) (hn1 : -9223372036854775808 ≤ n) (hn2 : n ≤ 9223372036854775807) (hm : MaxV w) :
    Calls Tryz.prog 5 #[v, .int .i64 n] w fun e w' => e = .returned (.bool true) ∧ Ext w w' := by
  have HAW := Lib.hid (awake19_any w hm)
  have HM := Lib.hid hm
  have HL := Lib.hid h
  have HLT := Lib.hid (fun W hx => light_any W v l (HL.out.ext hx))
  have HMK := Lib.hid (fun W => mod_any W n 20 hn1 hn2 (by decide) (by decide))
  have hm1 := Int.emod_nonneg n (show (20 : Int) ≠ 0 by decide)
  have hm2 := Int.emod_lt_of_pos n (show (0 : Int) < 20 by decide)
  generalize n % 20 = q at *
  obtain ⟨q, rfl⟩ := Int.eq_ofNat_of_zero_le hm1
  have hq20 : q < 20 := by omega
  obtain ⟨A0, c0, rfl, _⟩ := h.open
  clear h hm hm1 hm2
  by_cases hlt : 120 < l.length
  · have hd : decide (l.length ≤ 120) = false := decide_eq_false (by omega)
    rw [hd] at HLT
    clear HL hlt hd
    go_enter Tryz.func5, Tryz.ntmps5
    go_wp2_with fail
    refine HAW.out.mono ?_
    rintro e w1 ⟨rfl, hx1⟩
    have HX1 := Lib.hid hx1
    clear hx1
    go_wp2_with fail
    refine (HLT.out _ HX1.out).mono ?_
    rintro e w2 ⟨rfl, rfl⟩
    go_wp2_with fail
    go_ret
    exact ⟨rfl, HX1.out⟩
  have hd : decide (l.length ≤ 120) = true := decide_eq_true (by omega)
  rw [hd] at HLT
  have hll : l.length ≤ 120 := by omega
  clear hlt hd
  go_enter Tryz.func5, Tryz.ntmps5
  go_wp2_with fail
  refine HAW.out.mono ?_
  rintro e w1 ⟨rfl, hx1⟩
  have HX1 := Lib.hid hx1
  clear hx1
  go_wp2_with fail
  refine (HLT.out _ HX1.out).mono ?_
  rintro e w2 ⟨rfl, rfl⟩
  go_wp2_with fail
  refine (new_any _ _ l (HL.out.ext HX1.out) (by omega)).mono ?_
  rintro e w2 ⟨rfl, ht2, hx2, hs2⟩
  rw [← hs2] at ht2
  have HX2 := Lib.hid (HX1.out.trans hx2)
  have hg2 : w.heap.size ≤ w1.heap.size := HX1.out.size
  have hg3 : w.heap.size ≤ w2.heap.size := HX2.out.size
  have HEX := Lib.hid (expr_any 4 w1.heap.size w2 _ l 0 false ht2 (by decide) (by decide))
  generalize w1.heap.size = g at *
  clear ht2 hx2 hs2 HLT
  go_wp2_with fail
  refine HEX.out.mono ?_
  rintro e w3 ⟨x, v3, a3, rfl, hgd, hsz, hdp, hown, htp, hk⟩
  have hsz2 : x.size ≤ 15 := by have : 2 ^ 4 ≤ 16 := (by decide); omega
  have HRX : Hid (RNd w3 v3 (flat 0 x)) := Lib.hid (by rw [List.nil_append] at hown; exact hown.read)
  have HPR := Lib.hid (print_any w3 v3 x HRX.out hgd (by omega) (by omega))
  have HX3 := Lib.hid (hk.to_ext HX2.out hg3 hg2)
  have htl2 := nodeT_len fmtI fmtI_len x hgd
  have HPK := Lib.hid (fun k hk => spaces_par hgd (by omega) (by omega) k hk)
  have HPW := Lib.hid (fun hk => spaces_wide hgd (by omega) (by omega) hk)
  have hsl : (nodeT fmtI x).length ≤ 7000 := by omega
  have HFL2 : Hid ((flat 0 x).length ≤ 1000000) := Lib.hid (by rw [flat_len]; omega)
  obtain ⟨fl, hfe⟩ : ∃ fl, flat 0 x = fl := ⟨_, rfl⟩
  have HFE := Lib.hid hfe
  rw [hfe] at HRX HFL2
  have hown2 : ∃ A c, v3 = .slice A fl.length c := by rw [← hfe]; exact (show OwnNd _ w3 v3 (flat 0 x) from hown).shape
  clear hfe
  generalize nodeT fmtI x = s at *
  obtain ⟨A3, c3, rfl⟩ := hown2
  clear hgd hsz hdp hown htp hk htl2 HEX hg2 hg3 hsz2
  go_wp2_with fail
  refine HPR.out.mono ?_
  rintro e w4 ⟨rfl, hx4⟩
  have HX4 := Lib.hid (HX3.out.trans hx4)
  have HR4 := Lib.hid (HRX.out.ext hx4)
  clear hx4 HPR HRX
  go_wp2_with fail
  refine (HMK.out _).mono ?_
  rintro e w5 ⟨rfl, rfl⟩
  go_wp2_with fail
  have hwl := fun a => widen_len (s.take a)
  go_loopw [8, 9] (fun s8 s9 wr => ∃ i : Nat, i ≤ s.length ∧ s8 = str (widen (s.take i)) ∧ s9 = .int .i64 (i : Int) ∧ w4 = wr) (fun _ s9 _ => s.length - (intOf s9).toNat)
  case atStart => exact ⟨0, Nat.zero_le _, rfl, rfl, rfl⟩
  case round =>
    obtain ⟨i, hi, rfl, rfl, rfl⟩ := hrel
    by_cases hlt : i < s.length
    · have HT : Hid (widen (s.take (i + 1)) = widen (s.take i) ++ (if s[i] = 32 then [32, 32, 32] else [s[i]])) := Lib.hid (by
        rw [List.take_succ_eq_append_getElem hlt, widen_append]
        congr 1
        rw [widen, widen, List.append_nil])
      have hw1 : IntKind.i64.wrap ((i : Int) + 1) = (i : Int) + 1 := IntWalk.i64_in _ (by omega)
      have hq0 : (0 : Int) ≤ (i : Int) := by omega
      have hq1 : (i : Int) ≤ (i : Int) + 1 := by omega
      have hq3 : (0 : Int) ≤ (i : Int) + 1 := by omega
      have hq4 : (i : Int) + 1 ≤ (s.length : Int) := by omega
      have hq5 : (i : Int) < (s.length : Int) := by omega
      have hq6 : ((i : Int) + 1).toNat = i + 1 := by omega
      have hdr : List.drop i (List.take (i + 1) s) = [s[i]] := by rw [List.take_succ_eq_append_getElem hlt, List.drop_left' (by rw [List.length_take]; omega)]
      have hbt := byteAt_eq s i hlt
      have hJ := hwl i
      rw [List.length_take] at hJ
      generalize s[i] = c at *
      generalize widen (s.take i) = J at *
      by_cases hc : c = 32
      · subst hc
        have hb1 : ((byteAt s i : Int) == 32) = true := by rw [hbt]; rfl
        have a1 : ∀ W : World, (binOp .add 9 (str J) (.string ⟨#[32, 32]⟩)).run Tryz.prog W = .ok (str (J ++ [32, 32])) W := fun W => run_add_str J [32, 32] (by simp; omega) W
        have a2 : ∀ W : World, (binOp .add 9 (str (J ++ [32, 32])) (str [32])).run Tryz.prog W = .ok (str (J ++ [32, 32] ++ [32])) W := fun W => run_add_str (J ++ [32, 32]) [32] (by simp; omega) W
        clear hbt hJ
        go_wp2_with fail
        go_roundw
        case rel => exact ⟨i + 1, by omega, by rw [HT.out, if_pos rfl], by go_num, trivial⟩
        case measure => simp [intOf]; omega
      · have hb1 : ((byteAt s i : Int) == 32) = false := by
          rw [beq_eq_false_iff_ne]
          intro he
          apply hc
          rw [hbt] at he
          exact UInt8.toNat_inj.1 (by have : (32 : UInt8).toNat = 32 := rfl; omega)
        have a1 : ∀ W : World, (binOp .add 9 (str J) (str [c])).run Tryz.prog W = .ok (str (J ++ [c])) W := fun W => run_add_str J [c] (by simp; omega) W
        clear hbt hJ
        go_wp2_with fail
        go_roundw
        case rel => exact ⟨i + 1, by omega, by rw [HT.out, if_neg hc], by go_num, trivial⟩
        case measure => simp [intOf]; omega
    · obtain rfl : i = s.length := by omega
      rw [List.take_length]
      clear hwl hlt hi
      have hwl := widen_len s
      generalize widen s = wd at *
      go_wp2_with fail
      generalize w4 = wr at *
      go_loopw [6, 47] (fun s6 s47 wq => ∃ j : Nat, j ≤ q ∧ s6 = str (parK j s) ∧ s47 = .int .i64 (j : Int) ∧ wr = wq) (fun _ s47 _ => q - (intOf s47).toNat)
      case atStart => exact ⟨0, Nat.zero_le _, rfl, rfl, rfl⟩
      case round =>
        obtain ⟨j, hj, rfl, rfl, rfl⟩ := hrel
        have hpl := parK_len j s
        by_cases hlt : j < q
        · have HPJ : Hid (parK (j + 1) s = 40 :: (parK j s ++ [41])) := Lib.hid rfl
          generalize parK j s = P at *
          have a1 : ∀ W : World, (binOp .add 9 (.string ⟨#[40]⟩) (str P)).run Tryz.prog W = .ok (str (40 :: P)) W := fun W => run_add_str [40] P (by simp; omega) W
          have a2 : ∀ W : World, (binOp .add 9 (str (40 :: P)) (.string ⟨#[41]⟩)).run Tryz.prog W = .ok (str (40 :: (P ++ [41]))) W := fun W => run_add_str (40 :: P) [41] (by simp; omega) W
          clear hpl
          go_wp2_with fail
          go_roundw
          case rel => exact ⟨j + 1, by omega, by rw [HPJ.out], by go_num, trivial⟩
          case measure => simp [intOf]; omega
        · obtain rfl : j = q := by omega
          have hpk := HPK.out j
          generalize parK j s = P at *
          have hob := OwnS.block (B := wr.heap.size) (ls := [P, wd]) (Blk.new wr 9 _) (Nat.le_refl _) (by simp)
          have HRD : Hid (ArrS (wr.alloc (.cells #[str P, str wd] 9)) (.slice (some ⟨wr.heap.size, 0, none⟩) 2 2) [P, wd]) := Lib.hid hob.arr
          have HXW := Lib.hid (HX4.out.alloc (.cells #[str P, str wd] 9))
          have HRX := Lib.hid (HR4.out.ext ((Ext.refl wr).alloc (.cells #[str P, str wd] 9)))
          obtain ⟨sv, hsv⟩ : ∃ sv, sv = [P, wd] := ⟨_, rfl⟩
          have HSV : Hid (∀ t ∈ sv, t.length ≤ 30000 ∧ (t.length ≤ 400 → parseR t = (some x, t.length, 0))) := Lib.hid (by
            rw [hsv]
            intro t ht
            rcases List.mem_cons.1 ht with rfl | ht
            · exact ⟨by omega, hpk⟩
            · rw [List.mem_singleton] at ht
              subst ht
              exact ⟨by omega, HPW.out⟩)
          rw [← hsv] at HRD
          have hn2' : sv.length = 2 := by rw [hsv]; rfl
          clear hsv hpk hpl hob hlt hj hwl hsl HX4 HR4 hq20
          go_wp2_with fail
          generalize (wr.alloc (.cells #[str P, str wd] 9)) = wz at *
          generalize wr.heap.size = gz at *
          go_loopw [57] (fun i wq => ∃ k : Nat, k ≤ 2 ∧ i = .int .i64 k ∧ Ext wz wq) (fun i _ => 2 - (intOf i).toNat)
          case atStart => exact ⟨0, by omega, rfl, Ext.refl _⟩
          case round =>
            obtain ⟨k, hk, rfl, hext⟩ := hrel
            have HX7 := Lib.hid (HXW.out.trans hext)
            by_cases hlt : k < 2
            · obtain ⟨A', c', hv, _, _, hcell⟩ := (HRD.out.ext hext).open
              injection hv with hv hv1 hv2
              clear hv1 hv2
              obtain ⟨b, o, hbo, _, hcells⟩ := hcell (by rw [hn2']; omega)
              clear hcell
              rw [hbo] at hv
              injection hv with hv
              injection hv with hv1 hv2 hv3
              subst hv1
              subst hv2
              clear hv3
              have hx := hcells k (by rw [hn2']; exact hlt)
              rw [Nat.zero_add] at hx
              clear hcells hbo
              obtain ⟨hyl, hyp⟩ := HSV.out _ (List.getElem_mem (show k < sv.length by rw [hn2']; exact hlt))
              have HR7 := Lib.hid (HRX.out.ext hext)
              generalize sv[k] = y at *
              have hki : (k : Int) < 2 := by omega
              have HO1 := Lib.hid (fun W hx => pparse_any W y (HM.out.ext (w' := W) hx))
              unfold ParseP at HO1
              have HEX := Lib.hid hext
              clear hext
              rcases Nat.lt_or_ge 400 y.length with hy | hy
              · have hp7 := parseR_long hy
                rw [hp7] at HO1
                have hy' : (400 : Int) < (y.length : Int) := by omega
                generalize (parseR y).2.1 = z1 at *
                clear hyp hp7 hy
                go_wp2_with fail
                refine (HO1.out _ HX7.out).mono ?_
                rintro e w5 ⟨v5, rfl, hx5, hr5⟩
                obtain ⟨A5, c5, rfl⟩ := hr5.shape
                have HE5 := Lib.hid (HEX.out.trans hx5)
                clear hr5 hx5
                go_wp2_with fail
                go_roundw
                case rel => exact ⟨k + 1, by omega, by go_num, HE5.out⟩
                case measure => simp [intOf]; omega
              · have hp := hyp hy
                rw [hp] at HO1
                have hy' : ¬ (400 : Int) < (y.length : Int) := by omega
                clear hyp hp hy
                simp only [exNodes] at HO1
                rw [HFE.out] at HO1
                go_wp2_with fail
                refine (HO1.out _ HX7.out).mono ?_
                rintro e w5 ⟨v5, rfl, hx5, hr5⟩
                have HE5 := Lib.hid (HEX.out.trans hx5)
                have HSM := Lib.hid (fun W hd => rsameN_any W _ _ _ (hr5.ext hd) ((HR7.out.ext hx5).ext hd) HFL2.out)
                obtain ⟨A5, c5, rfl⟩ := hr5.shape
                clear hr5 hx5
                go_wp2_with fail
                refine (HSM.out _ (Ext.refl w5)).mono ?_
                rintro e w6 ⟨rfl, hd6⟩
                have HE6 := Lib.hid (HE5.out.trans hd6.ext)
                clear hd6
                go_wp2_with fail
                go_roundw
                case rel => exact ⟨k + 1, by omega, by go_num, HE6.out⟩
                case measure => simp [intOf]; omega
            · obtain rfl : k = 2 := by omega
              clear hext
              go_wp2_with fail
              go_ret
              exact ⟨rfl, HX7.out⟩
end Big
end Go.Proofs.YtgbfppdkpolkdaaGreatDoor
