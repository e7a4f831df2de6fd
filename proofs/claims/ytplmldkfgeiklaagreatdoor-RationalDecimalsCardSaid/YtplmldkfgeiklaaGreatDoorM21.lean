import Derived.Test.YtplmldkfgeiklaaGreatDoorM5
import Derived.Test.YtplmldkfgeiklaaGreatDoorM11
import Derived.Test.YtplmldkfgeiklaaGreatDoorM15
import Derived.Test.YtplmldkfgeiklaaGreatDoorM2
import Derived.Test.YtplmldkfgeiklaaGreatDoorM18
import Derived.Test.YtplmldkfgeiklaaGreatDoorM20
import Derived.Test.YtplmldkfgeiklaaGreatDoorM19
import Derived.Test.YtplmldkfgeiklaaGreatDoorM8
import Derived.Test.YtplmldkfgeiklaaGreatDoorM14
namespace Go.Proofs.YtplmldkfgeiklaaGreatDoor
namespace Big
open Go.RowKit

theorem rdigits_any (w : World) (v : Value) (N : Nat) (h : Arr w v (limbs N)) (hn : (limbs N).length ≤ 67108864) :
    Calls Tryz.prog 124 #[v] w fun e w' => e = .returned (str (dec N)) ∧ Ext w w' := by
  have HLEN := Lib.hid (fun m (hm : m ≤ N) => length_limbs_lt (ok_limbs N) (n := m) (by rw [val_limbs]; exact hm))
  have HN := Lib.hid hn
  have HA := Lib.hid h
  have HLN := Lib.hid (show (low N).length ≤ 1073741823 by
    have := length_low_val (ok_limbs N)
    rw [val_limbs] at this
    omega)
  clear h
  go_enter Tryz.func124, Tryz.ntmps124
  go_wp2_with fail
  go_loopg [0, 3] N (fun g a s wr => ∃ t : List UInt8, g ≤ N ∧ Arr wr a (limbs g) ∧ s = str t ∧ (low N).reverse = (low g).reverse ++ t ∧ Ext w wr)
  case atStart => exact ⟨[], Nat.le_refl _, HA.out, rfl, by simp, Ext.refl _⟩
  case round =>
    obtain ⟨t, hg, har, rfl, hlow, hext⟩ := hrel
    have HLOW := Lib.hid hlow; clear hlow
    have HAR := Lib.hid har
    obtain ⟨_, A, c, rfl, hc, hm, _⟩ := har.open
    have HM := Lib.hid hm; clear hm
    rcases Nat.eq_zero_or_pos gk with h0 | h0
    · subst h0
      clear hc har
      simp only [limbs_zero, List.length_nil, low_zero, List.reverse_nil, List.nil_append] at HLOW ⊢
      rcases t with _ | ⟨b, t⟩
      · have HD := Lib.hid (show dec N = [48] by rw [low_nil (List.reverse_eq_nil_iff.1 HLOW.out)]; rfl)
        simp only [str]
        go_wp2_with fail
        go_ret
        exact ⟨congrArg (fun l => Ending.returned (str l)) HD.out.symm, hext⟩
      · have HD := Lib.hid (show dec N = b :: t by rw [dec_pos N (by rintro rfl; simp [low_zero] at HLOW; exact absurd HLOW.out (by simp)), HLOW.out])
        simp only [str]
        go_wp2_with fail
        go_ret
        exact ⟨congrArg (fun l => Ending.returned (str l)) HD.out.symm, hext⟩
    · have hlp : 0 < (limbs gk).length := by rw [limbs_pos gk (by omega)]; simp
      have hll := Nat.le_trans (HLEN.out gk hg) HN.out
      clear har hc
      go_wp2_with fail
      have HOF := rof_any wr 10 (by omega)
      rw [show ((10 : Nat) : Int) = 10 from rfl] at HOF
      refine HOF.mono ?_
      rintro e w1 ⟨v1, rfl, ho1, hx1⟩
      go_wp2_with fail
      have HD := rdivmod_any w1 _ v1 (limbs gk) (limbs 10) (HAR.out.ext hx1) ho1.arr (by omega) (by decide) (by rw [val_limbs]; omega)
      rw [val_limbs, val_limbs] at HD
      refine HD.mono ?_
      rintro e w2 ⟨v2, v3, rfl, ho2, har3, hx2⟩
      have HA2 := Lib.hid ho2.arr
      clear ho2 ho1
      have hr10 := Nat.mod_lt gk (show 0 < 10 by omega)
      have hq10 : gk / 10 < gk := by omega
      have HAH := Lib.hid (low_ahead gk (by omega) t)
      obtain ⟨q, hq⟩ : ∃ q, gk / 10 = q := ⟨_, rfl⟩
      obtain ⟨r, hr⟩ : ∃ r, gk % 10 = r := ⟨_, rfl⟩
      rw [hq] at HA2 hq10 HAH
      rw [hr] at har3 hr10 HAH
      clear hq hr
      have HAR3 := Lib.hid har3
      have htl : t.length ≤ 1073741824 := by
        have h1 := congrArg List.length HLOW.out
        rw [List.length_reverse, List.length_append] at h1
        have := HLN.out
        omega
      have hadd := run_add_digit r hr10 t htl
      obtain ⟨dg, hdg⟩ : ∃ dg, UInt8.ofNat (48 + r) = dg := ⟨_, rfl⟩
      rw [hdg] at hadd HAH
      clear hdg
      obtain ⟨_, A3, c3, rfl, hc3, hm3, hcell⟩ := har3.open
      have HM3 := Lib.hid hm3; clear hm3 har3
      rcases Nat.eq_zero_or_pos r with hr0 | hr0
      · subst hr0
        simp only [limbs_zero, List.length_nil]
        clear hcell hc3
        simp only [Nat.zero_add] at hadd
        go_wp2_with fail
        go_roundg q
        case measure => omega
        case rel => exact ⟨_, by omega, HA2.out, rfl, by rw [HLOW.out]; exact HAH.out, hext.trans (hx1.trans hx2)⟩
      · have hlr : limbs r = [r] := by rw [limbs_pos r (by omega), Nat.mod_eq_of_lt (by omega), Nat.div_eq_of_lt (by omega)]; rfl
        rw [hlr] at hcell hc3 ⊢
        obtain ⟨b, o, rfl, hb, hcell⟩ := hcell (by simp)
        have hx := hcell 0 (by simp)
        simp only [List.length_cons, List.length_nil, d32, List.getD_cons_zero, Nat.add_zero] at hx hc3 ⊢
        clear hcell hlr
        go_wp2_with fail
        go_roundg q
        case measure => omega
        case rel => exact ⟨_, by omega, HA2.out, rfl, by rw [HLOW.out]; exact HAH.out, hext.trans (hx1.trans hx2)⟩
end Big
end Go.Proofs.YtplmldkfgeiklaaGreatDoor
namespace Go.Proofs.YtplmldkfgeiklaaGreatDoor
namespace Big
open Go.RowKit

/-- The text of an integer. -/
def fmtI (z : Int) : List UInt8 := if z < 0 then 45 :: dec z.natAbs else dec z.natAbs
theorem length_dec_le {n k : Nat} (hk : 1 ≤ k) (h : (low n).length ≤ k) : (dec n).length ≤ k := by
  unfold dec
  split
  · simpa using hk
  · simpa using h
theorem dec_len (N : Nat) (h : (limbs N).length ≤ 67108864) : (dec N).length ≤ 1073741823 := by
  refine length_dec_le (by omega) ?_
  have := length_low_val (ok_limbs N)
  rw [val_limbs] at this
  omega

theorem rformat_any (w : World) (v : Value) (z : Int) (h : ArrInt w v z) (hn : (limbs z.natAbs).length ≤ 67108864) :
    Calls Tryz.prog 70 #[v] w fun e w' => e = .returned (str (fmtI z)) ∧ Ext w w' := by
  obtain ⟨m, rfl, ha⟩ := h
  have hl := dec_len z.natAbs hn
  have HD := Lib.hid (fun W hx => rdigits_any W m z.natAbs (ha.ext hx) hn)
  obtain ⟨_, A, c, rfl, _⟩ := ha.open
  clear ha
  have hF : fmtI z = if z < 0 then [45] ++ dec z.natAbs else dec z.natAbs := rfl
  have HF := Lib.hid hF; clear hF
  have hadd := run_add_str [45] (dec z.natAbs) (by simp; omega)
  rcases Int.lt_or_le z 0 with hz | hz
  · rw [decide_eq_true hz]
    have HZ := Lib.hid (show (if z < 0 then [45] ++ dec z.natAbs else dec z.natAbs) = [45] ++ dec z.natAbs from if_pos hz)
    clear hz
    generalize dec z.natAbs = dz at *
    generalize (limbs z.natAbs).length = ln at *
    go_enter Tryz.func70, Tryz.ntmps70
    go_wp2_with fail
    refine (HD.out _ ((Ext.refl w).alloc _)).mono ?_
    rintro e w1 ⟨rfl, hx⟩
    simp only [str, List.cons_append, List.nil_append] at hadd ⊢
    go_wp2_with fail
    go_ret
    exact ⟨congrArg (fun l => Ending.returned (str l)) (HF.out.trans HZ.out).symm, ((Ext.refl w).alloc _).trans hx⟩
  · rw [decide_eq_false (by omega)]
    have HZ := Lib.hid (show (if z < 0 then [45] ++ dec z.natAbs else dec z.natAbs) = dec z.natAbs from if_neg (show ¬ z < 0 by omega))
    clear hz
    generalize dec z.natAbs = dz at *
    generalize (limbs z.natAbs).length = ln at *
    go_enter Tryz.func70, Tryz.ntmps70
    go_wp2_with fail
    refine (HD.out _ ((Ext.refl w).alloc _)).mono ?_
    rintro e w1 ⟨rfl, hx⟩
    go_wp2_with fail
    go_ret
    exact ⟨congrArg (fun l => Ending.returned (str l)) (HF.out.trans HZ.out).symm, ((Ext.refl w).alloc _).trans hx⟩
end Big
end Go.Proofs.YtplmldkfgeiklaaGreatDoor
/- The document's Decimal. Printed by a program. -/
namespace Go.Proofs.YtplmldkfgeiklaaGreatDoor
namespace Big
open Go.RowKit
theorem limbs_ten (n : Nat) : (limbs (10 ^ n)).length ≤ n + 1 := by
  have := limbs_pow_le (V := 10) (L := 1) (by decide +kernel) n
  omega
theorem scN_mulP {p t f : Nat} {q : Nat} (hq : q = 5 ^ f * 2 ^ t) : mulP (p : Int) q ((10 ^ max t f : Nat) : Int) 1 = ((scN p t f : Nat) : Int) ∧ mulQ (p : Int) q ((10 ^ max t f : Nat) : Int) 1 = 1 := by
  have hp : 0 < q := by rw [hq]; exact Nat.mul_pos (Nat.pow_pos (by decide)) (Nat.pow_pos (by decide))
  unfold mulP mulQ
  rw [Nat.mul_one]
  refine low_eq hp (low_int _) ?_
  have h := scN_mul p t f
  rw [← hq] at h
  rw [← Int.natCast_mul, ← Int.natCast_mul, ← Int.natCast_mul, h, Nat.mul_one]
theorem fmt_nat (n : Nat) : fmtI (n : Int) = dec n := by
  unfold fmtI
  rw [if_neg (by omega), Int.natAbs_natCast]
set_option maxHeartbeats 2000000 in
set_option maxRecDepth 100000 in
theorem rdecR_any (w : World) (v0 : Value) (p : Int) (q : Nat) (h0 : ArrRat w v0 p q) (n0 : (limbs p.natAbs).length ≤ 1000) (m0 : (limbs q).length ≤ 1000) (hq : 0 < q) :
    Calls Tryz.prog 20 #[v0] w (DecPost p q w) := by
  have H0 := Lib.hid h0
  have HST2 := Lib.hid (fun W m a => rstrip_any W m q 2 a (by omega) hq (by decide) (by decide))
  have HST5 := Lib.hid (fun W m r a (hr : (limbs r).length ≤ 10000) (hr0 : 0 < r) => rstrip_any W m r 5 a hr hr0 (by decide) (by decide))
  rw [show ((2 : Nat) : Int) = 2 from rfl] at HST2
  rw [show ((5 : Nat) : Int) = 5 from rfl] at HST5
  have HO1 := Lib.hid (fun W => rof_any W 1 (by decide))
  rw [show ((1 : Nat) : Int) = 1 from rfl] at HO1
  have HQ := Lib.hid (And.intro m0 hq)
  have HN0 := Lib.hid n0
  obtain ⟨b0, l0, A0, c0, k0, D0, e0, rfl⟩ := h0.shape
  have hs0 := h0.sign
  have HS0 := Lib.hid hs0
  clear h0 n0 m0 hq hs0
  go_enter Tryz.func20, Tryz.ntmps20
  go_wp2_with fail
  have hb0 := (Blk.new w 26 #[Value.bool b0, Value.slice A0 l0 c0, Value.slice D0 k0 e0])
  have hxo := ((Ext.refl w).alloc (.cells #[Value.bool b0, Value.slice A0 l0 c0, Value.slice D0 k0 e0] 26))
  have hszo : w.heap.size + 1 = (w.alloc (.cells #[Value.bool b0, Value.slice A0 l0 c0, Value.slice D0 k0 e0] 26)).heap.size := by simp
  generalize w.alloc (.cells #[Value.bool b0, Value.slice A0 l0 c0, Value.slice D0 k0 e0] 26) = wo at *
  have HX := Lib.hid hxo
  have HB0 := Lib.hid hb0
  clear hxo hszo hb0
  refine (HST2.out _ _ (H0.out.den.ext HX.out)).mono ?_
  rintro e w11 ⟨r10, m, t, rfl, ha10, hst2, ht32, hx10⟩
  have HX := Lib.hid (HX.out.trans hx10)
  have HB0 := Lib.hid (HB0.out.ext hx10)
  clear hx10
  have hm0 : 0 < m := hst2.pos HQ.out.2
  have hml : (limbs m).length ≤ 1000 := by
    refine Nat.le_trans (limbs_mono ?_) HQ.out.1
    rw [hst2.1]
    exact Nat.le_mul_of_pos_right _ (Nat.pow_pos (by decide))
  have ht2 : t ≤ 32000 := strip_bound (by decide) hst2.1 HQ.out.2 HQ.out.1
  have HS2 := Lib.hid hst2
  have RA := Lib.hid ha10
  obtain ⟨g10, G10, j10, rfl⟩ := ha10.shape
  have HST := Lib.hid (fun W v a => HST5.out W v m a (by omega) hm0)
  have HMM := Lib.hid (And.intro hml (And.intro hm0 ht2))
  clear ha10 hst2 ht32 hm0 hml ht2 HST5
  obtain ⟨hb0_0, hb0_1, hb0_2, hb0_3, hb0_4, hb0_5, hb0_6⟩ := HB0.out.three
  go_wp2_with fail
  clear hb0_0 hb0_1 hb0_2 hb0_3 hb0_4 hb0_5 hb0_6
  refine (HST.out _ _ RA.out).mono ?_
  rintro e w12 ⟨r11, r, f, rfl, ha11, hst5, hf32, hx11⟩
  have HX := Lib.hid (HX.out.trans hx11)
  have RA := Lib.hid (RA.out.ext hx11)
  have HB0 := Lib.hid (HB0.out.ext hx11)
  clear hx11
  have hf5 : f ≤ 32000 := strip_bound (by decide) hst5.1 HMM.out.2.1 HMM.out.1
  have hrl : (limbs r).length ≤ 1000 := by
    refine Nat.le_trans (limbs_mono ?_) HMM.out.1
    rw [hst5.1]
    exact Nat.le_mul_of_pos_right _ (Nat.pow_pos (by decide))
  have HS5 := Lib.hid hst5
  have RR := Lib.hid ha11
  obtain ⟨g11, G11, j11, rfl⟩ := ha11.shape
  have HSM := Lib.hid (fun W v u a b => rsame_any W v u (limbs r) (limbs 1) a b (by omega) (by rw [limbs_one]; simp))
  have hsm : (decide ((limbs r).length = (limbs 1).length) && decide (val (limbs r) = val (limbs 1))) = decide (r = 1) := by
    rw [val_limbs, val_limbs]
    by_cases e : r = 1
    · rw [e]; rfl
    · rw [decide_eq_false e, Bool.and_false]
  rw [hsm] at HSM
  have HF5 := Lib.hid hf5
  clear ha11 hst5 hf32 hf5 hrl hsm HST RA
  obtain ⟨hb0_0, hb0_1, hb0_2, hb0_3, hb0_4, hb0_5, hb0_6⟩ := HB0.out.three
  cases b0
  case true =>
    have hp : p < 0 := of_decide_eq_true HS0.out.symm
    have HP := Lib.hid hp
    clear hp HS0
    go_wp2_with fail
    go_ret2
    exact ⟨HX.out, .inr ⟨.inl HP.out, rfl⟩⟩
  have hp : ¬ p < 0 := of_decide_eq_false HS0.out.symm
  have HP := Lib.hid hp
  clear hp HS0
  go_wp2_with fail
  clear hb0_0 hb0_1 hb0_2 hb0_3 hb0_4 hb0_5 hb0_6
  refine (HO1.out _).mono ?_
  rintro e w13 ⟨r12, rfl, hi12, hx12⟩
  have HX := Lib.hid (HX.out.trans hx12)
  have RR := Lib.hid (RR.out.ext hx12)
  have HB0 := Lib.hid (HB0.out.ext hx12)
  have R1 := Lib.hid hi12
  obtain ⟨g12, G12, j12, rfl⟩ := hi12.shape
  clear hi12
  clear hx12
  obtain ⟨hb0_0, hb0_1, hb0_2, hb0_3, hb0_4, hb0_5, hb0_6⟩ := HB0.out.three
  go_wp2_with fail
  clear hb0_0 hb0_1 hb0_2 hb0_3 hb0_4 hb0_5 hb0_6
  refine (HSM.out _ _ _ RR.out R1.out.arr).mono ?_
  rintro e w14 ⟨rfl, rfl⟩
  clear RR R1
  by_cases hr : r = 1
  case neg =>
    have hd : decide (r = 1) = false := decide_eq_false hr
    have HNO : Hid (¬ ∃ t f : Nat, q = 5 ^ f * 2 ^ t) := Lib.hid (fun e => hr ((strip_one HS2.out HS5.out).1 e))
    rw [hd]
    clear hr
    go_wp2_with fail
    go_ret2
    exact ⟨HX.out, .inr ⟨.inr HNO.out, rfl⟩⟩
  have hd : decide (r = 1) = true := decide_eq_true hr
  rw [hd]
  have hqe : q = 5 ^ f * 2 ^ t := by
    rw [HS2.out.1, HS5.out.1, hr, Nat.one_mul]
  obtain ⟨M, hM⟩ : ∃ M, max t f = M := ⟨_, rfl⟩
  have hM32 : M ≤ 32000 := by have := HMM.out.2.2; have := HF5.out; omega
  have hmx : max (t : Int) (f : Int) = (M : Int) := by omega
  have hif1 : (if (t : Int) < (f : Int) then (f : Int) else (t : Int)) = (M : Int) := by split <;> omega
  have hif2 : (if (f : Int) ≤ (t : Int) then (t : Int) else (f : Int)) = (M : Int) := by split <;> omega
  have hpa : ((p.natAbs : Nat) : Int) = p := by have := HP.out; omega
  have hsc := scN_mulP (p := p.natAbs) hqe
  rw [hM, hpa] at hsc
  have hnl : (limbs (scN p.natAbs t f)).length ≤ 70000 := by
    have := limbs_scaled (m := p.natAbs) (a := max t f - f) (b := max t f - t) HN0.out
    unfold scN
    omega
  obtain ⟨N, hN⟩ : ∃ N, scN p.natAbs t f = N := ⟨_, rfl⟩
  rw [hN] at hsc hnl
  have hfin : ∀ (W : World) (l : List UInt8), l = dotT N M → Ext w W → DecPost p q w (.returned (.tuple #[str l, .bool true])) W := fun W l hl hx =>
    ⟨hx, .inl ⟨t, f, by have := HP.out; omega, hqe, by rw [hl, hN, hM]⟩⟩
  have HFIN := Lib.hid hfin
  have hdl := dec_len_limbs hnl
  have htl := limbs_ten M
  have HTN := Lib.hid (fun W => rten_any W M (by omega))
  have HI1 := Lib.hid (fun W => rof5_any W 1 (by decide) (by decide))
  have HOF := Lib.hid (fun W v u a b => rofR_nat W v u ((10 ^ M : Nat) : Int) 1 a b (by rw [Int.natAbs_natCast]; omega) (by rw [limbs_one]; simp) (by decide))
  rw [(low_self (low_int ((10 ^ M : Nat) : Int))).1, (low_self (low_int ((10 ^ M : Nat) : Int))).2] at HOF
  have HML := Lib.hid (fun W v u a b => rmulR_any W v p q a (by have := HN0.out; omega) (by have := HQ.out.1; omega) u ((10 ^ M : Nat) : Int) 1 b (by rw [Int.natAbs_natCast]; omega) (by rw [limbs_one]; simp) HQ.out.2 (by decide))
  rw [hsc.1, hsc.2] at HML
  have HFL := Lib.hid (fun W v a => rfloor_any W v (N : Int) 1 a (by rw [Int.natAbs_natCast]; omega) (by rw [limbs_one]; simp) (by decide))
  rw [show (N : Int) / ((1 : Nat) : Int) = (N : Int) by simp] at HFL
  have HFM := Lib.hid (fun W v a => rformat_any W v (N : Int) a (by rw [Int.natAbs_natCast]; omega))
  rw [fmt_nat] at HFM
  have HDT0 : Hid (dotT N 0 = dec N) := Lib.hid (by unfold dotT; rw [if_pos rfl])
  have HDTM : Hid (0 < M → dotT N M = (padT N M).take ((padT N M).length - M) ++ 46 :: (padT N M).drop ((padT N M).length - M)) := Lib.hid (fun h => by unfold dotT; rw [if_neg (by omega)])
  have HPD : Hid (padT N M = List.replicate (M + 1 - (dec N).length) 48 ++ dec N) := Lib.hid rfl
  have HDL := Lib.hid hdl
  have HM32 := Lib.hid hM32
  have HX0 := HX
  clear hd hr hqe hM hpa hsc hnl hN hfin hdl htl HS2 HS5 HMM HF5 HN0 HP HQ
  generalize ((10 ^ M : Nat) : Int) = T10 at *
  generalize dec N = D at *
  go_wp2_with fail
  clear hmx hif1 hif2
  have QX := Lib.hid (H0.out.ext HX.out)
  go_upto_region 6 with fail
  go_cut [8] from 32 to 39 (fun s8 wx => s8 = str D ∧ Ext w13 wx)
  case first =>
    obtain ⟨hb0_0, hb0_1, hb0_2, hb0_3, hb0_4, hb0_5, hb0_6⟩ := HB0.out.three
    go_region_held3 (fun w' => Ext w13 w' ∧ w'.cell? ⟨w.heap.size, 0, none⟩ = some (Value.bool false) ∧ w'.cell? ⟨w.heap.size, 1, none⟩ = some (Value.slice A0 l0 c0) ∧ w'.cell? ⟨w.heap.size, 2, none⟩ = some (Value.slice D0 k0 e0))
      (first | (exact ⟨(Ext.refl w13).drew, hb0_0, hb0_1, hb0_2⟩) | (exact keptS3_0 (by assumption) (by assumption)))
      (first
        | (go_at_call 70; have hchk19 := hz18; refine (HFM.out _ _ U4.out.arr).mono ?_; rintro e w20 ⟨rfl, hx19⟩; clear hz18 hchk19; clear U4; have hz19 := hx19.size)
        | (go_at_call 37; have hchk18 := hz17; refine (HFL.out _ _ U3.out.arr).mono ?_; rintro e w19 ⟨r18, rfl, hi18, hx18⟩; clear hz17 hchk18; clear U3; have hz18 := hx18.size; have U4 := Lib.hid hi18; obtain ⟨f18, g18, G18, j18, rfl⟩ := hi18.shape; clear hi18)
        | (go_at_call 18; have hchk17 := hz16; refine (HML.out _ _ _ (QX.out.ext (And.left (by assumption))) U2.out.arr).mono ?_; rintro e w18 ⟨r17, rfl, hi17, hx17⟩; clear hz16 hchk17; clear U2; have hz17 := hx17.size; have U3 := Lib.hid hi17; obtain ⟨f17, g17, G17, j17, y17, Y17, z17, rfl⟩ := hi17.shape; clear hi17)
        | (go_at_call 56; have hchk16 := hz15; refine (HOF.out _ _ _ U0.out.arr U1.out.arr).mono ?_; rintro e w17 ⟨r16, rfl, hi16, hx16⟩; clear hz15 hchk16; clear U0 U1; have hz16 := hx16.size; have U2 := Lib.hid hi16; obtain ⟨f16, g16, G16, j16, y16, Y16, z16, rfl⟩ := hi16.shape; clear hi16)
        | (go_at_call 57; have hchk15 := hz14; refine (HI1.out _).mono ?_; rintro e w16 ⟨r15, rfl, hi15, hx15⟩; clear hz14 hchk15; have hz15 := hx15.size; have U0 := Lib.hid (U0.out.ext hx15); have U1 := Lib.hid hi15; obtain ⟨f15, g15, G15, j15, rfl⟩ := hi15.shape; clear hi15)
        | (go_at_call 71; refine (HTN.out _).mono ?_; rintro e w15 ⟨r14, rfl, hi14, hx14⟩; have hz14 := hx14.size; have U0 := Lib.hid hi14; obtain ⟨f14, g14, G14, j14, rfl⟩ := hi14.shape; clear hi14))
    all_goals go_wp2_with fail
    all_goals go_meet
    rename_i hS
    have hE := And.left hS
    exact ⟨rfl, hE⟩
  case rest =>
  obtain ⟨rfl, hx20⟩ := hcut
  generalize wc = w21 at *
  have HX := Lib.hid (HX.out.trans hx20)
  have QX := Lib.hid (QX.out.ext hx20)
  have HB0 := Lib.hid (HB0.out.ext hx20)
  clear hx20
  clear HB0 QX HTN HI1 HOF HML HFL HFM
  rcases Nat.eq_zero_or_pos M with hM0 | hM0
  · subst hM0
    go_wp2_with fail
    go_ret2
    exact HFIN.out _ _ HDT0.out.symm HX.out
  have hMne : ((M : Int) == 0) = false := by rw [beq_eq_false_iff_ne]; omega
  have HDT := Lib.hid (HDTM.out hM0)
  generalize padT N M = S at *
  clear HDT0 HDTM
  obtain ⟨c, hc⟩ : ∃ c, c = M + 1 - D.length := ⟨_, rfl⟩
  have HC := Lib.hid hc
  have HMM := Lib.hid hM0
  have hm32 := HM32.out
  clear hc hM0
  go_wp2_with fail
  clear hMne
  go_loopg [8] c (fun gh s8 wr => ∃ (j k : Nat), gh = j ∧ j + k = c ∧ s8 = str (List.replicate k 48 ++ D) ∧ Ext w wr)
  case atStart => exact ⟨c, 0, rfl, rfl, rfl, HX.out⟩
  case round =>
    obtain ⟨j, k, hg, hjk, rfl, hext⟩ := hrel
    have HG := Lib.hid hg
    have HE := Lib.hid hext
    have hcc := HC.out
    have hdl := HDL.out
    have HJK := Lib.hid hjk
    have HTL : Hid ((List.replicate k (48 : UInt8) ++ D).length = k + D.length) := Lib.hid (by simp)
    obtain ⟨T, hT⟩ : ∃ T, List.replicate k 48 ++ D = T := ⟨_, rfl⟩
    rw [hT] at HTL
    rw [hT]
    have HT := Lib.hid hT
    have htl := HTL.out
    clear hg hext hT
    by_cases hj : 0 < j
    · have hle : (T.length : Int) ≤ (M : Int) := by omega
      have hadd : ∀ W : World, (binOp .add 9 (.string ⟨#[48]⟩) (str T)).run Tryz.prog W = .ok (str (48 :: T)) W := fun W => run_add_str [48] T (by simp; omega) W
      clear hcc hdl htl hjk
      go_wp2_with fail
      go_roundg (j - 1)
      case rel => exact ⟨j - 1, k + 1, rfl, by have := HJK.out; omega, by rw [← HT.out]; rfl, HE.out⟩
      case measure => rw [HG.out]; omega
    · have hle : ¬ (T.length : Int) ≤ (M : Int) := by omega
      have hTS : T = S := by
        rw [← HT.out, HPD.out, ← hcc, show k = c by omega]
      have HTS := Lib.hid hTS
      obtain ⟨kk, hk⟩ : ∃ kk, kk = T.length - M := ⟨_, rfl⟩
      have HK := Lib.hid hk
      have hsl : (T.length : Int) - (M : Int) = (kk : Int) := by omega
      have hwk : IntKind.i64.wrap ((T.length : Int) - (M : Int)) = (kk : Int) := by rw [IntWalk.i64_in _ (by omega)]; omega
      have hwk2 : IntKind.i64.wrap (kk : Int) = (kk : Int) := IntWalk.i64_in _ (by omega)
      have hk0 : (0 : Int) ≤ (kk : Int) := by omega
      have hk1 : (kk : Int) ≤ (T.length : Int) := by omega
      have hadd1 : ∀ W : World, (binOp .add 9 (str (T.take kk)) (.string ⟨#[46]⟩)).run Tryz.prog W = .ok (str (T.take kk ++ [46])) W := fun W => run_add_str _ [46] (by simp; omega) W
      have hadd2 : ∀ W : World, (binOp .add 9 (str (T.take kk ++ [46])) (str (T.drop kk))).run Tryz.prog W = .ok (str (T.take kk ++ [46] ++ T.drop kk)) W := fun W => run_add_str _ _ (by simp; omega) W
      clear hcc hdl htl hjk hTS hk hj
      go_wp2_with fail
      go_quiet (fail)
      go_wp2_with fail
      go_ret2
      refine HFIN.out _ _ ?_ (HE.out.trans ((Ext.refl wr).drewN nq))
      rw [HDT.out, ← HTS.out, ← HK.out]
end Big
end Go.Proofs.YtplmldkfgeiklaaGreatDoor
/- ref02.Power. -/
namespace Go.Proofs.YtplmldkfgeiklaaGreatDoor
namespace Big
open Go.RowKit
set_option maxRecDepth 100000 in
theorem rpow_any (w : World) (v0 : Value) (xs : List Nat) (n : Nat) (h0 : Arr w v0 xs) (hl : xs.length ≤ 1000000) (hn : n ≤ 64) :
    Calls Tryz.prog 55 #[v0, .int .i64 (n : Int)] w fun e w' => ∃ v', e = .returned v' ∧ Own w.heap.size w' v' (limbs (val xs ^ n)) ∧ Ext w w' := by
  have H0 := Lib.hid h0
  have hV : (limbs (val xs)).length ≤ 1000000 := Nat.le_trans (length_limbs_val h0.ok) hl
  have HOF := Lib.hid (fun W => rof_any W 1 (by decide))
  rw [show ((1 : Nat) : Int) = 1 from rfl] at HOF
  have HML := Lib.hid (fun W m k (hk : k ≤ 64) a (hx : Ext w W) => rmul2_any W m v0 (limbs (val xs ^ k)) xs a (h0.ext hx) (by have := limbs_pow64 hV hk; omega) (by omega))
  have HML : Hid (∀ W m k, k < n → Arr W m (limbs (val xs ^ k)) → Ext w W → Calls Tryz.prog 108 #[m, v0] W fun e w' => ∃ v', e = .returned v' ∧ Own W.heap.size w' v' (limbs (val xs ^ (k + 1))) ∧ Ext W w') := Lib.hid (fun W m k hk a hx => by
    have := HML.out W m k (by omega) a hx
    rw [val_limbs, ← Nat.pow_succ] at this
    exact this)
  obtain ⟨l0, A0, c0, rfl⟩ := h0.shape
  clear h0 hl hV
  generalize val xs = V at *
  go_enter Tryz.func55, Tryz.ntmps55
  go_wp2_with fail
  refine (HOF.out _).mono ?_
  rintro e w1 ⟨r0, rfl, hi0, hx0⟩
  have R0 := Lib.hid hi0
  have HX1 := Lib.hid hx0
  obtain ⟨g0, G0, j0, rfl⟩ := hi0.shape
  clear hi0 hx0
  go_wp2_with fail
  go_loopw [5, 8] (fun s4 s7 wr => ∃ (k : Nat) (m : Nat) (A : Option Addr) (c : Nat), k ≤ n ∧ s7 = .int .i64 (k : Int) ∧ s4 = .slice A m c ∧ Own w.heap.size wr s4 (limbs (V ^ k)) ∧ Ext w wr) (fun _ s7 _ => n - (intOf s7).toNat)
  case atStart => exact ⟨0, g0, G0, j0, Nat.zero_le _, rfl, rfl, R0.out, HX1.out⟩
  case round =>
    obtain ⟨k, m, A, c, hk, rfl, rfl, ho, hx⟩ := hrel
    have HO := Lib.hid ho
    have HX := Lib.hid hx
    clear ho hx
    by_cases hlt : k < n
    · go_wp2_with fail
      refine (HML.out _ _ k hlt HO.out.arr HX.out).mono ?_
      rintro e w2 ⟨v2, rfl, ho2, hx2⟩
      have HO2 := Lib.hid (ho2.mono HX.out.size)
      have HX2 := Lib.hid (HX.out.trans hx2)
      obtain ⟨n2, A2, c2, rfl⟩ := ho2.shape
      clear ho2 hx2
      go_wp2_with fail
      go_roundw
      case rel => exact ⟨k + 1, n2, A2, c2, by omega, by go_num, rfl, HO2.out, HX2.out⟩
      case measure => simp [intOf]; omega
    · obtain rfl : k = n := by omega
      go_wp2_with fail
      go_ret
      exact ⟨_, rfl, HO.out, HX.out⟩
end Big
end Go.Proofs.YtplmldkfgeiklaaGreatDoor
