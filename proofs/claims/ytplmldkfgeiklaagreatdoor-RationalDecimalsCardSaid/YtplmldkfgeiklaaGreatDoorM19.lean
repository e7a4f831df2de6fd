import Derived.Test.YtplmldkfgeiklaaGreatDoorM17
import Derived.Test.YtplmldkfgeiklaaGreatDoorM18
import Derived.Test.YtplmldkfgeiklaaGreatDoorM12
import Derived.Test.YtplmldkfgeiklaaGreatDoorM13
import Derived.Test.YtplmldkfgeiklaaGreatDoorM14
/- rational.Decimal. Printed by a program. -/
namespace Go.Proofs.YtplmldkfgeiklaaGreatDoor
namespace Big
open Go.RowKit
/-- What Decimal returns: the text, where the denominator has the factors 2 and 5 only. -/
def DecPost (p : Int) (q : Nat) (w : World) (e : Ending) (w' : World) : Prop :=
  Ext w w' ∧ ((∃ t f : Nat, 0 ≤ p ∧ q = 5 ^ f * 2 ^ t ∧ e = .returned (.tuple #[str (dotT (scN p.natAbs t f) (max t f)), .bool true])) ∨
    ((p < 0 ∨ ¬ ∃ t f : Nat, q = 5 ^ f * 2 ^ t) ∧ e = .returned (.tuple #[.string ⟨#[]⟩, .bool false])))
/-- Where the parts of q are found, no other factor is left just if q has the factors 2 and 5 only. -/
theorem strip_one {q m t r f : Nat} (h2 : Strip 2 q m t) (h5 : Strip 5 m r f) : (∃ t' f' : Nat, q = 5 ^ f' * 2 ^ t') ↔ r = 1 := by
  have hc25 : Nat.Coprime 2 5 := by decide
  constructor
  · rintro ⟨t', f', hq⟩
    have e2 : Strip 2 q (5 ^ f') t' := ⟨hq, fun hd => by
      have := (hc25.pow_right f').eq_one_of_dvd hd
      cases this⟩
    obtain ⟨hm, _⟩ := h2.uniq (by decide) e2
    have e5 : Strip 5 m 1 f' := ⟨by rw [hm, Nat.one_mul], by decide⟩
    exact (h5.uniq (by decide) e5).1
  · rintro rfl
    exact ⟨t, f, by rw [h2.1, h5.1, Nat.one_mul]⟩
theorem repeat_one (c : Nat) : Lib.repeatL [48] c = List.replicate c 48 := by
  induction c with
  | zero => rfl
  | succ c ih => show [48] ++ Lib.repeatL [48] c = _; rw [ih, List.replicate_succ]; rfl
theorem strip_two_bound {V m n L : Nat} (h : V = m * 2 ^ n) (hV : 0 < V) (hL : (limbs V).length ≤ L) : n ≤ 32 * L := by
  have h1 : 2 ^ n ≤ V := by
    have h3 : 2 ^ n ≤ m * 2 ^ n := Nat.le_mul_of_pos_left _ (by
      rcases Nat.eq_zero_or_pos m with h0 | h0
      · rw [h0, Nat.zero_mul] at h; omega
      · exact h0)
    omega
  have h2 := bitsN_limbs_le hL
  have h3 := bitsN_lt V
  rcases Nat.lt_or_ge (bitsN V) n with h4 | h4
  · have := Nat.pow_le_pow_right (show 0 < 2 by omega) (Nat.le_of_lt h4)
    omega
  · omega
theorem limbs_scaled {m a b L : Nat} (h : (limbs m).length ≤ L) : (limbs (m * 5 ^ a * 2 ^ b)).length ≤ L + (a + 1) + (b + 1) := by
  have h5 : (limbs (5 ^ a)).length ≤ a + 1 := by
    have := limbs_pow_le (V := 5) (L := 1) (by decide +kernel) a
    omega
  have h2 : (limbs (2 ^ b)).length ≤ b + 1 := by
    have := limbs_pow_le (V := 2) (L := 1) (by decide +kernel) b
    omega
  exact length_limbs_prod (length_limbs_prod h h5) h2
theorem limbs_scaled1 {m a L : Nat} (h : (limbs m).length ≤ L) : (limbs (m * 5 ^ a)).length ≤ L + (a + 1) := by
  have h5 : (limbs (5 ^ a)).length ≤ a + 1 := by
    have := limbs_pow_le (V := 5) (L := 1) (by decide +kernel) a
    omega
  exact length_limbs_prod h h5
theorem dec_len_limbs {N L : Nat} (h : (limbs N).length ≤ L) : (dec N).length ≤ 10 * L + 1 := by
  by_cases h0 : N = 0
  · subst h0; rw [dec_zero]; simp
  · rw [dec_pos N h0, List.length_reverse]
    have h1 := val_lt (ok_limbs N)
    rw [val_limbs] at h1
    have := length_low_le (Nat.lt_of_lt_of_le h1 (Nat.le_trans (pow_mono h) (pow_base_dec L)))
    omega
set_option maxRecDepth 100000 in
theorem decR_neg (w : World) (v0 : Value) (p : Int) (q : Nat) (h0 : ArrRat w v0 p q) (_n0 : (limbs p.natAbs).length ≤ 1000) (_m0 : (limbs q).length ≤ 1000) (hp : p < 0) :
    Calls Tryz.prog 19 #[v0] w (DecPost p q w) := by
  have H0 := Lib.hid h0
  obtain ⟨b0, l0, A0, c0, k0, D0, e0, rfl⟩ := h0.shape
  have hs0 := h0.sign
  rw [decide_eq_true hp] at hs0
  subst hs0
  have HP := Lib.hid hp
  clear h0 hp
  go_enter Tryz.func19, Tryz.ntmps19
  go_wp2_with fail
  go_ret2
  exact ⟨(Ext.refl w).alloc _, .inr ⟨.inl HP.out, rfl⟩⟩
set_option maxHeartbeats 1000000 in
set_option maxRecDepth 100000 in
theorem decR_pos (w : World) (v0 : Value) (p : Int) (q : Nat) (h0 : ArrRat w v0 p q) (n0 : (limbs p.natAbs).length ≤ 1000) (m0 : (limbs q).length ≤ 1000) (hp : ¬ p < 0) (hq : 0 < q) (ht : Tab32 w) :
    Calls Tryz.prog 19 #[v0] w (DecPost p q w) := by
  have H0 := Lib.hid h0
  have HBT := Lib.hid (fun W m a => bits_any W m (limbs q) a (by omega))
  rw [val_limbs] at HBT
  have hbz := @bitsN_zero q
  have hbq : (((bitsN q : Nat) : Int) == 0) = false := by rw [beq_eq_false_iff_ne]; omega
  generalize bitsN q = bn at *
  have HZR := Lib.hid (fun W m a ht => zeros_any W m (limbs q) a (by omega) (by rw [val_limbs]; exact hq) ht)
  rw [val_limbs] at HZR
  have HNN := Lib.hid n0
  have HMM := Lib.hid m0
  have HQ := Lib.hid hq
  have HTB := Lib.hid ht
  obtain ⟨b0, l0, A0, c0, k0, D0, e0, rfl⟩ := h0.shape
  have hs0 := h0.sign
  rw [decide_eq_false hp] at hs0
  subst hs0
  have HP := Lib.hid hp
  have HNUM := Lib.hid h0.num
  clear h0 hp n0 m0 hbz hq ht
  have hpn : ((p.natAbs : Nat) : Int) = p := by have := HP.out; omega
  have HPN := Lib.hid hpn
  clear hpn
  generalize hpa : p.natAbs = pn at *
  have HPA := Lib.hid hpa
  clear hpa
  go_enter Tryz.func19, Tryz.ntmps19
  go_wp2_with fail
  have hb0 := (Blk.new w 26 #[Value.bool false, Value.slice A0 l0 c0, Value.slice D0 k0 e0])
  have hxo := ((Ext.refl w).alloc (.cells #[Value.bool false, Value.slice A0 l0 c0, Value.slice D0 k0 e0] 26))
  have hszo : w.heap.size + 1 = (w.alloc (.cells #[Value.bool false, Value.slice A0 l0 c0, Value.slice D0 k0 e0] 26)).heap.size := by simp
  generalize w.alloc (.cells #[Value.bool false, Value.slice A0 l0 c0, Value.slice D0 k0 e0] 26) = wo at *
  have HB0 := Lib.hid hb0
  have HX := Lib.hid hxo
  have HZ : Hid (w.heap.size + 1 ≤ wo.heap.size) := Lib.hid (by omega)
  clear hxo hszo hb0
  refine (HBT.out _ _ (H0.out.den.ext HX.out)).mono ?_
  rintro e w1 ⟨rfl, rfl⟩
  obtain ⟨u0_0_0, u0_0_1, u0_0_2, u0_0_3, u0_0_4, u0_0_5, u0_0_6⟩ := HB0.out.three
  go_wp2_with fail
  refine (HZR.out _ _ (H0.out.den.ext HX.out) (HTB.out.ext HX.out)).mono ?_
  rintro e w2 ⟨t, m, rfl, hst2, rfl⟩
  have ht32 : t ≤ 32000 := strip_two_bound hst2.1 HQ.out HMM.out
  have hmd : q / 2 ^ t = m := by rw [hst2.1, Nat.mul_div_cancel _ (Nat.pow_pos (by decide))]
  have hml : (limbs m).length ≤ 1000 := Nat.le_trans (limbs_mono (by rw [hst2.1]; exact Nat.le_mul_of_pos_right _ (Nat.pow_pos (by decide)))) HMM.out
  have HSR := Lib.hid (fun W v a => shr_any W v (limbs q) t a (by have := HMM.out; omega) (by omega))
  rw [val_limbs, hmd] at HSR
  have HFV := Lib.hid (fun W v a => fives_any W v m a (by omega) (hst2.pos HQ.out))
  have HS2 := Lib.hid hst2
  clear hst2 hmd
  go_wp2_with fail
  refine (HSR.out _ _ (H0.out.den.ext HX.out)).mono ?_
  rintro e w3 ⟨r3, rfl, hi3, hx3⟩
  have HX3 := Lib.hid (HX.out.trans hx3)
  have HB3 := Lib.hid (HB0.out.ext hx3)
  have R3 := Lib.hid hi3
  obtain ⟨g3, G3, j3, rfl⟩ := hi3.shape
  clear hi3 hx3 u0_0_0 u0_0_1 u0_0_2 u0_0_3 u0_0_4 u0_0_5 u0_0_6
  go_wp2_with fail
  refine (HFV.out _ _ R3.out.arr).mono ?_
  rintro e w4 ⟨r4, r, f, rfl, hi4, hst5, hf, hx4⟩
  have HX4 := Lib.hid (HX3.out.trans hx4)
  have HB4 := Lib.hid (HB3.out.ext hx4)
  have hf32 : f ≤ 32000 := five_bound hst5.1 (HS2.out.pos HQ.out) hml
  have HS5 := Lib.hid hst5
  have hr0 : 0 < r := hst5.pos (HS2.out.pos HQ.out)
  obtain ⟨hok4, A4, c4, rfl, _, _, hcell4⟩ := hi4.open
  obtain ⟨q0, q1, q2, _, _, _, _⟩ := HB4.out.three
  by_cases hr1 : r = 1
  · subst hr1
    rw [limbs_one] at hcell4
    obtain ⟨bb, oo, rfl, _, hc4⟩ := hcell4 (by simp)
    have hx0 : w4.cell? ⟨bb, oo, none⟩ = some (.int .u32 1) := hc4 0 (by simp)
    have hl1 : (limbs 1).length = 1 := by rw [limbs_one]; rfl
    have hqe : q = 5 ^ f * 2 ^ t := by rw [HS2.out.1, HS5.out.1, Nat.one_mul]
    obtain ⟨M, hM⟩ : ∃ M, M = max t f := ⟨_, rfl⟩
    have hM1 : t ≤ M ∧ f ≤ M ∧ M ≤ 32000 := by omega
    have hmx1 : max (t : Int) (f : Int) = (M : Int) := by omega
    have hmx2 : (if (t : Int) < (f : Int) then (f : Int) else (t : Int)) = (M : Int) := by split <;> omega
    have hmx3 : (if t < f then (f : Int) else (t : Int)) = (M : Int) := by split <;> omega
    have HQE := Lib.hid hqe
    have HM := Lib.hid hM
    clear hcell4 hc4 hi4 hx4 hst5 hr0 hok4 hqe
    by_cases hM0 : M = 0
    · have ht0 : t = 0 := by omega
      have hf0 : f = 0 := by omega
      subst hM0
      have HDG := Lib.hid (fun W v a => digits_any W v (limbs pn) a (by have := HNN.out; omega))
      rw [val_limbs] at HDG
      have HTX : Hid (dotT (scN pn t f) (max t f) = dec pn) := Lib.hid (by
        subst ht0
        subst hf0
        unfold dotT scN
        simp)
      clear hM hM1 ht0 hf0 hml ht32 hf hf32
      go_wp2_with fail
      refine (HDG.out _ _ (HNUM.out.ext HX4.out)).mono ?_
      rintro e w5 ⟨rfl, hx5⟩
      have HX5 := Lib.hid (HX4.out.trans hx5)
      clear hx5
      go_wp2_with fail
      go_ret2
      exact ⟨HX5.out, .inl ⟨t, f, by have := HP.out; omega, HQE.out, by rw [HPA.out, HTX.out]; rfl⟩⟩
    · have hM0i : ((M : Int) == 0) = false := by rw [beq_eq_false_iff_ne]; omega
      obtain ⟨a5, ha5⟩ : ∃ a5, a5 = M - f := ⟨_, rfl⟩
      obtain ⟨b2, hb2⟩ : ∃ b2, b2 = M - t := ⟨_, rfl⟩
      have ea : (M : Int) - (f : Int) = (a5 : Int) := by omega
      have eb : (M : Int) - (t : Int) = (b2 : Int) := by omega
      have hwa : IntKind.i64.wrap ((M : Int) - (f : Int)) = (a5 : Int) := by rw [IntWalk.i64_in _ (by omega)]; omega
      have hwb : IntKind.i64.wrap ((M : Int) - (t : Int)) = (b2 : Int) := by rw [IntWalk.i64_in _ (by omega)]; omega
      have hwa2 : IntKind.i64.wrap (a5 : Int) = (a5 : Int) := IntWalk.i64_in _ (by omega)
      have hwb2 : IntKind.i64.wrap (b2 : Int) = (b2 : Int) := IntWalk.i64_in _ (by omega)
      have hab : a5 ≤ 32000 ∧ b2 ≤ 32000 := by omega
      have hN : scN pn t f = pn * 5 ^ a5 * 2 ^ b2 := by unfold scN; rw [← hM, ← ha5, ← hb2]
      have HSC := Lib.hid (fun W v a => scaled_5 W v (limbs pn) a5 a (by have := HNN.out; omega) (by omega))
      unfold ScaledPost at HSC
      rw [val_limbs] at HSC
      have hl5 := limbs_scaled1 (a := a5) HNN.out
      have hl52 := limbs_scaled (a := a5) (b := b2) HNN.out
      rw [← hN] at hl52
      have HDL := Lib.hid (dec_len_limbs hl52)
      have HSL := Lib.hid (fun W v (zs : List Nat) a (hz : val zs = pn * 5 ^ a5) (hzl : zs.length ≤ 100000) => (by
        have := shl_any W v zs b2 a (by omega) (by omega)
        rw [hz, ← hN] at this
        exact this : Calls Tryz.prog 65 #[v, .int .i64 (b2 : Int)] W fun e w' => ∃ v', e = .returned v' ∧ Own W.heap.size w' v' (limbs (scN pn t f)) ∧ Ext W w'))
      have HDG := Lib.hid (fun W v a => digits_any W v (limbs (scN pn t f)) a (by omega))
      rw [val_limbs] at HDG
      have hpl := padT_len (scN pn t f) M
      have hplong := @padT_long (scN pn t f) M
      have hpdef : padT (scN pn t f) M = List.replicate (M + 1 - (dec (scN pn t f)).length) 48 ++ dec (scN pn t f) := rfl
      have hdot : dotT (scN pn t f) (max t f) = (padT (scN pn t f) M).take ((padT (scN pn t f) M).length - M) ++ 46 :: (padT (scN pn t f) M).drop ((padT (scN pn t f) M).length - M) := by
        unfold dotT
        rw [← hM, if_neg hM0]
      generalize hN2 : scN pn t f = N at *
      have HN2 := Lib.hid hN2
      clear hN2
      generalize hS : padT N M = S at *
      have HDOT := Lib.hid hdot
      have HDL2 : Hid ((dec N).length ≤ 1000000) := Lib.hid (by have := HDL.out; omega)
      have HDEF := Lib.hid hpdef
      have HLONG := Lib.hid hplong
      have HPL := Lib.hid hpl
      have HA5 : Hid (a5 ≤ 32000) := Lib.hid hab.1
      have HM3 : Hid (1 ≤ M ∧ M ≤ 32000) := Lib.hid (by omega)
      clear hdot hpdef hplong hpl hS hl5 hl52 hN hM hM1 ha5 hb2 hml ht32 hf hf32 hM0 hab
      go_wp2_with fail
      refine (HSC.out _ _ (HNUM.out.ext HX4.out)).mono ?_
      rintro e w5 ⟨r5, zs, rfl, hi5, hzv, hzl, hx5⟩
      have HX5 := Lib.hid (HX4.out.trans hx5)
      have R5 := Lib.hid hi5
      have HZV := Lib.hid hzv
      have HZL : Hid (zs.length ≤ 100000) := Lib.hid (by have := HNN.out; have := HA5.out; omega)
      obtain ⟨g5, G5, j5, rfl⟩ := hi5.shape
      clear hi5 hx5 q0 q1 q2 hx0 hzv hzl
      go_wp2_with fail
      refine (HSL.out _ _ zs R5.out HZV.out HZL.out).mono ?_
      rintro e w6 ⟨r6, rfl, hi6, hx6⟩
      have HX6 := Lib.hid (HX5.out.trans hx6)
      have R6 := Lib.hid hi6
      obtain ⟨g6, G6, j6, rfl⟩ := hi6.shape
      clear hi6 hx6
      go_wp2_with fail
      refine (HDG.out _ _ R6.out.arr).mono ?_
      rintro e w7 ⟨rfl, hx7⟩
      have HX7 := Lib.hid (HX6.out.trans hx7)
      clear hx7
      generalize hD : dec N = D at *
      have hfin : ∀ W : World, Ext w W → DecPost p q w (.returned (.tuple #[str (S.take (S.length - M) ++ 46 :: S.drop (S.length - M)), .bool true])) W := fun W hx =>
        ⟨hx, .inl ⟨t, f, by have := HP.out; omega, HQE.out, by rw [HPA.out, HN2.out, HDOT.out]⟩⟩
      have HFIN := Lib.hid hfin
      obtain ⟨k, hk⟩ : ∃ k, k = S.length - M := ⟨_, rfl⟩
      have HK := Lib.hid hk
      clear hfin hmx1 hmx2 hmx3
      have hpl := HPL.out
      have hm3 := HM3.out
      have hdl := HDL2.out
      have hsl : (S.length : Int) - (M : Int) = (k : Int) := by omega
      have hwk : IntKind.i64.wrap ((S.length : Int) - (M : Int)) = (k : Int) := by rw [IntWalk.i64_in _ (by omega)]; omega
      have hwk2 : IntKind.i64.wrap (k : Int) = (k : Int) := IntWalk.i64_in _ (by omega)
      have hk0 : (0 : Int) ≤ (k : Int) := by omega
      clear ea eb hwa hwb hwa2 hwb2
      have hk1 : (k : Int) ≤ (S.length : Int) := by omega
      have hadd1 : ∀ W : World, (binOp .add 9 (str (S.take k)) (.string ⟨#[46]⟩)).run Tryz.prog W = .ok (str (S.take k ++ [46])) W := fun W => run_add_str _ [46] (by simp; omega) W
      have hadd2 : ∀ W : World, (binOp .add 9 (str (S.take k ++ [46])) (str (S.drop k))).run Tryz.prog W = .ok (str (S.take k ++ [46] ++ S.drop k)) W := fun W => run_add_str _ _ (by simp; omega) W
      by_cases hlong : D.length ≤ M
      · have hli : (D.length : Int) ≤ (M : Int) := by omega
        obtain ⟨c, hc⟩ : ∃ c, c = M + 1 - D.length := ⟨_, rfl⟩
        have hci : (M : Int) + 1 - (D.length : Int) = (c : Int) := by omega
        have hwm : IntKind.i64.wrap ((M : Int) + 1) = (M : Int) + 1 := IntWalk.i64_in _ (by omega)
        have hwc : IntKind.i64.wrap ((M : Int) + 1 - (D.length : Int)) = (c : Int) := by rw [IntWalk.i64_in _ (by omega)]; omega
        have hwc2 : IntKind.i64.wrap (c : Int) = (c : Int) := IntWalk.i64_in _ (by omega)
        have HRP := Lib.hid (fun W => Tryz.strings_Repeat ⟨#[48]⟩ c W (by omega) (by have h1 : (⟨#[48]⟩ : ByteArray).size = 1 := rfl; rw [h1]; omega))
        rw [show Lib.repeatL (⟨#[48]⟩ : ByteArray).data.toList c = List.replicate c 48 from repeat_one c] at HRP
        have hS2 : S = List.replicate c 48 ++ D := by rw [HDEF.out, hc]
        have hadd0 : ∀ W : World, (binOp .add 9 (.string ⟨(List.replicate c 48).toArray⟩) (str D)).run Tryz.prog W = .ok (str S) W := fun W => by
          have := run_add_str (List.replicate c 48) D (by simp; omega) W
          rw [← hS2] at this
          exact this
        simp only [List.toArray_replicate] at hadd0
        clear hc hk hpl hm3 hdl hlong hS2
        go_wp2_with fail
        refine (HRP.out _).mono ?_
        rintro e w8 ⟨rfl, hx8⟩
        have HX8 := Lib.hid (HX7.out.trans hx8)
        clear hx8
        go_wp2_with fail
        go_quiet (fail)
        go_wp2_with fail
        go_ret2
        have hF := HFIN.out _ (HX8.out.trans ((Ext.refl w8).drewN nq))
        rw [← HK.out] at hF
        exact hF
      · have hli : ¬ (D.length : Int) ≤ (M : Int) := by omega
        have hS2 : S = D := by have := HLONG.out (by omega); rw [this]
        rw [hS2] at hsl hwk hk1 hadd1 hadd2 HFIN HK
        clear hk hpl hm3 hdl hlong HPL HDEF HLONG HDOT
        go_wp2_with fail
        go_quiet (fail)
        go_wp2_with fail
        go_ret2
        have hF := HFIN.out _ (HX7.out.trans ((Ext.refl w7).drewN nq))
        rw [← HK.out] at hF
        exact hF
  · have HNO : Hid (¬ ∃ t f : Nat, q = 5 ^ f * 2 ^ t) := Lib.hid (fun e => hr1 ((strip_one HS2.out HS5.out).1 e))
    by_cases hl : (limbs r).length = 1
    · have hl1 := limbs_is_one hl
      rw [hl1] at hcell4
      obtain ⟨bb, oo, rfl, _, hc4⟩ := hcell4 (by simp)
      have hx0 : w4.cell? ⟨bb, oo, none⟩ = some (.int .u32 (r : Int)) := hc4 0 (by simp)
      have hrne : ((r : Int) != 1) = true := by rw [bne_iff_ne]; omega
      clear hcell4 hc4 hi4 hx4 hst5 hok4 hl1 hr1
      go_wp2_with fail
      go_ret2
      exact ⟨HX4.out, .inr ⟨.inr HNO.out, rfl⟩⟩
    · have hlne : (((limbs r).length : Int) != 1) = true := by rw [bne_iff_ne]; omega
      generalize (limbs r).length = lr at *
      clear hcell4 hi4 hx4 hst5 hok4 hr1 hl
      go_wp2_with fail
      go_ret2
      exact ⟨HX4.out, .inr ⟨.inr HNO.out, rfl⟩⟩
theorem decR_any (w : World) (v0 : Value) (p : Int) (q : Nat) (h0 : ArrRat w v0 p q) (n0 : (limbs p.natAbs).length ≤ 1000) (m0 : (limbs q).length ≤ 1000) (hq : 0 < q) (ht : Tab32 w) :
    Calls Tryz.prog 19 #[v0] w (DecPost p q w) := by
  by_cases hp : p < 0
  · exact decR_neg w v0 p q h0 n0 m0 hp
  · exact decR_pos w v0 p q h0 n0 m0 hp hq ht
end Big
end Go.Proofs.YtplmldkfgeiklaaGreatDoor
/- rational.Sqrt. Printed by a program. -/
namespace Go.Proofs.YtplmldkfgeiklaaGreatDoor
namespace Big
open Go.RowKit
/-- What the root of p / q is: a fraction r / s with squares p and q; or there is none. -/
def SqrtPost (p : Int) (q : Nat) (w : World) (e : Ending) (w' : World) : Prop :=
  ∃ v', Ext w w' ∧ ((∃ r s : Nat, p = ((r * r : Nat) : Int) ∧ q = s * s ∧ e = .returned (.tuple #[v', .bool true]) ∧ IsRat w.heap.size w' v' (r : Int) s) ∨
    (¬ (∃ r s : Nat, p = ((r * r : Nat) : Int) ∧ q = s * s) ∧ e = .returned (.tuple #[v', .bool false]) ∧ IsRat w.heap.size w' v' 0 0))
set_option maxRecDepth 100000 in
theorem sqrtR_neg (w : World) (v0 : Value) (p : Int) (q : Nat) (h0 : ArrRat w v0 p q) (_n0 : (limbs p.natAbs).length ≤ 10000) (_m0 : (limbs q).length ≤ 10000) (hp : p < 0) :
    Calls Tryz.prog 24 #[v0] w (SqrtPost p q w) := by
  have H0 := Lib.hid h0
  obtain ⟨b0, l0, A0, c0, k0, D0, e0, rfl⟩ := h0.shape
  have hs0 := h0.sign
  rw [decide_eq_true hp] at hs0
  subst hs0
  have HP := Lib.hid hp
  clear h0 hp
  go_enter Tryz.func24, Tryz.ntmps24
  go_wp2_with fail
  refine bodyPost_ret (v := .tuple #[.agg #[.bool false, .slice none 0 0, .slice none 0 0], .bool false]) (by simp [results, Tryz.results24, go_sem]) rfl ?_
  exact ⟨_, ((Ext.refl w).alloc _).alloc _, .inr ⟨by rintro ⟨r, s, h1, _⟩; have := HP.out; omega, rfl, IsRat.zero _ _⟩⟩
set_option maxRecDepth 100000 in
theorem sqrtR_pos (w : World) (v0 : Value) (p : Int) (q : Nat) (h0 : ArrRat w v0 p q) (n0 : (limbs p.natAbs).length ≤ 10000) (m0 : (limbs q).length ≤ 10000) (hp : ¬ p < 0) :
    Calls Tryz.prog 24 #[v0] w (SqrtPost p q w) := by
  have H0 := Lib.hid h0
  have HQ0 := Lib.hid (fun W m a => psquare_any W m (limbs p.natAbs) a (by omega))
  have HQ1 := Lib.hid (fun W m a => psquare_any W m (limbs q) a (by omega))
  unfold SqPost at HQ0 HQ1
  rw [val_limbs] at HQ0 HQ1
  have HNN := Lib.hid n0
  have HMM := Lib.hid m0
  obtain ⟨b0, l0, A0, c0, k0, D0, e0, rfl⟩ := h0.shape
  have hs0 := h0.sign
  rw [decide_eq_false hp] at hs0
  subst hs0
  have HP := Lib.hid hp
  have HNUM := Lib.hid h0.num
  clear h0 hp n0 m0
  have hpn : ((p.natAbs : Nat) : Int) = p := by have := HP.out; omega
  have HPN := Lib.hid hpn
  clear hpn
  generalize p.natAbs = m at *
  go_enter Tryz.func24, Tryz.ntmps24
  go_wp2_with fail
  have hb0 := ((Blk.new w 26 #[Value.bool false, Value.slice A0 l0 c0, Value.slice D0 k0 e0]).alloc (.cells #[Value.bool false, Value.slice none 0 0, Value.slice none 0 0] 26))
  have hb1 := (Blk.new (w.alloc (.cells #[Value.bool false, Value.slice A0 l0 c0, Value.slice D0 k0 e0] 26)) 26 #[Value.bool false, Value.slice none 0 0, Value.slice none 0 0])
  have hxo := (((Ext.refl w).alloc (.cells #[Value.bool false, Value.slice A0 l0 c0, Value.slice D0 k0 e0] 26)).alloc (.cells #[Value.bool false, Value.slice none 0 0, Value.slice none 0 0] 26))
  have hszo : w.heap.size + 1 + 1 = ((w.alloc (.cells #[Value.bool false, Value.slice A0 l0 c0, Value.slice D0 k0 e0] 26)).alloc (.cells #[Value.bool false, Value.slice none 0 0, Value.slice none 0 0] 26)).heap.size := by simp
  simp only [World.size_alloc] at hb1
  generalize (w.alloc (.cells #[Value.bool false, Value.slice A0 l0 c0, Value.slice D0 k0 e0] 26)).alloc (.cells #[Value.bool false, Value.slice none 0 0, Value.slice none 0 0] 26) = wo at *
  have HB0 := Lib.hid hb0
  have HB1 := Lib.hid hb1
  have HX := Lib.hid hxo
  have HZ : Hid (w.heap.size + 1 + 1 ≤ wo.heap.size) := Lib.hid (by omega)
  clear hxo hszo hb0 hb1
  refine (HQ0.out _ _ (HNUM.out.ext HX.out)).mono ?_
  rintro e w1 ⟨r0, r, hsq0, rfl, hi0, ⟨g0, G0, j0, rfl⟩, hx0⟩
  have HX1 := Lib.hid (HX.out.trans hx0)
  have HB11 := Lib.hid (HB1.out.ext hx0)
  have HB01 := Lib.hid (HB0.out.ext hx0)
  have R0 := Lib.hid hi0
  have HS0 := Lib.hid hsq0
  have HZ0 := Lib.hid hx0.size
  clear hi0 hsq0 hx0
  obtain ⟨q0, q1, q2, _, _, _, _⟩ := HB01.out.three
  go_wp2_with fail
  refine (HQ1.out _ _ (H0.out.den.ext HX1.out)).mono ?_
  rintro e w2 ⟨r1, s, hsq1, rfl, hi1, ⟨g1, G1, j1, rfl⟩, hx1⟩
  have HX2 := Lib.hid (HX1.out.trans hx1)
  have HB12 := Lib.hid (HB11.out.ext hx1)
  have HE1 := Lib.hid hx1
  have R1 := Lib.hid hi1
  have HS1 := Lib.hid hsq1
  clear hi1 hsq1 hx1 q0 q1 q2
  obtain ⟨t0, t1, t2, s0, s1, s2, hgz⟩ := HB12.out.three
  by_cases hm : m = r * r
  · have hd0 : decide (m = r * r) = true := decide_eq_true hm
    rw [hd0]
    by_cases hq : q = s * s
    · have hd1 : decide (q = s * s) = true := decide_eq_true hq
      rw [hd1]
      have HR0 := Lib.hid ((R0.out hm).ext HE1.out)
      have HR1 := Lib.hid (R1.out hq)
      have HM := Lib.hid hm
      have HQ := Lib.hid hq
      have hrl : (limbs r).length ≤ 10000 := Nat.le_trans (limbs_mono HS0.out.le) (by rw [hm]; rw [← hm]; exact HNN.out)
      have HI := Lib.hid (fun W m a => inat_any W false m (limbs r) a (by omega))
      rw [val_limbs, show sgn false r = (r : Int) from rfl] at HI
      clear hm hq hd0 hd1 hrl
      go_wp2_with fail
      refine (HI.out _ _ HR0.out.arr).mono ?_
      rintro e w3 ⟨r2, rfl, hi2, hx2⟩
      have HX3 := Lib.hid (HX2.out.trans hx2)
      have HB13 := Lib.hid (HB12.out.ext hx2)
      have HR13 := Lib.hid (HR1.out.ext hx2)
      have HZ2 := Lib.hid HE1.out.size
      have R2 := Lib.hid hi2
      obtain ⟨f2, g2, G2, j2, rfl⟩ := hi2.shape
      clear hi2 hx2 t0 t1 t2 s0 s1 s2
      obtain ⟨t0, t1, t2, s0, s1, s2, hgz⟩ := HB13.out.three
      go_wp2_with fail
      obtain ⟨hr0, hr1, hr2⟩ := three_set HB13.out (.bool f2) (.slice G2 g2 j2) (.slice G1 g1 j1)
      refine bodyPost_ret (v := .tuple #[.agg #[.bool f2, .slice G2 g2 j2, .slice G1 g1 j1], .bool true]) (by simp [results, Tryz.results24, go_sem, hr0, hr1, hr2]) rfl ?_
      refine ⟨_, ((HX3.out.setCell (Nat.le_succ _) _).setCell (Nat.le_succ _) _).setCell (Nat.le_succ _) _, .inl ⟨r, s, by rw [← HPN.out, HM.out], HQ.out, rfl, ?_⟩⟩
      exact IsRat.put (w1 := wo) (IsRat.mk (R2.out.mono (by have := HZ0.out; have := HZ2.out; omega)) (HR13.out.mono HZ0.out)) (by have := HZ.out; omega) (by have := HZ.out; omega)
    · have hd1 : decide (q = s * s) = false := decide_eq_false hq
      rw [hd1]
      have HQ := Lib.hid hq
      clear hm hq hd0 hd1
      go_wp2_with fail
      obtain ⟨hr0, hr1, hr2⟩ := three_set HB12.out (.bool false) (.slice none 0 0) (.slice none 0 0)
      refine bodyPost_ret (v := .tuple #[.agg #[.bool false, .slice none 0 0, .slice none 0 0], .bool false]) (by simp [results, Tryz.results24, go_sem, hr0, hr1, hr2]) rfl ?_
      refine ⟨_, ((HX2.out.setCell (Nat.le_succ _) _).setCell (Nat.le_succ _) _).setCell (Nat.le_succ _) _, .inr ⟨?_, rfl, IsRat.zero _ _⟩⟩
      rintro ⟨r', s', _, h2⟩
      refine HQ.out ?_
      have h3 := HS1.out.uniq (by rw [h2]; exact IsSq.sq s')
      rw [h3]; exact h2
  · have hd0 : decide (m = r * r) = false := decide_eq_false hm
    rw [hd0]
    have HM := Lib.hid hm
    clear hm hd0
    go_wp2_with fail
    obtain ⟨hr0, hr1, hr2⟩ := three_set HB12.out (.bool false) (.slice none 0 0) (.slice none 0 0)
    refine bodyPost_ret (v := .tuple #[.agg #[.bool false, .slice none 0 0, .slice none 0 0], .bool false]) (by simp [results, Tryz.results24, go_sem, hr0, hr1, hr2]) rfl ?_
    refine ⟨_, ((HX2.out.setCell (Nat.le_succ _) _).setCell (Nat.le_succ _) _).setCell (Nat.le_succ _) _, .inr ⟨?_, rfl, IsRat.zero _ _⟩⟩
    rintro ⟨r', s', h1, _⟩
    refine HM.out ?_
    have h2 : m = r' * r' := by have := HPN.out; omega
    have h3 := HS0.out.uniq (by rw [h2]; exact IsSq.sq r')
    rw [h3]; exact h2
theorem sqrtR_any (w : World) (v0 : Value) (p : Int) (q : Nat) (h0 : ArrRat w v0 p q) (n0 : (limbs p.natAbs).length ≤ 10000) (m0 : (limbs q).length ≤ 10000) :
    Calls Tryz.prog 24 #[v0] w (SqrtPost p q w) := by
  by_cases hp : p < 0
  · exact sqrtR_neg w v0 p q h0 n0 m0 hp
  · exact sqrtR_pos w v0 p q h0 n0 m0 hp
end Big
end Go.Proofs.YtplmldkfgeiklaaGreatDoor
/- awake of chapter 07. Printed by a program. -/
namespace Go.Proofs.YtplmldkfgeiklaaGreatDoor
namespace Big
open Go.RowKit
theorem strip_uniq52 {t f t' f' : Nat} (h : 5 ^ f * 2 ^ t = 5 ^ f' * 2 ^ t') : t = t' ∧ f = f' := by
  have hc25 : Nat.Coprime 2 5 := by decide
  have e2 : ∀ {a b : Nat}, Strip 2 (5 ^ a * 2 ^ b) (5 ^ a) b := fun {a b} => ⟨rfl, fun hd => by
    have := (hc25.pow_right a).eq_one_of_dvd hd
    cases this⟩
  have h1 := (e2 (a := f) (b := t)).uniq (by decide) (by rw [h]; exact e2)
  refine ⟨h1.2, ?_⟩
  have e5 : ∀ {a : Nat}, Strip 5 (5 ^ a) 1 a := fun {a} => ⟨by rw [Nat.one_mul], by decide⟩
  have h2 := (e5 (a := f)).uniq (by decide) (by rw [h1.1]; exact e5)
  exact h2.2
theorem decPost_25 {w : World} {e : Ending} {w' : World} (h : DecPost 25 2 w e w') : e = .returned (.tuple #[.string ⟨#[49, 50, 46, 53]⟩, .bool true]) ∧ Ext w w' := by
  obtain ⟨hx, h | h⟩ := h
  · obtain ⟨t, f, _, hq, rfl⟩ := h
    obtain ⟨rfl, rfl⟩ := strip_uniq52 (t := 1) (f := 0) (by rw [← hq])
    exact ⟨by congr 4, hx⟩
  · obtain ⟨h | h, _⟩ := h
    · omega
    · exact absurd ⟨1, 0, rfl⟩ h
theorem sqrtPost_94 {w : World} {e : Ending} {w' : World} (h : SqrtPost 9 4 w e w') : ∃ v', e = .returned (.tuple #[v', .bool true]) ∧ IsRat w.heap.size w' v' 3 2 ∧ Ext w w' := by
  obtain ⟨v', hx, h | h⟩ := h
  · obtain ⟨r, s, h1, h2, he, hi⟩ := h
    have hr : r = 3 := by
      have h3 : r * r = 9 := by omega
      exact (IsSq.uniq (a := 9) ⟨by omega, by rw [Nat.add_mul, Nat.mul_add]; omega⟩ (show IsSq 9 3 by unfold IsSq; omega))
    have hs : s = 2 := (IsSq.uniq (a := 4) ⟨by omega, by rw [Nat.add_mul, Nat.mul_add]; omega⟩ (show IsSq 4 2 by unfold IsSq; omega))
    subst hr
    subst hs
    exact ⟨v', he, hi, hx⟩
  · exact absurd ⟨3, 2, rfl, rfl⟩ h.1
theorem make_64 : makeN 6 (-4) = -3 ∧ makeD 6 (-4) = 2 := by decide +kernel
theorem make_252 : makeN 25 2 = 25 ∧ makeD 25 2 = 2 := by decide +kernel
theorem make_94 : makeN 9 4 = 9 ∧ makeD 9 4 = 4 := by decide +kernel
theorem small_len : (limbs 6).length ≤ 10 ∧ (limbs 4).length ≤ 10 ∧ (limbs 25).length ≤ 10 ∧ (limbs 2).length ≤ 10 ∧ (limbs 9).length ≤ 10 ∧ (limbs 3).length ≤ 10 := by decide +kernel
theorem code_050 : code7 [48, 46, 53, 48] = 6 ∧ code7 [46, 53] = 6 := by decide +kernel
set_option maxHeartbeats 2000000 in
set_option maxRecDepth 100000 in
theorem awake07_any (w : World) (hm : MaxV w) (ht : Tab32 w) : Calls Tryz.prog 12 #[] w fun e w' => e = .returned (.bool true) ∧ Ext w w' := by
  obtain ⟨l6, l4, l25, l2, l9, l3⟩ := small_len
  have HO6 := Lib.hid (fun W => iof_any W 6 (by decide) (by decide))
  have HO4m := Lib.hid (fun W => iof_any W (-4) (by decide) (by decide))
  have HO25 := Lib.hid (fun W => iof_any W 25 (by decide) (by decide))
  have HO2 := Lib.hid (fun W => iof_any W 2 (by decide) (by decide))
  have HO9 := Lib.hid (fun W => iof_any W 9 (by decide) (by decide))
  have HO4 := Lib.hid (fun W => iof_any W 4 (by decide) (by decide))
  have HM1 := Lib.hid (fun W v u a b => pmake_pos W v 6 a (Nat.le_trans l6 (by decide)) u (-4) b (Nat.le_trans l4 (by decide)) (by decide))
  rw [make_64.1, make_64.2] at HM1
  have HM2 := Lib.hid (fun W v u a b => pmake_pos W v 25 a (Nat.le_trans l25 (by decide)) u 2 b (Nat.le_trans l2 (by decide)) (by decide))
  rw [make_252.1, make_252.2] at HM2
  have HM3 := Lib.hid (fun W v u a b => pmake_pos W v 9 a (Nat.le_trans l9 (by decide)) u 4 b (Nat.le_trans l4 (by decide)) (by decide))
  rw [make_94.1, make_94.2] at HM3
  have HDC := Lib.hid (fun W v a (hx : Ext w W) => (decR_any W v 25 2 a (Nat.le_trans l25 (by decide)) (Nat.le_trans l2 (by decide)) (by decide) (ht.ext hx)).mono fun _ _ h => decPost_25 h)
  have HSQ := Lib.hid (fun W v a => (sqrtR_any W v 9 4 a (Nat.le_trans l9 (by decide)) (Nat.le_trans l4 (by decide))).mono fun _ _ h => sqrtPost_94 h)
  have HP1 := Lib.hid (fun W hx => parse7_any W [48, 46, 53, 48] (hm.ext (w' := W) hx))
  have HP2 := Lib.hid (fun W hx => parse7_any W [46, 53] (hm.ext (w' := W) hx))
  unfold ParseRes7 at HP1 HP2
  rw [code_050.1] at HP1
  rw [code_050.2] at HP2
  have HNG := Lib.hid (fun W v a => rnegR_any W v 3 2 a (Nat.le_trans l3 (by decide)) (Nat.le_trans l2 (by decide)))
  have HSM := Lib.hid (fun W v a u b => rsameR_any W v (-3) 2 a (Nat.le_trans l3 (by decide)) (Nat.le_trans l2 (by decide)) u (-3) 2 b (Nat.le_trans l3 (by decide)) (Nat.le_trans l2 (by decide)))
  have hs1 : str [48, 46, 53, 48] = .string ⟨#[48, 46, 53, 48]⟩ := rfl
  have hs2 : str [46, 53] = .string ⟨#[46, 53]⟩ := rfl
  rw [hs1] at HP1
  rw [hs2] at HP2
  have HX := Lib.hid (Ext.refl w)
  clear l6 l4 l25 l2 l9 l3 hs1 hs2 hm ht
  go_enter Tryz.func12, Tryz.ntmps12
  go_wp2_with fail
  refine (HO6.out _).mono ?_
  rintro e w1 ⟨r0, rfl, hi0, hx0⟩
  have HX := Lib.hid (HX.out.trans hx0)
  have N0 := Lib.hid hi0
  obtain ⟨f0, g0, G0, j0, rfl⟩ := hi0.shape
  clear hi0
  clear hx0
  go_wp2_with fail
  refine (HO4m.out _).mono ?_
  rintro e w2 ⟨r1, rfl, hi1, hx1⟩
  have HX := Lib.hid (HX.out.trans hx1)
  have N0 := Lib.hid (N0.out.ext hx1)
  have N1 := Lib.hid hi1
  obtain ⟨f1, g1, G1, j1, rfl⟩ := hi1.shape
  clear hi1
  clear hx1
  go_wp2_with fail
  refine (HM1.out _ _ _ N0.out.arr N1.out.arr).mono ?_
  rintro e w3 ⟨r2, rfl, hi2, hx2⟩
  have HX := Lib.hid (HX.out.trans hx2)
  have N0 := Lib.hid (N0.out.ext hx2)
  have N1 := Lib.hid (N1.out.ext hx2)
  have QX := Lib.hid hi2
  obtain ⟨f2, g2, G2, j2, y2, Y2, z2, rfl⟩ := hi2.shape
  clear hi2
  clear hx2
  clear N0 N1
  go_wp2_with fail
  have hb3 := Blk.new w3 26 #[Value.bool f2, Value.slice G2 g2 j2, Value.slice Y2 y2 z2]
  have hx3 := (Ext.refl w3).alloc (.cells #[Value.bool f2, Value.slice G2 g2 j2, Value.slice Y2 y2 z2] 26)
  have HX := Lib.hid (HX.out.trans hx3)
  have QX := Lib.hid (QX.out.ext hx3)
  have BX := Lib.hid hb3
  generalize w3.alloc (.cells #[Value.bool f2, Value.slice G2 g2 j2, Value.slice Y2 y2 z2] 26) = w4 at *
  generalize w3.heap.size = a3 at *
  clear hb3 hx3
  refine (HO25.out _).mono ?_
  rintro e w5 ⟨r4, rfl, hi4, hx4⟩
  have HX := Lib.hid (HX.out.trans hx4)
  have QX := Lib.hid (QX.out.ext hx4)
  have BX := Lib.hid (BX.out.ext hx4)
  have N0 := Lib.hid hi4
  obtain ⟨f4, g4, G4, j4, rfl⟩ := hi4.shape
  clear hi4
  clear hx4
  go_wp2_with fail
  refine (HO2.out _).mono ?_
  rintro e w6 ⟨r5, rfl, hi5, hx5⟩
  have HX := Lib.hid (HX.out.trans hx5)
  have QX := Lib.hid (QX.out.ext hx5)
  have N0 := Lib.hid (N0.out.ext hx5)
  have BX := Lib.hid (BX.out.ext hx5)
  have N1 := Lib.hid hi5
  obtain ⟨f5, g5, G5, j5, rfl⟩ := hi5.shape
  clear hi5
  clear hx5
  go_wp2_with fail
  refine (HM2.out _ _ _ N0.out.arr N1.out.arr).mono ?_
  rintro e w7 ⟨r6, rfl, hi6, hx6⟩
  have HX := Lib.hid (HX.out.trans hx6)
  have QX := Lib.hid (QX.out.ext hx6)
  have N0 := Lib.hid (N0.out.ext hx6)
  have N1 := Lib.hid (N1.out.ext hx6)
  have BX := Lib.hid (BX.out.ext hx6)
  have QH := Lib.hid hi6
  obtain ⟨f6, g6, G6, j6, y6, Y6, z6, rfl⟩ := hi6.shape
  clear hi6
  clear hx6
  clear N0 N1
  obtain ⟨bx_0, bx_1, bx_2, bx_3, bx_4, bx_5, bx_6⟩ := BX.out.three
  go_wp2_with fail
  clear bx_0 bx_1 bx_2 bx_3 bx_4 bx_5 bx_6
  have hb7 := Blk.new w7 26 #[Value.bool f6, Value.slice G6 g6 j6, Value.slice Y6 y6 z6]
  have hx7 := (Ext.refl w7).alloc (.cells #[Value.bool f6, Value.slice G6 g6 j6, Value.slice Y6 y6 z6] 26)
  have HX := Lib.hid (HX.out.trans hx7)
  have QX := Lib.hid (QX.out.ext hx7)
  have QH := Lib.hid (QH.out.ext hx7)
  have BX := Lib.hid (BX.out.ext hx7)
  have BH := Lib.hid hb7
  generalize w7.alloc (.cells #[Value.bool f6, Value.slice G6 g6 j6, Value.slice Y6 y6 z6] 26) = w8 at *
  generalize w7.heap.size = a7 at *
  clear hb7 hx7
  refine (HDC.out _ _ QH.out.arr HX.out).mono ?_
  rintro e w9 ⟨rfl, hx8⟩
  have HX := Lib.hid (HX.out.trans hx8)
  have QX := Lib.hid (QX.out.ext hx8)
  have QH := Lib.hid (QH.out.ext hx8)
  have BX := Lib.hid (BX.out.ext hx8)
  have BH := Lib.hid (BH.out.ext hx8)
  clear hx8
  obtain ⟨bx_0, bx_1, bx_2, bx_3, bx_4, bx_5, bx_6⟩ := BX.out.three
  obtain ⟨bh_0, bh_1, bh_2, bh_3, bh_4, bh_5, bh_6⟩ := BH.out.three
  go_wp2_with fail
  clear bx_0 bx_1 bx_2 bx_3 bx_4 bx_5 bx_6 bh_0 bh_1 bh_2 bh_3 bh_4 bh_5 bh_6
  refine (HP1.out _ HX.out).mono ?_
  rintro e w10 ⟨r9, rfl, hi9, hx9⟩
  have HX := Lib.hid (HX.out.trans hx9)
  have QX := Lib.hid (QX.out.ext hx9)
  have QH := Lib.hid (QH.out.ext hx9)
  have BX := Lib.hid (BX.out.ext hx9)
  have BH := Lib.hid (BH.out.ext hx9)
  have QP := Lib.hid hi9
  obtain ⟨f9, g9, G9, j9, y9, Y9, z9, rfl⟩ := hi9.shape
  clear hi9
  clear hx9
  obtain ⟨bx_0, bx_1, bx_2, bx_3, bx_4, bx_5, bx_6⟩ := BX.out.three
  obtain ⟨bh_0, bh_1, bh_2, bh_3, bh_4, bh_5, bh_6⟩ := BH.out.three
  go_wp2_with fail
  clear bx_0 bx_1 bx_2 bx_3 bx_4 bx_5 bx_6 bh_0 bh_1 bh_2 bh_3 bh_4 bh_5 bh_6
  have hb10 := Blk.new w10 26 #[Value.bool f9, Value.slice G9 g9 j9, Value.slice Y9 y9 z9]
  have hx10 := (Ext.refl w10).alloc (.cells #[Value.bool f9, Value.slice G9 g9 j9, Value.slice Y9 y9 z9] 26)
  have HX := Lib.hid (HX.out.trans hx10)
  have QX := Lib.hid (QX.out.ext hx10)
  have QH := Lib.hid (QH.out.ext hx10)
  have QP := Lib.hid (QP.out.ext hx10)
  have BX := Lib.hid (BX.out.ext hx10)
  have BH := Lib.hid (BH.out.ext hx10)
  have BP := Lib.hid hb10
  generalize w10.alloc (.cells #[Value.bool f9, Value.slice G9 g9 j9, Value.slice Y9 y9 z9] 26) = w11 at *
  generalize w10.heap.size = a10 at *
  clear hb10 hx10
  clear QP BP
  refine (HP2.out _ HX.out).mono ?_
  rintro e w12 ⟨r11, rfl, hi11, hx11⟩
  have HX := Lib.hid (HX.out.trans hx11)
  have QX := Lib.hid (QX.out.ext hx11)
  have QH := Lib.hid (QH.out.ext hx11)
  have BX := Lib.hid (BX.out.ext hx11)
  have BH := Lib.hid (BH.out.ext hx11)
  have QS := Lib.hid hi11
  obtain ⟨f11, g11, G11, j11, y11, Y11, z11, rfl⟩ := hi11.shape
  clear hi11
  clear hx11
  obtain ⟨bx_0, bx_1, bx_2, bx_3, bx_4, bx_5, bx_6⟩ := BX.out.three
  obtain ⟨bh_0, bh_1, bh_2, bh_3, bh_4, bh_5, bh_6⟩ := BH.out.three
  go_wp2_with fail
  clear bx_0 bx_1 bx_2 bx_3 bx_4 bx_5 bx_6 bh_0 bh_1 bh_2 bh_3 bh_4 bh_5 bh_6
  have hb12 := Blk.new w12 26 #[Value.bool f11, Value.slice G11 g11 j11, Value.slice Y11 y11 z11]
  have hx12 := (Ext.refl w12).alloc (.cells #[Value.bool f11, Value.slice G11 g11 j11, Value.slice Y11 y11 z11] 26)
  have HX := Lib.hid (HX.out.trans hx12)
  have QX := Lib.hid (QX.out.ext hx12)
  have QH := Lib.hid (QH.out.ext hx12)
  have QS := Lib.hid (QS.out.ext hx12)
  have BX := Lib.hid (BX.out.ext hx12)
  have BH := Lib.hid (BH.out.ext hx12)
  have BS := Lib.hid hb12
  generalize w12.alloc (.cells #[Value.bool f11, Value.slice G11 g11 j11, Value.slice Y11 y11 z11] 26) = w13 at *
  generalize w12.heap.size = a12 at *
  clear hb12 hx12
  clear QS BS
  refine (HO9.out _).mono ?_
  rintro e w14 ⟨r13, rfl, hi13, hx13⟩
  have HX := Lib.hid (HX.out.trans hx13)
  have QX := Lib.hid (QX.out.ext hx13)
  have QH := Lib.hid (QH.out.ext hx13)
  have BX := Lib.hid (BX.out.ext hx13)
  have BH := Lib.hid (BH.out.ext hx13)
  have N0 := Lib.hid hi13
  obtain ⟨f13, g13, G13, j13, rfl⟩ := hi13.shape
  clear hi13
  clear hx13
  go_wp2_with fail
  refine (HO4.out _).mono ?_
  rintro e w15 ⟨r14, rfl, hi14, hx14⟩
  have HX := Lib.hid (HX.out.trans hx14)
  have QX := Lib.hid (QX.out.ext hx14)
  have QH := Lib.hid (QH.out.ext hx14)
  have N0 := Lib.hid (N0.out.ext hx14)
  have BX := Lib.hid (BX.out.ext hx14)
  have BH := Lib.hid (BH.out.ext hx14)
  have N1 := Lib.hid hi14
  obtain ⟨f14, g14, G14, j14, rfl⟩ := hi14.shape
  clear hi14
  clear hx14
  go_wp2_with fail
  refine (HM3.out _ _ _ N0.out.arr N1.out.arr).mono ?_
  rintro e w16 ⟨r15, rfl, hi15, hx15⟩
  have HX := Lib.hid (HX.out.trans hx15)
  have QX := Lib.hid (QX.out.ext hx15)
  have QH := Lib.hid (QH.out.ext hx15)
  have N0 := Lib.hid (N0.out.ext hx15)
  have N1 := Lib.hid (N1.out.ext hx15)
  have BX := Lib.hid (BX.out.ext hx15)
  have BH := Lib.hid (BH.out.ext hx15)
  have QN := Lib.hid hi15
  obtain ⟨f15, g15, G15, j15, y15, Y15, z15, rfl⟩ := hi15.shape
  clear hi15
  clear hx15
  clear N0 N1
  obtain ⟨bx_0, bx_1, bx_2, bx_3, bx_4, bx_5, bx_6⟩ := BX.out.three
  obtain ⟨bh_0, bh_1, bh_2, bh_3, bh_4, bh_5, bh_6⟩ := BH.out.three
  go_wp2_with fail
  clear bx_0 bx_1 bx_2 bx_3 bx_4 bx_5 bx_6 bh_0 bh_1 bh_2 bh_3 bh_4 bh_5 bh_6
  have hb16 := Blk.new w16 26 #[Value.bool f15, Value.slice G15 g15 j15, Value.slice Y15 y15 z15]
  have hx16 := (Ext.refl w16).alloc (.cells #[Value.bool f15, Value.slice G15 g15 j15, Value.slice Y15 y15 z15] 26)
  have HX := Lib.hid (HX.out.trans hx16)
  have QX := Lib.hid (QX.out.ext hx16)
  have QH := Lib.hid (QH.out.ext hx16)
  have QN := Lib.hid (QN.out.ext hx16)
  have BX := Lib.hid (BX.out.ext hx16)
  have BH := Lib.hid (BH.out.ext hx16)
  have BN := Lib.hid hb16
  generalize w16.alloc (.cells #[Value.bool f15, Value.slice G15 g15 j15, Value.slice Y15 y15 z15] 26) = w17 at *
  generalize w16.heap.size = a16 at *
  clear hb16 hx16
  refine (HSQ.out _ _ QN.out.arr).mono ?_
  rintro e w18 ⟨r17, rfl, hi17, hx17⟩
  have HX := Lib.hid (HX.out.trans hx17)
  have QX := Lib.hid (QX.out.ext hx17)
  have QH := Lib.hid (QH.out.ext hx17)
  have QN := Lib.hid (QN.out.ext hx17)
  have BX := Lib.hid (BX.out.ext hx17)
  have BH := Lib.hid (BH.out.ext hx17)
  have BN := Lib.hid (BN.out.ext hx17)
  have QR := Lib.hid hi17
  obtain ⟨f17, g17, G17, j17, y17, Y17, z17, rfl⟩ := hi17.shape
  clear hi17
  clear hx17
  obtain ⟨bx_0, bx_1, bx_2, bx_3, bx_4, bx_5, bx_6⟩ := BX.out.three
  obtain ⟨bh_0, bh_1, bh_2, bh_3, bh_4, bh_5, bh_6⟩ := BH.out.three
  obtain ⟨bn_0, bn_1, bn_2, bn_3, bn_4, bn_5, bn_6⟩ := BN.out.three
  go_upto_region 8 with fail
  clear bx_0 bx_1 bx_2 bx_3 bx_4 bx_5 bx_6 bh_0 bh_1 bh_2 bh_3 bh_4 bh_5 bh_6 bn_0 bn_1 bn_2 bn_3 bn_4 bn_5 bn_6
  have hb18 := Blk.new w18 26 #[Value.bool f17, Value.slice G17 g17 j17, Value.slice Y17 y17 z17]
  have hx18 := (Ext.refl w18).alloc (.cells #[Value.bool f17, Value.slice G17 g17 j17, Value.slice Y17 y17 z17] 26)
  have HX := Lib.hid (HX.out.trans hx18)
  have QX := Lib.hid (QX.out.ext hx18)
  have QH := Lib.hid (QH.out.ext hx18)
  have QN := Lib.hid (QN.out.ext hx18)
  have QR := Lib.hid (QR.out.ext hx18)
  have BX := Lib.hid (BX.out.ext hx18)
  have BH := Lib.hid (BH.out.ext hx18)
  have BN := Lib.hid (BN.out.ext hx18)
  have BR := Lib.hid hb18
  generalize w18.alloc (.cells #[Value.bool f17, Value.slice G17 g17 j17, Value.slice Y17 y17 z17] 26) = w19 at *
  generalize w18.heap.size = a18 at *
  clear hb18 hx18
  obtain ⟨bx_0, bx_1, bx_2, bx_3, bx_4, bx_5, bx_6⟩ := BX.out.three
  obtain ⟨bh_0, bh_1, bh_2, bh_3, bh_4, bh_5, bh_6⟩ := BH.out.three
  obtain ⟨bn_0, bn_1, bn_2, bn_3, bn_4, bn_5, bn_6⟩ := BN.out.three
  obtain ⟨br_0, br_1, br_2, br_3, br_4, br_5, br_6⟩ := BR.out.three
  clear bx_0 bx_1 bx_2 bx_3 bx_4 bx_5 bx_6 bh_0 bh_1 bh_2 bh_3 bh_4 bh_5 bh_6 bn_0 bn_1 bn_2 bn_3 bn_4 bn_5 bn_6 br_0 br_1 br_2 br_3 br_4 br_5 br_6
  obtain ⟨bx_0, bx_1, bx_2, bx_3, bx_4, bx_5, bx_6⟩ := BX.out.three
  obtain ⟨br_0, br_1, br_2, br_3, br_4, br_5, br_6⟩ := BR.out.three
  go_region_held3 (fun w' => Ext w19 w' ∧ w'.cell? ⟨a3, 0, none⟩ = some (Value.bool f2) ∧ w'.cell? ⟨a3, 1, none⟩ = some (Value.slice G2 g2 j2) ∧ w'.cell? ⟨a3, 2, none⟩ = some (Value.slice Y2 y2 z2) ∧ w'.cell? ⟨a18, 0, none⟩ = some (Value.bool f17) ∧ w'.cell? ⟨a18, 1, none⟩ = some (Value.slice G17 g17 j17) ∧ w'.cell? ⟨a18, 2, none⟩ = some (Value.slice Y17 y17 z17))
    (first | (exact ⟨(Ext.refl w19).drew, bx_0, bx_1, bx_2, br_0, br_1, br_2⟩) | (exact keptS6_0 (by assumption) (by assumption)))
    (first
      | (go_at_call 22; have hchk20 := hz19; refine (HSM.out _ _ (QX.out.arr.ext (And.left (by assumption))) _ RN.out).mono ?_; rintro e w21 ⟨rfl, hx20⟩; have hz20 := hx20.size; have RN := Lib.hid (RN.out.ext hx20))
      | (go_at_call 46; refine (HNG.out _ _ (QR.out.arr.ext (And.left (by assumption)))).mono ?_; rintro e w20 ⟨r19, rfl, hi19, hx19⟩; have hz19 := hx19.size; have RN := Lib.hid hi19; obtain ⟨f19, g19, G19, j19, y19, Y19, z19, rfl⟩ := hi19.shape))
  all_goals go_wp2_with fail
  rename_i hS
  have hE := And.left hS
  go_ret
  exact ⟨rfl, HX.out.trans hE⟩
end Big
end Go.Proofs.YtplmldkfgeiklaaGreatDoor
/- What the laws of chapter 07 share: cells that are kept through a region, sizes of results. Printed by a program. -/
namespace Go.Proofs.YtplmldkfgeiklaaGreatDoor
namespace Big
open Go.RowKit
theorem keptS1_0 {w w1 w2 : World} {b0 o0 : Nat} {u0 : Value} (h : Ext w w1 ∧ w1.cell? ⟨b0, o0, none⟩ = some u0) (hx : Ext w1 w2) : Ext w w2 ∧ w2.cell? ⟨b0, o0, none⟩ = some u0 :=
  ⟨h.1.trans hx, hx.keep h.2⟩
theorem keptS5_0 {w w1 w2 : World} {b0 o0 b1 o1 b2 o2 b3 o3 b4 o4 : Nat} {u0 u1 u2 u3 u4 : Value} (h : Ext w w1 ∧ w1.cell? ⟨b0, o0, none⟩ = some u0 ∧ w1.cell? ⟨b1, o1, none⟩ = some u1 ∧ w1.cell? ⟨b2, o2, none⟩ = some u2 ∧ w1.cell? ⟨b3, o3, none⟩ = some u3 ∧ w1.cell? ⟨b4, o4, none⟩ = some u4) (hx : Ext w1 w2) : Ext w w2 ∧ w2.cell? ⟨b0, o0, none⟩ = some u0 ∧ w2.cell? ⟨b1, o1, none⟩ = some u1 ∧ w2.cell? ⟨b2, o2, none⟩ = some u2 ∧ w2.cell? ⟨b3, o3, none⟩ = some u3 ∧ w2.cell? ⟨b4, o4, none⟩ = some u4 :=
  ⟨h.1.trans hx, hx.keep h.2.1, hx.keep h.2.2.1, hx.keep h.2.2.2.1, hx.keep h.2.2.2.2.1, hx.keep h.2.2.2.2.2⟩
theorem keptS7_0 {w w1 w2 : World} {b0 o0 b1 o1 b2 o2 b3 o3 b4 o4 b5 o5 b6 o6 : Nat} {u0 u1 u2 u3 u4 u5 u6 : Value} (h : Ext w w1 ∧ w1.cell? ⟨b0, o0, none⟩ = some u0 ∧ w1.cell? ⟨b1, o1, none⟩ = some u1 ∧ w1.cell? ⟨b2, o2, none⟩ = some u2 ∧ w1.cell? ⟨b3, o3, none⟩ = some u3 ∧ w1.cell? ⟨b4, o4, none⟩ = some u4 ∧ w1.cell? ⟨b5, o5, none⟩ = some u5 ∧ w1.cell? ⟨b6, o6, none⟩ = some u6) (hx : Ext w1 w2) : Ext w w2 ∧ w2.cell? ⟨b0, o0, none⟩ = some u0 ∧ w2.cell? ⟨b1, o1, none⟩ = some u1 ∧ w2.cell? ⟨b2, o2, none⟩ = some u2 ∧ w2.cell? ⟨b3, o3, none⟩ = some u3 ∧ w2.cell? ⟨b4, o4, none⟩ = some u4 ∧ w2.cell? ⟨b5, o5, none⟩ = some u5 ∧ w2.cell? ⟨b6, o6, none⟩ = some u6 :=
  ⟨h.1.trans hx, hx.keep h.2.1, hx.keep h.2.2.1, hx.keep h.2.2.2.1, hx.keep h.2.2.2.2.1, hx.keep h.2.2.2.2.2.1, hx.keep h.2.2.2.2.2.2.1, hx.keep h.2.2.2.2.2.2.2⟩
theorem keptS8_0 {w w1 w2 : World} {b0 o0 b1 o1 b2 o2 b3 o3 b4 o4 b5 o5 b6 o6 b7 o7 : Nat} {u0 u1 u2 u3 u4 u5 u6 u7 : Value} (h : Ext w w1 ∧ w1.cell? ⟨b0, o0, none⟩ = some u0 ∧ w1.cell? ⟨b1, o1, none⟩ = some u1 ∧ w1.cell? ⟨b2, o2, none⟩ = some u2 ∧ w1.cell? ⟨b3, o3, none⟩ = some u3 ∧ w1.cell? ⟨b4, o4, none⟩ = some u4 ∧ w1.cell? ⟨b5, o5, none⟩ = some u5 ∧ w1.cell? ⟨b6, o6, none⟩ = some u6 ∧ w1.cell? ⟨b7, o7, none⟩ = some u7) (hx : Ext w1 w2) : Ext w w2 ∧ w2.cell? ⟨b0, o0, none⟩ = some u0 ∧ w2.cell? ⟨b1, o1, none⟩ = some u1 ∧ w2.cell? ⟨b2, o2, none⟩ = some u2 ∧ w2.cell? ⟨b3, o3, none⟩ = some u3 ∧ w2.cell? ⟨b4, o4, none⟩ = some u4 ∧ w2.cell? ⟨b5, o5, none⟩ = some u5 ∧ w2.cell? ⟨b6, o6, none⟩ = some u6 ∧ w2.cell? ⟨b7, o7, none⟩ = some u7 :=
  ⟨h.1.trans hx, hx.keep h.2.1, hx.keep h.2.2.1, hx.keep h.2.2.2.1, hx.keep h.2.2.2.2.1, hx.keep h.2.2.2.2.2.1, hx.keep h.2.2.2.2.2.2.1, hx.keep h.2.2.2.2.2.2.2.1, hx.keep h.2.2.2.2.2.2.2.2⟩
theorem keptS9_0 {w w1 w2 : World} {b0 o0 b1 o1 b2 o2 b3 o3 b4 o4 b5 o5 b6 o6 b7 o7 b8 o8 : Nat} {u0 u1 u2 u3 u4 u5 u6 u7 u8 : Value} (h : Ext w w1 ∧ w1.cell? ⟨b0, o0, none⟩ = some u0 ∧ w1.cell? ⟨b1, o1, none⟩ = some u1 ∧ w1.cell? ⟨b2, o2, none⟩ = some u2 ∧ w1.cell? ⟨b3, o3, none⟩ = some u3 ∧ w1.cell? ⟨b4, o4, none⟩ = some u4 ∧ w1.cell? ⟨b5, o5, none⟩ = some u5 ∧ w1.cell? ⟨b6, o6, none⟩ = some u6 ∧ w1.cell? ⟨b7, o7, none⟩ = some u7 ∧ w1.cell? ⟨b8, o8, none⟩ = some u8) (hx : Ext w1 w2) : Ext w w2 ∧ w2.cell? ⟨b0, o0, none⟩ = some u0 ∧ w2.cell? ⟨b1, o1, none⟩ = some u1 ∧ w2.cell? ⟨b2, o2, none⟩ = some u2 ∧ w2.cell? ⟨b3, o3, none⟩ = some u3 ∧ w2.cell? ⟨b4, o4, none⟩ = some u4 ∧ w2.cell? ⟨b5, o5, none⟩ = some u5 ∧ w2.cell? ⟨b6, o6, none⟩ = some u6 ∧ w2.cell? ⟨b7, o7, none⟩ = some u7 ∧ w2.cell? ⟨b8, o8, none⟩ = some u8 :=
  ⟨h.1.trans hx, hx.keep h.2.1, hx.keep h.2.2.1, hx.keep h.2.2.2.1, hx.keep h.2.2.2.2.1, hx.keep h.2.2.2.2.2.1, hx.keep h.2.2.2.2.2.2.1, hx.keep h.2.2.2.2.2.2.2.1, hx.keep h.2.2.2.2.2.2.2.2.1, hx.keep h.2.2.2.2.2.2.2.2.2⟩
theorem keptS12_0 {w w1 w2 : World} {b0 o0 b1 o1 b2 o2 b3 o3 b4 o4 b5 o5 b6 o6 b7 o7 b8 o8 b9 o9 b10 o10 b11 o11 : Nat} {u0 u1 u2 u3 u4 u5 u6 u7 u8 u9 u10 u11 : Value} (h : Ext w w1 ∧ w1.cell? ⟨b0, o0, none⟩ = some u0 ∧ w1.cell? ⟨b1, o1, none⟩ = some u1 ∧ w1.cell? ⟨b2, o2, none⟩ = some u2 ∧ w1.cell? ⟨b3, o3, none⟩ = some u3 ∧ w1.cell? ⟨b4, o4, none⟩ = some u4 ∧ w1.cell? ⟨b5, o5, none⟩ = some u5 ∧ w1.cell? ⟨b6, o6, none⟩ = some u6 ∧ w1.cell? ⟨b7, o7, none⟩ = some u7 ∧ w1.cell? ⟨b8, o8, none⟩ = some u8 ∧ w1.cell? ⟨b9, o9, none⟩ = some u9 ∧ w1.cell? ⟨b10, o10, none⟩ = some u10 ∧ w1.cell? ⟨b11, o11, none⟩ = some u11) (hx : Ext w1 w2) : Ext w w2 ∧ w2.cell? ⟨b0, o0, none⟩ = some u0 ∧ w2.cell? ⟨b1, o1, none⟩ = some u1 ∧ w2.cell? ⟨b2, o2, none⟩ = some u2 ∧ w2.cell? ⟨b3, o3, none⟩ = some u3 ∧ w2.cell? ⟨b4, o4, none⟩ = some u4 ∧ w2.cell? ⟨b5, o5, none⟩ = some u5 ∧ w2.cell? ⟨b6, o6, none⟩ = some u6 ∧ w2.cell? ⟨b7, o7, none⟩ = some u7 ∧ w2.cell? ⟨b8, o8, none⟩ = some u8 ∧ w2.cell? ⟨b9, o9, none⟩ = some u9 ∧ w2.cell? ⟨b10, o10, none⟩ = some u10 ∧ w2.cell? ⟨b11, o11, none⟩ = some u11 :=
  ⟨h.1.trans hx, hx.keep h.2.1, hx.keep h.2.2.1, hx.keep h.2.2.2.1, hx.keep h.2.2.2.2.1, hx.keep h.2.2.2.2.2.1, hx.keep h.2.2.2.2.2.2.1, hx.keep h.2.2.2.2.2.2.2.1, hx.keep h.2.2.2.2.2.2.2.2.1, hx.keep h.2.2.2.2.2.2.2.2.2.1, hx.keep h.2.2.2.2.2.2.2.2.2.2.1, hx.keep h.2.2.2.2.2.2.2.2.2.2.2.1, hx.keep h.2.2.2.2.2.2.2.2.2.2.2.2⟩
theorem keptS15_0 {w w1 w2 : World} {b0 o0 b1 o1 b2 o2 b3 o3 b4 o4 b5 o5 b6 o6 b7 o7 b8 o8 b9 o9 b10 o10 b11 o11 b12 o12 b13 o13 b14 o14 : Nat} {u0 u1 u2 u3 u4 u5 u6 u7 u8 u9 u10 u11 u12 u13 u14 : Value} (h : Ext w w1 ∧ w1.cell? ⟨b0, o0, none⟩ = some u0 ∧ w1.cell? ⟨b1, o1, none⟩ = some u1 ∧ w1.cell? ⟨b2, o2, none⟩ = some u2 ∧ w1.cell? ⟨b3, o3, none⟩ = some u3 ∧ w1.cell? ⟨b4, o4, none⟩ = some u4 ∧ w1.cell? ⟨b5, o5, none⟩ = some u5 ∧ w1.cell? ⟨b6, o6, none⟩ = some u6 ∧ w1.cell? ⟨b7, o7, none⟩ = some u7 ∧ w1.cell? ⟨b8, o8, none⟩ = some u8 ∧ w1.cell? ⟨b9, o9, none⟩ = some u9 ∧ w1.cell? ⟨b10, o10, none⟩ = some u10 ∧ w1.cell? ⟨b11, o11, none⟩ = some u11 ∧ w1.cell? ⟨b12, o12, none⟩ = some u12 ∧ w1.cell? ⟨b13, o13, none⟩ = some u13 ∧ w1.cell? ⟨b14, o14, none⟩ = some u14) (hx : Ext w1 w2) : Ext w w2 ∧ w2.cell? ⟨b0, o0, none⟩ = some u0 ∧ w2.cell? ⟨b1, o1, none⟩ = some u1 ∧ w2.cell? ⟨b2, o2, none⟩ = some u2 ∧ w2.cell? ⟨b3, o3, none⟩ = some u3 ∧ w2.cell? ⟨b4, o4, none⟩ = some u4 ∧ w2.cell? ⟨b5, o5, none⟩ = some u5 ∧ w2.cell? ⟨b6, o6, none⟩ = some u6 ∧ w2.cell? ⟨b7, o7, none⟩ = some u7 ∧ w2.cell? ⟨b8, o8, none⟩ = some u8 ∧ w2.cell? ⟨b9, o9, none⟩ = some u9 ∧ w2.cell? ⟨b10, o10, none⟩ = some u10 ∧ w2.cell? ⟨b11, o11, none⟩ = some u11 ∧ w2.cell? ⟨b12, o12, none⟩ = some u12 ∧ w2.cell? ⟨b13, o13, none⟩ = some u13 ∧ w2.cell? ⟨b14, o14, none⟩ = some u14 :=
  ⟨h.1.trans hx, hx.keep h.2.1, hx.keep h.2.2.1, hx.keep h.2.2.2.1, hx.keep h.2.2.2.2.1, hx.keep h.2.2.2.2.2.1, hx.keep h.2.2.2.2.2.2.1, hx.keep h.2.2.2.2.2.2.2.1, hx.keep h.2.2.2.2.2.2.2.2.1, hx.keep h.2.2.2.2.2.2.2.2.2.1, hx.keep h.2.2.2.2.2.2.2.2.2.2.1, hx.keep h.2.2.2.2.2.2.2.2.2.2.2.1, hx.keep h.2.2.2.2.2.2.2.2.2.2.2.2.1, hx.keep h.2.2.2.2.2.2.2.2.2.2.2.2.2.1, hx.keep h.2.2.2.2.2.2.2.2.2.2.2.2.2.2.1, hx.keep h.2.2.2.2.2.2.2.2.2.2.2.2.2.2.2⟩
theorem low_szn {z : Int} {d M L : Nat} (hz : (limbs z.natAbs).length ≤ M) (hd : (limbs d).length ≤ L) : (limbs (lowN z d).natAbs).length ≤ M ∧ (limbs (lowD z d)).length ≤ L := by
  rw [lowN_natAbs]
  exact ⟨Nat.le_trans (limbs_mono (Nat.div_le_self _ _)) hz, Nat.le_trans (limbs_mono (Nat.div_le_self _ _)) hd⟩
theorem sz_add {p r : Int} {q s N : Nat} (a : (limbs p.natAbs).length ≤ N) (b : (limbs q).length ≤ N) (c : (limbs r.natAbs).length ≤ N) (d : (limbs s).length ≤ N) : (limbs (addP p q r s).natAbs).length ≤ 4 * N + 1 ∧ (limbs (addQ p q r s)).length ≤ 4 * N + 1 := by
  have h1 : (limbs (p * (s : Int)).natAbs).length ≤ 2 * N := by rw [Int.natAbs_mul, Int.natAbs_natCast]; have := length_limbs_prod a d; omega
  have h2 : (limbs (r * (q : Int)).natAbs).length ≤ 2 * N := by rw [Int.natAbs_mul, Int.natAbs_natCast]; have := length_limbs_prod c b; omega
  have h3 : (limbs (addNum p q r s).natAbs).length ≤ 4 * N + 1 := by unfold addNum; have := limbs_add_le h1 h2; omega
  have h4 : (limbs (q * s)).length ≤ 4 * N + 1 := by have := length_limbs_prod b d; omega
  exact low_szn h3 h4
theorem sz_mul {p r : Int} {q s N : Nat} (a : (limbs p.natAbs).length ≤ N) (b : (limbs q).length ≤ N) (c : (limbs r.natAbs).length ≤ N) (d : (limbs s).length ≤ N) : (limbs (mulP p q r s).natAbs).length ≤ 2 * N ∧ (limbs (mulQ p q r s)).length ≤ 2 * N := by
  have h1 : (limbs (p * r).natAbs).length ≤ 2 * N := by rw [Int.natAbs_mul]; have := length_limbs_prod a c; omega
  have h4 : (limbs (q * s)).length ≤ 2 * N := by have := length_limbs_prod b d; omega
  exact low_szn h1 h4
theorem sz_inv {r : Int} {s N : Nat} (c : (limbs r.natAbs).length ≤ N) (d : (limbs s).length ≤ N) : (limbs (invP r s).natAbs).length ≤ N ∧ (limbs r.natAbs).length ≤ N := by
  unfold invP
  rw [natAbs_sgn]
  exact ⟨d, c⟩
theorem sz_neg {r : Int} {N : Nat} (c : (limbs r.natAbs).length ≤ N) : (limbs (-r).natAbs).length ≤ N := by rw [Int.natAbs_neg]; exact c
/-- Same of one fraction, read twice. -/
theorem rsameR_self {p : Int} {q N : Nat} (hp : (limbs p.natAbs).length ≤ N) (hq : (limbs q).length ≤ N) (hN : N ≤ 100000000) (W : World) (v u : Value) (a : ArrRat W v p q) (b : ArrRat W u p q) :
    Calls Tryz.prog 22 #[v, u] W fun e w' => e = .returned (.bool true) ∧ Ext W w' := by
  have := rsameR_any W v p q a (by omega) (by omega) u p q b (by omega) (by omega)
  rw [decide_eq_true (⟨rfl, rfl⟩ : p = p ∧ q = q)] at this
  exact this
/-- What both divisions return: a code and a fraction. -/
theorem div_both {p r : Int} {q s N : Nat} (hN : N ≤ 1000) (a : (limbs p.natAbs).length ≤ N) (b : (limbs q).length ≤ N) (c : (limbs r.natAbs).length ≤ N) (d : (limbs s).length ≤ N) (hq : 0 < q) (hs : 0 < s) :
    ∃ (cd : Nat) (P : Int) (Q : Nat), (cd = 0 ∧ r ≠ 0 ∧ P = mulP p q (invP r s) r.natAbs ∧ Q = mulQ p q (invP r s) r.natAbs ∨ cd = 2 ∧ r = 0 ∧ P = 0 ∧ Q = 0) ∧ (limbs P.natAbs).length ≤ 2 * N + 1 ∧ (limbs Q).length ≤ 2 * N + 1 ∧
      (∀ W v u, ArrRat W v p q → ArrRat W u r s → Calls Tryz.prog 43 #[v, u] W fun e w' => ∃ v', e = .returned (.tuple #[v', .int .i64 (cd : Int)]) ∧ IsRat W.heap.size w' v' P Q ∧ Ext W w') ∧
      (∀ W v u, ArrRat W v p q → ArrRat W u r s → Calls Tryz.prog 17 #[v, u] W fun e w' => ∃ v', e = .returned (.tuple #[v', .int .i64 (cd : Int)]) ∧ IsRat W.heap.size w' v' P Q ∧ Ext W w') := by
  by_cases hr : r = 0
  · exact ⟨2, 0, 0, .inr ⟨rfl, hr, rfl, rfl⟩, by rw [show limbs (0 : Int).natAbs = [] by decide +kernel]; exact Nat.zero_le _, by rw [show limbs 0 = [] by decide +kernel]; exact Nat.zero_le _,
      fun W v u e f => divR_zero W v p q e (by omega) (by omega) u r s f (by omega) (by omega) hr, fun W v u e f => rdivR_zero W v p q e (by omega) (by omega) u r s f (by omega) (by omega) hr⟩
  · obtain ⟨i1, i2⟩ := sz_inv c d
    obtain ⟨j1, j2⟩ := sz_mul a b i1 i2
    exact ⟨0, _, _, .inl ⟨rfl, hr, rfl, rfl⟩, by omega, by omega,
      fun W v u e f => divR_pos W v p q e (by omega) (by omega) u r s f (by omega) (by omega) hq hr, fun W v u e f => rdivR_pos W v p q e (by omega) (by omega) u r s f (by omega) (by omega) hq hs hr⟩
end Big
end Go.Proofs.YtplmldkfgeiklaaGreatDoor
