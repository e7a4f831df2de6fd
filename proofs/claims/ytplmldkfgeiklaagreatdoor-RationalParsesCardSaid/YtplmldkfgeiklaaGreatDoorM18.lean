import Derived.Test.YtplmldkfgeiklaaGreatDoorM9
import Derived.Test.YtplmldkfgeiklaaGreatDoorM17
import Derived.Test.YtplmldkfgeiklaaGreatDoorM2
import Derived.Test.YtplmldkfgeiklaaGreatDoorM16
import Derived.Test.YtplmldkfgeiklaaGreatDoorM12
import Derived.Test.YtplmldkfgeiklaaGreatDoorM13
import Derived.Test.YtplmldkfgeiklaaGreatDoorM14
namespace Go.Proofs.YtplmldkfgeiklaaGreatDoor
namespace Big
open Go.RowKit

theorem low_split_len {l a b : List UInt8} {n : Nat} (h : l = a ++ b) (hn : l.length ≤ n) : a.length ≤ n := by
  rw [h, List.length_append] at hn; omega
theorem d8_ofNat (r : Nat) : (((48 + (r : Int) % 10 % 256) % 256 : Int)) = ((UInt8.ofNat (48 + r % 10)).toNat : Int) := by
  rw [UInt8.toNat_ofNat']; omega

/-- What decimal.Digits holds in a group, with k digits of it taken. -/
def DigAt (w0 wr : World) (out : Value) (N q k r : Nat) : Prop :=
  ∃ bs : List UInt8, Own8 w0.heap.size wr out bs ∧ low N = bs ++ low (q * 10 ^ (9 - k) + r) ∧ r < 10 ^ (9 - k) ∧ Ext w0 wr

theorem DigAt.step {w0 wr' : World} {out' : Value} {N q k r : Nat} {bs : List UInt8} (hl : low N = bs ++ low (q * 10 ^ (9 - k) + r)) (hr : r < 10 ^ (9 - k)) (hk : k < 9) (h0 : q ≠ 0 ∨ r ≠ 0)
    (ho : Own8 w0.heap.size wr' out' (bs ++ [UInt8.ofNat (48 + r % 10)])) (he : Ext w0 wr') : DigAt w0 wr' out' N q (k + 1) (r / 10) := by
  obtain ⟨h1, h2⟩ := low_group q r k hk hr h0
  exact ⟨_, ho, by rw [hl, h1, List.append_assoc]; rfl, h2, he⟩
theorem DigAt.done {w0 wr : World} {out : Value} {N q k r : Nat} (h : DigAt w0 wr out N q k r) (hk : k = 9 ∨ q = 0 ∧ r = 0) : ∃ bs, Own8 w0.heap.size wr out bs ∧ low N = bs ++ low q ∧ Ext w0 wr := by
  obtain ⟨bs, h1, h2, h3, h4⟩ := h
  refine ⟨bs, h1, ?_, h4⟩
  rcases hk with rfl | ⟨rfl, rfl⟩
  · rw [h2, group_end q r h3]
  · rw [h2, Nat.zero_mul]

theorem digits_any (w : World) (v : Value) (xs : List Nat) (h : Arr w v xs) (hn : xs.length ≤ 67108864) :
    Calls Tryz.prog 64 #[v] w fun e w' => e = .returned (str (dec (val xs))) ∧ Ext w w' := by
  have HT := Lib.hid (trim_any w v xs h (by omega))
  have HLN := Lib.hid (Nat.le_trans (length_low_val h.ok) (show 10 * xs.length ≤ 1073741823 by omega))
  have HLL := Lib.hid (Nat.le_trans (length_limbs_val h.ok) (show xs.length ≤ 536870912 by omega))
  have HMONO := Lib.hid (fun m (hm : m ≤ val xs) => length_limbs_lt h.ok hm)
  have HN := Lib.hid hn
  clear h
  obtain ⟨N, hNe⟩ : ∃ N, val xs = N := ⟨_, rfl⟩
  rw [hNe] at HT HLN HLL HMONO ⊢
  clear hNe
  go_enter Tryz.func64, Tryz.ntmps64
  go_wp2_with fail
  refine HT.out.mono ?_
  rintro e w0 ⟨v0, rfl, ho, hx⟩
  go_wp2_with fail
  go_loopg [0, 3] N (fun g a out wr => ∃ bs, g ≤ N ∧ Arr wr a (limbs g) ∧ Own8 w.heap.size wr out bs ∧ low N = bs ++ low g ∧ Ext w wr)
  case atStart => exact ⟨[], Nat.le_refl _, ho.arr, Own8.none_ _ _, rfl, hx⟩
  case round =>
    obtain ⟨bs, hg, har, hown, hlow, hext⟩ := hrel
    have HLOW := Lib.hid hlow; clear hlow
    have HAR := Lib.hid har
    clear ho hx
    obtain ⟨_, A, c, rfl, hc, hm, _⟩ := har.open
    have HM := Lib.hid hm; clear hm
    rcases Nat.eq_zero_or_pos gk with h0 | h0
    · subst h0
      clear hc har
      simp only [limbs_zero, List.length_nil, low_zero, List.append_nil] at HLOW ⊢
      have HOWN := Lib.hid hown
      obtain ⟨A', c', rfl, hc', hm', _⟩ := hown.arr.open
      have HM' := Lib.hid hm'; clear hm'
      rcases Nat.eq_zero_or_pos bs.length with hb | hb
      · have hb0 := List.eq_nil_of_length_eq_zero hb
        subst hb0
        have HD := Lib.hid (show dec N = [48] by rw [low_nil HLOW.out]; rfl)
        go_wp2_with fail
        go_ret
        exact ⟨congrArg (fun l => Ending.returned (str l)) HD.out.symm, hext⟩
      · have hbb : ((bs.length : Int) == 0) = false := by rw [beq_eq_false_iff_ne]; omega
        have hbn : bs ≠ [] := by rintro rfl; simp at hb
        have HD := Lib.hid (dec_of_low HLOW.out hbn)
        have HLB : bs.length ≤ 1073741824 := by have := HLN.out; rw [HLOW.out] at this; omega
        have HR := Lib.hid (reverse_any wr _ bs w.heap.size HOWN.out HLB)
        clear hbn
        go_wp2_with fail
        refine HR.out.mono ?_
        rintro e w2 ⟨rfl, ho2, hb2⟩
        have hcv := run_string8 ho2.arr
        go_wp2_with fail
        go_ret
        exact ⟨congrArg (fun l => Ending.returned (str l)) HD.out.symm, hext.more hb2⟩
    · have hlp : 0 < (limbs gk).length := by rw [limbs_pos gk (by omega)]; simp
      have hll := Nat.le_trans (HMONO.out gk hg) (Nat.le_trans HN.out (show 67108864 ≤ 536870912 by omega))
      have HQ := qsmall_any wr _ (limbs gk) 1000000000 HAR.out hll (by omega) (by omega)
      rw [val_limbs, show ((1000000000 : Nat) : Int) = 1000000000 from rfl] at HQ
      have HQ := Lib.hid HQ
      have hr9 := Nat.mod_lt gk (show 0 < 1000000000 by omega)
      have hq9 : gk / 1000000000 < gk := by omega
      have HG := Lib.hid (group_start gk)
      clear har
      obtain ⟨q, hq⟩ : ∃ q, gk / 1000000000 = q := ⟨_, rfl⟩
      obtain ⟨r, hr⟩ : ∃ r, gk % 1000000000 = r := ⟨_, rfl⟩
      rw [hq, hr] at HQ HG
      rw [hq] at hq9
      rw [hr] at hr9
      clear hq hr
      go_wp2_with fail
      refine HQ.out.mono ?_
      rintro e w1 ⟨v1, rfl, ho1, hx1⟩
      have HA1 := Lib.hid (ho1.mono hext.size)
      have har1 := ho1.arr
      obtain ⟨_, A1, c1, rfl, hc1, hm1, _⟩ := har1.open
      have HM1 := Lib.hid hm1; clear hm1 ho1 har1
      have hstart : DigAt w w1 u3 N q 0 r := ⟨bs, hown.ext hx1, by rw [HLOW.out, HG.out], by rw [show (10 : Nat) ^ (9 - 0) = 1000000000 from rfl]; exact hr9, hext.trans hx1⟩
      have HST := Lib.hid hstart; clear hstart
      have hew1 := hext.trans hx1
      go_wp2_with fail
      go_loopw [3, 5, 7] (fun out rv i wr2 => ∃ k r' : Nat, k ≤ 9 ∧ i = .int .i64 k ∧ rv = .int .u32 r' ∧ r' < 1000000000 ∧ DigAt w wr2 out N q k r' ∧ Own w.heap.size wr2 (Value.slice A1 (limbs q).length c1) (limbs q)) (fun _ _ i _ => 9 - (intOf i).toNat)
      case atStart => exact ⟨0, r, by omega, rfl, rfl, hr9, HST.out, HA1.out⟩
      case round =>
        obtain ⟨k, r', hk, rfl, rfl, hr', hD, howq⟩ := hrel
        have HD := Lib.hid hD; clear hD
        clear hc hc1 hlp hll hr9
        have hwz : w.heap.size ≤ wr.heap.size := by obtain ⟨_, _, _, _, hh⟩ := HD.out; exact hh.size
        have round : ∀ (_ : k < 9) (_ : q ≠ 0 ∨ r' ≠ 0), True := fun _ _ => trivial
        clear round
        by_cases hgo : k < 9 ∧ (q ≠ 0 ∨ r' ≠ 0)
        · obtain ⟨hk9, hqr⟩ := hgo
          obtain ⟨bs', hown', hlow', hrb, hext'⟩ := HD.out
          have HLIM := Lib.hid (show bs'.length + [UInt8.ofNat (48 + r' % 10)].length ≤ 2147483648 by have := low_split_len hlow' HLN.out; simp; omega)
          have HSTEP := Lib.hid (fun (wx : World) (o : Value) ho he => DigAt.step (w0 := w) (wr' := wx) (out' := o) hlow' hrb hk9 hqr ho he)
          clear hlow' hrb
          have hqd : (0 < (limbs q).length) ∨ ((limbs q).length ≤ 0 ∧ 0 < r') := by
            rcases Nat.eq_zero_or_pos q with h | h
            · subst h; exact .inr ⟨by simp [limbs_zero], by omega⟩
            · exact .inl (by rw [limbs_pos q (by omega)]; simp)
          clear hqr
          rcases hqd with hqd | ⟨hqd, hr0⟩
          all_goals
            go_wp2_with (at_builtin; go_must (refine wpList_append8 rfl _ _ rfl rfl (hown'.ext ((Ext.refl _).alloc _)) rfl (Arr8.fresh1 _ _ (UInt8.ofNat (48 + r' % 10)) (by rw [UInt8.toNat_ofNat']; omega)) HLIM.out (by simp; omega) ?_; intro v' w' hown2 hgr hb))
            go_roundw
            case rel => exact ⟨k + 1, r' / 10, by omega, by go_num, by go_num, by omega, HSTEP.out _ _ hown2 ((hext'.alloc _).more hb), ⟨howq.1, ROwn.other (ROwn.ext howq.2 ((Ext.refl _).alloc _)) (hown'.ext ((Ext.refl _).alloc _)) (by decide) hgr⟩⟩
            case measure => simp [intOf]; omega
        · have hdone : k = 9 ∨ q = 0 ∧ r' = 0 := by omega
          obtain ⟨bs', hown', hlow', hext'⟩ := HD.out.done hdone
          have HL' := Lib.hid hlow'
          have hqe : (limbs q).length ≤ 0 ∨ ¬ (limbs q).length ≤ 0 := by omega
          have HAQ := Lib.hid howq.arr
          clear hlow' hgo
          have hcases : (¬ k < 9) ∨ (k < 9 ∧ (limbs q).length ≤ 0 ∧ r' ≤ 0) := by
            rcases hdone with h | ⟨h1, h2⟩
            · exact .inl (by omega)
            · rcases Nat.lt_or_ge k 9 with h | h
              · exact .inr ⟨h, by rw [h1]; simp [limbs_zero], by omega⟩
              · exact .inl (by omega)
          clear hqe hdone
          rcases hcases with hk9 | ⟨hk9, hq0, hr0⟩
          all_goals
            go_wp2_with fail
            go_roundg q
            case measure => omega
            case rel => exact ⟨bs', by omega, HAQ.out, hown', HL'.out, hext'⟩
end Big
end Go.Proofs.YtplmldkfgeiklaaGreatDoor
/- rational.Decimal. Printed by a program. -/
namespace Go.Proofs.YtplmldkfgeiklaaGreatDoor
namespace Big
open Go.RowKit
/-- What Decimal returns: the text, where the denominator has the factors 2 and 5 only. -/
def DecPost (p : Int) (q : Nat) (w : World) (e : Ending) (w' : World) : Prop :=
  Ext w w' ∧ ((∃ t f : Nat, 0 ≤ p ∧ q = 5 ^ f * 2 ^ t ∧ e = .returned (.tuple #[str (dotT (scN p.natAbs t f) (max t f)), .bool true])) ∨
    ((p < 0 ∨ ¬ ∃ t f : Nat, q = 5 ^ f * 2 ^ t) ∧ e = .returned (.tuple #[.string ⟨#[]⟩, .bool false])))
/-- Where the parts of q are found, no other factor is left just if q has the factors 2 and 5 only. -/
theorem strip_one {q m t r f : Nat} (h2 : Strip 2 q m t) (h5 : Strip 5 m r f) : (∃ t' f' : Nat, q = 5 ^ f' * 2 ^ t') ↔ r = 1 := by
  have hc25 : Nat.Coprime 2 5 := by decide
  constructor
  · rintro ⟨t', f', hq⟩
    have e2 : Strip 2 q (5 ^ f') t' := ⟨hq, fun hd => by
      have := (hc25.pow_right f').eq_one_of_dvd hd
      cases this⟩
    obtain ⟨hm, _⟩ := h2.uniq (by decide) e2
    have e5 : Strip 5 m 1 f' := ⟨by rw [hm, Nat.one_mul], by decide⟩
    exact (h5.uniq (by decide) e5).1
  · rintro rfl
    exact ⟨t, f, by rw [h2.1, h5.1, Nat.one_mul]⟩
theorem repeat_one (c : Nat) : Lib.repeatL [48] c = List.replicate c 48 := by
  induction c with
  | zero => rfl
  | succ c ih => show [48] ++ Lib.repeatL [48] c = _; rw [ih, List.replicate_succ]; rfl
theorem strip_two_bound {V m n L : Nat} (h : V = m * 2 ^ n) (hV : 0 < V) (hL : (limbs V).length ≤ L) : n ≤ 32 * L := by
  have h1 : 2 ^ n ≤ V := by
    have h3 : 2 ^ n ≤ m * 2 ^ n := Nat.le_mul_of_pos_left _ (by
      rcases Nat.eq_zero_or_pos m with h0 | h0
      · rw [h0, Nat.zero_mul] at h; omega
      · exact h0)
    omega
  have h2 := bitsN_limbs_le hL
  have h3 := bitsN_lt V
  rcases Nat.lt_or_ge (bitsN V) n with h4 | h4
  · have := Nat.pow_le_pow_right (show 0 < 2 by omega) (Nat.le_of_lt h4)
    omega
  · omega
theorem limbs_scaled {m a b L : Nat} (h : (limbs m).length ≤ L) : (limbs (m * 5 ^ a * 2 ^ b)).length ≤ L + (a + 1) + (b + 1) := by
  have h5 : (limbs (5 ^ a)).length ≤ a + 1 := by
    have := limbs_pow_le (V := 5) (L := 1) (by decide +kernel) a
    omega
  have h2 : (limbs (2 ^ b)).length ≤ b + 1 := by
    have := limbs_pow_le (V := 2) (L := 1) (by decide +kernel) b
    omega
  exact length_limbs_prod (length_limbs_prod h h5) h2
theorem limbs_scaled1 {m a L : Nat} (h : (limbs m).length ≤ L) : (limbs (m * 5 ^ a)).length ≤ L + (a + 1) := by
  have h5 : (limbs (5 ^ a)).length ≤ a + 1 := by
    have := limbs_pow_le (V := 5) (L := 1) (by decide +kernel) a
    omega
  exact length_limbs_prod h h5
theorem dec_len_limbs {N L : Nat} (h : (limbs N).length ≤ L) : (dec N).length ≤ 10 * L + 1 := by
  by_cases h0 : N = 0
  · subst h0; rw [dec_zero]; simp
  · rw [dec_pos N h0, List.length_reverse]
    have h1 := val_lt (ok_limbs N)
    rw [val_limbs] at h1
    have := length_low_le (Nat.lt_of_lt_of_le h1 (Nat.le_trans (pow_mono h) (pow_base_dec L)))
    omega
set_option maxRecDepth 100000 in
theorem decR_neg (w : World) (v0 : Value) (p : Int) (q : Nat) (h0 : ArrRat w v0 p q) (n0 : (limbs p.natAbs).length ≤ 1000) (m0 : (limbs q).length ≤ 1000) (hp : p < 0) :
    Calls Tryz.prog 19 #[v0] w (DecPost p q w) := by
  have H0 := Lib.hid h0
  obtain ⟨b0, l0, A0, c0, k0, D0, e0, rfl⟩ := h0.shape
  have hs0 := h0.sign
  rw [decide_eq_true hp] at hs0
  subst hs0
  have HP := Lib.hid hp
  clear h0 hp
  go_enter Tryz.func19, Tryz.ntmps19
  go_wp2_with fail
  go_ret2
  exact ⟨(Ext.refl w).alloc _, .inr ⟨.inl HP.out, rfl⟩⟩
set_option maxHeartbeats 1000000 in
set_option maxRecDepth 100000 in
theorem decR_pos (w : World) (v0 : Value) (p : Int) (q : Nat) (h0 : ArrRat w v0 p q) (n0 : (limbs p.natAbs).length ≤ 1000) (m0 : (limbs q).length ≤ 1000) (hp : ¬ p < 0) (hq : 0 < q) (ht : Tab32 w) :
    Calls Tryz.prog 19 #[v0] w (DecPost p q w) := by
  have H0 := Lib.hid h0
  have HBT := Lib.hid (fun W m a => bits_any W m (limbs q) a (by omega))
  rw [val_limbs] at HBT
  have hbz := @bitsN_zero q
  have hbq : (((bitsN q : Nat) : Int) == 0) = false := by rw [beq_eq_false_iff_ne]; omega
  generalize bitsN q = bn at *
  have HZR := Lib.hid (fun W m a ht => zeros_any W m (limbs q) a (by omega) (by rw [val_limbs]; exact hq) ht)
  rw [val_limbs] at HZR
  have HNN := Lib.hid n0
  have HMM := Lib.hid m0
  have HQ := Lib.hid hq
  have HTB := Lib.hid ht
  obtain ⟨b0, l0, A0, c0, k0, D0, e0, rfl⟩ := h0.shape
  have hs0 := h0.sign
  rw [decide_eq_false hp] at hs0
  subst hs0
  have HP := Lib.hid hp
  have HNUM := Lib.hid h0.num
  clear h0 hp n0 m0 hbz hq ht
  have hpn : ((p.natAbs : Nat) : Int) = p := by have := HP.out; omega
  have HPN := Lib.hid hpn
  clear hpn
  generalize hpa : p.natAbs = pn at *
  have HPA := Lib.hid hpa
  clear hpa
  go_enter Tryz.func19, Tryz.ntmps19
  go_wp2_with fail
  have hb0 := (Blk.new w 26 #[Value.bool false, Value.slice A0 l0 c0, Value.slice D0 k0 e0])
  have hxo := ((Ext.refl w).alloc (.cells #[Value.bool false, Value.slice A0 l0 c0, Value.slice D0 k0 e0] 26))
  have hszo : w.heap.size + 1 = (w.alloc (.cells #[Value.bool false, Value.slice A0 l0 c0, Value.slice D0 k0 e0] 26)).heap.size := by simp
  generalize w.alloc (.cells #[Value.bool false, Value.slice A0 l0 c0, Value.slice D0 k0 e0] 26) = wo at *
  have HB0 := Lib.hid hb0
  have HX := Lib.hid hxo
  have HZ : Hid (w.heap.size + 1 ≤ wo.heap.size) := Lib.hid (by omega)
  clear hxo hszo hb0
  refine (HBT.out _ _ (H0.out.den.ext HX.out)).mono ?_
  rintro e w1 ⟨rfl, rfl⟩
  obtain ⟨u0_0_0, u0_0_1, u0_0_2, u0_0_3, u0_0_4, u0_0_5, u0_0_6⟩ := HB0.out.three
  go_wp2_with fail
  refine (HZR.out _ _ (H0.out.den.ext HX.out) (HTB.out.ext HX.out)).mono ?_
  rintro e w2 ⟨t, m, rfl, hst2, rfl⟩
  have ht32 : t ≤ 32000 := strip_two_bound hst2.1 HQ.out HMM.out
  have hmd : q / 2 ^ t = m := by rw [hst2.1, Nat.mul_div_cancel _ (Nat.pow_pos (by decide))]
  have hml : (limbs m).length ≤ 1000 := Nat.le_trans (limbs_mono (by rw [hst2.1]; exact Nat.le_mul_of_pos_right _ (Nat.pow_pos (by decide)))) HMM.out
  have HSR := Lib.hid (fun W v a => shr_any W v (limbs q) t a (by have := HMM.out; omega) (by omega))
  rw [val_limbs, hmd] at HSR
  have HFV := Lib.hid (fun W v a => fives_any W v m a (by omega) (hst2.pos HQ.out))
  have HS2 := Lib.hid hst2
  clear hst2 hmd
  go_wp2_with fail
  refine (HSR.out _ _ (H0.out.den.ext HX.out)).mono ?_
  rintro e w3 ⟨r3, rfl, hi3, hx3⟩
  have HX3 := Lib.hid (HX.out.trans hx3)
  have HB3 := Lib.hid (HB0.out.ext hx3)
  have R3 := Lib.hid hi3
  obtain ⟨g3, G3, j3, rfl⟩ := hi3.shape
  clear hi3 hx3 u0_0_0 u0_0_1 u0_0_2 u0_0_3 u0_0_4 u0_0_5 u0_0_6
  go_wp2_with fail
  refine (HFV.out _ _ R3.out.arr).mono ?_
  rintro e w4 ⟨r4, r, f, rfl, hi4, hst5, hf, hx4⟩
  have HX4 := Lib.hid (HX3.out.trans hx4)
  have HB4 := Lib.hid (HB3.out.ext hx4)
  have hf32 : f ≤ 32000 := five_bound hst5.1 (HS2.out.pos HQ.out) hml
  have HS5 := Lib.hid hst5
  have hr0 : 0 < r := hst5.pos (HS2.out.pos HQ.out)
  obtain ⟨hok4, A4, c4, rfl, _, _, hcell4⟩ := hi4.open
  obtain ⟨q0, q1, q2, _, _, _, _⟩ := HB4.out.three
  by_cases hr1 : r = 1
  · subst hr1
    rw [limbs_one] at hcell4
    obtain ⟨bb, oo, rfl, _, hc4⟩ := hcell4 (by simp)
    have hx0 : w4.cell? ⟨bb, oo, none⟩ = some (.int .u32 1) := hc4 0 (by simp)
    have hl1 : (limbs 1).length = 1 := by rw [limbs_one]; rfl
    have hqe : q = 5 ^ f * 2 ^ t := by rw [HS2.out.1, HS5.out.1, Nat.one_mul]
    obtain ⟨M, hM⟩ : ∃ M, M = max t f := ⟨_, rfl⟩
    have hM1 : t ≤ M ∧ f ≤ M ∧ M ≤ 32000 := by omega
    have hmx1 : max (t : Int) (f : Int) = (M : Int) := by omega
    have hmx2 : (if (t : Int) < (f : Int) then (f : Int) else (t : Int)) = (M : Int) := by split <;> omega
    have hmx3 : (if t < f then (f : Int) else (t : Int)) = (M : Int) := by split <;> omega
    have HQE := Lib.hid hqe
    have HM := Lib.hid hM
    clear hcell4 hc4 hi4 hx4 hst5 hr0 hok4 hqe
    by_cases hM0 : M = 0
    · have ht0 : t = 0 := by omega
      have hf0 : f = 0 := by omega
      subst hM0
      have HDG := Lib.hid (fun W v a => digits_any W v (limbs pn) a (by have := HNN.out; omega))
      rw [val_limbs] at HDG
      have HTX : Hid (dotT (scN pn t f) (max t f) = dec pn) := Lib.hid (by
        subst ht0
        subst hf0
        unfold dotT scN
        simp)
      clear hM hM1 ht0 hf0 hml ht32 hf hf32
      go_wp2_with fail
      refine (HDG.out _ _ (HNUM.out.ext HX4.out)).mono ?_
      rintro e w5 ⟨rfl, hx5⟩
      have HX5 := Lib.hid (HX4.out.trans hx5)
      clear hx5
      go_wp2_with fail
      go_ret2
      exact ⟨HX5.out, .inl ⟨t, f, by have := HP.out; omega, HQE.out, by rw [HPA.out, HTX.out]; rfl⟩⟩
    · have hM0i : ((M : Int) == 0) = false := by rw [beq_eq_false_iff_ne]; omega
      obtain ⟨a5, ha5⟩ : ∃ a5, a5 = M - f := ⟨_, rfl⟩
      obtain ⟨b2, hb2⟩ : ∃ b2, b2 = M - t := ⟨_, rfl⟩
      have ea : (M : Int) - (f : Int) = (a5 : Int) := by omega
      have eb : (M : Int) - (t : Int) = (b2 : Int) := by omega
      have hwa : IntKind.i64.wrap ((M : Int) - (f : Int)) = (a5 : Int) := by rw [IntWalk.i64_in _ (by omega)]; omega
      have hwb : IntKind.i64.wrap ((M : Int) - (t : Int)) = (b2 : Int) := by rw [IntWalk.i64_in _ (by omega)]; omega
      have hwa2 : IntKind.i64.wrap (a5 : Int) = (a5 : Int) := IntWalk.i64_in _ (by omega)
      have hwb2 : IntKind.i64.wrap (b2 : Int) = (b2 : Int) := IntWalk.i64_in _ (by omega)
      have hab : a5 ≤ 32000 ∧ b2 ≤ 32000 := by omega
      have hN : scN pn t f = pn * 5 ^ a5 * 2 ^ b2 := by unfold scN; rw [← hM, ← ha5, ← hb2]
      have HSC := Lib.hid (fun W v a => scaled_5 W v (limbs pn) a5 a (by have := HNN.out; omega) (by omega))
      unfold ScaledPost at HSC
      rw [val_limbs] at HSC
      have hl5 := limbs_scaled1 (a := a5) HNN.out
      have hl52 := limbs_scaled (a := a5) (b := b2) HNN.out
      rw [← hN] at hl52
      have HDL := Lib.hid (dec_len_limbs hl52)
      have HSL := Lib.hid (fun W v (zs : List Nat) a (hz : val zs = pn * 5 ^ a5) (hzl : zs.length ≤ 100000) => (by
        have := shl_any W v zs b2 a (by omega) (by omega)
        rw [hz, ← hN] at this
        exact this : Calls Tryz.prog 65 #[v, .int .i64 (b2 : Int)] W fun e w' => ∃ v', e = .returned v' ∧ Own W.heap.size w' v' (limbs (scN pn t f)) ∧ Ext W w'))
      have HDG := Lib.hid (fun W v a => digits_any W v (limbs (scN pn t f)) a (by omega))
      rw [val_limbs] at HDG
      have hpl := padT_len (scN pn t f) M
      have hplong := @padT_long (scN pn t f) M
      have hpdef : padT (scN pn t f) M = List.replicate (M + 1 - (dec (scN pn t f)).length) 48 ++ dec (scN pn t f) := rfl
      have hdot : dotT (scN pn t f) (max t f) = (padT (scN pn t f) M).take ((padT (scN pn t f) M).length - M) ++ 46 :: (padT (scN pn t f) M).drop ((padT (scN pn t f) M).length - M) := by
        unfold dotT
        rw [← hM, if_neg hM0]
      generalize hN2 : scN pn t f = N at *
      have HN2 := Lib.hid hN2
      clear hN2
      generalize hS : padT N M = S at *
      have HDOT := Lib.hid hdot
      have HDL2 : Hid ((dec N).length ≤ 1000000) := Lib.hid (by have := HDL.out; omega)
      have HDEF := Lib.hid hpdef
      have HLONG := Lib.hid hplong
      have HPL := Lib.hid hpl
      have HA5 : Hid (a5 ≤ 32000) := Lib.hid hab.1
      have HM3 : Hid (1 ≤ M ∧ M ≤ 32000) := Lib.hid (by omega)
      clear hdot hpdef hplong hpl hS hl5 hl52 hN hM hM1 ha5 hb2 hml ht32 hf hf32 hM0 hab
      go_wp2_with fail
      refine (HSC.out _ _ (HNUM.out.ext HX4.out)).mono ?_
      rintro e w5 ⟨r5, zs, rfl, hi5, hzv, hzl, hx5⟩
      have HX5 := Lib.hid (HX4.out.trans hx5)
      have R5 := Lib.hid hi5
      have HZV := Lib.hid hzv
      have HZL : Hid (zs.length ≤ 100000) := Lib.hid (by have := HNN.out; have := HA5.out; omega)
      obtain ⟨g5, G5, j5, rfl⟩ := hi5.shape
      clear hi5 hx5 q0 q1 q2 hx0 hzv hzl
      go_wp2_with fail
      refine (HSL.out _ _ zs R5.out HZV.out HZL.out).mono ?_
      rintro e w6 ⟨r6, rfl, hi6, hx6⟩
      have HX6 := Lib.hid (HX5.out.trans hx6)
      have R6 := Lib.hid hi6
      obtain ⟨g6, G6, j6, rfl⟩ := hi6.shape
      clear hi6 hx6
      go_wp2_with fail
      refine (HDG.out _ _ R6.out.arr).mono ?_
      rintro e w7 ⟨rfl, hx7⟩
      have HX7 := Lib.hid (HX6.out.trans hx7)
      clear hx7
      generalize hD : dec N = D at *
      have hfin : ∀ W : World, Ext w W → DecPost p q w (.returned (.tuple #[str (S.take (S.length - M) ++ 46 :: S.drop (S.length - M)), .bool true])) W := fun W hx =>
        ⟨hx, .inl ⟨t, f, by have := HP.out; omega, HQE.out, by rw [HPA.out, HN2.out, HDOT.out]⟩⟩
      have HFIN := Lib.hid hfin
      obtain ⟨k, hk⟩ : ∃ k, k = S.length - M := ⟨_, rfl⟩
      have HK := Lib.hid hk
      clear hfin hmx1 hmx2 hmx3
      have hpl := HPL.out
      have hm3 := HM3.out
      have hdl := HDL2.out
      have hsl : (S.length : Int) - (M : Int) = (k : Int) := by omega
      have hwk : IntKind.i64.wrap ((S.length : Int) - (M : Int)) = (k : Int) := by rw [IntWalk.i64_in _ (by omega)]; omega
      have hwk2 : IntKind.i64.wrap (k : Int) = (k : Int) := IntWalk.i64_in _ (by omega)
      have hk0 : (0 : Int) ≤ (k : Int) := by omega
      clear ea eb hwa hwb hwa2 hwb2
      have hk1 : (k : Int) ≤ (S.length : Int) := by omega
      have hadd1 : ∀ W : World, (binOp .add 9 (str (S.take k)) (.string ⟨#[46]⟩)).run Tryz.prog W = .ok (str (S.take k ++ [46])) W := fun W => run_add_str _ [46] (by simp; omega) W
      have hadd2 : ∀ W : World, (binOp .add 9 (str (S.take k ++ [46])) (str (S.drop k))).run Tryz.prog W = .ok (str (S.take k ++ [46] ++ S.drop k)) W := fun W => run_add_str _ _ (by simp; omega) W
      by_cases hlong : D.length ≤ M
      · have hli : (D.length : Int) ≤ (M : Int) := by omega
        obtain ⟨c, hc⟩ : ∃ c, c = M + 1 - D.length := ⟨_, rfl⟩
        have hci : (M : Int) + 1 - (D.length : Int) = (c : Int) := by omega
        have hwm : IntKind.i64.wrap ((M : Int) + 1) = (M : Int) + 1 := IntWalk.i64_in _ (by omega)
        have hwc : IntKind.i64.wrap ((M : Int) + 1 - (D.length : Int)) = (c : Int) := by rw [IntWalk.i64_in _ (by omega)]; omega
        have hwc2 : IntKind.i64.wrap (c : Int) = (c : Int) := IntWalk.i64_in _ (by omega)
        have HRP := Lib.hid (fun W => Tryz.strings_Repeat ⟨#[48]⟩ c W (by omega) (by have h1 : (⟨#[48]⟩ : ByteArray).size = 1 := rfl; rw [h1]; omega))
        rw [show Lib.repeatL (⟨#[48]⟩ : ByteArray).data.toList c = List.replicate c 48 from repeat_one c] at HRP
        have hS2 : S = List.replicate c 48 ++ D := by rw [HDEF.out, hc]
        have hadd0 : ∀ W : World, (binOp .add 9 (.string ⟨(List.replicate c 48).toArray⟩) (str D)).run Tryz.prog W = .ok (str S) W := fun W => by
          have := run_add_str (List.replicate c 48) D (by simp; omega) W
          rw [← hS2] at this
          exact this
        simp only [List.toArray_replicate] at hadd0
        clear hc hk hpl hm3 hdl hlong hS2
        go_wp2_with fail
        refine (HRP.out _).mono ?_
        rintro e w8 ⟨rfl, hx8⟩
        have HX8 := Lib.hid (HX7.out.trans hx8)
        clear hx8
        go_wp2_with fail
        go_quiet (fail)
        go_wp2_with fail
        go_ret2
        have hF := HFIN.out _ (HX8.out.trans ((Ext.refl w8).drewN nq))
        rw [← HK.out] at hF
        exact hF
      · have hli : ¬ (D.length : Int) ≤ (M : Int) := by omega
        have hS2 : S = D := by have := HLONG.out (by omega); rw [this]
        rw [hS2] at hsl hwk hk1 hadd1 hadd2 HFIN HK
        clear hk hpl hm3 hdl hlong HPL HDEF HLONG HDOT
        go_wp2_with fail
        go_quiet (fail)
        go_wp2_with fail
        go_ret2
        have hF := HFIN.out _ (HX7.out.trans ((Ext.refl w7).drewN nq))
        rw [← HK.out] at hF
        exact hF
  · have HNO : Hid (¬ ∃ t f : Nat, q = 5 ^ f * 2 ^ t) := Lib.hid (fun e => hr1 ((strip_one HS2.out HS5.out).1 e))
    by_cases hl : (limbs r).length = 1
    · have hl1 := limbs_is_one hl
      rw [hl1] at hcell4
      obtain ⟨bb, oo, rfl, _, hc4⟩ := hcell4 (by simp)
      have hx0 : w4.cell? ⟨bb, oo, none⟩ = some (.int .u32 (r : Int)) := hc4 0 (by simp)
      have hrne : ((r : Int) != 1) = true := by rw [bne_iff_ne]; omega
      clear hcell4 hc4 hi4 hx4 hst5 hok4 hl1 hr1
      go_wp2_with fail
      go_ret2
      exact ⟨HX4.out, .inr ⟨.inr HNO.out, rfl⟩⟩
    · have hlne : (((limbs r).length : Int) != 1) = true := by rw [bne_iff_ne]; omega
      generalize (limbs r).length = lr at *
      clear hcell4 hi4 hx4 hst5 hok4 hr1 hl
      go_wp2_with fail
      go_ret2
      exact ⟨HX4.out, .inr ⟨.inr HNO.out, rfl⟩⟩
theorem decR_any (w : World) (v0 : Value) (p : Int) (q : Nat) (h0 : ArrRat w v0 p q) (n0 : (limbs p.natAbs).length ≤ 1000) (m0 : (limbs q).length ≤ 1000) (hq : 0 < q) (ht : Tab32 w) :
    Calls Tryz.prog 19 #[v0] w (DecPost p q w) := by
  by_cases hp : p < 0
  · exact decR_neg w v0 p q h0 n0 m0 hp
  · exact decR_pos w v0 p q h0 n0 m0 hp hq ht
end Big
end Go.Proofs.YtplmldkfgeiklaaGreatDoor
/- rational.Sqrt. Printed by a program. -/
namespace Go.Proofs.YtplmldkfgeiklaaGreatDoor
namespace Big
open Go.RowKit
/-- What the root of p / q is: a fraction r / s with squares p and q; or there is none. -/
def SqrtPost (p : Int) (q : Nat) (w : World) (e : Ending) (w' : World) : Prop :=
  ∃ v', Ext w w' ∧ ((∃ r s : Nat, p = ((r * r : Nat) : Int) ∧ q = s * s ∧ e = .returned (.tuple #[v', .bool true]) ∧ IsRat w.heap.size w' v' (r : Int) s) ∨
    (¬ (∃ r s : Nat, p = ((r * r : Nat) : Int) ∧ q = s * s) ∧ e = .returned (.tuple #[v', .bool false]) ∧ IsRat w.heap.size w' v' 0 0))
set_option maxRecDepth 100000 in
theorem sqrtR_neg (w : World) (v0 : Value) (p : Int) (q : Nat) (h0 : ArrRat w v0 p q) (n0 : (limbs p.natAbs).length ≤ 10000) (m0 : (limbs q).length ≤ 10000) (hp : p < 0) :
    Calls Tryz.prog 24 #[v0] w (SqrtPost p q w) := by
  have H0 := Lib.hid h0
  obtain ⟨b0, l0, A0, c0, k0, D0, e0, rfl⟩ := h0.shape
  have hs0 := h0.sign
  rw [decide_eq_true hp] at hs0
  subst hs0
  have HP := Lib.hid hp
  clear h0 hp
  go_enter Tryz.func24, Tryz.ntmps24
  go_wp2_with fail
  refine bodyPost_ret (v := .tuple #[.agg #[.bool false, .slice none 0 0, .slice none 0 0], .bool false]) (by simp [results, Tryz.results24, go_sem]) rfl ?_
  exact ⟨_, ((Ext.refl w).alloc _).alloc _, .inr ⟨by rintro ⟨r, s, h1, _⟩; have := HP.out; omega, rfl, IsRat.zero _ _⟩⟩
set_option maxRecDepth 100000 in
theorem sqrtR_pos (w : World) (v0 : Value) (p : Int) (q : Nat) (h0 : ArrRat w v0 p q) (n0 : (limbs p.natAbs).length ≤ 10000) (m0 : (limbs q).length ≤ 10000) (hp : ¬ p < 0) :
    Calls Tryz.prog 24 #[v0] w (SqrtPost p q w) := by
  have H0 := Lib.hid h0
  have HQ0 := Lib.hid (fun W m a => psquare_any W m (limbs p.natAbs) a (by omega))
  have HQ1 := Lib.hid (fun W m a => psquare_any W m (limbs q) a (by omega))
  unfold SqPost at HQ0 HQ1
  rw [val_limbs] at HQ0 HQ1
  have HNN := Lib.hid n0
  have HMM := Lib.hid m0
  obtain ⟨b0, l0, A0, c0, k0, D0, e0, rfl⟩ := h0.shape
  have hs0 := h0.sign
  rw [decide_eq_false hp] at hs0
  subst hs0
  have HP := Lib.hid hp
  have HNUM := Lib.hid h0.num
  clear h0 hp n0 m0
  have hpn : ((p.natAbs : Nat) : Int) = p := by have := HP.out; omega
  have HPN := Lib.hid hpn
  clear hpn
  generalize p.natAbs = m at *
  go_enter Tryz.func24, Tryz.ntmps24
  go_wp2_with fail
  have hb0 := ((Blk.new w 26 #[Value.bool false, Value.slice A0 l0 c0, Value.slice D0 k0 e0]).alloc (.cells #[Value.bool false, Value.slice none 0 0, Value.slice none 0 0] 26))
  have hb1 := (Blk.new (w.alloc (.cells #[Value.bool false, Value.slice A0 l0 c0, Value.slice D0 k0 e0] 26)) 26 #[Value.bool false, Value.slice none 0 0, Value.slice none 0 0])
  have hxo := (((Ext.refl w).alloc (.cells #[Value.bool false, Value.slice A0 l0 c0, Value.slice D0 k0 e0] 26)).alloc (.cells #[Value.bool false, Value.slice none 0 0, Value.slice none 0 0] 26))
  have hszo : w.heap.size + 1 + 1 = ((w.alloc (.cells #[Value.bool false, Value.slice A0 l0 c0, Value.slice D0 k0 e0] 26)).alloc (.cells #[Value.bool false, Value.slice none 0 0, Value.slice none 0 0] 26)).heap.size := by simp
  simp only [World.size_alloc] at hb1
  generalize (w.alloc (.cells #[Value.bool false, Value.slice A0 l0 c0, Value.slice D0 k0 e0] 26)).alloc (.cells #[Value.bool false, Value.slice none 0 0, Value.slice none 0 0] 26) = wo at *
  have HB0 := Lib.hid hb0
  have HB1 := Lib.hid hb1
  have HX := Lib.hid hxo
  have HZ : Hid (w.heap.size + 1 + 1 ≤ wo.heap.size) := Lib.hid (by omega)
  clear hxo hszo hb0 hb1
  refine (HQ0.out _ _ (HNUM.out.ext HX.out)).mono ?_
  rintro e w1 ⟨r0, r, hsq0, rfl, hi0, ⟨g0, G0, j0, rfl⟩, hx0⟩
  have HX1 := Lib.hid (HX.out.trans hx0)
  have HB11 := Lib.hid (HB1.out.ext hx0)
  have HB01 := Lib.hid (HB0.out.ext hx0)
  have R0 := Lib.hid hi0
  have HS0 := Lib.hid hsq0
  have HZ0 := Lib.hid hx0.size
  clear hi0 hsq0 hx0
  obtain ⟨q0, q1, q2, _, _, _, _⟩ := HB01.out.three
  go_wp2_with fail
  refine (HQ1.out _ _ (H0.out.den.ext HX1.out)).mono ?_
  rintro e w2 ⟨r1, s, hsq1, rfl, hi1, ⟨g1, G1, j1, rfl⟩, hx1⟩
  have HX2 := Lib.hid (HX1.out.trans hx1)
  have HB12 := Lib.hid (HB11.out.ext hx1)
  have HE1 := Lib.hid hx1
  have R1 := Lib.hid hi1
  have HS1 := Lib.hid hsq1
  clear hi1 hsq1 hx1 q0 q1 q2
  obtain ⟨t0, t1, t2, s0, s1, s2, hgz⟩ := HB12.out.three
  by_cases hm : m = r * r
  · have hd0 : decide (m = r * r) = true := decide_eq_true hm
    rw [hd0]
    by_cases hq : q = s * s
    · have hd1 : decide (q = s * s) = true := decide_eq_true hq
      rw [hd1]
      have HR0 := Lib.hid ((R0.out hm).ext HE1.out)
      have HR1 := Lib.hid (R1.out hq)
      have HM := Lib.hid hm
      have HQ := Lib.hid hq
      have hrl : (limbs r).length ≤ 10000 := Nat.le_trans (limbs_mono HS0.out.le) (by rw [hm]; rw [← hm]; exact HNN.out)
      have HI := Lib.hid (fun W m a => inat_any W false m (limbs r) a (by omega))
      rw [val_limbs, show sgn false r = (r : Int) from rfl] at HI
      clear hm hq hd0 hd1 hrl
      go_wp2_with fail
      refine (HI.out _ _ HR0.out.arr).mono ?_
      rintro e w3 ⟨r2, rfl, hi2, hx2⟩
      have HX3 := Lib.hid (HX2.out.trans hx2)
      have HB13 := Lib.hid (HB12.out.ext hx2)
      have HR13 := Lib.hid (HR1.out.ext hx2)
      have HZ2 := Lib.hid HE1.out.size
      have R2 := Lib.hid hi2
      obtain ⟨f2, g2, G2, j2, rfl⟩ := hi2.shape
      clear hi2 hx2 t0 t1 t2 s0 s1 s2
      obtain ⟨t0, t1, t2, s0, s1, s2, hgz⟩ := HB13.out.three
      go_wp2_with fail
      obtain ⟨hr0, hr1, hr2⟩ := three_set HB13.out (.bool f2) (.slice G2 g2 j2) (.slice G1 g1 j1)
      refine bodyPost_ret (v := .tuple #[.agg #[.bool f2, .slice G2 g2 j2, .slice G1 g1 j1], .bool true]) (by simp [results, Tryz.results24, go_sem, hr0, hr1, hr2]) rfl ?_
      refine ⟨_, ((HX3.out.setCell (Nat.le_succ _) _).setCell (Nat.le_succ _) _).setCell (Nat.le_succ _) _, .inl ⟨r, s, by rw [← HPN.out, HM.out], HQ.out, rfl, ?_⟩⟩
      exact IsRat.put (w1 := wo) (IsRat.mk (R2.out.mono (by have := HZ0.out; have := HZ2.out; omega)) (HR13.out.mono HZ0.out)) (by have := HZ.out; omega) (by have := HZ.out; omega)
    · have hd1 : decide (q = s * s) = false := decide_eq_false hq
      rw [hd1]
      have HQ := Lib.hid hq
      clear hm hq hd0 hd1
      go_wp2_with fail
      obtain ⟨hr0, hr1, hr2⟩ := three_set HB12.out (.bool false) (.slice none 0 0) (.slice none 0 0)
      refine bodyPost_ret (v := .tuple #[.agg #[.bool false, .slice none 0 0, .slice none 0 0], .bool false]) (by simp [results, Tryz.results24, go_sem, hr0, hr1, hr2]) rfl ?_
      refine ⟨_, ((HX2.out.setCell (Nat.le_succ _) _).setCell (Nat.le_succ _) _).setCell (Nat.le_succ _) _, .inr ⟨?_, rfl, IsRat.zero _ _⟩⟩
      rintro ⟨r', s', _, h2⟩
      refine HQ.out ?_
      have h3 := HS1.out.uniq (by rw [h2]; exact IsSq.sq s')
      rw [h3]; exact h2
  · have hd0 : decide (m = r * r) = false := decide_eq_false hm
    rw [hd0]
    have HM := Lib.hid hm
    clear hm hd0
    go_wp2_with fail
    obtain ⟨hr0, hr1, hr2⟩ := three_set HB12.out (.bool false) (.slice none 0 0) (.slice none 0 0)
    refine bodyPost_ret (v := .tuple #[.agg #[.bool false, .slice none 0 0, .slice none 0 0], .bool false]) (by simp [results, Tryz.results24, go_sem, hr0, hr1, hr2]) rfl ?_
    refine ⟨_, ((HX2.out.setCell (Nat.le_succ _) _).setCell (Nat.le_succ _) _).setCell (Nat.le_succ _) _, .inr ⟨?_, rfl, IsRat.zero _ _⟩⟩
    rintro ⟨r', s', h1, _⟩
    refine HM.out ?_
    have h2 : m = r' * r' := by have := HPN.out; omega
    have h3 := HS0.out.uniq (by rw [h2]; exact IsSq.sq r')
    rw [h3]; exact h2
theorem sqrtR_any (w : World) (v0 : Value) (p : Int) (q : Nat) (h0 : ArrRat w v0 p q) (n0 : (limbs p.natAbs).length ≤ 10000) (m0 : (limbs q).length ≤ 10000) :
    Calls Tryz.prog 24 #[v0] w (SqrtPost p q w) := by
  by_cases hp : p < 0
  · exact sqrtR_neg w v0 p q h0 n0 m0 hp
  · exact sqrtR_pos w v0 p q h0 n0 m0 hp
end Big
end Go.Proofs.YtplmldkfgeiklaaGreatDoor
/- Fractions: the program's Cmp, Add, Sub, Div, Make, Of; the document's Div, Same, Of. Printed by a program. -/
namespace Go.Proofs.YtplmldkfgeiklaaGreatDoor
namespace Big
open Go.RowKit
theorem make_low2 (x y : Int) : lowN (sgn (decide (x < 0) != decide (y < 0)) x.natAbs) y.natAbs = makeN x y ∧ lowD (sgn (decide (x < 0) != decide (y < 0)) x.natAbs) y.natAbs = makeD x y := by
  unfold lowN lowD makeN makeD
  rw [natAbs_sgn]
  refine ⟨?_, rfl⟩
  generalize (decide (x < 0) != decide (y < 0)) = b
  rcases Nat.eq_zero_or_pos x.natAbs with h | h
  · rw [h, Nat.zero_div]
    cases b <;> rfl
  · rw [sgn_neg]
    cases b <;> simp [h]
theorem makeQ (p : Int) (q : Nat) (r : Int) (s : Nat) (hq : 0 < q) (hs : 0 < s) : makeN (p * (s : Int)) ((q : Int) * r) = mulP p q (invP r s) r.natAbs ∧ makeD (p * (s : Int)) ((q : Int) * r) = mulQ p q (invP r s) r.natAbs := by
  have h1 : (p * (s : Int)).natAbs = (p * invP r s).natAbs := by
    unfold invP
    rw [Int.natAbs_mul, Int.natAbs_mul, natAbs_sgn, Int.natAbs_natCast]
  have h2 : ((q : Int) * r).natAbs = q * r.natAbs := by rw [Int.natAbs_mul, Int.natAbs_natCast]
  unfold makeN makeD mulP mulQ lowN lowD
  rw [h1, h2]
  refine ⟨?_, rfl⟩
  have key : ∀ (b b' : Bool) (n : Nat), (n = 0 ∨ b = b') → sgn b n = sgn b' n := by
    intro b b' n h
    rcases h with rfl | rfl
    · cases b <;> cases b' <;> rfl
    · rfl
  refine key _ _ _ ?_
  by_cases hp : p = 0
  · left
    subst hp
    rw [Int.zero_mul]
    exact Nat.zero_div _
  right
  have e1 : decide (p * (s : Int) < 0) = decide (p < 0) := by
    rw [decide_eq_decide]
    constructor
    · intro h
      rcases Int.lt_or_le p 0 with h0 | h0
      · exact h0
      · have := Int.mul_nonneg h0 (show (0 : Int) ≤ s by omega); omega
    · intro h; exact Int.mul_neg_of_neg_of_pos h (by omega)
  have e2 : decide ((q : Int) * r < 0) = decide (r < 0) := by
    rw [decide_eq_decide]
    constructor
    · intro h
      rcases Int.lt_or_le r 0 with h0 | h0
      · exact h0
      · have := Int.mul_nonneg (show (0 : Int) ≤ q by omega) h0; omega
    · intro h; exact Int.mul_neg_of_pos_of_neg (by omega) h
  rw [e1, e2]
  have hs1 : (0 : Int) < s := by omega
  by_cases hr : r < 0
  · rw [show invP r s = -(s : Int) by unfold invP; rw [decide_eq_true hr]; rfl, decide_eq_true hr]
    rcases Int.lt_or_gt_of_ne hp with h0 | h0
    · rw [decide_eq_true h0, decide_eq_false (by have := Int.mul_pos_of_neg_of_neg h0 (show -(s : Int) < 0 by omega); omega)]; rfl
    · rw [decide_eq_false (by omega), decide_eq_true (Int.mul_neg_of_pos_of_neg h0 (by omega))]; rfl
  · rw [show invP r s = (s : Int) by unfold invP; rw [decide_eq_false hr]; rfl, decide_eq_false hr]
    rw [e1]
    cases decide (p < 0) <;> rfl
theorem iof_any (w : World) (z : Int) (h1 : -9223372036854775808 ≤ z) (h2 : z ≤ 9223372036854775807) :
    Calls Tryz.prog 35 #[.int .i64 z] w fun e w' => ∃ v', e = .returned v' ∧ IsInt w.heap.size w' v' z ∧ Ext w w' := by
  rcases Int.lt_or_le z 0 with h | h
  · exact iof_neg w z h h1
  · obtain ⟨n, rfl⟩ := Int.eq_ofNat_of_zero_le h
    exact iof_pos w n (by omega)
set_option maxRecDepth 100000 in
theorem cmpR_any (w : World) (v0 : Value) (p : Int) (q : Nat) (h0 : ArrRat w v0 p q) (n0 : (limbs p.natAbs).length ≤ 1000000) (m0 : (limbs q).length ≤ 1000000) (v1 : Value) (r : Int) (s : Nat) (h1 : ArrRat w v1 r s) (n1 : (limbs r.natAbs).length ≤ 1000000) (m1 : (limbs s).length ≤ 1000000) :
    Calls Tryz.prog 48 #[v0, v1] w fun e w' => e = .returned (.int .i64 (cmpZ (p * (s : Int)) (r * (q : Int)))) ∧ Ext w w' := by
  have H0 := Lib.hid h0
  have H1 := Lib.hid h1
  have HCR := Lib.hid (fun W v u a b => cross_any W v p q a n0 m0 u r s b n1 m1)
  have HCM := Lib.hid (fun W v u a b => icmp_any W v u (p * (s : Int)) (r * (q : Int)) a b (by have := limbs_mulz n0 m1; omega) (by have := limbs_mulz n1 m0; omega))
  obtain ⟨b0, l0, A0, c0, k0, D0, e0, rfl⟩ := h0.shape
  obtain ⟨b1, l1, A1, c1, k1, D1, e1, rfl⟩ := h1.shape
  clear h0 h1
  go_enter Tryz.func48, Tryz.ntmps48
  go_wp2_with fail
  have hb0 := ((Blk.new w 26 #[Value.bool b0, Value.slice A0 l0 c0, Value.slice D0 k0 e0]).alloc (.cells #[Value.bool b1, Value.slice A1 l1 c1, Value.slice D1 k1 e1] 26))
  have hb1 := (Blk.new (w.alloc (.cells #[Value.bool b0, Value.slice A0 l0 c0, Value.slice D0 k0 e0] 26)) 26 #[Value.bool b1, Value.slice A1 l1 c1, Value.slice D1 k1 e1])
  have hxo := (((Ext.refl w).alloc (.cells #[Value.bool b0, Value.slice A0 l0 c0, Value.slice D0 k0 e0] 26)).alloc (.cells #[Value.bool b1, Value.slice A1 l1 c1, Value.slice D1 k1 e1] 26))
  have hszo : w.heap.size + 1 + 1 = ((w.alloc (.cells #[Value.bool b0, Value.slice A0 l0 c0, Value.slice D0 k0 e0] 26)).alloc (.cells #[Value.bool b1, Value.slice A1 l1 c1, Value.slice D1 k1 e1] 26)).heap.size := by simp
  simp only [World.size_alloc] at hb1
  generalize (w.alloc (.cells #[Value.bool b0, Value.slice A0 l0 c0, Value.slice D0 k0 e0] 26)).alloc (.cells #[Value.bool b1, Value.slice A1 l1 c1, Value.slice D1 k1 e1] 26) = wo at *
  have HB0 := Lib.hid hb0
  have HB1 := Lib.hid hb1
  have HX := Lib.hid hxo
  have HZ : Hid (w.heap.size + 1 + 1 ≤ wo.heap.size) := Lib.hid (by omega)
  clear hxo hszo hb0 hb1
  refine (HCR.out _ _ _ (H0.out.ext HX.out) (H1.out.ext HX.out)).mono ?_
  rintro e w1 ⟨r0, r1, rfl, hi0, hi1, hx0⟩
  have HX1 := Lib.hid (HX.out.trans hx0)
  have HZ1 := Lib.hid hx0.size
  have R0 := Lib.hid hi0
  have R1 := Lib.hid hi1
  have HB0 := Lib.hid (HB0.out.ext hx0)
  have HB1 := Lib.hid (HB1.out.ext hx0)
  obtain ⟨f0, g0, G0, j0, rfl⟩ := hi0.shape
  obtain ⟨f1, g1, G1, j1, rfl⟩ := hi1.shape
  clear hi0 hi1 hx0
  go_wp2_with fail
  refine (HCM.out _ _ _ ((R0.out.ext ((Ext.refl _).alloc _)).ext ((Ext.refl _).alloc _)).arr ((R1.out.ext ((Ext.refl _).alloc _)).ext ((Ext.refl _).alloc _)).arr).mono ?_
  rintro e w2 ⟨rfl, hx2⟩
  go_wp2_with fail
  go_ret
  exact ⟨rfl, ((HX1.out.alloc _).alloc _).trans hx2⟩
set_option maxRecDepth 100000 in
theorem addR_any (w : World) (v0 : Value) (p : Int) (q : Nat) (h0 : ArrRat w v0 p q) (n0 : (limbs p.natAbs).length ≤ 1000000) (m0 : (limbs q).length ≤ 1000000) (v1 : Value) (r : Int) (s : Nat) (h1 : ArrRat w v1 r s) (n1 : (limbs r.natAbs).length ≤ 1000000) (m1 : (limbs s).length ≤ 1000000) (hq : 0 < q) (hs : 0 < s) :
    Calls Tryz.prog 42 #[v0, v1] w fun e w' => ∃ v', e = .returned v' ∧ IsRat w.heap.size w' v' (addP p q r s) (addQ p q r s) ∧ Ext w w' := by
  have H0 := Lib.hid h0
  have H1 := Lib.hid h1
  have HCR := Lib.hid (fun W v u a b => cross_any W v p q a n0 m0 u r s b n1 m1)
  have HAD := Lib.hid (fun W v u a b => iadd_any W v u (p * (s : Int)) (r * (q : Int)) a b (by have := limbs_mulz n0 m1; omega) (by have := limbs_mulz n1 m0; omega))
  have HMD := Lib.hid (fun W m m' a b => mul_any W m m' (limbs q) (limbs s) a b (by omega) (by omega))
  rw [val_limbs, val_limbs] at HMD
  have HLW := Lib.hid (fun W v u a b => lowestR_any W v u (p * (s : Int) + r * (q : Int)) (limbs (q * s)) a b (by have := limbs_add7 (limbs_mulz n0 m1) (limbs_mulz n1 m0); omega) (by have := limbs_muln m0 m1; omega) (by rw [val_limbs]; exact Nat.pos_iff_ne_zero.1 (Nat.mul_pos hq hs)))
  rw [val_limbs] at HLW
  obtain ⟨b0, l0, A0, c0, k0, D0, e0, rfl⟩ := h0.shape
  obtain ⟨b1, l1, A1, c1, k1, D1, e1, rfl⟩ := h1.shape
  clear h0 h1
  go_enter Tryz.func42, Tryz.ntmps42
  go_wp2_with fail
  have hb0 := (((Blk.new w 26 #[Value.bool b0, Value.slice A0 l0 c0, Value.slice D0 k0 e0]).alloc (.cells #[Value.bool b1, Value.slice A1 l1 c1, Value.slice D1 k1 e1] 26)).alloc (.cells #[Value.bool false, Value.slice none 0 0, Value.slice none 0 0] 26))
  have hb1 := ((Blk.new (w.alloc (.cells #[Value.bool b0, Value.slice A0 l0 c0, Value.slice D0 k0 e0] 26)) 26 #[Value.bool b1, Value.slice A1 l1 c1, Value.slice D1 k1 e1]).alloc (.cells #[Value.bool false, Value.slice none 0 0, Value.slice none 0 0] 26))
  have hb2 := (Blk.new ((w.alloc (.cells #[Value.bool b0, Value.slice A0 l0 c0, Value.slice D0 k0 e0] 26)).alloc (.cells #[Value.bool b1, Value.slice A1 l1 c1, Value.slice D1 k1 e1] 26)) 26 #[Value.bool false, Value.slice none 0 0, Value.slice none 0 0])
  have hxo := ((((Ext.refl w).alloc (.cells #[Value.bool b0, Value.slice A0 l0 c0, Value.slice D0 k0 e0] 26)).alloc (.cells #[Value.bool b1, Value.slice A1 l1 c1, Value.slice D1 k1 e1] 26)).alloc (.cells #[Value.bool false, Value.slice none 0 0, Value.slice none 0 0] 26))
  have hszo : w.heap.size + 1 + 1 + 1 = (((w.alloc (.cells #[Value.bool b0, Value.slice A0 l0 c0, Value.slice D0 k0 e0] 26)).alloc (.cells #[Value.bool b1, Value.slice A1 l1 c1, Value.slice D1 k1 e1] 26)).alloc (.cells #[Value.bool false, Value.slice none 0 0, Value.slice none 0 0] 26)).heap.size := by simp
  simp only [World.size_alloc] at hb1 hb2
  generalize ((w.alloc (.cells #[Value.bool b0, Value.slice A0 l0 c0, Value.slice D0 k0 e0] 26)).alloc (.cells #[Value.bool b1, Value.slice A1 l1 c1, Value.slice D1 k1 e1] 26)).alloc (.cells #[Value.bool false, Value.slice none 0 0, Value.slice none 0 0] 26) = wo at *
  have HB0 := Lib.hid hb0
  have HB1 := Lib.hid hb1
  have HB2 := Lib.hid hb2
  have HX := Lib.hid hxo
  have HZ : Hid (w.heap.size + 1 + 1 + 1 ≤ wo.heap.size) := Lib.hid (by omega)
  clear hxo hszo hb0 hb1 hb2
  refine (HCR.out _ _ _ (H0.out.ext HX.out) (H1.out.ext HX.out)).mono ?_
  rintro e w1 ⟨r0, r1, rfl, hi0, hi1, hx0⟩
  have HX1 := Lib.hid (HX.out.trans hx0)
  have HZ1 := Lib.hid hx0.size
  have R0 := Lib.hid hi0
  have R1 := Lib.hid hi1
  have HB0 := Lib.hid (HB0.out.ext hx0)
  have HB1 := Lib.hid (HB1.out.ext hx0)
  have HB2 := Lib.hid (HB2.out.ext hx0)
  obtain ⟨f0, g0, G0, j0, rfl⟩ := hi0.shape
  obtain ⟨f1, g1, G1, j1, rfl⟩ := hi1.shape
  clear hi0 hi1 hx0
  go_wp2_with fail
  have hba := (Blk.new w1 24 #[Value.bool f0, Value.slice G0 g0 j0]).alloc (.cells #[Value.bool f1, Value.slice G1 g1 j1] 24)
  have hbb := Blk.new (w1.alloc (.cells #[Value.bool f0, Value.slice G0 g0 j0] 24)) 24 #[Value.bool f1, Value.slice G1 g1 j1]
  have hxa := ((Ext.refl w1).alloc (.cells #[Value.bool f0, Value.slice G0 g0 j0] 24)).alloc (.cells #[Value.bool f1, Value.slice G1 g1 j1] 24)
  simp only [World.size_alloc] at hbb
  have hza := hxa.size
  generalize (w1.alloc (.cells #[Value.bool f0, Value.slice G0 g0 j0] 24)).alloc (.cells #[Value.bool f1, Value.slice G1 g1 j1] 24) = wz at *
  have hxz := HX1.out.trans hxa
  have R0 := Lib.hid (R0.out.ext hxa.drew)
  have R1 := Lib.hid (R1.out.ext hxa.drew)
  have hx_ := HB0.out.ext hxa
  have hy_ := HB1.out.ext hxa
  have hr_ := HB2.out.ext hxa
  have hzw : w.heap.size + 1 + 1 + 1 ≤ w1.heap.size := Nat.le_trans HZ.out HZ1.out
  obtain ⟨_, _, qx, _⟩ := hx_.three
  obtain ⟨_, _, qy, _⟩ := hy_.three
  obtain ⟨t0, t1, t2, s0, s1, s2, hgz⟩ := hr_.three
  obtain ⟨qa0, qa1, _⟩ := hba.two
  obtain ⟨qb0, qb1, _⟩ := hbb.two
  clear hx_ hy_ hr_ hba hbb hxa HB0 HB1 HB2 HX HX1 HZ HZ1
  go_region_held3 (fun w' => Ext w w' ∧ w'.cell? ⟨w.heap.size, 2, none⟩ = some (Value.slice D0 k0 e0) ∧ w'.cell? ⟨w.heap.size + 1, 2, none⟩ = some (Value.slice D1 k1 e1) ∧ w'.cell? ⟨w1.heap.size, 0, none⟩ = some (Value.bool f0) ∧ w'.cell? ⟨w1.heap.size, 1, none⟩ = some (Value.slice G0 g0 j0) ∧ w'.cell? ⟨w1.heap.size + 1, 0, none⟩ = some (Value.bool f1) ∧ w'.cell? ⟨w1.heap.size + 1, 1, none⟩ = some (Value.slice G1 g1 j1) ∧ w'.cell? ⟨w.heap.size + 1 + 1, 0, none⟩ = some (was w' (w.heap.size + 1 + 1) 0) ∧ w'.cell? ⟨w.heap.size + 1 + 1, 1, none⟩ = some (was w' (w.heap.size + 1 + 1) 1) ∧ w'.cell? ⟨w.heap.size + 1 + 1, 2, none⟩ = some (was w' (w.heap.size + 1 + 1) 2) ∧ w'.frozen? ⟨w.heap.size + 1 + 1, 0, none⟩ = false ∧ w'.frozen? ⟨w.heap.size + 1 + 1, 1, none⟩ = false ∧ w'.frozen? ⟨w.heap.size + 1 + 1, 2, none⟩ = false)
    (first | (exact ⟨hxz.drew, qx, qy, qa0, qa1, qb0, qb1, was_some (w := wz.drew) t0, was_some (w := wz.drew) t1, was_some (w := wz.drew) t2, s0, s1, s2⟩) | (exact keptS6_3 (by assumption) (by assumption)) | (exact keptS6_3_set (by assumption) (by omega) (by omega) (by omega) (by omega) (by omega) (by omega) (by omega)))
    (first
      | (go_at_call 76; have hchk4 := hz3; refine (HLW.out _ _ _ R2.out.arr R3.out.arr).mono ?_; rintro e w4 ⟨r4, rfl, hi4, hx4⟩; have hz4 := hx4.size; have R2 := Lib.hid (R2.out.ext hx4); have R3 := Lib.hid (R3.out.ext hx4); have R4 := Lib.hid hi4; obtain ⟨f4, g4, G4, j4, y4, Y4, z4, rfl⟩ := hi4.shape)
      | (go_at_call 83; have hchk3 := hz2; refine (HMD.out _ _ _ (H0.out.den.ext (And.left (by assumption))) (H1.out.den.ext (And.left (by assumption)))).mono ?_; rintro e w3 ⟨r3, rfl, hi3, hx3⟩; have hz3 := hx3.size; have R2 := Lib.hid (R2.out.ext hx3); have R3 := Lib.hid hi3; obtain ⟨g3, G3, j3, rfl⟩ := hi3.shape)
      | (go_at_call 102; refine (HAD.out _ _ _ R0.out.arr R1.out.arr).mono ?_; rintro e w2 ⟨r2, rfl, hi2, hx2⟩; have hz2 := hx2.size; have R2 := Lib.hid hi2; obtain ⟨f2, g2, G2, j2, rfl⟩ := hi2.shape))
  all_goals go_wp2_with fail
  rename_i hS
  obtain ⟨hE, _, _, _, _, _, _, c0, c1, c2, _, _, _⟩ := hS
  simp only [World.size_drew] at hz2
  obtain ⟨hr0, hr1, hr2⟩ := final3 c0 c1 c2
  refine bodyPost_ret (v := .agg #[.bool f4, .slice G4 g4 j4, .slice Y4 y4 z4]) (by simp [results, Tryz.results42, go_sem, hr0, hr1, hr2]) rfl ?_
  exact ⟨_, rfl, R4.out.put (by omega) (by omega), hE⟩
set_option maxRecDepth 100000 in
theorem subR_any (w : World) (v0 : Value) (p : Int) (q : Nat) (h0 : ArrRat w v0 p q) (n0 : (limbs p.natAbs).length ≤ 1000000) (m0 : (limbs q).length ≤ 1000000) (v1 : Value) (r : Int) (s : Nat) (h1 : ArrRat w v1 r s) (n1 : (limbs r.natAbs).length ≤ 1000000) (m1 : (limbs s).length ≤ 1000000) (hq : 0 < q) (hs : 0 < s) :
    Calls Tryz.prog 44 #[v0, v1] w fun e w' => ∃ v', e = .returned v' ∧ IsRat w.heap.size w' v' (addP p q (-r) s) (addQ p q (-r) s) ∧ Ext w w' := by
  have H0 := Lib.hid h0
  have H1 := Lib.hid h1
  have HNG := Lib.hid (fun W v a => negR_any W v r s a n1 m1)
  have HAD := Lib.hid (fun W v u a b => addR_any W v p q a n0 m0 u (-r) s b (by rw [Int.natAbs_neg]; exact n1) m1 hq hs)
  obtain ⟨b0, l0, A0, c0, k0, D0, e0, rfl⟩ := h0.shape
  obtain ⟨b1, l1, A1, c1, k1, D1, e1, rfl⟩ := h1.shape
  clear h0 h1
  go_enter Tryz.func44, Tryz.ntmps44
  go_wp2_with fail
  have hb0 := (((Blk.new w 26 #[Value.bool b0, Value.slice A0 l0 c0, Value.slice D0 k0 e0]).alloc (.cells #[Value.bool b1, Value.slice A1 l1 c1, Value.slice D1 k1 e1] 26)).alloc (.cells #[Value.bool false, Value.slice none 0 0, Value.slice none 0 0] 26))
  have hb1 := ((Blk.new (w.alloc (.cells #[Value.bool b0, Value.slice A0 l0 c0, Value.slice D0 k0 e0] 26)) 26 #[Value.bool b1, Value.slice A1 l1 c1, Value.slice D1 k1 e1]).alloc (.cells #[Value.bool false, Value.slice none 0 0, Value.slice none 0 0] 26))
  have hb2 := (Blk.new ((w.alloc (.cells #[Value.bool b0, Value.slice A0 l0 c0, Value.slice D0 k0 e0] 26)).alloc (.cells #[Value.bool b1, Value.slice A1 l1 c1, Value.slice D1 k1 e1] 26)) 26 #[Value.bool false, Value.slice none 0 0, Value.slice none 0 0])
  have hxo := ((((Ext.refl w).alloc (.cells #[Value.bool b0, Value.slice A0 l0 c0, Value.slice D0 k0 e0] 26)).alloc (.cells #[Value.bool b1, Value.slice A1 l1 c1, Value.slice D1 k1 e1] 26)).alloc (.cells #[Value.bool false, Value.slice none 0 0, Value.slice none 0 0] 26))
  have hszo : w.heap.size + 1 + 1 + 1 = (((w.alloc (.cells #[Value.bool b0, Value.slice A0 l0 c0, Value.slice D0 k0 e0] 26)).alloc (.cells #[Value.bool b1, Value.slice A1 l1 c1, Value.slice D1 k1 e1] 26)).alloc (.cells #[Value.bool false, Value.slice none 0 0, Value.slice none 0 0] 26)).heap.size := by simp
  simp only [World.size_alloc] at hb1 hb2
  generalize ((w.alloc (.cells #[Value.bool b0, Value.slice A0 l0 c0, Value.slice D0 k0 e0] 26)).alloc (.cells #[Value.bool b1, Value.slice A1 l1 c1, Value.slice D1 k1 e1] 26)).alloc (.cells #[Value.bool false, Value.slice none 0 0, Value.slice none 0 0] 26) = wo at *
  obtain ⟨q0_0, q0_1, q0_2, _, _, _, _⟩ := hb0.three
  obtain ⟨q1_0, q1_1, q1_2, _, _, _, _⟩ := hb1.three
  obtain ⟨t0, t1, t2, s0, s1, s2, hgz⟩ := hb2.three
  clear hb0 hb1 hb2
  go_region_held3 (fun w' => Ext w w' ∧ w'.cell? ⟨w.heap.size, 0, none⟩ = some (Value.bool b0) ∧ w'.cell? ⟨w.heap.size, 1, none⟩ = some (Value.slice A0 l0 c0) ∧ w'.cell? ⟨w.heap.size, 2, none⟩ = some (Value.slice D0 k0 e0) ∧ w'.cell? ⟨w.heap.size + 1, 0, none⟩ = some (Value.bool b1) ∧ w'.cell? ⟨w.heap.size + 1, 1, none⟩ = some (Value.slice A1 l1 c1) ∧ w'.cell? ⟨w.heap.size + 1, 2, none⟩ = some (Value.slice D1 k1 e1) ∧ w'.cell? ⟨w.heap.size + 1 + 1, 0, none⟩ = some (was w' (w.heap.size + 1 + 1) 0) ∧ w'.cell? ⟨w.heap.size + 1 + 1, 1, none⟩ = some (was w' (w.heap.size + 1 + 1) 1) ∧ w'.cell? ⟨w.heap.size + 1 + 1, 2, none⟩ = some (was w' (w.heap.size + 1 + 1) 2) ∧ w'.frozen? ⟨w.heap.size + 1 + 1, 0, none⟩ = false ∧ w'.frozen? ⟨w.heap.size + 1 + 1, 1, none⟩ = false ∧ w'.frozen? ⟨w.heap.size + 1 + 1, 2, none⟩ = false)
    (first | (exact ⟨hxo.drew, q0_0, q0_1, q0_2, q1_0, q1_1, q1_2, was_some (w := wo.drew) t0, was_some (w := wo.drew) t1, was_some (w := wo.drew) t2, s0, s1, s2⟩) | (exact keptS6_3 (by assumption) (by assumption)) | (exact keptS6_3_set (by assumption) (by omega) (by omega) (by omega) (by omega) (by omega) (by omega) (by omega)))
    (first
      | (go_at_call 42; have hchk1 := hz0; refine (HAD.out _ _ _ (H0.out.ext (And.left (by assumption))) R0.out.arr).mono ?_; rintro e w2 ⟨r1, rfl, hi1, hx1⟩; have hz1 := hx1.size; have R0 := Lib.hid (R0.out.ext hx1); have R1 := Lib.hid hi1; obtain ⟨f1, g1, G1, j1, y1, Y1, z1, rfl⟩ := hi1.shape)
      | (go_at_call 28; refine (HNG.out _ _ (H1.out.ext (And.left (by assumption)))).mono ?_; rintro e w1 ⟨r0, rfl, hi0, hx0⟩; have hz0 := hx0.size; have R0 := Lib.hid hi0; obtain ⟨f0, g0, G0, j0, y0, Y0, z0, rfl⟩ := hi0.shape))
  all_goals go_wp2_with fail
  rename_i hS
  obtain ⟨hE, _, _, _, _, _, _, hc0, hc1, hc2, _, _, _⟩ := hS
  simp only [World.size_drew] at hz0
  obtain ⟨hr0, hr1, hr2⟩ := final3 hc0 hc1 hc2
  refine bodyPost_ret (v := .agg #[.bool f1, .slice G1 g1 j1, .slice Y1 y1 z1]) (by simp [results, Tryz.results44, go_sem, hr0, hr1, hr2]) rfl ?_
  exact ⟨_, rfl, R1.out.put (by omega) (by omega), hE⟩
set_option maxRecDepth 100000 in
theorem divR_zero (w : World) (v0 : Value) (p : Int) (q : Nat) (h0 : ArrRat w v0 p q) (n0 : (limbs p.natAbs).length ≤ 1000000) (m0 : (limbs q).length ≤ 1000000) (v1 : Value) (r : Int) (s : Nat) (h1 : ArrRat w v1 r s) (n1 : (limbs r.natAbs).length ≤ 1000000) (m1 : (limbs s).length ≤ 1000000) (hr : r = 0) :
    Calls Tryz.prog 43 #[v0, v1] w fun e w' => ∃ v', e = .returned (.tuple #[v', .int .i64 2]) ∧ IsRat w.heap.size w' v' (0) (0) ∧ Ext w w' := by
  have H0 := Lib.hid h0
  have H1 := Lib.hid h1
  have HSG := Lib.hid (fun W v a => signR_any W v r s a n1 m1)
  have hsg : (sgZ r == 0) = true := by rw [hr]; rfl
  obtain ⟨b0, l0, A0, c0, k0, D0, e0, rfl⟩ := h0.shape
  obtain ⟨b1, l1, A1, c1, k1, D1, e1, rfl⟩ := h1.shape
  generalize sgZ r = sg at *
  clear h0 h1 hr
  go_enter Tryz.func43, Tryz.ntmps43
  go_wp2_with fail
  have hb0 := (((Blk.new w 26 #[Value.bool b0, Value.slice A0 l0 c0, Value.slice D0 k0 e0]).alloc (.cells #[Value.bool b1, Value.slice A1 l1 c1, Value.slice D1 k1 e1] 26)).alloc (.cells #[Value.bool false, Value.slice none 0 0, Value.slice none 0 0] 26))
  have hb1 := ((Blk.new (w.alloc (.cells #[Value.bool b0, Value.slice A0 l0 c0, Value.slice D0 k0 e0] 26)) 26 #[Value.bool b1, Value.slice A1 l1 c1, Value.slice D1 k1 e1]).alloc (.cells #[Value.bool false, Value.slice none 0 0, Value.slice none 0 0] 26))
  have hb2 := (Blk.new ((w.alloc (.cells #[Value.bool b0, Value.slice A0 l0 c0, Value.slice D0 k0 e0] 26)).alloc (.cells #[Value.bool b1, Value.slice A1 l1 c1, Value.slice D1 k1 e1] 26)) 26 #[Value.bool false, Value.slice none 0 0, Value.slice none 0 0])
  have hxo := ((((Ext.refl w).alloc (.cells #[Value.bool b0, Value.slice A0 l0 c0, Value.slice D0 k0 e0] 26)).alloc (.cells #[Value.bool b1, Value.slice A1 l1 c1, Value.slice D1 k1 e1] 26)).alloc (.cells #[Value.bool false, Value.slice none 0 0, Value.slice none 0 0] 26))
  have hszo : w.heap.size + 1 + 1 + 1 = (((w.alloc (.cells #[Value.bool b0, Value.slice A0 l0 c0, Value.slice D0 k0 e0] 26)).alloc (.cells #[Value.bool b1, Value.slice A1 l1 c1, Value.slice D1 k1 e1] 26)).alloc (.cells #[Value.bool false, Value.slice none 0 0, Value.slice none 0 0] 26)).heap.size := by simp
  simp only [World.size_alloc] at hb1 hb2
  generalize ((w.alloc (.cells #[Value.bool b0, Value.slice A0 l0 c0, Value.slice D0 k0 e0] 26)).alloc (.cells #[Value.bool b1, Value.slice A1 l1 c1, Value.slice D1 k1 e1] 26)).alloc (.cells #[Value.bool false, Value.slice none 0 0, Value.slice none 0 0] 26) = wo at *
  have HB0 := Lib.hid hb0
  have HB1 := Lib.hid hb1
  have HB2 := Lib.hid hb2
  have HX := Lib.hid hxo
  have HZ : Hid (w.heap.size + 1 + 1 + 1 ≤ wo.heap.size) := Lib.hid (by omega)
  clear hxo hszo hb0 hb1 hb2
  refine (HSG.out _ _ (H1.out.ext HX.out)).mono ?_
  rintro e w1 ⟨rfl, hx0⟩
  have HX := Lib.hid (HX.out.trans hx0)
  have HZ0 := Lib.hid hx0.size
  have HB0 := Lib.hid (HB0.out.ext hx0)
  have HB1 := Lib.hid (HB1.out.ext hx0)
  have HB2 := Lib.hid (HB2.out.ext hx0)
  clear hx0
  obtain ⟨u0_0_0, u0_0_1, u0_0_2, u0_0_3, u0_0_4, u0_0_5, u0_0_6⟩ := HB0.out.three
  obtain ⟨u0_1_0, u0_1_1, u0_1_2, u0_1_3, u0_1_4, u0_1_5, u0_1_6⟩ := HB1.out.three
  obtain ⟨u0_2_0, u0_2_1, u0_2_2, u0_2_3, u0_2_4, u0_2_5, u0_2_6⟩ := HB2.out.three
  go_wp2_with fail
  obtain ⟨hr0, hr1, hr2⟩ := three_set HB2.out (.bool false) (.slice none 0 0) (.slice none 0 0)
  refine bodyPost_ret (v := .tuple #[.agg #[.bool false, .slice none 0 0, .slice none 0 0], .int .i64 2]) (by simp [results, Tryz.results43, go_sem, hr0, hr1, hr2]) rfl ?_
  exact ⟨_, rfl, IsRat.zero _ _, ((HX.out.setCell (Nat.le_trans (Nat.le_succ _) (Nat.le_succ _)) _).setCell (Nat.le_trans (Nat.le_succ _) (Nat.le_succ _)) _).setCell (Nat.le_trans (Nat.le_succ _) (Nat.le_succ _)) _⟩
set_option maxRecDepth 100000 in
theorem divR_pos (w : World) (v0 : Value) (p : Int) (q : Nat) (h0 : ArrRat w v0 p q) (n0 : (limbs p.natAbs).length ≤ 1000000) (m0 : (limbs q).length ≤ 1000000) (v1 : Value) (r : Int) (s : Nat) (h1 : ArrRat w v1 r s) (n1 : (limbs r.natAbs).length ≤ 1000000) (m1 : (limbs s).length ≤ 1000000) (hq : 0 < q) (hr : r ≠ 0) :
    Calls Tryz.prog 43 #[v0, v1] w fun e w' => ∃ v', e = .returned (.tuple #[v', .int .i64 0]) ∧ IsRat w.heap.size w' v' (mulP p q (invP r s) r.natAbs) (mulQ p q (invP r s) r.natAbs) ∧ Ext w w' := by
  have H0 := Lib.hid h0
  have H1 := Lib.hid h1
  have HSG := Lib.hid (fun W v a => signR_any W v r s a n1 m1)
  have hsg : (sgZ r == 0) = false := by rw [beq_eq_false_iff_ne]; unfold sgZ; split <;> (try split) <;> omega
  have HIV := Lib.hid (fun W v a => invR_any W v r s a n1 m1)
  have HM := Lib.hid (fun W v u a b => mulR_any W v p q a n0 m0 u (invP r s) r.natAbs b (by unfold invP; rw [natAbs_sgn]; exact m1) n1 hq (by omega))
  obtain ⟨b0, l0, A0, c0, k0, D0, e0, rfl⟩ := h0.shape
  obtain ⟨b1, l1, A1, c1, k1, D1, e1, rfl⟩ := h1.shape
  generalize sgZ r = sg at *
  clear h0 h1 hr
  go_enter Tryz.func43, Tryz.ntmps43
  go_wp2_with fail
  have hb0 := (((Blk.new w 26 #[Value.bool b0, Value.slice A0 l0 c0, Value.slice D0 k0 e0]).alloc (.cells #[Value.bool b1, Value.slice A1 l1 c1, Value.slice D1 k1 e1] 26)).alloc (.cells #[Value.bool false, Value.slice none 0 0, Value.slice none 0 0] 26))
  have hb1 := ((Blk.new (w.alloc (.cells #[Value.bool b0, Value.slice A0 l0 c0, Value.slice D0 k0 e0] 26)) 26 #[Value.bool b1, Value.slice A1 l1 c1, Value.slice D1 k1 e1]).alloc (.cells #[Value.bool false, Value.slice none 0 0, Value.slice none 0 0] 26))
  have hb2 := (Blk.new ((w.alloc (.cells #[Value.bool b0, Value.slice A0 l0 c0, Value.slice D0 k0 e0] 26)).alloc (.cells #[Value.bool b1, Value.slice A1 l1 c1, Value.slice D1 k1 e1] 26)) 26 #[Value.bool false, Value.slice none 0 0, Value.slice none 0 0])
  have hxo := ((((Ext.refl w).alloc (.cells #[Value.bool b0, Value.slice A0 l0 c0, Value.slice D0 k0 e0] 26)).alloc (.cells #[Value.bool b1, Value.slice A1 l1 c1, Value.slice D1 k1 e1] 26)).alloc (.cells #[Value.bool false, Value.slice none 0 0, Value.slice none 0 0] 26))
  have hszo : w.heap.size + 1 + 1 + 1 = (((w.alloc (.cells #[Value.bool b0, Value.slice A0 l0 c0, Value.slice D0 k0 e0] 26)).alloc (.cells #[Value.bool b1, Value.slice A1 l1 c1, Value.slice D1 k1 e1] 26)).alloc (.cells #[Value.bool false, Value.slice none 0 0, Value.slice none 0 0] 26)).heap.size := by simp
  simp only [World.size_alloc] at hb1 hb2
  generalize ((w.alloc (.cells #[Value.bool b0, Value.slice A0 l0 c0, Value.slice D0 k0 e0] 26)).alloc (.cells #[Value.bool b1, Value.slice A1 l1 c1, Value.slice D1 k1 e1] 26)).alloc (.cells #[Value.bool false, Value.slice none 0 0, Value.slice none 0 0] 26) = wo at *
  refine (HSG.out _ _ (H1.out.ext hxo)).mono ?_
  rintro e wl ⟨rfl, hxl⟩
  have hb0 := hb0.ext hxl
  have hb1 := hb1.ext hxl
  have hb2 := hb2.ext hxl
  have hxo := hxo.trans hxl
  have hzl := hxl.size
  go_wp2_with fail
  obtain ⟨q0_0, q0_1, q0_2, _, _, _, _⟩ := hb0.three
  obtain ⟨q1_0, q1_1, q1_2, _, _, _, _⟩ := hb1.three
  obtain ⟨t0, t1, t2, s0, s1, s2, hgz⟩ := hb2.three
  clear hb0 hb1 hb2
  go_region_held3 (fun w' => Ext w w' ∧ w'.cell? ⟨w.heap.size, 0, none⟩ = some (Value.bool b0) ∧ w'.cell? ⟨w.heap.size, 1, none⟩ = some (Value.slice A0 l0 c0) ∧ w'.cell? ⟨w.heap.size, 2, none⟩ = some (Value.slice D0 k0 e0) ∧ w'.cell? ⟨w.heap.size + 1, 0, none⟩ = some (Value.bool b1) ∧ w'.cell? ⟨w.heap.size + 1, 1, none⟩ = some (Value.slice A1 l1 c1) ∧ w'.cell? ⟨w.heap.size + 1, 2, none⟩ = some (Value.slice D1 k1 e1) ∧ w'.cell? ⟨w.heap.size + 1 + 1, 0, none⟩ = some (was w' (w.heap.size + 1 + 1) 0) ∧ w'.cell? ⟨w.heap.size + 1 + 1, 1, none⟩ = some (was w' (w.heap.size + 1 + 1) 1) ∧ w'.cell? ⟨w.heap.size + 1 + 1, 2, none⟩ = some (was w' (w.heap.size + 1 + 1) 2) ∧ w'.frozen? ⟨w.heap.size + 1 + 1, 0, none⟩ = false ∧ w'.frozen? ⟨w.heap.size + 1 + 1, 1, none⟩ = false ∧ w'.frozen? ⟨w.heap.size + 1 + 1, 2, none⟩ = false)
    (first | (exact ⟨hxo.drew, q0_0, q0_1, q0_2, q1_0, q1_1, q1_2, was_some (w := wl.drew) t0, was_some (w := wl.drew) t1, was_some (w := wl.drew) t2, s0, s1, s2⟩) | (exact keptS6_3 (by assumption) (by assumption)) | (exact keptS6_3_set (by assumption) (by omega) (by omega) (by omega) (by omega) (by omega) (by omega) (by omega)))
    (first
      | (go_at_call 25; have hchk1 := hz0; refine (HM.out _ _ _ (H0.out.ext (And.left (by assumption))) R0.out.arr).mono ?_; rintro e w2 ⟨r1, rfl, hi1, hx1⟩; have hz1 := hx1.size; have R0 := Lib.hid (R0.out.ext hx1); have R1 := Lib.hid hi1; obtain ⟨f1, g1, G1, j1, y1, Y1, z1, rfl⟩ := hi1.shape)
      | (go_at_call 99; refine (HIV.out _ _ (H1.out.ext (And.left (by assumption)))).mono ?_; rintro e w1 ⟨r0, rfl, hi0, hx0⟩; have hz0 := hx0.size; have R0 := Lib.hid hi0; obtain ⟨f0, g0, G0, j0, y0, Y0, z0, rfl⟩ := hi0.shape))
  all_goals go_wp2_with fail
  rename_i hS
  obtain ⟨hE, _, _, _, _, _, _, hc0, hc1, hc2, _, _, _⟩ := hS
  simp only [World.size_drew] at hz0
  obtain ⟨hr0, hr1, hr2⟩ := final3 hc0 hc1 hc2
  refine bodyPost_ret (v := .tuple #[.agg #[.bool f1, .slice G1 g1 j1, .slice Y1 y1 z1], .int .i64 0]) (by simp [results, Tryz.results43, go_sem, hr0, hr1, hr2]) rfl ?_
  exact ⟨_, rfl, R1.out.put (by omega) (by omega), hE⟩
set_option maxRecDepth 100000 in
theorem pmake_zero (w : World) (v0 : Value) (x : Int) (h0 : ArrInt w v0 x) (n0 : (limbs x.natAbs).length ≤ 1000000) (v1 : Value) (y : Int) (h1 : ArrInt w v1 y) (n1 : (limbs y.natAbs).length ≤ 1000000) (hy : y = 0) :
    Calls Tryz.prog 30 #[v0, v1] w fun e w' => ∃ v', e = .returned (.tuple #[v', .int .i64 2]) ∧ IsRat w.heap.size w' v' (0) (0) ∧ Ext w w' := by
  have H0 := Lib.hid h0
  have H1 := Lib.hid h1
  have HSG := Lib.hid (fun W v a => isign_any W v y a (by omega))
  have hsg : (sgZ y == 0) = true := by rw [hy]; rfl
  obtain ⟨b0, l0, A0, c0, rfl⟩ := h0.shape
  obtain ⟨b1, l1, A1, c1, rfl⟩ := h1.shape
  generalize sgZ y = sg at *
  clear h0 h1 hy
  go_enter Tryz.func30, Tryz.ntmps30
  go_wp2_with fail
  have hb0 := (((Blk.new w 24 #[Value.bool b0, Value.slice A0 l0 c0]).alloc (.cells #[Value.bool b1, Value.slice A1 l1 c1] 24)).alloc (.cells #[Value.bool false, Value.slice none 0 0, Value.slice none 0 0] 26))
  have hb1 := ((Blk.new (w.alloc (.cells #[Value.bool b0, Value.slice A0 l0 c0] 24)) 24 #[Value.bool b1, Value.slice A1 l1 c1]).alloc (.cells #[Value.bool false, Value.slice none 0 0, Value.slice none 0 0] 26))
  have hb2 := (Blk.new ((w.alloc (.cells #[Value.bool b0, Value.slice A0 l0 c0] 24)).alloc (.cells #[Value.bool b1, Value.slice A1 l1 c1] 24)) 26 #[Value.bool false, Value.slice none 0 0, Value.slice none 0 0])
  have hxo := ((((Ext.refl w).alloc (.cells #[Value.bool b0, Value.slice A0 l0 c0] 24)).alloc (.cells #[Value.bool b1, Value.slice A1 l1 c1] 24)).alloc (.cells #[Value.bool false, Value.slice none 0 0, Value.slice none 0 0] 26))
  have hszo : w.heap.size + 1 + 1 + 1 = (((w.alloc (.cells #[Value.bool b0, Value.slice A0 l0 c0] 24)).alloc (.cells #[Value.bool b1, Value.slice A1 l1 c1] 24)).alloc (.cells #[Value.bool false, Value.slice none 0 0, Value.slice none 0 0] 26)).heap.size := by simp
  simp only [World.size_alloc] at hb1 hb2
  generalize ((w.alloc (.cells #[Value.bool b0, Value.slice A0 l0 c0] 24)).alloc (.cells #[Value.bool b1, Value.slice A1 l1 c1] 24)).alloc (.cells #[Value.bool false, Value.slice none 0 0, Value.slice none 0 0] 26) = wo at *
  have HB0 := Lib.hid hb0
  have HB1 := Lib.hid hb1
  have HB2 := Lib.hid hb2
  have HX := Lib.hid hxo
  have HZ : Hid (w.heap.size + 1 + 1 + 1 ≤ wo.heap.size) := Lib.hid (by omega)
  clear hxo hszo hb0 hb1 hb2
  refine (HSG.out _ _ (H1.out.ext HX.out)).mono ?_
  rintro e w1 ⟨rfl, hx0⟩
  have HX := Lib.hid (HX.out.trans hx0)
  have HZ0 := Lib.hid hx0.size
  have HB0 := Lib.hid (HB0.out.ext hx0)
  have HB1 := Lib.hid (HB1.out.ext hx0)
  have HB2 := Lib.hid (HB2.out.ext hx0)
  clear hx0
  obtain ⟨u0_0_0, u0_0_1, u0_0_2, u0_0_3, u0_0_4⟩ := HB0.out.two
  obtain ⟨u0_1_0, u0_1_1, u0_1_2, u0_1_3, u0_1_4⟩ := HB1.out.two
  obtain ⟨u0_2_0, u0_2_1, u0_2_2, u0_2_3, u0_2_4, u0_2_5, u0_2_6⟩ := HB2.out.three
  go_wp2_with fail
  obtain ⟨hr0, hr1, hr2⟩ := three_set HB2.out (.bool false) (.slice none 0 0) (.slice none 0 0)
  refine bodyPost_ret (v := .tuple #[.agg #[.bool false, .slice none 0 0, .slice none 0 0], .int .i64 2]) (by simp [results, Tryz.results30, go_sem, hr0, hr1, hr2]) rfl ?_
  exact ⟨_, rfl, IsRat.zero _ _, ((HX.out.setCell (Nat.le_trans (Nat.le_succ _) (Nat.le_succ _)) _).setCell (Nat.le_trans (Nat.le_succ _) (Nat.le_succ _)) _).setCell (Nat.le_trans (Nat.le_succ _) (Nat.le_succ _)) _⟩
set_option maxRecDepth 100000 in
theorem pmake_pos (w : World) (v0 : Value) (x : Int) (h0 : ArrInt w v0 x) (n0 : (limbs x.natAbs).length ≤ 1000000) (v1 : Value) (y : Int) (h1 : ArrInt w v1 y) (n1 : (limbs y.natAbs).length ≤ 1000000) (hy : y ≠ 0) :
    Calls Tryz.prog 30 #[v0, v1] w fun e w' => ∃ v', e = .returned (.tuple #[v', .int .i64 0]) ∧ IsRat w.heap.size w' v' (makeN x y) (makeD x y) ∧ Ext w w' := by
  have H0 := Lib.hid h0
  have H1 := Lib.hid h1
  have HSG := Lib.hid (fun W v a => isign_any W v y a (by omega))
  have hsg : (sgZ y == 0) = false := by rw [beq_eq_false_iff_ne]; unfold sgZ; split <;> (try split) <;> omega
  have HI := Lib.hid (fun W m a => inat_any W (decide (x < 0) != decide (y < 0)) m (limbs x.natAbs) a (by omega))
  rw [val_limbs] at HI
  have HLW := Lib.hid (fun W v u a b => lowestR_any W v u (sgn (decide (x < 0) != decide (y < 0)) x.natAbs) (limbs y.natAbs) a b (by rw [natAbs_sgn]; omega) (by omega) (by rw [val_limbs]; omega))
  rw [val_limbs, (make_low2 x y).1, (make_low2 x y).2] at HLW
  obtain ⟨b0, l0, A0, c0, rfl⟩ := h0.shape
  obtain ⟨b1, l1, A1, c1, rfl⟩ := h1.shape
  have hs0 := h0.sign
  have hs1 := h1.sign
  rw [← hs0, ← hs1] at HI HLW
  generalize sgZ y = sg at *
  clear h0 h1 hy hs0 hs1
  go_enter Tryz.func30, Tryz.ntmps30
  go_wp2_with fail
  have hb0 := (((Blk.new w 24 #[Value.bool b0, Value.slice A0 l0 c0]).alloc (.cells #[Value.bool b1, Value.slice A1 l1 c1] 24)).alloc (.cells #[Value.bool false, Value.slice none 0 0, Value.slice none 0 0] 26))
  have hb1 := ((Blk.new (w.alloc (.cells #[Value.bool b0, Value.slice A0 l0 c0] 24)) 24 #[Value.bool b1, Value.slice A1 l1 c1]).alloc (.cells #[Value.bool false, Value.slice none 0 0, Value.slice none 0 0] 26))
  have hb2 := (Blk.new ((w.alloc (.cells #[Value.bool b0, Value.slice A0 l0 c0] 24)).alloc (.cells #[Value.bool b1, Value.slice A1 l1 c1] 24)) 26 #[Value.bool false, Value.slice none 0 0, Value.slice none 0 0])
  have hxo := ((((Ext.refl w).alloc (.cells #[Value.bool b0, Value.slice A0 l0 c0] 24)).alloc (.cells #[Value.bool b1, Value.slice A1 l1 c1] 24)).alloc (.cells #[Value.bool false, Value.slice none 0 0, Value.slice none 0 0] 26))
  have hszo : w.heap.size + 1 + 1 + 1 = (((w.alloc (.cells #[Value.bool b0, Value.slice A0 l0 c0] 24)).alloc (.cells #[Value.bool b1, Value.slice A1 l1 c1] 24)).alloc (.cells #[Value.bool false, Value.slice none 0 0, Value.slice none 0 0] 26)).heap.size := by simp
  simp only [World.size_alloc] at hb1 hb2
  generalize ((w.alloc (.cells #[Value.bool b0, Value.slice A0 l0 c0] 24)).alloc (.cells #[Value.bool b1, Value.slice A1 l1 c1] 24)).alloc (.cells #[Value.bool false, Value.slice none 0 0, Value.slice none 0 0] 26) = wo at *
  refine (HSG.out _ _ (H1.out.ext hxo)).mono ?_
  rintro e wl ⟨rfl, hxl⟩
  have hb0 := hb0.ext hxl
  have hb1 := hb1.ext hxl
  have hb2 := hb2.ext hxl
  have hxo := hxo.trans hxl
  have hzl := hxl.size
  go_wp2_with fail
  obtain ⟨q0_0, q0_1, _, _, _⟩ := hb0.two
  obtain ⟨q1_0, q1_1, _, _, _⟩ := hb1.two
  obtain ⟨t0, t1, t2, s0, s1, s2, hgz⟩ := hb2.three
  clear hb0 hb1 hb2
  go_region_held3 (fun w' => Ext w w' ∧ w'.cell? ⟨w.heap.size, 0, none⟩ = some (Value.bool b0) ∧ w'.cell? ⟨w.heap.size, 1, none⟩ = some (Value.slice A0 l0 c0) ∧ w'.cell? ⟨w.heap.size + 1, 0, none⟩ = some (Value.bool b1) ∧ w'.cell? ⟨w.heap.size + 1, 1, none⟩ = some (Value.slice A1 l1 c1) ∧ w'.cell? ⟨w.heap.size + 1 + 1, 0, none⟩ = some (was w' (w.heap.size + 1 + 1) 0) ∧ w'.cell? ⟨w.heap.size + 1 + 1, 1, none⟩ = some (was w' (w.heap.size + 1 + 1) 1) ∧ w'.cell? ⟨w.heap.size + 1 + 1, 2, none⟩ = some (was w' (w.heap.size + 1 + 1) 2) ∧ w'.frozen? ⟨w.heap.size + 1 + 1, 0, none⟩ = false ∧ w'.frozen? ⟨w.heap.size + 1 + 1, 1, none⟩ = false ∧ w'.frozen? ⟨w.heap.size + 1 + 1, 2, none⟩ = false)
    (first | (exact ⟨hxo.drew, q0_0, q0_1, q1_0, q1_1, was_some (w := wl.drew) t0, was_some (w := wl.drew) t1, was_some (w := wl.drew) t2, s0, s1, s2⟩) | (exact keptS4_3 (by assumption) (by assumption)) | (exact keptS4_3_set (by assumption) (by omega) (by omega) (by omega) (by omega) (by omega)))
    (first
      | (go_at_call 76; have hchk1 := hz0; refine (HLW.out _ _ _ R0.out.arr (H1.out.mag.ext (And.left (by assumption)))).mono ?_; rintro e w2 ⟨r1, rfl, hi1, hx1⟩; have hz1 := hx1.size; have R0 := Lib.hid (R0.out.ext hx1); have R1 := Lib.hid hi1; obtain ⟨f1, g1, G1, j1, y1, Y1, z1, rfl⟩ := hi1.shape)
      | (go_at_call 77; refine (HI.out _ _ (H0.out.mag.ext (And.left (by assumption)))).mono ?_; rintro e w1 ⟨r0, rfl, hi0, hx0⟩; have hz0 := hx0.size; have R0 := Lib.hid hi0; obtain ⟨f0, g0, G0, j0, rfl⟩ := hi0.shape))
  all_goals go_wp2_with fail
  rename_i hS
  obtain ⟨hE, _, _, _, _, hc0, hc1, hc2, _, _, _⟩ := hS
  simp only [World.size_drew] at hz0
  obtain ⟨hr0, hr1, hr2⟩ := final3 hc0 hc1 hc2
  refine bodyPost_ret (v := .tuple #[.agg #[.bool f1, .slice G1 g1 j1, .slice Y1 y1 z1], .int .i64 0]) (by simp [results, Tryz.results30, go_sem, hr0, hr1, hr2]) rfl ?_
  exact ⟨_, rfl, R1.out.put (by omega) (by omega), hE⟩
set_option maxRecDepth 100000 in
theorem rdivR_zero (w : World) (v0 : Value) (p : Int) (q : Nat) (h0 : ArrRat w v0 p q) (n0 : (limbs p.natAbs).length ≤ 1000000) (m0 : (limbs q).length ≤ 1000000) (v1 : Value) (r : Int) (s : Nat) (h1 : ArrRat w v1 r s) (n1 : (limbs r.natAbs).length ≤ 1000000) (m1 : (limbs s).length ≤ 1000000) (hr : r = 0) :
    Calls Tryz.prog 17 #[v0, v1] w fun e w' => ∃ v', e = .returned (.tuple #[v', .int .i64 2]) ∧ IsRat w.heap.size w' v' (0) (0) ∧ Ext w w' := by
  have H0 := Lib.hid h0
  have H1 := Lib.hid h1
  have HD0 := Lib.hid (fun W v a => rden_any W v p q a n0 m0)
  have HD1 := Lib.hid (fun W v a => rden_any W v r s a n1 m1)
  have HM0 := Lib.hid (fun W v u a b => rmul5_any W v p a (by omega) u (s : Int) b (by rw [limbs_nat_cast]; omega))
  have HM1 := Lib.hid (fun W v u a b => rmul5_any W v (q : Int) a (by rw [limbs_nat_cast]; omega) u r b (by omega))
  have HMK := Lib.hid (fun W v u (a : ArrInt W v (p * (s : Int))) (b : ArrInt W u ((q : Int) * r)) => rmake_zero W v u (p * (s : Int)) a (by rw [hr, Int.mul_zero] at b; exact b))
  obtain ⟨b0, l0, A0, c0, k0, D0, e0, rfl⟩ := h0.shape
  obtain ⟨b1, l1, A1, c1, k1, D1, e1, rfl⟩ := h1.shape
  clear h0 h1
  go_enter Tryz.func17, Tryz.ntmps17
  go_wp2_with fail
  have hb0 := (((Blk.new w 26 #[Value.bool b0, Value.slice A0 l0 c0, Value.slice D0 k0 e0]).alloc (.cells #[Value.bool b1, Value.slice A1 l1 c1, Value.slice D1 k1 e1] 26)).alloc (.cells #[Value.bool false, Value.slice none 0 0, Value.slice none 0 0] 26))
  have hb1 := ((Blk.new (w.alloc (.cells #[Value.bool b0, Value.slice A0 l0 c0, Value.slice D0 k0 e0] 26)) 26 #[Value.bool b1, Value.slice A1 l1 c1, Value.slice D1 k1 e1]).alloc (.cells #[Value.bool false, Value.slice none 0 0, Value.slice none 0 0] 26))
  have hb2 := (Blk.new ((w.alloc (.cells #[Value.bool b0, Value.slice A0 l0 c0, Value.slice D0 k0 e0] 26)).alloc (.cells #[Value.bool b1, Value.slice A1 l1 c1, Value.slice D1 k1 e1] 26)) 26 #[Value.bool false, Value.slice none 0 0, Value.slice none 0 0])
  have hxo := ((((Ext.refl w).alloc (.cells #[Value.bool b0, Value.slice A0 l0 c0, Value.slice D0 k0 e0] 26)).alloc (.cells #[Value.bool b1, Value.slice A1 l1 c1, Value.slice D1 k1 e1] 26)).alloc (.cells #[Value.bool false, Value.slice none 0 0, Value.slice none 0 0] 26))
  have hszo : w.heap.size + 1 + 1 + 1 = (((w.alloc (.cells #[Value.bool b0, Value.slice A0 l0 c0, Value.slice D0 k0 e0] 26)).alloc (.cells #[Value.bool b1, Value.slice A1 l1 c1, Value.slice D1 k1 e1] 26)).alloc (.cells #[Value.bool false, Value.slice none 0 0, Value.slice none 0 0] 26)).heap.size := by simp
  simp only [World.size_alloc] at hb1 hb2
  generalize ((w.alloc (.cells #[Value.bool b0, Value.slice A0 l0 c0, Value.slice D0 k0 e0] 26)).alloc (.cells #[Value.bool b1, Value.slice A1 l1 c1, Value.slice D1 k1 e1] 26)).alloc (.cells #[Value.bool false, Value.slice none 0 0, Value.slice none 0 0] 26) = wo at *
  obtain ⟨q0_0, q0_1, q0_2, _, _, _, _⟩ := hb0.three
  obtain ⟨q1_0, q1_1, q1_2, _, _, _, _⟩ := hb1.three
  obtain ⟨t0, t1, t2, s0, s1, s2, hgz⟩ := hb2.three
  clear hb0 hb1 hb2
  go_region_held3 (fun w' => Ext w w' ∧ w'.cell? ⟨w.heap.size, 0, none⟩ = some (Value.bool b0) ∧ w'.cell? ⟨w.heap.size, 1, none⟩ = some (Value.slice A0 l0 c0) ∧ w'.cell? ⟨w.heap.size, 2, none⟩ = some (Value.slice D0 k0 e0) ∧ w'.cell? ⟨w.heap.size + 1, 0, none⟩ = some (Value.bool b1) ∧ w'.cell? ⟨w.heap.size + 1, 1, none⟩ = some (Value.slice A1 l1 c1) ∧ w'.cell? ⟨w.heap.size + 1, 2, none⟩ = some (Value.slice D1 k1 e1) ∧ w'.cell? ⟨w.heap.size + 1 + 1, 0, none⟩ = some (was w' (w.heap.size + 1 + 1) 0) ∧ w'.cell? ⟨w.heap.size + 1 + 1, 1, none⟩ = some (was w' (w.heap.size + 1 + 1) 1) ∧ w'.cell? ⟨w.heap.size + 1 + 1, 2, none⟩ = some (was w' (w.heap.size + 1 + 1) 2) ∧ w'.frozen? ⟨w.heap.size + 1 + 1, 0, none⟩ = false ∧ w'.frozen? ⟨w.heap.size + 1 + 1, 1, none⟩ = false ∧ w'.frozen? ⟨w.heap.size + 1 + 1, 2, none⟩ = false)
    (first | (exact ⟨hxo.drew, q0_0, q0_1, q0_2, q1_0, q1_1, q1_2, was_some (w := wo.drew) t0, was_some (w := wo.drew) t1, was_some (w := wo.drew) t2, s0, s1, s2⟩) | (exact keptS6_3 (by assumption) (by assumption)) | (exact keptS6_3_set (by assumption) (by omega) (by omega) (by omega) (by omega) (by omega) (by omega) (by omega)))
    (first
      | (go_at_call 31; have hchk4 := hz3; refine (HMK.out _ _ _ R1.out.arr R3.out.arr).mono ?_; rintro e w5 ⟨r4, rfl, hi4, hx4⟩; have hz4 := hx4.size; have R0 := Lib.hid (R0.out.ext hx4); have R1 := Lib.hid (R1.out.ext hx4); have R2 := Lib.hid (R2.out.ext hx4); have R3 := Lib.hid (R3.out.ext hx4); have R4 := Lib.hid hi4; obtain ⟨f4, g4, G4, j4, y4, Y4, z4, rfl⟩ := hi4.shape)
      | (go_at_call 58; have hchk3 := hz2; refine (HM1.out _ _ _ R2.out.arr (H1.out.int.ext (And.left (by assumption)))).mono ?_; rintro e w4 ⟨r3, rfl, hi3, hx3⟩; have hz3 := hx3.size; have R0 := Lib.hid (R0.out.ext hx3); have R1 := Lib.hid (R1.out.ext hx3); have R2 := Lib.hid (R2.out.ext hx3); have R3 := Lib.hid hi3; obtain ⟨f3, g3, G3, j3, rfl⟩ := hi3.shape)
      | (go_at_call 59; have hchk2 := hz1; refine (HD0.out _ _ (H0.out.ext (And.left (by assumption)))).mono ?_; rintro e w3 ⟨r2, rfl, hi2, hx2⟩; have hz2 := hx2.size; have R0 := Lib.hid (R0.out.ext hx2); have R1 := Lib.hid (R1.out.ext hx2); have R2 := Lib.hid hi2; obtain ⟨f2, g2, G2, j2, rfl⟩ := hi2.shape)
      | (go_at_call 58; have hchk1 := hz0; refine (HM0.out _ _ _ (H0.out.int.ext (And.left (by assumption))) R0.out.arr).mono ?_; rintro e w2 ⟨r1, rfl, hi1, hx1⟩; have hz1 := hx1.size; have R0 := Lib.hid (R0.out.ext hx1); have R1 := Lib.hid hi1; obtain ⟨f1, g1, G1, j1, rfl⟩ := hi1.shape)
      | (go_at_call 59; refine (HD1.out _ _ (H1.out.ext (And.left (by assumption)))).mono ?_; rintro e w1 ⟨r0, rfl, hi0, hx0⟩; have hz0 := hx0.size; have R0 := Lib.hid hi0; obtain ⟨f0, g0, G0, j0, rfl⟩ := hi0.shape))
  all_goals go_wp2_with fail
  rename_i hS
  obtain ⟨hE, _, _, _, _, _, _, hc0, hc1, hc2, _, _, _⟩ := hS
  simp only [World.size_drew] at hz0
  obtain ⟨hr0, hr1, hr2⟩ := final3 hc0 hc1 hc2
  refine bodyPost_ret (v := .tuple #[.agg #[.bool f4, .slice G4 g4 j4, .slice Y4 y4 z4], .int .i64 2]) (by simp [results, Tryz.results17, go_sem, hr0, hr1, hr2]) rfl ?_
  exact ⟨_, rfl, R4.out.put (by omega) (by omega), hE⟩
set_option maxRecDepth 100000 in
theorem rdivR_pos (w : World) (v0 : Value) (p : Int) (q : Nat) (h0 : ArrRat w v0 p q) (n0 : (limbs p.natAbs).length ≤ 1000000) (m0 : (limbs q).length ≤ 1000000) (v1 : Value) (r : Int) (s : Nat) (h1 : ArrRat w v1 r s) (n1 : (limbs r.natAbs).length ≤ 1000000) (m1 : (limbs s).length ≤ 1000000) (hq : 0 < q) (hs : 0 < s) (hr : r ≠ 0) :
    Calls Tryz.prog 17 #[v0, v1] w fun e w' => ∃ v', e = .returned (.tuple #[v', .int .i64 0]) ∧ IsRat w.heap.size w' v' (mulP p q (invP r s) r.natAbs) (mulQ p q (invP r s) r.natAbs) ∧ Ext w w' := by
  have H0 := Lib.hid h0
  have H1 := Lib.hid h1
  have HD0 := Lib.hid (fun W v a => rden_any W v p q a n0 m0)
  have HD1 := Lib.hid (fun W v a => rden_any W v r s a n1 m1)
  have HM0 := Lib.hid (fun W v u a b => rmul5_any W v p a (by omega) u (s : Int) b (by rw [limbs_nat_cast]; omega))
  have HM1 := Lib.hid (fun W v u a b => rmul5_any W v (q : Int) a (by rw [limbs_nat_cast]; omega) u r b (by omega))
  have HMK := Lib.hid (fun W v u a b => rmake_any W v u (p * (s : Int)) ((q : Int) * r) a b (by have := limbs_mulz n0 m1; omega) (by rw [Int.natAbs_mul, Int.natAbs_natCast]; have := limbs_muln m0 n1; omega) (Int.mul_ne_zero (by omega) hr))
  rw [(makeQ p q r s hq hs).1, (makeQ p q r s hq hs).2] at HMK
  obtain ⟨b0, l0, A0, c0, k0, D0, e0, rfl⟩ := h0.shape
  obtain ⟨b1, l1, A1, c1, k1, D1, e1, rfl⟩ := h1.shape
  clear h0 h1
  go_enter Tryz.func17, Tryz.ntmps17
  go_wp2_with fail
  have hb0 := (((Blk.new w 26 #[Value.bool b0, Value.slice A0 l0 c0, Value.slice D0 k0 e0]).alloc (.cells #[Value.bool b1, Value.slice A1 l1 c1, Value.slice D1 k1 e1] 26)).alloc (.cells #[Value.bool false, Value.slice none 0 0, Value.slice none 0 0] 26))
  have hb1 := ((Blk.new (w.alloc (.cells #[Value.bool b0, Value.slice A0 l0 c0, Value.slice D0 k0 e0] 26)) 26 #[Value.bool b1, Value.slice A1 l1 c1, Value.slice D1 k1 e1]).alloc (.cells #[Value.bool false, Value.slice none 0 0, Value.slice none 0 0] 26))
  have hb2 := (Blk.new ((w.alloc (.cells #[Value.bool b0, Value.slice A0 l0 c0, Value.slice D0 k0 e0] 26)).alloc (.cells #[Value.bool b1, Value.slice A1 l1 c1, Value.slice D1 k1 e1] 26)) 26 #[Value.bool false, Value.slice none 0 0, Value.slice none 0 0])
  have hxo := ((((Ext.refl w).alloc (.cells #[Value.bool b0, Value.slice A0 l0 c0, Value.slice D0 k0 e0] 26)).alloc (.cells #[Value.bool b1, Value.slice A1 l1 c1, Value.slice D1 k1 e1] 26)).alloc (.cells #[Value.bool false, Value.slice none 0 0, Value.slice none 0 0] 26))
  have hszo : w.heap.size + 1 + 1 + 1 = (((w.alloc (.cells #[Value.bool b0, Value.slice A0 l0 c0, Value.slice D0 k0 e0] 26)).alloc (.cells #[Value.bool b1, Value.slice A1 l1 c1, Value.slice D1 k1 e1] 26)).alloc (.cells #[Value.bool false, Value.slice none 0 0, Value.slice none 0 0] 26)).heap.size := by simp
  simp only [World.size_alloc] at hb1 hb2
  generalize ((w.alloc (.cells #[Value.bool b0, Value.slice A0 l0 c0, Value.slice D0 k0 e0] 26)).alloc (.cells #[Value.bool b1, Value.slice A1 l1 c1, Value.slice D1 k1 e1] 26)).alloc (.cells #[Value.bool false, Value.slice none 0 0, Value.slice none 0 0] 26) = wo at *
  obtain ⟨q0_0, q0_1, q0_2, _, _, _, _⟩ := hb0.three
  obtain ⟨q1_0, q1_1, q1_2, _, _, _, _⟩ := hb1.three
  obtain ⟨t0, t1, t2, s0, s1, s2, hgz⟩ := hb2.three
  clear hb0 hb1 hb2
  go_region_held3 (fun w' => Ext w w' ∧ w'.cell? ⟨w.heap.size, 0, none⟩ = some (Value.bool b0) ∧ w'.cell? ⟨w.heap.size, 1, none⟩ = some (Value.slice A0 l0 c0) ∧ w'.cell? ⟨w.heap.size, 2, none⟩ = some (Value.slice D0 k0 e0) ∧ w'.cell? ⟨w.heap.size + 1, 0, none⟩ = some (Value.bool b1) ∧ w'.cell? ⟨w.heap.size + 1, 1, none⟩ = some (Value.slice A1 l1 c1) ∧ w'.cell? ⟨w.heap.size + 1, 2, none⟩ = some (Value.slice D1 k1 e1) ∧ w'.cell? ⟨w.heap.size + 1 + 1, 0, none⟩ = some (was w' (w.heap.size + 1 + 1) 0) ∧ w'.cell? ⟨w.heap.size + 1 + 1, 1, none⟩ = some (was w' (w.heap.size + 1 + 1) 1) ∧ w'.cell? ⟨w.heap.size + 1 + 1, 2, none⟩ = some (was w' (w.heap.size + 1 + 1) 2) ∧ w'.frozen? ⟨w.heap.size + 1 + 1, 0, none⟩ = false ∧ w'.frozen? ⟨w.heap.size + 1 + 1, 1, none⟩ = false ∧ w'.frozen? ⟨w.heap.size + 1 + 1, 2, none⟩ = false)
    (first | (exact ⟨hxo.drew, q0_0, q0_1, q0_2, q1_0, q1_1, q1_2, was_some (w := wo.drew) t0, was_some (w := wo.drew) t1, was_some (w := wo.drew) t2, s0, s1, s2⟩) | (exact keptS6_3 (by assumption) (by assumption)) | (exact keptS6_3_set (by assumption) (by omega) (by omega) (by omega) (by omega) (by omega) (by omega) (by omega)))
    (first
      | (go_at_call 31; have hchk4 := hz3; refine (HMK.out _ _ _ R1.out.arr R3.out.arr).mono ?_; rintro e w5 ⟨r4, rfl, hi4, hx4⟩; have hz4 := hx4.size; have R0 := Lib.hid (R0.out.ext hx4); have R1 := Lib.hid (R1.out.ext hx4); have R2 := Lib.hid (R2.out.ext hx4); have R3 := Lib.hid (R3.out.ext hx4); have R4 := Lib.hid hi4; obtain ⟨f4, g4, G4, j4, y4, Y4, z4, rfl⟩ := hi4.shape)
      | (go_at_call 58; have hchk3 := hz2; refine (HM1.out _ _ _ R2.out.arr (H1.out.int.ext (And.left (by assumption)))).mono ?_; rintro e w4 ⟨r3, rfl, hi3, hx3⟩; have hz3 := hx3.size; have R0 := Lib.hid (R0.out.ext hx3); have R1 := Lib.hid (R1.out.ext hx3); have R2 := Lib.hid (R2.out.ext hx3); have R3 := Lib.hid hi3; obtain ⟨f3, g3, G3, j3, rfl⟩ := hi3.shape)
      | (go_at_call 59; have hchk2 := hz1; refine (HD0.out _ _ (H0.out.ext (And.left (by assumption)))).mono ?_; rintro e w3 ⟨r2, rfl, hi2, hx2⟩; have hz2 := hx2.size; have R0 := Lib.hid (R0.out.ext hx2); have R1 := Lib.hid (R1.out.ext hx2); have R2 := Lib.hid hi2; obtain ⟨f2, g2, G2, j2, rfl⟩ := hi2.shape)
      | (go_at_call 58; have hchk1 := hz0; refine (HM0.out _ _ _ (H0.out.int.ext (And.left (by assumption))) R0.out.arr).mono ?_; rintro e w2 ⟨r1, rfl, hi1, hx1⟩; have hz1 := hx1.size; have R0 := Lib.hid (R0.out.ext hx1); have R1 := Lib.hid hi1; obtain ⟨f1, g1, G1, j1, rfl⟩ := hi1.shape)
      | (go_at_call 59; refine (HD1.out _ _ (H1.out.ext (And.left (by assumption)))).mono ?_; rintro e w1 ⟨r0, rfl, hi0, hx0⟩; have hz0 := hx0.size; have R0 := Lib.hid hi0; obtain ⟨f0, g0, G0, j0, rfl⟩ := hi0.shape))
  all_goals go_wp2_with fail
  rename_i hS
  obtain ⟨hE, _, _, _, _, _, _, hc0, hc1, hc2, _, _, _⟩ := hS
  simp only [World.size_drew] at hz0
  obtain ⟨hr0, hr1, hr2⟩ := final3 hc0 hc1 hc2
  refine bodyPost_ret (v := .tuple #[.agg #[.bool f4, .slice G4 g4 j4, .slice Y4 y4 z4], .int .i64 0]) (by simp [results, Tryz.results17, go_sem, hr0, hr1, hr2]) rfl ?_
  exact ⟨_, rfl, R4.out.put (by omega) (by omega), hE⟩
set_option maxRecDepth 100000 in
theorem rsameR_t (w : World) (v0 : Value) (p : Int) (q : Nat) (h0 : ArrRat w v0 p q) (n0 : (limbs p.natAbs).length ≤ 100000000) (m0 : (limbs q).length ≤ 100000000) (v1 : Value) (r : Int) (s : Nat) (h1 : ArrRat w v1 r s) (n1 : (limbs r.natAbs).length ≤ 100000000) (m1 : (limbs s).length ≤ 100000000) (hpr : p = r) :
    Calls Tryz.prog 22 #[v0, v1] w fun e w' => e = .returned (.bool (decide (q = s))) ∧ Ext w w' := by
  have H0 := Lib.hid h0
  have H1 := Lib.hid h1
  have HS1 := Lib.hid (fun W v u a b => same5_any W v u p r a b (by omega) (by omega))
  rw [decide_eq_true hpr] at HS1
  have HS2 := Lib.hid (fun W m m' a b => rsame_limbs W m m' q s a b (by omega) (by omega))
  obtain ⟨b0, l0, A0, c0, k0, D0, e0, rfl⟩ := h0.shape
  obtain ⟨b1, l1, A1, c1, k1, D1, e1, rfl⟩ := h1.shape
  clear h0 h1 hpr
  go_enter Tryz.func22, Tryz.ntmps22
  go_wp2_with fail
  have hb0 := ((Blk.new w 26 #[Value.bool b0, Value.slice A0 l0 c0, Value.slice D0 k0 e0]).alloc (.cells #[Value.bool b1, Value.slice A1 l1 c1, Value.slice D1 k1 e1] 26))
  have hb1 := (Blk.new (w.alloc (.cells #[Value.bool b0, Value.slice A0 l0 c0, Value.slice D0 k0 e0] 26)) 26 #[Value.bool b1, Value.slice A1 l1 c1, Value.slice D1 k1 e1])
  have hxo := (((Ext.refl w).alloc (.cells #[Value.bool b0, Value.slice A0 l0 c0, Value.slice D0 k0 e0] 26)).alloc (.cells #[Value.bool b1, Value.slice A1 l1 c1, Value.slice D1 k1 e1] 26))
  have hszo : w.heap.size + 1 + 1 = ((w.alloc (.cells #[Value.bool b0, Value.slice A0 l0 c0, Value.slice D0 k0 e0] 26)).alloc (.cells #[Value.bool b1, Value.slice A1 l1 c1, Value.slice D1 k1 e1] 26)).heap.size := by simp
  simp only [World.size_alloc] at hb1
  generalize (w.alloc (.cells #[Value.bool b0, Value.slice A0 l0 c0, Value.slice D0 k0 e0] 26)).alloc (.cells #[Value.bool b1, Value.slice A1 l1 c1, Value.slice D1 k1 e1] 26) = wo at *
  have HB0 := Lib.hid hb0
  have HB1 := Lib.hid hb1
  have HX := Lib.hid hxo
  have HZ : Hid (w.heap.size + 1 + 1 ≤ wo.heap.size) := Lib.hid (by omega)
  clear hxo hszo hb0 hb1
  refine (HS1.out _ _ _ (H0.out.int.ext HX.out) (H1.out.int.ext HX.out)).mono ?_
  rintro e w1 ⟨rfl, hx0⟩
  have HX := Lib.hid (HX.out.trans hx0)
  have HZ0 := Lib.hid hx0.size
  have HB0 := Lib.hid (HB0.out.ext hx0)
  have HB1 := Lib.hid (HB1.out.ext hx0)
  clear hx0
  obtain ⟨u0_0_0, u0_0_1, u0_0_2, u0_0_3, u0_0_4, u0_0_5, u0_0_6⟩ := HB0.out.three
  obtain ⟨u0_1_0, u0_1_1, u0_1_2, u0_1_3, u0_1_4, u0_1_5, u0_1_6⟩ := HB1.out.three
  go_wp2_with fail
  refine (HS2.out _ _ _ (H0.out.den.ext HX.out) (H1.out.den.ext HX.out)).mono ?_
  rintro e w2 ⟨rfl, rfl⟩
  obtain ⟨u1_0_0, u1_0_1, u1_0_2, u1_0_3, u1_0_4, u1_0_5, u1_0_6⟩ := HB0.out.three
  obtain ⟨u1_1_0, u1_1_1, u1_1_2, u1_1_3, u1_1_4, u1_1_5, u1_1_6⟩ := HB1.out.three
  go_wp2_with fail
  go_ret
  exact ⟨rfl, HX.out⟩
set_option maxRecDepth 100000 in
theorem rsameR_f (w : World) (v0 : Value) (p : Int) (q : Nat) (h0 : ArrRat w v0 p q) (n0 : (limbs p.natAbs).length ≤ 100000000) (m0 : (limbs q).length ≤ 100000000) (v1 : Value) (r : Int) (s : Nat) (h1 : ArrRat w v1 r s) (n1 : (limbs r.natAbs).length ≤ 100000000) (m1 : (limbs s).length ≤ 100000000) (hpr : ¬ p = r) :
    Calls Tryz.prog 22 #[v0, v1] w fun e w' => e = .returned (.bool false) ∧ Ext w w' := by
  have H0 := Lib.hid h0
  have H1 := Lib.hid h1
  have HS1 := Lib.hid (fun W v u a b => same5_any W v u p r a b (by omega) (by omega))
  rw [decide_eq_false hpr] at HS1
  obtain ⟨b0, l0, A0, c0, k0, D0, e0, rfl⟩ := h0.shape
  obtain ⟨b1, l1, A1, c1, k1, D1, e1, rfl⟩ := h1.shape
  clear h0 h1 hpr
  go_enter Tryz.func22, Tryz.ntmps22
  go_wp2_with fail
  have hb0 := ((Blk.new w 26 #[Value.bool b0, Value.slice A0 l0 c0, Value.slice D0 k0 e0]).alloc (.cells #[Value.bool b1, Value.slice A1 l1 c1, Value.slice D1 k1 e1] 26))
  have hb1 := (Blk.new (w.alloc (.cells #[Value.bool b0, Value.slice A0 l0 c0, Value.slice D0 k0 e0] 26)) 26 #[Value.bool b1, Value.slice A1 l1 c1, Value.slice D1 k1 e1])
  have hxo := (((Ext.refl w).alloc (.cells #[Value.bool b0, Value.slice A0 l0 c0, Value.slice D0 k0 e0] 26)).alloc (.cells #[Value.bool b1, Value.slice A1 l1 c1, Value.slice D1 k1 e1] 26))
  have hszo : w.heap.size + 1 + 1 = ((w.alloc (.cells #[Value.bool b0, Value.slice A0 l0 c0, Value.slice D0 k0 e0] 26)).alloc (.cells #[Value.bool b1, Value.slice A1 l1 c1, Value.slice D1 k1 e1] 26)).heap.size := by simp
  simp only [World.size_alloc] at hb1
  generalize (w.alloc (.cells #[Value.bool b0, Value.slice A0 l0 c0, Value.slice D0 k0 e0] 26)).alloc (.cells #[Value.bool b1, Value.slice A1 l1 c1, Value.slice D1 k1 e1] 26) = wo at *
  have HB0 := Lib.hid hb0
  have HB1 := Lib.hid hb1
  have HX := Lib.hid hxo
  have HZ : Hid (w.heap.size + 1 + 1 ≤ wo.heap.size) := Lib.hid (by omega)
  clear hxo hszo hb0 hb1
  refine (HS1.out _ _ _ (H0.out.int.ext HX.out) (H1.out.int.ext HX.out)).mono ?_
  rintro e w1 ⟨rfl, hx0⟩
  have HX := Lib.hid (HX.out.trans hx0)
  have HZ0 := Lib.hid hx0.size
  have HB0 := Lib.hid (HB0.out.ext hx0)
  have HB1 := Lib.hid (HB1.out.ext hx0)
  clear hx0
  obtain ⟨u0_0_0, u0_0_1, u0_0_2, u0_0_3, u0_0_4, u0_0_5, u0_0_6⟩ := HB0.out.three
  obtain ⟨u0_1_0, u0_1_1, u0_1_2, u0_1_3, u0_1_4, u0_1_5, u0_1_6⟩ := HB1.out.three
  go_wp2_with fail
  go_ret
  exact ⟨rfl, HX.out⟩
theorem rsameR_any (w : World) (v : Value) (p : Int) (q : Nat) (h : ArrRat w v p q) (n0 : (limbs p.natAbs).length ≤ 100000000) (m0 : (limbs q).length ≤ 100000000) (u : Value) (r : Int) (s : Nat) (h' : ArrRat w u r s) (n1 : (limbs r.natAbs).length ≤ 100000000) (m1 : (limbs s).length ≤ 100000000) :
    Calls Tryz.prog 22 #[v, u] w fun e w' => e = .returned (.bool (decide (p = r ∧ q = s))) ∧ Ext w w' := by
  by_cases hpr : p = r
  · rw [show decide (p = r ∧ q = s) = decide (q = s) by rw [decide_eq_decide]; exact ⟨And.right, fun e => ⟨hpr, e⟩⟩]
    exact rsameR_t w v p q h n0 m0 u r s h' n1 m1 hpr
  · rw [show decide (p = r ∧ q = s) = false from decide_eq_false (fun e => hpr e.1)]
    exact rsameR_f w v p q h n0 m0 u r s h' n1 m1 hpr
theorem limbs_u64 {n : Nat} (h : n < 18446744073709551616) : (limbs n).length ≤ 2 := length_limbs_le (Nat.lt_of_lt_of_le h (by decide))
set_option maxRecDepth 100000 in
theorem rof5_pos (w : World) (n : Nat) (hn : n < 9223372036854775808) :
    Calls Tryz.prog 57 #[.int .i64 (n : Int)] w fun e w' => ∃ v', e = .returned v' ∧ IsInt w.heap.size w' v' ((n : Int)) ∧ Ext w w' := by
  have HOF := Lib.hid (fun W => rof_any W n (by omega))
  have HI := Lib.hid (fun W m a => rnat_any W false m (limbs n) a (by have := limbs_u64 (show n < 18446744073709551616 by omega); omega))
  rw [val_limbs, show sgn false n = (n : Int) from rfl] at HI
  have hz : ¬ (n : Int) < 0 := by omega
  go_enter Tryz.func57, Tryz.ntmps57
  go_wp2_with fail
  have hb0 := (Blk.new w 24 #[Value.bool false, Value.slice none 0 0])
  have hxo := ((Ext.refl w).alloc (.cells #[Value.bool false, Value.slice none 0 0] 24))
  have hszo : w.heap.size + 1 = (w.alloc (.cells #[Value.bool false, Value.slice none 0 0] 24)).heap.size := by simp
  generalize w.alloc (.cells #[Value.bool false, Value.slice none 0 0] 24) = wo at *
  have HB0 := Lib.hid hb0
  have HX := Lib.hid hxo
  have HZ : Hid (w.heap.size + 1 ≤ wo.heap.size) := Lib.hid (by omega)
  clear hxo hszo hb0
  refine (HOF.out _).mono ?_
  rintro e w1 ⟨r0, rfl, hi0, hx0⟩
  have HX := Lib.hid (HX.out.trans hx0)
  have HZ0 := Lib.hid hx0.size
  have HB0 := Lib.hid (HB0.out.ext hx0)
  have R0 := Lib.hid hi0
  obtain ⟨g0, G0, j0, rfl⟩ := hi0.shape
  clear hx0 hi0
  obtain ⟨u0_0_0, u0_0_1, u0_0_2, u0_0_3, u0_0_4⟩ := HB0.out.two
  go_wp2_with fail
  refine (HI.out _ _ R0.out.arr).mono ?_
  rintro e w2 ⟨r1, rfl, hi1, hx1⟩
  have HX := Lib.hid (HX.out.trans hx1)
  have HZ1 := Lib.hid hx1.size
  have HB0 := Lib.hid (HB0.out.ext hx1)
  have R0 := Lib.hid (R0.out.ext hx1)
  have R1 := Lib.hid hi1
  obtain ⟨f1, g1, G1, j1, rfl⟩ := hi1.shape
  clear hx1 hi1
  obtain ⟨u1_0_0, u1_0_1, u1_0_2, u1_0_3, u1_0_4⟩ := HB0.out.two
  go_wp2_with fail
  obtain ⟨hr0, hr1⟩ := two_set' HB0.out (.bool f1) (.slice G1 g1 j1)
  refine bodyPost_ret (v := .agg #[.bool f1, .slice G1 g1 j1]) (by simp [results, Tryz.results57, go_sem, hr0, hr1]) rfl ?_
  exact ⟨_, rfl, R1.out.put (by have := HZ.out; have := HZ0.out; omega) (by have := HZ.out; have := HZ0.out; omega), (HX.out.setCell (Nat.le_refl _) _).setCell (Nat.le_refl _) _⟩
set_option maxRecDepth 100000 in
theorem rof5_neg (w : World) (n : Nat) (h1 : 1 ≤ n) (hn : n ≤ 9223372036854775808) :
    Calls Tryz.prog 57 #[.int .i64 (-(n : Int))] w fun e w' => ∃ v', e = .returned v' ∧ IsInt w.heap.size w' v' (-(n : Int)) ∧ Ext w w' := by
  have HOF := Lib.hid (fun W => rof_any W n (by omega))
  have HI := Lib.hid (fun W m a => rnat_any W true m (limbs n) a (by have := limbs_u64 (show n < 18446744073709551616 by omega); omega))
  rw [val_limbs, show sgn true n = -(n : Int) from rfl] at HI
  have hz : -(n : Int) < 0 := by omega
  have hw : ∀ x : Int, IntKind.u64.wrap x = x % 18446744073709551616 := fun x => by simp [IntKind.wrap, IntKind.bits, IntKind.signed]
  have hwn : IntKind.u64.wrap (-IntKind.u64.wrap (-(n : Int))) = (n : Int) := by rw [hw, hw]; omega
  clear hw
  go_enter Tryz.func57, Tryz.ntmps57
  go_wp2_with fail
  have hb0 := (Blk.new w 24 #[Value.bool false, Value.slice none 0 0])
  have hxo := ((Ext.refl w).alloc (.cells #[Value.bool false, Value.slice none 0 0] 24))
  have hszo : w.heap.size + 1 = (w.alloc (.cells #[Value.bool false, Value.slice none 0 0] 24)).heap.size := by simp
  generalize w.alloc (.cells #[Value.bool false, Value.slice none 0 0] 24) = wo at *
  have HB0 := Lib.hid hb0
  have HX := Lib.hid hxo
  have HZ : Hid (w.heap.size + 1 ≤ wo.heap.size) := Lib.hid (by omega)
  clear hxo hszo hb0
  refine (HOF.out _).mono ?_
  rintro e w1 ⟨r0, rfl, hi0, hx0⟩
  have HX := Lib.hid (HX.out.trans hx0)
  have HZ0 := Lib.hid hx0.size
  have HB0 := Lib.hid (HB0.out.ext hx0)
  have R0 := Lib.hid hi0
  obtain ⟨g0, G0, j0, rfl⟩ := hi0.shape
  clear hx0 hi0
  obtain ⟨u0_0_0, u0_0_1, u0_0_2, u0_0_3, u0_0_4⟩ := HB0.out.two
  go_wp2_with fail
  refine (HI.out _ _ R0.out.arr).mono ?_
  rintro e w2 ⟨r1, rfl, hi1, hx1⟩
  have HX := Lib.hid (HX.out.trans hx1)
  have HZ1 := Lib.hid hx1.size
  have HB0 := Lib.hid (HB0.out.ext hx1)
  have R0 := Lib.hid (R0.out.ext hx1)
  have R1 := Lib.hid hi1
  obtain ⟨f1, g1, G1, j1, rfl⟩ := hi1.shape
  clear hx1 hi1
  obtain ⟨u1_0_0, u1_0_1, u1_0_2, u1_0_3, u1_0_4⟩ := HB0.out.two
  go_wp2_with fail
  obtain ⟨hr0, hr1⟩ := two_set' HB0.out (.bool f1) (.slice G1 g1 j1)
  refine bodyPost_ret (v := .agg #[.bool f1, .slice G1 g1 j1]) (by simp [results, Tryz.results57, go_sem, hr0, hr1]) rfl ?_
  exact ⟨_, rfl, R1.out.put (by have := HZ.out; have := HZ0.out; omega) (by have := HZ.out; have := HZ0.out; omega), (HX.out.setCell (Nat.le_refl _) _).setCell (Nat.le_refl _) _⟩
theorem rof5_any (w : World) (z : Int) (h1 : -9223372036854775808 ≤ z) (h2 : z ≤ 9223372036854775807) :
    Calls Tryz.prog 57 #[.int .i64 z] w fun e w' => ∃ v', e = .returned v' ∧ IsInt w.heap.size w' v' z ∧ Ext w w' := by
  rcases Int.lt_or_le z 0 with h | h
  · obtain ⟨n, hn⟩ : ∃ n : Nat, z = -(n : Int) := ⟨z.natAbs, by omega⟩
    subst hn
    exact rof5_neg w n (by omega) (by omega)
  · obtain ⟨n, rfl⟩ := Int.eq_ofNat_of_zero_le h
    exact rof5_pos w n (by omega)
theorem limbs_i64 {z : Int} (h1 : -9223372036854775808 ≤ z) (h2 : z ≤ 9223372036854775807) : (limbs z.natAbs).length ≤ 2 := limbs_u64 (by omega)
set_option maxRecDepth 100000 in
theorem rofi_any (w : World) (z : Int) (h1 : -9223372036854775808 ≤ z) (h2 : z ≤ 9223372036854775807) :
    Calls Tryz.prog 15 #[.int .i64 z] w fun e w' => ∃ v', e = .returned v' ∧ IsRat w.heap.size w' v' (z) (1) ∧ Ext w w' := by
  have HO1 := Lib.hid (fun W => rof5_any W z h1 h2)
  have HO2 := Lib.hid (fun W => rof5_any W 1 (by decide) (by decide))
  have HOF := Lib.hid (fun W v u a b => rofR_nat W v u z 1 a b (by have := limbs_i64 h1 h2; omega) (by have := limbs_u64 (show 1 < 18446744073709551616 by decide); omega) (by decide))
  rw [(low_self (low_int z)).1, (low_self (low_int z)).2] at HOF
  go_enter Tryz.func15, Tryz.ntmps15
  go_wp2_with fail
  have hb0 := (Blk.new w 26 #[Value.bool false, Value.slice none 0 0, Value.slice none 0 0])
  have hxo := ((Ext.refl w).alloc (.cells #[Value.bool false, Value.slice none 0 0, Value.slice none 0 0] 26))
  have hszo : w.heap.size + 1 = (w.alloc (.cells #[Value.bool false, Value.slice none 0 0, Value.slice none 0 0] 26)).heap.size := by simp
  generalize w.alloc (.cells #[Value.bool false, Value.slice none 0 0, Value.slice none 0 0] 26) = wo at *
  have HB0 := Lib.hid hb0
  have HX := Lib.hid hxo
  have HZ : Hid (w.heap.size + 1 ≤ wo.heap.size) := Lib.hid (by omega)
  clear hxo hszo hb0
  refine (HO1.out _).mono ?_
  rintro e w1 ⟨r0, rfl, hi0, hx0⟩
  have HX := Lib.hid (HX.out.trans hx0)
  have HZ0 := Lib.hid hx0.size
  have HB0 := Lib.hid (HB0.out.ext hx0)
  have R0 := Lib.hid hi0
  obtain ⟨f0, g0, G0, j0, rfl⟩ := hi0.shape
  clear hx0 hi0
  obtain ⟨u0_0_0, u0_0_1, u0_0_2, u0_0_3, u0_0_4, u0_0_5, u0_0_6⟩ := HB0.out.three
  go_wp2_with fail
  refine (HO2.out _).mono ?_
  rintro e w2 ⟨r1, rfl, hi1, hx1⟩
  have HX := Lib.hid (HX.out.trans hx1)
  have HZ1 := Lib.hid hx1.size
  have HB0 := Lib.hid (HB0.out.ext hx1)
  have R0 := Lib.hid (R0.out.ext hx1)
  have R1 := Lib.hid hi1
  obtain ⟨f1, g1, G1, j1, rfl⟩ := hi1.shape
  clear hx1 hi1
  obtain ⟨u1_0_0, u1_0_1, u1_0_2, u1_0_3, u1_0_4, u1_0_5, u1_0_6⟩ := HB0.out.three
  go_wp2_with fail
  refine (HOF.out _ _ _ R0.out.arr R1.out.arr).mono ?_
  rintro e w3 ⟨r2, rfl, hi2, hx2⟩
  have HX := Lib.hid (HX.out.trans hx2)
  have HZ2 := Lib.hid hx2.size
  have HB0 := Lib.hid (HB0.out.ext hx2)
  have R0 := Lib.hid (R0.out.ext hx2)
  have R1 := Lib.hid (R1.out.ext hx2)
  have R2 := Lib.hid hi2
  obtain ⟨f2, g2, G2, j2, y2, Y2, z2, rfl⟩ := hi2.shape
  clear hx2 hi2
  obtain ⟨u2_0_0, u2_0_1, u2_0_2, u2_0_3, u2_0_4, u2_0_5, u2_0_6⟩ := HB0.out.three
  go_wp2_with fail
  obtain ⟨hr0, hr1, hr2⟩ := three_set HB0.out (.bool f2) (.slice G2 g2 j2) (.slice Y2 y2 z2)
  refine bodyPost_ret (v := .agg #[.bool f2, .slice G2 g2 j2, .slice Y2 y2 z2]) (by simp [results, Tryz.results15, go_sem, hr0, hr1, hr2]) rfl ?_
  exact ⟨_, rfl, R2.out.put (by have := HZ.out; have := HZ0.out; have := HZ1.out; omega) (by have := HZ.out; have := HZ0.out; have := HZ1.out; omega), ((HX.out.setCell (Nat.le_refl _) _).setCell (Nat.le_refl _) _).setCell (Nat.le_refl _) _⟩
set_option maxRecDepth 100000 in
theorem pofi_any (w : World) (z : Int) (h1 : -9223372036854775808 ≤ z) (h2 : z ≤ 9223372036854775807) :
    Calls Tryz.prog 47 #[.int .i64 z] w fun e w' => ∃ v', e = .returned v' ∧ IsRat w.heap.size w' v' (z) (1) ∧ Ext w w' := by
  have HO1 := Lib.hid (fun W => iof_any W z h1 h2)
  have HO2 := Lib.hid (fun W => of_any W 1 (by decide))
  go_enter Tryz.func47, Tryz.ntmps47
  go_wp2_with fail
  have hb0 := (Blk.new w 26 #[Value.bool false, Value.slice none 0 0, Value.slice none 0 0])
  have hxo := ((Ext.refl w).alloc (.cells #[Value.bool false, Value.slice none 0 0, Value.slice none 0 0] 26))
  have hszo : w.heap.size + 1 = (w.alloc (.cells #[Value.bool false, Value.slice none 0 0, Value.slice none 0 0] 26)).heap.size := by simp
  generalize w.alloc (.cells #[Value.bool false, Value.slice none 0 0, Value.slice none 0 0] 26) = wo at *
  have HB0 := Lib.hid hb0
  have HX := Lib.hid hxo
  have HZ : Hid (w.heap.size + 1 ≤ wo.heap.size) := Lib.hid (by omega)
  clear hxo hszo hb0
  refine (HO1.out _).mono ?_
  rintro e w1 ⟨r0, rfl, hi0, hx0⟩
  have HX := Lib.hid (HX.out.trans hx0)
  have HZ0 := Lib.hid hx0.size
  have HB0 := Lib.hid (HB0.out.ext hx0)
  have R0 := Lib.hid hi0
  obtain ⟨f0, g0, G0, j0, rfl⟩ := hi0.shape
  clear hx0 hi0
  obtain ⟨u0_0_0, u0_0_1, u0_0_2, u0_0_3, u0_0_4, u0_0_5, u0_0_6⟩ := HB0.out.three
  go_wp2_with fail
  refine (HO2.out _).mono ?_
  rintro e w2 ⟨r1, rfl, hi1, hx1⟩
  have HX := Lib.hid (HX.out.trans hx1)
  have HZ1 := Lib.hid hx1.size
  have HB0 := Lib.hid (HB0.out.ext hx1)
  have R0 := Lib.hid (R0.out.ext hx1)
  have R1 := Lib.hid hi1
  obtain ⟨g1, G1, j1, rfl⟩ := hi1.shape
  clear hx1 hi1
  obtain ⟨u1_0_0, u1_0_1, u1_0_2, u1_0_3, u1_0_4, u1_0_5, u1_0_6⟩ := HB0.out.three
  go_wp2_with fail
  obtain ⟨hr0, hr1, hr2⟩ := three_set HB0.out (.bool f0) (.slice G0 g0 j0) (.slice G1 g1 j1)
  refine bodyPost_ret (v := .agg #[.bool f0, .slice G0 g0 j0, .slice G1 g1 j1]) (by simp [results, Tryz.results47, go_sem, hr0, hr1, hr2]) rfl ?_
  exact ⟨_, rfl, IsRat.put (w1 := wo) (IsRat.mk R0.out (R1.out.mono HZ0.out)) (by have := HZ.out; omega) (by have := HZ.out; omega), ((HX.out.setCell (Nat.le_refl _) _).setCell (Nat.le_refl _) _).setCell (Nat.le_refl _) _⟩
end Big
end Go.Proofs.YtplmldkfgeiklaaGreatDoor
