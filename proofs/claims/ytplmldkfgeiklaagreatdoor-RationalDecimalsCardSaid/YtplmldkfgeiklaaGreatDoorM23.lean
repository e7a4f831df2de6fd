import Derived.Test.YtplmldkfgeiklaaGreatDoorM4
import Derived.Test.YtplmldkfgeiklaaGreatDoorM19
import Derived.Test.YtplmldkfgeiklaaGreatDoorM21
import Derived.Test.YtplmldkfgeiklaaGreatDoorM22
import Derived.Deep.RegionLaw
import Derived.Test.YtplmldkfgeiklaaGreatDoorRows
import Derived.ProofKit
import Derived.LaidMore
import Derived.OpenShut
import Derived.Stop.Joined
import Derived.Lib.LaidTab
import Derived.Carry
import Derived.Handed
import Derived.HandedShaped
import Derived.Deep.Strs
import Derived.ChangeMaps5
import Derived.Lib.SmallJoins
import Derived.Test.YtplmldkfgeiklaaGreatDoorM17
/- mill.Mod. -/
namespace Go.Proofs.YtplmldkfgeiklaaGreatDoor
namespace Big
open Go.RowKit

theorem tmod_mod (v n : Int) (hn : 1 ≤ n) : (if v.tmod n < 0 then v.tmod n + n else v.tmod n) = v % n := by
  have h := Int.tmod_eq_emod (a := v) (b := n)
  have h1 := Int.emod_nonneg v (show n ≠ 0 by omega)
  have h2 := Int.emod_lt_of_pos v (show 0 < n by omega)
  rw [h]
  split <;> split <;> omega
theorem mod_any (w : World) (v n : Int) (_h1 : -9223372036854775808 ≤ v) (_h2 : v ≤ 9223372036854775807) (hn : 1 ≤ n) (hn2 : n ≤ 4611686018427387904) :
    Calls Tryz.prog 16 #[.int .i64 v, .int .i64 n] w fun e w' => e = .returned (.int .i64 (v % n)) ∧ w = w' := by
  have hT := tmod_mod v n hn
  have hne : (n == 0) = false := by rw [beq_eq_false_iff_ne]; omega
  obtain ⟨r, hr⟩ : ∃ r, v.tmod n = r := ⟨_, rfl⟩
  rw [hr] at hT
  have hm1 := Int.emod_nonneg v (show n ≠ 0 by omega)
  have hm2 := Int.emod_lt_of_pos v (show 0 < n by omega)
  by_cases h0 : r < 0
  · rw [if_pos h0] at hT
    have hb1 : -n ≤ r := by omega
    have HT := Lib.hid hT
    clear hT hm1 hm2
    go_enter Tryz.func16, Tryz.ntmps16
    go_wp2_with fail
    go_ret
    exact ⟨congrArg (fun z => Ending.returned (.int .i64 z)) HT.out, rfl⟩
  · rw [if_neg h0] at hT
    have hb1 : r < n := by omega
    have HT := Lib.hid hT
    clear hT hm1 hm2
    go_enter Tryz.func16, Tryz.ntmps16
    go_wp2_with fail
    go_ret
    exact ⟨congrArg (fun z => Ending.returned (.int .i64 z)) HT.out, rfl⟩

end Big
end Go.Proofs.YtplmldkfgeiklaaGreatDoor
/- RationalDecimals. Printed by a program. -/
namespace Go.Proofs.YtplmldkfgeiklaaGreatDoor
namespace Big
open Go.RowKit
theorem rat_field1 (f : Bool) (A B : Option Addr) (l c k d : Nat) (W : World) : (Instr.field 26 (.agg #[.bool f, .slice A l c, .slice B k d]) 1).run Tryz.prog W = .ok (.slice B k d) W := by kernel_rfl
theorem ArrRat.mix {w : World} {bb : Bool} {m d b' m' d' : Value} {p r : Int} {q s : Nat} (h : ArrRat w (.agg #[.bool bb, m, d]) p q) (h' : ArrRat w (.agg #[b', m', d']) r s) : ArrRat w (.agg #[.bool bb, m, d']) p s := by
  obtain ⟨m2, d2, he, _, hd⟩ := h'
  obtain ⟨_, _, e3⟩ := agg3 he
  exact ⟨m, d', by rw [h.sign], h.num, e3 ▸ hd⟩
theorem dec_short {p t f : Nat} {q : Nat} (hq : q = 5 ^ f * 2 ^ t) (hp : p < 2 ^ 128) (hq2 : q < 2 ^ 128) : (dotT (scN p t f) (max t f)).length ≤ 400 := by
  have ht : t < 128 := by
    have h1 : 2 ^ t ≤ q := by rw [hq]; exact Nat.le_mul_of_pos_left _ (Nat.pow_pos (by decide))
    exact (Nat.pow_lt_pow_iff_right (by decide)).1 (Nat.lt_of_le_of_lt h1 hq2)
  have hf : f < 128 := by
    have h1 : 2 ^ f ≤ 5 ^ f := Nat.pow_le_pow_left (by decide) f
    have h2 : 5 ^ f ≤ q := by rw [hq]; exact Nat.le_mul_of_pos_right _ (Nat.pow_pos (by decide))
    exact (Nat.pow_lt_pow_iff_right (by decide)).1 (Nat.lt_of_le_of_lt (Nat.le_trans h1 h2) hq2)
  have hM : max t f ≤ 127 := by omega
  have hn : scN p t f < 10 ^ (39 + 127) := by
    have h1 : scN p t f ≤ p * 10 ^ max t f := by
      rw [← scN_mul]
      exact Nat.le_mul_of_pos_right _ (Nat.mul_pos (Nat.pow_pos (by decide)) (Nat.pow_pos (by decide)))
    have h2 : p * 10 ^ max t f ≤ p * 10 ^ 127 := Nat.mul_le_mul_left _ (Nat.pow_le_pow_right (by decide) hM)
    have h3 : p * 10 ^ 127 < 10 ^ 39 * 10 ^ 127 := Nat.mul_lt_mul_of_pos_right (Nat.lt_of_lt_of_le hp (by decide +kernel)) (Nat.pow_pos (by decide))
    rw [Nat.pow_add]
    omega
  have := dotT_len (n := max t f) hn (by decide)
  omega
theorem lt_limbs4 {n : Nat} (h : (limbs n).length ≤ 4) : n < 2 ^ 128 := by
  have h1 := val_lt (ok_limbs n)
  rw [val_limbs] at h1
  exact Nat.lt_of_lt_of_le h1 (Nat.le_trans (Nat.pow_le_pow_right (by decide) h) (by decide))
/-- Both decimals of a short fraction; and what the decimal is read as. -/
theorem dec_both {p : Int} {q : Nat} (h : Low p q) (a : (limbs p.natAbs).length ≤ 4) (b : (limbs q).length ≤ 4) :
    ∃ (l : List UInt8) (ok : Bool), (ok = true → code7 l = 0 ∧ num7 l = p ∧ den7 l = q) ∧ l.length ≤ 400 ∧
      (∀ W v, ArrRat W v p q → Tab32 W → Calls Tryz.prog 19 #[v] W fun e w' => e = .returned (.tuple #[str l, .bool ok]) ∧ Ext W w') ∧
      (∀ W v, ArrRat W v p q → Calls Tryz.prog 20 #[v] W fun e w' => e = .returned (.tuple #[str l, .bool ok]) ∧ Ext W w') := by
  by_cases hc : 0 ≤ p ∧ ∃ t f : Nat, q = 5 ^ f * 2 ^ t
  · obtain ⟨hp, t, f, hq⟩ := hc
    have key : ∀ {W : World} {e : Ending} {w' : World}, DecPost p q W e w' → e = .returned (.tuple #[str (dotT (scN p.natAbs t f) (max t f)), .bool true]) ∧ Ext W w' := by
      rintro W e w' ⟨hx, ⟨t', f', _, hq', he⟩ | ⟨hn | hn, _⟩⟩
      · obtain ⟨rfl, rfl⟩ := strip_uniq52 (t := t') (f := f') (t' := t) (f' := f) (by rw [← hq', ← hq])
        exact ⟨he, hx⟩
      · omega
      · exact absurd ⟨t, f, hq⟩ hn
    have hlen := dec_short (p := p.natAbs) hq (lt_limbs4 a) (lt_limbs4 b)
    have hb := dec_back (p := p.natAbs) (t := t) (f := f) (by rw [← hq]; exact h.2) hlen
    exact ⟨_, true, fun _ => ⟨hb.1, by rw [hb.2.1]; omega, by rw [hb.2.2, hq]⟩, hlen, fun W v x ht => (decR_any W v p q x (by omega) (by omega) h.1 ht).mono fun _ _ => key, fun W v x => (rdecR_any W v p q x (by omega) (by omega) h.1).mono fun _ _ => key⟩
  · have key : ∀ {W : World} {e : Ending} {w' : World}, DecPost p q W e w' → e = .returned (.tuple #[str [], .bool false]) ∧ Ext W w' := by
      rintro W e w' ⟨hx, ⟨t', f', hp', hq', _⟩ | ⟨_, he⟩⟩
      · exact absurd ⟨hp', t', f', hq'⟩ hc
      · exact ⟨he, hx⟩
    exact ⟨[], false, fun e => absurd e (by decide), by decide, fun W v x ht => (decR_any W v p q x (by omega) (by omega) h.1 ht).mono fun _ _ => key, fun W v x => (rdecR_any W v p q x (by omega) (by omega) h.1).mono fun _ _ => key⟩
theorem limbs_small {n : Nat} (h : n < 4294967296 ^ 4) : (limbs n).length ≤ 4 := length_limbs_le h
theorem IsRat.far3 {B : Nat} {w : World} {v : Value} {p : Int} {q : Nat} (h : IsRat B w v p q) {g : Nat} (hg : g < B) (a b c : Value) : IsRat B (((w.setCell ⟨g, 0, none⟩ a).setCell ⟨g, 1, none⟩ b).setCell ⟨g, 2, none⟩ c) v p q := ((h.far (a := ⟨g, 0, none⟩) hg a).far (a := ⟨g, 1, none⟩) hg b).far (a := ⟨g, 2, none⟩) hg c
set_option maxHeartbeats 4000000 in
set_option maxRecDepth 100000 in
theorem rationalDecimals_any (w : World) (b0 : Bool) (m0 d0 : Value) (xs0 ys0 : List Nat) (h0 : Arr w m0 xs0) (e0 : Arr w d0 ys0) (n m : Int) (hn1 : -9223372036854775808 ≤ n) (hn2 : n ≤ 9223372036854775807) (hm1 : -9223372036854775808 ≤ m) (hm2 : m ≤ 9223372036854775807) (hm : MaxV w) (ht : Tab32 w) :
    Calls Tryz.prog 3 #[.agg #[.bool b0, m0, d0], .int .i64 n, .int .i64 m] w fun e w' => e = .returned (.bool true) ∧ Ext w w' := by
  have HAW := Lib.hid (fun W hx => awake07_any W (hm.ext (w' := W) hx) (ht.ext hx))
  have HTW := Lib.hid (fun W (hx : Ext w W) => mrat_any W b0 m0 d0 xs0 ys0 4 (h0.ext hx) (e0.ext hx) (by decide) (by decide))
  rw [show ((4 : Nat) : Int) = 4 from rfl] at HTW
  unfold RatPost at HTW
  have HM := Lib.hid hm
  have HTB := Lib.hid ht
  have HA20 := Lib.hid (fun W => mod_any W n 20 hn1 hn2 (by decide) (by decide))
  have HB20 := Lib.hid (fun W => mod_any W m 20 hm1 hm2 (by decide) (by decide))
  have hc1 := Int.emod_nonneg n (show (20 : Int) ≠ 0 by decide)
  have hc2 := Int.emod_lt_of_pos n (show (0 : Int) < 20 by decide)
  have hd1 := Int.emod_nonneg m (show (20 : Int) ≠ 0 by decide)
  have hd2 := Int.emod_lt_of_pos m (show (0 : Int) < 20 by decide)
  generalize n % 20 = i1 at *
  generalize m % 20 = i2 at *
  obtain ⟨i1, rfl⟩ := Int.eq_ofNat_of_zero_le hc1
  obtain ⟨i2, rfl⟩ := Int.eq_ofNat_of_zero_le hd1
  have HIB : Hid (i1 < 20 ∧ i2 < 20) := Lib.hid ⟨by omega, by omega⟩
  clear hn1 hn2 hm1 hm2 hc1 hc2 hd1 hd2
  obtain ⟨l0, A0, c0, rfl⟩ := h0.shape
  obtain ⟨k0, D0, t0, rfl⟩ := e0.shape
  clear h0 e0 hm ht
  go_enter Tryz.func3, Tryz.ntmps3
  go_wp2_with fail
  have hb0 := (Blk.new w 26 #[Value.bool b0, Value.slice A0 l0 c0, Value.slice D0 k0 t0])
  have hxo := ((Ext.refl w).alloc (.cells #[Value.bool b0, Value.slice A0 l0 c0, Value.slice D0 k0 t0] 26))
  have hszo : w.heap.size + 1 = (w.alloc (.cells #[Value.bool b0, Value.slice A0 l0 c0, Value.slice D0 k0 t0] 26)).heap.size := by simp
  generalize w.alloc (.cells #[Value.bool b0, Value.slice A0 l0 c0, Value.slice D0 k0 t0] 26) = wo at *
  have HX := Lib.hid hxo
  have HZ : Hid (w.heap.size + 1 ≤ wo.heap.size) := Lib.hid (by omega)
  have HB0 := Lib.hid hb0
  clear hxo hszo hb0
  refine (HAW.out _ HX.out).mono ?_
  rintro e w11 ⟨rfl, hx10⟩
  have HX := Lib.hid (HX.out.trans hx10)
  have HB0 := Lib.hid (HB0.out.ext hx10)
  clear hx10
  obtain ⟨hb0_0, hb0_1, hb0_2, hb0_3, hb0_4, hb0_5, hb0_6⟩ := HB0.out.three
  go_wp2_with fail
  clear hb0_0 hb0_1 hb0_2 hb0_3 hb0_4 hb0_5 hb0_6
  refine (HTW.out _ HX.out).mono ?_
  rintro e w12 ⟨r11, ok, p, q, rfl, hi11, hl, hx11⟩
  have HX := Lib.hid (HX.out.trans hx11)
  have HB0 := Lib.hid (HB0.out.ext hx11)
  clear hx11
  have QX := Lib.hid hi11
  have HL := Lib.hid hl
  obtain ⟨f11, g11, G11, j11, y11, Y11, z11, rfl⟩ := hi11.shape
  clear hi11 hl
  clear HB0
  cases ok with
  | false =>
    clear HAW HTW HL QX
    go_wp2_with fail
    go_ret
    exact ⟨rfl, HX.out.alloc _⟩
  | true =>
  obtain ⟨hlx, hpx, hqx⟩ := HL.out rfl
  clear HL HAW HTW
  have hib := HIB.out
  have hp2 : (2 : Nat) ^ i1 ≤ 2 ^ 19 := Nat.pow_le_pow_right (by decide) (by omega)
  have hp5 : (5 : Nat) ^ i2 ≤ 5 ^ 19 := Nat.pow_le_pow_right (by decide) (by omega)
  have hp22 : 0 < (2 : Nat) ^ i1 := Nat.pow_pos (by decide)
  have hp52 : 0 < (5 : Nat) ^ i2 := Nat.pow_pos (by decide)
  have hmul : (2 : Nat) ^ i1 * 5 ^ i2 ≤ 2 ^ 19 * 5 ^ 19 := Nat.mul_le_mul hp2 hp5
  have hmul0 : 0 < (2 : Nat) ^ i1 * 5 ^ i2 := Nat.mul_pos hp22 hp52
  have l2 : (limbs (2 ^ i1)).length ≤ 4 := limbs_small (Nat.lt_of_le_of_lt hp2 (by decide))
  have l5 : (limbs (5 ^ i2)).length ≤ 4 := limbs_small (Nat.lt_of_le_of_lt hp5 (by decide))
  have lm : (limbs (2 ^ i1 * 5 ^ i2)).length ≤ 4 := limbs_small (Nat.lt_of_le_of_lt hmul (by decide))
  have l1 : (limbs 1).length ≤ 4 := by rw [limbs_one]; simp
  have HO2 := Lib.hid (fun W => rofi_any W 2 (by decide) (by decide))
  have HO5 := Lib.hid (fun W => rofi_any W 5 (by decide) (by decide))
  have HO1 := Lib.hid (fun W => rofi_any W 1 (by decide) (by decide))
  have HP2 := Lib.hid (fun W v a => rpowR_pos W v 2 1 a (by decide +kernel) (by omega) i1 (by omega))
  have HP5 := Lib.hid (fun W v a => rpowR_pos W v 5 1 a (by decide +kernel) (by omega) i2 (by omega))
  rw [Nat.one_pow, show (2 : Int) ^ i1 = ((2 ^ i1 : Nat) : Int) by simp] at HP2
  rw [Nat.one_pow, show (5 : Int) ^ i2 = ((5 ^ i2 : Nat) : Int) by simp] at HP5
  have HMU := Lib.hid (fun W v u a b => rmulR_any W v ((2 ^ i1 : Nat) : Int) 1 a (by rw [Int.natAbs_natCast]; omega) (by omega) u ((5 ^ i2 : Nat) : Int) 1 b (by rw [Int.natAbs_natCast]; omega) (by omega) (by decide) (by decide))
  have hmm : mulP ((2 ^ i1 : Nat) : Int) 1 ((5 ^ i2 : Nat) : Int) 1 = ((2 ^ i1 * 5 ^ i2 : Nat) : Int) ∧ mulQ ((2 ^ i1 : Nat) : Int) 1 ((5 ^ i2 : Nat) : Int) 1 = 1 := by
    unfold mulP mulQ
    rw [← Int.natCast_mul]
    exact low_self (low_int _)
  rw [hmm.1, hmm.2] at HMU
  have HDV := Lib.hid (fun W v u a b => rdivR_pos W v p 1 a (by omega) (by omega) u ((2 ^ i1 * 5 ^ i2 : Nat) : Int) 1 b (by rw [Int.natAbs_natCast]; omega) (by omega) (by decide) (by decide) (by omega))
  have hyl : Low (mulP p 1 (invP ((2 ^ i1 * 5 ^ i2 : Nat) : Int) 1) ((2 ^ i1 * 5 ^ i2 : Nat) : Int).natAbs) (mulQ p 1 (invP ((2 ^ i1 * 5 ^ i2 : Nat) : Int) 1) ((2 ^ i1 * 5 ^ i2 : Nat) : Int).natAbs) := low_mul (low_int p) (low_inv (low_int _) (by omega))
  have hys : (limbs (mulP p 1 (invP ((2 ^ i1 * 5 ^ i2 : Nat) : Int) 1) ((2 ^ i1 * 5 ^ i2 : Nat) : Int).natAbs).natAbs).length ≤ 4 ∧ (limbs (mulQ p 1 (invP ((2 ^ i1 * 5 ^ i2 : Nat) : Int) 1) ((2 ^ i1 * 5 ^ i2 : Nat) : Int).natAbs)).length ≤ 4 := by
    have hinv : invP ((2 ^ i1 * 5 ^ i2 : Nat) : Int) 1 = 1 := by
      unfold invP
      rw [decide_eq_false (by omega)]
      rfl
    rw [hinv, Int.natAbs_natCast]
    unfold mulP mulQ
    rw [Int.mul_one, Nat.one_mul]
    exact low_szn hpx lm
  generalize mulP p 1 (invP ((2 ^ i1 * 5 ^ i2 : Nat) : Int) 1) ((2 ^ i1 * 5 ^ i2 : Nat) : Int).natAbs = yp at *
  generalize mulQ p 1 (invP ((2 ^ i1 * 5 ^ i2 : Nat) : Int) 1) ((2 ^ i1 * 5 ^ i2 : Nat) : Int).natAbs = yq at *
  have HDX := Lib.hid (dec_both hlx hpx hqx)
  have HDY := Lib.hid (dec_both hyl hys.1 hys.2)
  have HBX := Lib.hid (And.intro hpx hqx)
  have HBY := Lib.hid hys
  clear hlx hpx hqx hib hp2 hp5 hp22 hp52 hmul hmul0 l2 l5 lm l1 hmm hyl hys HIB
  generalize ((2 ^ i1 : Nat) : Int) = q2 at *
  generalize ((5 ^ i2 : Nat) : Int) = q5 at *
  generalize ((2 ^ i1 * 5 ^ i2 : Nat) : Int) = q10 at *
  go_upto_region 6 with fail
  have HLOW := Lib.hid HX.out.size
  have hb12 := Blk.new w12 26 #[Value.bool f11, Value.slice G11 g11 j11, Value.slice Y11 y11 z11]
  have hx12 := (Ext.refl w12).alloc (.cells #[Value.bool f11, Value.slice G11 g11 j11, Value.slice Y11 y11 z11] 26)
  have HX := Lib.hid (HX.out.trans hx12)
  have QX := Lib.hid (QX.out.ext hx12)
  have BX := Lib.hid hb12
  generalize w12.alloc (.cells #[Value.bool f11, Value.slice G11 g11 j11, Value.slice Y11 y11 z11] 26) = w13 at *
  generalize w12.heap.size = a12 at *
  clear hb12 hx12
  obtain ⟨bx_0, bx_1, bx_2, bx_3, bx_4, bx_5, bx_6⟩ := BX.out.three
  go_wp2_with fail
  clear bx_0 bx_1 bx_2 bx_3 bx_4 bx_5 bx_6
  refine (HO2.out _).mono ?_
  rintro e w14 ⟨r13, rfl, hi13, hx13⟩
  have HX := Lib.hid (HX.out.trans hx13)
  have QX := Lib.hid (QX.out.ext hx13)
  have BX := Lib.hid (BX.out.ext hx13)
  have UT := Lib.hid hi13
  obtain ⟨f13, g13, G13, j13, y13, Y13, z13, rfl⟩ := hi13.shape
  clear hi13
  clear hx13
  obtain ⟨bx_0, bx_1, bx_2, bx_3, bx_4, bx_5, bx_6⟩ := BX.out.three
  go_wp2_with fail
  clear bx_0 bx_1 bx_2 bx_3 bx_4 bx_5 bx_6
  refine (HA20.out _).mono ?_
  rintro e w15 ⟨rfl, rfl⟩
  go_wp2_with fail
  refine (HP2.out _ _ UT.out.arr).mono ?_
  rintro e w16 ⟨r15, rfl, hi15, hx15⟩
  have HX := Lib.hid (HX.out.trans hx15)
  have QX := Lib.hid (QX.out.ext hx15)
  have UT := Lib.hid (UT.out.ext hx15)
  have BX := Lib.hid (BX.out.ext hx15)
  have QT := Lib.hid hi15
  obtain ⟨f15, g15, G15, j15, y15, Y15, z15, rfl⟩ := hi15.shape
  clear hi15
  clear hx15
  clear UT
  obtain ⟨bx_0, bx_1, bx_2, bx_3, bx_4, bx_5, bx_6⟩ := BX.out.three
  go_upto_region 7 with fail
  clear bx_0 bx_1 bx_2 bx_3 bx_4 bx_5 bx_6
  have hb16 := Blk.new w16 26 #[Value.bool f15, Value.slice G15 g15 j15, Value.slice Y15 y15 z15]
  have hx16 := (Ext.refl w16).alloc (.cells #[Value.bool f15, Value.slice G15 g15 j15, Value.slice Y15 y15 z15] 26)
  have HX := Lib.hid (HX.out.trans hx16)
  have QX := Lib.hid (QX.out.ext hx16)
  have QT := Lib.hid (QT.out.ext hx16)
  have BX := Lib.hid (BX.out.ext hx16)
  have BT := Lib.hid hb16
  generalize w16.alloc (.cells #[Value.bool f15, Value.slice G15 g15 j15, Value.slice Y15 y15 z15] 26) = w17 at *
  generalize w16.heap.size = a16 at *
  clear hb16 hx16
  obtain ⟨bx_0, bx_1, bx_2, bx_3, bx_4, bx_5, bx_6⟩ := BX.out.three
  obtain ⟨bt_0, bt_1, bt_2, bt_3, bt_4, bt_5, bt_6⟩ := BT.out.three
  go_wp2_with fail
  clear bx_0 bx_1 bx_2 bx_3 bx_4 bx_5 bx_6 bt_0 bt_1 bt_2 bt_3 bt_4 bt_5 bt_6
  refine (HO5.out _).mono ?_
  rintro e w18 ⟨r17, rfl, hi17, hx17⟩
  have HX := Lib.hid (HX.out.trans hx17)
  have QX := Lib.hid (QX.out.ext hx17)
  have QT := Lib.hid (QT.out.ext hx17)
  have BX := Lib.hid (BX.out.ext hx17)
  have BT := Lib.hid (BT.out.ext hx17)
  have UV := Lib.hid hi17
  obtain ⟨f17, g17, G17, j17, y17, Y17, z17, rfl⟩ := hi17.shape
  clear hi17
  clear hx17
  obtain ⟨bx_0, bx_1, bx_2, bx_3, bx_4, bx_5, bx_6⟩ := BX.out.three
  obtain ⟨bt_0, bt_1, bt_2, bt_3, bt_4, bt_5, bt_6⟩ := BT.out.three
  go_wp2_with fail
  clear bx_0 bx_1 bx_2 bx_3 bx_4 bx_5 bx_6 bt_0 bt_1 bt_2 bt_3 bt_4 bt_5 bt_6
  refine (HB20.out _).mono ?_
  rintro e w19 ⟨rfl, rfl⟩
  go_wp2_with fail
  refine (HP5.out _ _ UV.out.arr).mono ?_
  rintro e w20 ⟨r19, rfl, hi19, hx19⟩
  have HX := Lib.hid (HX.out.trans hx19)
  have QX := Lib.hid (QX.out.ext hx19)
  have QT := Lib.hid (QT.out.ext hx19)
  have UV := Lib.hid (UV.out.ext hx19)
  have BX := Lib.hid (BX.out.ext hx19)
  have BT := Lib.hid (BT.out.ext hx19)
  have QV := Lib.hid hi19
  obtain ⟨f19, g19, G19, j19, y19, Y19, z19, rfl⟩ := hi19.shape
  clear hi19
  clear hx19
  clear UV
  obtain ⟨bx_0, bx_1, bx_2, bx_3, bx_4, bx_5, bx_6⟩ := BX.out.three
  obtain ⟨bt_0, bt_1, bt_2, bt_3, bt_4, bt_5, bt_6⟩ := BT.out.three
  go_upto_region 8 with fail
  clear bx_0 bx_1 bx_2 bx_3 bx_4 bx_5 bx_6 bt_0 bt_1 bt_2 bt_3 bt_4 bt_5 bt_6
  have hb20 := Blk.new w20 26 #[Value.bool f19, Value.slice G19 g19 j19, Value.slice Y19 y19 z19]
  have hx20 := (Ext.refl w20).alloc (.cells #[Value.bool f19, Value.slice G19 g19 j19, Value.slice Y19 y19 z19] 26)
  have HX := Lib.hid (HX.out.trans hx20)
  have QX := Lib.hid (QX.out.ext hx20)
  have QT := Lib.hid (QT.out.ext hx20)
  have QV := Lib.hid (QV.out.ext hx20)
  have BX := Lib.hid (BX.out.ext hx20)
  have BT := Lib.hid (BT.out.ext hx20)
  have BV := Lib.hid hb20
  generalize w20.alloc (.cells #[Value.bool f19, Value.slice G19 g19 j19, Value.slice Y19 y19 z19] 26) = w21 at *
  generalize w20.heap.size = a20 at *
  clear hb20 hx20
  obtain ⟨bx_0, bx_1, bx_2, bx_3, bx_4, bx_5, bx_6⟩ := BX.out.three
  obtain ⟨bt_0, bt_1, bt_2, bt_3, bt_4, bt_5, bt_6⟩ := BT.out.three
  obtain ⟨bv_0, bv_1, bv_2, bv_3, bv_4, bv_5, bv_6⟩ := BV.out.three
  have hfd := rat_field1
  go_upto_region 8 with fail
  have hkbx_0 : ∀ w', Ext w21 w' → w'.cell? ⟨a12, 0, none⟩ = some (Value.bool f11) := fun w' hx => (BX.out.ext hx).three.1
  have hkbx_1 : ∀ w', Ext w21 w' → w'.cell? ⟨a12, 1, none⟩ = some (Value.slice G11 g11 j11) := fun w' hx => (BX.out.ext hx).three.2.1
  have hkbx_2 : ∀ w', Ext w21 w' → w'.cell? ⟨a12, 2, none⟩ = some (Value.slice Y11 y11 z11) := fun w' hx => (BX.out.ext hx).three.2.2.1
  have hkbt_0 : ∀ w', Ext w21 w' → w'.cell? ⟨a16, 0, none⟩ = some (Value.bool f15) := fun w' hx => (BT.out.ext hx).three.1
  have hkbt_1 : ∀ w', Ext w21 w' → w'.cell? ⟨a16, 1, none⟩ = some (Value.slice G15 g15 j15) := fun w' hx => (BT.out.ext hx).three.2.1
  have hkbt_2 : ∀ w', Ext w21 w' → w'.cell? ⟨a16, 2, none⟩ = some (Value.slice Y15 y15 z15) := fun w' hx => (BT.out.ext hx).three.2.2.1
  have hkbv_0 : ∀ w', Ext w21 w' → w'.cell? ⟨a20, 0, none⟩ = some (Value.bool f19) := fun w' hx => (BV.out.ext hx).three.1
  have hkbv_1 : ∀ w', Ext w21 w' → w'.cell? ⟨a20, 1, none⟩ = some (Value.slice G19 g19 j19) := fun w' hx => (BV.out.ext hx).three.2.1
  have hkbv_2 : ∀ w', Ext w21 w' → w'.cell? ⟨a20, 2, none⟩ = some (Value.slice Y19 y19 z19) := fun w' hx => (BV.out.ext hx).three.2.2.1
  clear bx_0 bx_1 bx_2 bx_3 bx_4 bx_5 bx_6 bt_0 bt_1 bt_2 bt_3 bt_4 bt_5 bt_6 bv_0 bv_1 bv_2 bv_3 bv_4 bv_5 bv_6
  go_cut [13, 14] from 46 to 57 (fun s13 s14 wx => ∃ (gx : Nat) (f9 : Bool) (g9 : Nat) (G9 : Option Addr) (j9 y9 : Nat) (Y9 : Option Addr) (z9 : Nat), s13 = .pointer (some ⟨gx, 0, none⟩) ∧ s14 = .int .i64 0 ∧ Blk wx gx 26 #[Value.bool f9, Value.slice G9 g9 j9, Value.slice Y9 y9 z9] ∧ ArrRat wx (.agg #[.bool f9, .slice G9 g9 j9, .slice Y9 y9 z9]) (yp) (yq) ∧ Ext w21 wx)
  case first =>
    go_region_held3 (fun w' => Ext w21 w')
      (repeat' (first | assumption | (exact HE24.out) | (exact HE23.out) | (exact HE22.out) | (exact Ext.refl _) | (refine Ext.drew ?_) | (exact Ext.trans (by assumption) (by assumption)) | (refine Ext.alloc ?_ _) | (refine Ext.setCell ?_ (by first | omega | (simp <;> omega)) _)))
      (first
        | (go_at_call 17; have hchk23 := hz22; refine (HDV.out _ _ _ (by first | exact (QX.out.arr.ext (by assumption)).mix R21.out.arr | exact (QX.out.arr.ext (by assumption)).mix (R21.out.arr.ext ((Ext.refl _).alloc _))) (by first | exact R22.out.arr | exact (R22.out.arr).ext ((Ext.refl _).alloc _))).mono ?_; rintro e w24 ⟨r23, rfl, hi23, hx23⟩; have hz23 := hx23.size; (try simp only [World.size_drew, World.size_alloc] at hz23); have HE24 : Hid (Ext w21 w24) := Lib.hid (Ext.trans (by assumption) hx23); have R21 := Lib.hid (by first | exact R21.out.ext hx23 | exact (R21.out.ext ((Ext.refl _).alloc _)).ext hx23); have R22 := Lib.hid (by first | exact R22.out.ext hx23 | exact (R22.out.ext ((Ext.refl _).alloc _)).ext hx23); have R23 := Lib.hid hi23; (first | (have hbA := hbA.ext hx23) | (have hbA := (Blk.new w23 26 #[Value.bool false, Value.slice none 0 0, Value.slice none 0 0]).ext hx23) | skip); (try (clear ka0 ka1 ka2 kf0 kf1 kf2 kz)); (try simp only [World.size_alloc, World.size_drew] at hbA); (try (obtain ⟨ka0, ka1, ka2, kf0, kf1, kf2, kz⟩ := hbA.three)); obtain ⟨f23, g23, G23, j23, y23, Y23, z23, rfl⟩ := hi23.shape; clear hi23)
        | (go_at_call 18; have hchk22 := hz21; refine (HMU.out _ _ _ (QT.out.arr.ext (by assumption)) (QV.out.arr.ext (by assumption))).mono ?_; rintro e w23 ⟨r22, rfl, hi22, hx22⟩; have hz22 := hx22.size; (try simp only [World.size_drew, World.size_alloc] at hz22); have HE23 : Hid (Ext w21 w23) := Lib.hid (Ext.trans (by assumption) hx22); have R21 := Lib.hid (by first | exact R21.out.ext hx22 | exact (R21.out.ext ((Ext.refl _).alloc _)).ext hx22); have R22 := Lib.hid hi22; (first | (have hbA := hbA.ext hx22) | (have hbA := (Blk.new w22 26 #[Value.bool false, Value.slice none 0 0, Value.slice none 0 0]).ext hx22) | skip); (try (clear ka0 ka1 ka2 kf0 kf1 kf2 kz)); (try simp only [World.size_alloc, World.size_drew] at hbA); (try (obtain ⟨ka0, ka1, ka2, kf0, kf1, kf2, kz⟩ := hbA.three)); obtain ⟨f22, g22, G22, j22, y22, Y22, z22, rfl⟩ := hi22.shape; clear hi22)
        | (go_at_call 15; refine (HO1.out _).mono ?_; rintro e w22 ⟨r21, rfl, hi21, hx21⟩; have hz21 := hx21.size; (try simp only [World.size_drew, World.size_alloc] at hz21); have HE22 : Hid (Ext w21 w22) := Lib.hid (Ext.trans (by assumption) hx21); have R21 := Lib.hid hi21; (first | (have hbA := (Blk.new w21.drew 26 #[Value.bool false, Value.slice none 0 0, Value.slice none 0 0]).ext hx21) | (have hbA := ((Blk.new w21 26 #[Value.bool false, Value.slice none 0 0, Value.slice none 0 0]).drew).ext hx21) | skip); (try simp only [World.size_alloc, World.size_drew] at hbA); (try (obtain ⟨ka0, ka1, ka2, kf0, kf1, kf2, kz⟩ := hbA.three)); obtain ⟨f21, g21, G21, j21, y21, Y21, z21, rfl⟩ := hi21.shape; clear hi21))
    all_goals rename_i hF
    all_goals go_wp2_with fail
    all_goals go_meet
    all_goals have hsz22 := HE22.out.size
    all_goals have hsz23 := HE23.out.size
    all_goals have hsz24 := HE24.out.size
    all_goals refine ⟨_, f23, g23, G23, j23, y23, Y23, z23, rfl, rfl, ?_, ?_, hF⟩
    all_goals first
      | with_reducible exact (R23.out.far3 (by first | omega | (simp <;> omega)) _ _ _).arr
      | with_reducible exact (R23.out.ext ((Ext.refl _).alloc _)).arr
      | ((with_reducible refine Blk.to (((hbA.set_ 0 (.bool f23)).set_ 1 (.slice G23 g23 j23)).set_ 2 (.slice Y23 y23 z23)) ?_); rfl)
      | with_reducible exact Blk.new w24 26 #[Value.bool f23, Value.slice G23 g23 j23, Value.slice Y23 y23 z23]
  case rest =>
  obtain ⟨a26, f26, g26, G26, j26, y26, Y26, z26, rfl, rfl, hB26, hR26, hx26⟩ := hcut
  generalize wc = w27 at *
  clear hkbx_0 hkbx_1 hkbx_2 hkbt_0 hkbt_1 hkbt_2 hkbv_0 hkbv_1 hkbv_2
  have HX := Lib.hid (HX.out.trans hx26)
  have QX := Lib.hid (QX.out.ext hx26)
  have QT := Lib.hid (QT.out.ext hx26)
  have QV := Lib.hid (QV.out.ext hx26)
  have BX := Lib.hid (BX.out.ext hx26)
  have BT := Lib.hid (BT.out.ext hx26)
  have BV := Lib.hid (BV.out.ext hx26)
  have QY := Lib.hid hR26
  have BY := Lib.hid hB26
  clear hR26 hB26 hx26
  clear hfd QT QV BT BV HO1 HO2 HO5 HP2 HP5 HMU HDV HA20 HB20
  obtain ⟨bx_0, bx_1, bx_2, bx_3, bx_4, bx_5, bx_6⟩ := BX.out.three
  obtain ⟨by_0, by_1, by_2, by_3, by_4, by_5, by_6⟩ := BY.out.three
  go_upto_region 10 with fail
  clear bx_0 bx_1 bx_2 bx_3 bx_4 bx_5 bx_6 by_0 by_1 by_2 by_3 by_4 by_5 by_6
  have hb6 := Blk.new w27 26 #[Value.bool f11, Value.slice G11 g11 j11, Value.slice Y11 y11 z11, Value.bool f26, Value.slice G26 g26 j26, Value.slice Y26 y26 z26]
  have hx6 := (Ext.refl w27).alloc (.cells #[Value.bool f11, Value.slice G11 g11 j11, Value.slice Y11 y11 z11, Value.bool f26, Value.slice G26 g26 j26, Value.slice Y26 y26 z26] 26)
  have HX := Lib.hid (HX.out.trans hx6)
  have QX := Lib.hid (QX.out.ext hx6)
  have QY := Lib.hid (QY.out.ext hx6)
  have HK6 := Lib.hid hb6
  generalize w27.alloc (.cells #[Value.bool f11, Value.slice G11 g11 j11, Value.slice Y11 y11 z11, Value.bool f26, Value.slice G26 g26 j26, Value.slice Y26 y26 z26] 26) = w28 at *
  generalize w27.heap.size = a27 at *
  clear hb6 hx6 BX BY
  obtain ⟨lx, okx, hlx1, hlx2, hdx, hrdx⟩ := HDX.out
  obtain ⟨ly, oky, hly1, hly2, hdy, hrdy⟩ := HDY.out
  have HPA : ∀ (l : List UInt8) (P : Int) (Q : Nat), (code7 l = 0 ∧ num7 l = P ∧ den7 l = Q) → ∀ W, Ext w W → Calls Tryz.prog 21 #[str l] W fun e w' => ∃ v', e = .returned (.tuple #[v', .int .i64 0]) ∧ IsRat W.heap.size w' v' P Q ∧ Ext W w' := fun l P Q ⟨h1, h2, h3⟩ W hx => by
    have := parse7_any W l (HM.out.ext hx)
    unfold ParseRes7 at this
    rw [if_pos h1, if_pos h1, h1, h2, h3] at this
    exact this
  have HPX := Lib.hid (fun e => HPA lx p q (hlx1 e))
  have HPY := Lib.hid (fun e => HPA ly yp yq (hly1 e))
  have HDCX := Lib.hid (fun W v a (hx : Ext w W) => hdx W v a (HTB.out.ext hx))
  have HDCY := Lib.hid (fun W v a (hx : Ext w W) => hdy W v a (HTB.out.ext hx))
  have HRDX := Lib.hid hrdx
  have HRDY := Lib.hid hrdy
  have HSX := Lib.hid (rsameR_self HBX.out.1 HBX.out.2 (by decide))
  have HSY := Lib.hid (rsameR_self HBY.out.1 HBY.out.2 (by decide))
  clear hlx1 hlx2 hly1 hly2 hdx hdy hrdx hrdy HPA HDX HDY HBX HBY
  obtain ⟨tx, htx⟩ : ∃ tx, str lx = .string tx := ⟨_, rfl⟩
  obtain ⟨ty, hty⟩ : ∃ ty, str ly = .string ty := ⟨_, rfl⟩
  rw [htx] at HPX HDCX HRDX
  rw [hty] at HPY HDCY HRDY
  clear htx hty
  have HKC := Lib.hid (fun W (hx : Ext w28 W) => HK6.out.ext hx)
  have HQX := Lib.hid (fun W (hx : Ext w28 W) => QX.out.arr.ext hx)
  have HQY := Lib.hid (fun W (hx : Ext w28 W) => QY.out.ext hx)
  clear HK6 QX QY
  go_loopw [62] (fun s62 wq => (s62 = .int .i64 0 ∨ s62 = .int .i64 1 ∨ s62 = .int .i64 2) ∧ Ext w28 wq) (fun s62 _ => 2 - (intOf s62).toNat)
  case atStart => exact ⟨.inl rfl, Ext.refl _⟩
  case round =>
    obtain ⟨hi, hext⟩ := hrel
    have HEX := Lib.hid hext
    clear hext
    rcases hi with rfl | rfl | rfl
    · have HX := Lib.hid (HX.out.trans HEX.out)
      have QZ := Lib.hid (HQX.out _ HEX.out)
      have hbz := HKC.out _ HEX.out
      have hz0 := hbz.cell 0
      have hz1 := hbz.cell 1
      have hz2 := hbz.cell 2
      have hz3 := hbz.lt
      change _ = some (Value.bool f11) at hz0
      change _ = some (Value.slice G11 g11 j11) at hz1
      change _ = some (Value.slice Y11 y11 z11) at hz2
      clear hbz
      go_upto_region 12 with fail
      clear hz0 hz1 hz2 hz3
      have hb60 := Blk.new wr 26 #[Value.bool f11, Value.slice G11 g11 j11, Value.slice Y11 y11 z11]
      have hx60 := (Ext.refl wr).alloc (.cells #[Value.bool f11, Value.slice G11 g11 j11, Value.slice Y11 y11 z11] 26)
      have HX := Lib.hid (HX.out.trans hx60)
      have HEX := Lib.hid (HEX.out.trans hx60)
      have QZ := Lib.hid (QZ.out.ext hx60)
      have BZ := Lib.hid hb60
      generalize wr.alloc (.cells #[Value.bool f11, Value.slice G11 g11 j11, Value.slice Y11 y11 z11] 26) = w61 at *
      generalize wr.heap.size = a60 at *
      clear hb60 hx60
      obtain ⟨bz_0, bz_1, bz_2, bz_3, bz_4, bz_5, bz_6⟩ := BZ.out.three
      go_wp2_with fail
      clear bz_0 bz_1 bz_2 bz_3 bz_4 bz_5 bz_6
      refine (HDCX.out _ _ QZ.out HX.out).mono ?_
      rintro e w62 ⟨rfl, hx61⟩
      have HX := Lib.hid (HX.out.trans hx61)
      have HEX := Lib.hid (HEX.out.trans hx61)
      have QZ := Lib.hid (QZ.out.ext hx61)
      have BZ := Lib.hid (BZ.out.ext hx61)
      clear hx61
      obtain ⟨bz_0, bz_1, bz_2, bz_3, bz_4, bz_5, bz_6⟩ := BZ.out.three
      go_wp2_with fail
      clear bz_0 bz_1 bz_2 bz_3 bz_4 bz_5 bz_6
      refine (HRDX.out _ _ QZ.out).mono ?_
      rintro e w63 ⟨rfl, hx62⟩
      have HX := Lib.hid (HX.out.trans hx62)
      have HEX := Lib.hid (HEX.out.trans hx62)
      have QZ := Lib.hid (QZ.out.ext hx62)
      have BZ := Lib.hid (BZ.out.ext hx62)
      clear hx62
      obtain ⟨bz_0, bz_1, bz_2, bz_3, bz_4, bz_5, bz_6⟩ := BZ.out.three
      cases okx
      · go_wp2_with fail
        go_roundw
        case rel => exact ⟨.inr (.inl rfl), HEX.out⟩
        case measure => simp [intOf]
      go_wp2_with fail
      clear bz_0 bz_1 bz_2 bz_3 bz_4 bz_5 bz_6
      refine (HPX.out (by trivial) _ HX.out).mono ?_
      rintro e w64 ⟨r63, rfl, hi63, hx63⟩
      have HX := Lib.hid (HX.out.trans hx63)
      have HEX := Lib.hid (HEX.out.trans hx63)
      have QZ := Lib.hid (QZ.out.ext hx63)
      have BZ := Lib.hid (BZ.out.ext hx63)
      have QB := Lib.hid hi63
      obtain ⟨f63, g63, G63, j63, y63, Y63, z63, rfl⟩ := hi63.shape
      clear hi63
      clear hx63
      obtain ⟨bz_0, bz_1, bz_2, bz_3, bz_4, bz_5, bz_6⟩ := BZ.out.three
      go_upto_region 18 with fail
      clear bz_0 bz_1 bz_2 bz_3 bz_4 bz_5 bz_6
      have hb64 := Blk.new w64 26 #[Value.bool f63, Value.slice G63 g63 j63, Value.slice Y63 y63 z63]
      have hx64 := (Ext.refl w64).alloc (.cells #[Value.bool f63, Value.slice G63 g63 j63, Value.slice Y63 y63 z63] 26)
      have HX := Lib.hid (HX.out.trans hx64)
      have HEX := Lib.hid (HEX.out.trans hx64)
      have QZ := Lib.hid (QZ.out.ext hx64)
      have QB := Lib.hid (QB.out.ext hx64)
      have BZ := Lib.hid (BZ.out.ext hx64)
      have BB := Lib.hid hb64
      generalize w64.alloc (.cells #[Value.bool f63, Value.slice G63 g63 j63, Value.slice Y63 y63 z63] 26) = w65 at *
      generalize w64.heap.size = a64 at *
      clear hb64 hx64
      obtain ⟨bz_0, bz_1, bz_2, bz_3, bz_4, bz_5, bz_6⟩ := BZ.out.three
      obtain ⟨bb_0, bb_1, bb_2, bb_3, bb_4, bb_5, bb_6⟩ := BB.out.three
      go_wp2_with fail
      clear bz_0 bz_1 bz_2 bz_3 bz_4 bz_5 bz_6 bb_0 bb_1 bb_2 bb_3 bb_4 bb_5 bb_6
      refine (HSX.out _ _ _ QB.out.arr QZ.out).mono ?_
      rintro e w66 ⟨rfl, hx65⟩
      have HX := Lib.hid (HX.out.trans hx65)
      have HEX := Lib.hid (HEX.out.trans hx65)
      have QZ := Lib.hid (QZ.out.ext hx65)
      have QB := Lib.hid (QB.out.ext hx65)
      have BZ := Lib.hid (BZ.out.ext hx65)
      have BB := Lib.hid (BB.out.ext hx65)
      clear hx65
      go_wp2_with fail
      go_roundw
      case rel => exact ⟨.inr (.inl rfl), HEX.out⟩
      case measure => simp [intOf]
    · have HX := Lib.hid (HX.out.trans HEX.out)
      have QZ := Lib.hid (HQY.out _ HEX.out)
      have hbz := HKC.out _ HEX.out
      have hz0 := hbz.cell 3
      have hz1 := hbz.cell 4
      have hz2 := hbz.cell 5
      have hz3 := hbz.lt
      change _ = some (Value.bool f26) at hz0
      change _ = some (Value.slice G26 g26 j26) at hz1
      change _ = some (Value.slice Y26 y26 z26) at hz2
      clear hbz
      go_upto_region 12 with fail
      clear hz0 hz1 hz2 hz3
      have hb80 := Blk.new wr 26 #[Value.bool f26, Value.slice G26 g26 j26, Value.slice Y26 y26 z26]
      have hx80 := (Ext.refl wr).alloc (.cells #[Value.bool f26, Value.slice G26 g26 j26, Value.slice Y26 y26 z26] 26)
      have HX := Lib.hid (HX.out.trans hx80)
      have HEX := Lib.hid (HEX.out.trans hx80)
      have QZ := Lib.hid (QZ.out.ext hx80)
      have BZ := Lib.hid hb80
      generalize wr.alloc (.cells #[Value.bool f26, Value.slice G26 g26 j26, Value.slice Y26 y26 z26] 26) = w81 at *
      generalize wr.heap.size = a80 at *
      clear hb80 hx80
      obtain ⟨bz_0, bz_1, bz_2, bz_3, bz_4, bz_5, bz_6⟩ := BZ.out.three
      go_wp2_with fail
      clear bz_0 bz_1 bz_2 bz_3 bz_4 bz_5 bz_6
      refine (HDCY.out _ _ QZ.out HX.out).mono ?_
      rintro e w82 ⟨rfl, hx81⟩
      have HX := Lib.hid (HX.out.trans hx81)
      have HEX := Lib.hid (HEX.out.trans hx81)
      have QZ := Lib.hid (QZ.out.ext hx81)
      have BZ := Lib.hid (BZ.out.ext hx81)
      clear hx81
      obtain ⟨bz_0, bz_1, bz_2, bz_3, bz_4, bz_5, bz_6⟩ := BZ.out.three
      go_wp2_with fail
      clear bz_0 bz_1 bz_2 bz_3 bz_4 bz_5 bz_6
      refine (HRDY.out _ _ QZ.out).mono ?_
      rintro e w83 ⟨rfl, hx82⟩
      have HX := Lib.hid (HX.out.trans hx82)
      have HEX := Lib.hid (HEX.out.trans hx82)
      have QZ := Lib.hid (QZ.out.ext hx82)
      have BZ := Lib.hid (BZ.out.ext hx82)
      clear hx82
      obtain ⟨bz_0, bz_1, bz_2, bz_3, bz_4, bz_5, bz_6⟩ := BZ.out.three
      cases oky
      · go_wp2_with fail
        go_roundw
        case rel => exact ⟨.inr (.inr rfl), HEX.out⟩
        case measure => simp [intOf]
      go_wp2_with fail
      clear bz_0 bz_1 bz_2 bz_3 bz_4 bz_5 bz_6
      refine (HPY.out (by trivial) _ HX.out).mono ?_
      rintro e w84 ⟨r83, rfl, hi83, hx83⟩
      have HX := Lib.hid (HX.out.trans hx83)
      have HEX := Lib.hid (HEX.out.trans hx83)
      have QZ := Lib.hid (QZ.out.ext hx83)
      have BZ := Lib.hid (BZ.out.ext hx83)
      have QB := Lib.hid hi83
      obtain ⟨f83, g83, G83, j83, y83, Y83, z83, rfl⟩ := hi83.shape
      clear hi83
      clear hx83
      obtain ⟨bz_0, bz_1, bz_2, bz_3, bz_4, bz_5, bz_6⟩ := BZ.out.three
      go_upto_region 18 with fail
      clear bz_0 bz_1 bz_2 bz_3 bz_4 bz_5 bz_6
      have hb84 := Blk.new w84 26 #[Value.bool f83, Value.slice G83 g83 j83, Value.slice Y83 y83 z83]
      have hx84 := (Ext.refl w84).alloc (.cells #[Value.bool f83, Value.slice G83 g83 j83, Value.slice Y83 y83 z83] 26)
      have HX := Lib.hid (HX.out.trans hx84)
      have HEX := Lib.hid (HEX.out.trans hx84)
      have QZ := Lib.hid (QZ.out.ext hx84)
      have QB := Lib.hid (QB.out.ext hx84)
      have BZ := Lib.hid (BZ.out.ext hx84)
      have BB := Lib.hid hb84
      generalize w84.alloc (.cells #[Value.bool f83, Value.slice G83 g83 j83, Value.slice Y83 y83 z83] 26) = w85 at *
      generalize w84.heap.size = a84 at *
      clear hb84 hx84
      obtain ⟨bz_0, bz_1, bz_2, bz_3, bz_4, bz_5, bz_6⟩ := BZ.out.three
      obtain ⟨bb_0, bb_1, bb_2, bb_3, bb_4, bb_5, bb_6⟩ := BB.out.three
      go_wp2_with fail
      clear bz_0 bz_1 bz_2 bz_3 bz_4 bz_5 bz_6 bb_0 bb_1 bb_2 bb_3 bb_4 bb_5 bb_6
      refine (HSY.out _ _ _ QB.out.arr QZ.out).mono ?_
      rintro e w86 ⟨rfl, hx85⟩
      have HX := Lib.hid (HX.out.trans hx85)
      have HEX := Lib.hid (HEX.out.trans hx85)
      have QZ := Lib.hid (QZ.out.ext hx85)
      have QB := Lib.hid (QB.out.ext hx85)
      have BZ := Lib.hid (BZ.out.ext hx85)
      have BB := Lib.hid (BB.out.ext hx85)
      clear hx85
      go_wp2_with fail
      go_roundw
      case rel => exact ⟨.inr (.inr rfl), HEX.out⟩
      case measure => simp [intOf]
    · go_wp2_with fail
      go_ret
      exact ⟨rfl, HX.out.trans HEX.out⟩
end Big
end Go.Proofs.YtplmldkfgeiklaaGreatDoor
/- The frame round a law's walk: the arguments opened; behind the call they read as they did. -/
namespace Go.Proofs.YtplmldkfgeiklaaGreatDoor
open Go.ChangeShapes Go.WideShapes Go.ChangeAt Go.RowKit

section
variable {H : Type} {enc : TypeId × Value → H} {P : Program}
theorem trodAll_stays (hl : laidOutB P = true) {W W' : World} (hb : Big.Ext W W') : ∀ (ts : List TypeId) (vs : List Value) (ds : List (DataW H)) (ps : List MemPlace),
    (∀ t ∈ ts, P.readableRec t = true ∧ t < P.types.size) → DataW.TrodAll enc P W 0 (fun _ => true) true ts vs ds ps → (∀ x ∈ ps, x.block < W.heap.size) →
    DataW.TrodAll enc P W' 0 (fun b => decide (b < W.heap.size)) true ts vs ds ps
  | [], vs, ds, ps, _, h, _ => by
    obtain ⟨rfl, rfl, rfl⟩ := trodAll_nil h
    exact trodAll_mk0
  | t :: ts, vs, ds, ps, ht, h, hlt => by
    obtain ⟨v, vs', d, ds', p, q, rfl, rfl, rfl, h1, h2⟩ := trodAll_cons h
    exact trodAll_cons_mk (Below.trod hl (ht t (by simp)).1 (ht t (by simp)).2 h1 hb (fun x hx => hlt x (List.mem_append_left _ hx)))
      (trodAll_stays hl hb ts vs' ds' q (fun t' h' => ht t' (by simp [h'])) h2 (fun x hx => hlt x (List.mem_append_right _ hx)))

/-- What the row asks of a law that returned true and left what was there. -/
theorem post_true {f : Func} {s : ChangeSpec} {W W' : World} {args : Array Value} {ds gs : List (DataW H)} {before : List MemPlace} {tb : TypeId} (hl : laidOutB P = true)
    (hts : (f.params.toList.all fun t => P.readableRec t && decide (t < P.types.size)) = true) (hv : s.vars = []) (hr : f.resultTypes = #[tb]) (htb : P.underlying tb = some .bool)
    (hW : DataW.Whole enc P f.params.toList s.vars false W args.toList ds gs before) (hfn : s.fn H ds = { results := [.lit (.bool true)], args := ds }) (hb : Big.Ext W W') :
    s.post enc P f false true false false W args (.bool true) W' := by
  have hlt := hW.lt
  have hW' := hW
  obtain ⟨p, q, hA, hV, rfl, hfz, hnd⟩ := hW
  rw [hv] at hV
  obtain ⟨rfl, rfl⟩ := trodVars_none hV
  have hfn' : s.fn H (ds ++ []) = { results := [.lit (.bool true)], args := ds } := by rw [List.append_nil]; exact hfn
  refine ⟨ds, [], p ++ [], [], p, [], hW', ?_, ?_, ?_, hb.frame _, fun h => by cases h⟩
  · rw [hfn', hr]
    exact trodAll_mk1 (shut_bool htb _)
  · rw [hfn']
    exact trodAll_stays hl hb _ _ _ _ (fun t ht => by
      have := List.all_eq_true.1 hts t ht
      simpa using this) hA (fun x hx => hlt x (by simpa using hx))
  · rw [hfn', hv]
    rfl
end

/-- A law under its row's conditions, with the form of the world at its beginning. -/
theorem handed_and_shaped {H : Type} {enc : TypeId × Value → H} {a : Assume} {C : Checked} {os : Os} {f : FuncId} {fn : Func} {s : ChangeSpec} {conds : List PathCond} {apart fresh handsOn again : Bool} {X : World → Array Value → Prop}
    (hX : ∀ (w w' : World) (args : Array Value), w.heap = w'.heap → X w args → X w' args)
    (own : ownKnob C.prog.godebug = none) (started : os.Started) (noInit : C.prog.inits.idxOf? f = none) (hfn : C.prog.funcs[f]? = some fn)
    (witness : ∃ (w : World) (tape : Tape) (i : Input), w.os = os ∧ (w.forCall tape i).Shaped C.prog ∧ i.vars = [] ∧ Input.okWide C.prog (w.forCall tape i) .any w.heap.size f i ∧
      ((s.pre enc C.prog fn conds apart (w.forCall tape i).memory i.args ∧ X (w.forCall tape i).memory i.args) ∧ sizedMet enc C.prog fn (OpenSpec.ofChange s) apart (w.forCall tape i).memory i.args) ∧ a.holds C.prog (lone (Frame.enter C.prog f i.args .normal) [] (w.forCall tape i)))
    (contract : ∀ (W : World) (base : Nat) (args : Array Value) (ds gs : List (DataW H)) (before : List MemPlace),
      (∀ (j : Nat) t v, fn.params[j]? = some t → args[j]? = some v → Value.okWide C.prog W .any base t v) →
      DataW.Whole enc C.prog fn.params.toList s.vars apart W args.toList ds gs before →
      (DataW.weightsEach C.prog (fn.params.toList ++ s.plain.varTypes C.prog) (ds ++ gs)).all (· ≤ reachBytes) = true → X W args → W.ShapedOpen C.prog →
      Calls C.prog f args W fun e W' => ∃ v, e = .returned v ∧ s.post enc C.prog fn apart fresh handsOn again W args v W') :
    ReturnsInHanded a C os f .any (fun w args => (s.pre enc C.prog fn conds apart w args ∧ X w args) ∧ sizedMet enc C.prog fn (OpenSpec.ofChange s) apart w args) (s.post enc C.prog fn apart fresh handsOn again) := by
  refine returnsInHanded_of_calls own started noInit witness ?_
  intro w tape i _ hsh _ hok hpre hholds
  obtain ⟨_, _, _, fn', hfn', _, _, _, _, hval⟩ := hok
  have e : fn' = fn := Option.some.inj (hfn'.symm.trans hfn)
  subst e
  obtain ⟨⟨⟨ds, gs, before, hw, hc⟩, hx⟩, hz⟩ := hpre
  have hw' := DataW.Whole.of_heap (w' := w.forCall tape i) (by rfl) hw
  refine (contract (w.forCall tape i) w.heap.size i.args ds gs before hval hw' (hz.weights hw) (hX _ _ _ (by rfl) hx) hsh).mono fun e W' ⟨v, he, hp⟩ => ?_
  subst he
  exact ChangeSpec.post_blind hp

theorem laid_out : laidOutB Tryz.prog = true := by kernel_rfl
theorem own : ownKnob Tryz.prog.godebug = none := by kernel_rfl

section
variable {P : Program} {W : World}
/-- One of several variables that a row lists. -/
theorem laidVars_at : ∀ (i : Nat) (l : List (String × DataW Unit)) (ps : List MemPlace) (n : String) (d : DataW Unit), DataW.LaidVars P W l ps → l[i]? = some (n, d) →
    ∃ g t cs f p, P.globalNamed n = some g ∧ (P.globals[g]?).map (·.type) = some t ∧ W.var? P n = some cs ∧ DataW.trod (fun _ => ()) P W 0 (fun _ => true) false f t cs.toList = some (d, p)
  | i, [], ps, n, d, _, hn => by simp at hn
  | 0, x :: l, ps, n, d, h, hn => by
    simp at hn
    subst hn
    obtain ⟨g, t, cs, f, p, q, h1, h2, h3, h4, _, _⟩ := h
    exact ⟨g, t, cs, f, p, h1, h2, h3, h4⟩
  | i + 1, x :: l, ps, n, d, h, hn => by
    obtain ⟨g, t, cs, f, p, q, _, _, _, _, hs, _⟩ := h
    exact laidVars_at i l q n d hs (by simpa using hn)
theorem laid_at (i : Nat) {l : List (String × DataW Unit)} {n : String} {d : DataW Unit} (h : laidMetH P l W) (hp : (l.all fun x => x.2.handleName?.isNone) = true) (hn : l[i]? = some (n, d)) :
    ∃ g t cs f p, P.globalNamed n = some g ∧ (P.globals[g]?).map (·.type) = some t ∧ W.var? P n = some cs ∧ DataW.trod (fun _ => ()) P W 0 (fun _ => true) false f t cs.toList = some (d, p) := by
  rw [MakeChecks.laidMetH_plain _ _ _ hp] at h
  obtain ⟨ps, hv, _⟩ := h
  exact laidVars_at i l ps n d hv hn
end

section
variable {H : Type} {enc : TypeId × Value → H} {W : World} {fuel : Nat} {v : Value} {y : DataW H × List MemPlace}
theorem cellsOf_u32 : Tryz.prog.cellsOf 74 = 1 := by kernel_rfl
/-- A slice of 32-bit digits that came in. -/
theorem arr_of_trod (h : DataW.trod enc Tryz.prog W 0 (fun _ => true) true fuel 22 [v] = some y) : ∃ xs, Big.Arr W v xs := by
  rcases open_ints Tryz.underlying22 Tryz.underlying74 cellsOf_u32 h with ⟨hv, _⟩ | ⟨a, len, cap, zs, hv, _, hl, hm, hz, _, hc, hw⟩
  · injection hv with hv
    subst hv
    exact ⟨[], Big.Arr.none_ W⟩
  · injection hv with hv
    subst hv
    simp only [if_true] at hz
    refine ⟨(zs.take len).map Int.toNat, ?_⟩
    have hlen : ((zs.take len).map Int.toNat).length = len := by simp; omega
    have hok : Big.Ok ((zs.take len).map Int.toNat) := fun x hx => by
      obtain ⟨n, hn, rfl⟩ := List.mem_map.1 hx
      have := bounds_u32 (hw n (List.mem_of_mem_take hn))
      omega
    have key := Big.Arr.mk (w := W) (A := some a) (c := cap) hok (by rw [hlen]; exact hl) hm (fun hp => by
      rw [hlen] at hp ⊢
      obtain ⟨b, off, rfl, hcell⟩ := ints_at hc (by omega)
      have h0 := hcell 0 (by omega)
      refine ⟨b, off, rfl, World.block_lt_of_cell? W _ h0, fun j hj => ?_⟩
      rw [hcell j (by omega)]
      have hj2 : j < zs.length := by omega
      have hb := bounds_u32 (hw zs[j] (List.getElem_mem hj2))
      have e1 : zs.getD j 0 = zs[j] := by rw [List.getD_eq_getElem?_getD, List.getElem?_eq_getElem hj2]; rfl
      have e2 : ((zs.take len).map Int.toNat).getD j 0 = zs[j].toNat := by
        rw [List.getD_eq_getElem?_getD, List.getElem?_map, List.getElem?_take_of_lt hj, List.getElem?_eq_getElem hj2]; rfl
      rw [e1, e2]
      unfold Big.d32
      rw [Int.toNat_of_nonneg hb.1])
    rw [hlen] at key
    exact key
theorem bool_of_trod (h : DataW.trod enc Tryz.prog W 0 (fun _ => true) true fuel 4 [v] = some y) : ∃ b, v = .bool b := by
  obtain ⟨b, hb, _⟩ := DataW.trod_bool Tryz.underlying4 h
  injection hb with hb
  exact ⟨b, hb⟩
end
section
variable {H : Type} {enc : TypeId × Value → H} {W : World} {v : Value} {d : DataW H} {p : List MemPlace} {r : Reach} {b0 : Nat}
set_option maxRecDepth 100000 in
theorem open_u32s (hv : Value.okWide Tryz.prog W r b0 22 v) (h : DataW.Trod enc Tryz.prog W 0 (fun _ => true) true 22 v d p) : ∃ xs, Big.Arr W v xs := by
  obtain ⟨a, len, cap, rfl⟩ := okWide_slice Tryz.underlying22 hv
  obtain ⟨fuel, hf⟩ := h
  obtain ⟨xs, hxs⟩ := arr_of_trod (by simpa [Value.cells] using hf)
  exact ⟨xs, hxs⟩
end
theorem byte_of_wf {z : Int} (w : (Lit.int .u8 z).wf = true) : ∃ d : UInt8, z = (d.toNat : Int) := by
  have h := bounds_u8 w
  refine ⟨UInt8.ofNat z.toNat, ?_⟩
  have e : (UInt8.ofNat z.toNat).toNat = z.toNat % 2 ^ 8 := UInt8.toNat_ofNat'
  rw [e, Nat.mod_eq_of_lt (by omega)]
  omega
theorem u64_of_wf {z : Int} (w : (Lit.int .u64 z).wf = true) : ∃ n : Nat, n < 18446744073709551616 ∧ z = (n : Int) := by
  have h := bounds_u64 w
  exact ⟨z.toNat, by omega, by omega⟩
theorem str_of_bytes {s : ByteArray} (h : s.size ≤ maxLen) : ∃ l : List UInt8, l.length ≤ maxLen ∧ s = ⟨l.toArray⟩ := by
  refine ⟨s.data.toList, by simpa using h, ?_⟩
  apply ByteArray.ext
  simp
end Go.Proofs.YtplmldkfgeiklaaGreatDoor
/- What the condition on the table of lowest bits gives the walks. -/
namespace Go.Proofs.YtplmldkfgeiklaaGreatDoor
open Go.ChangeShapes Go.WideShapes Go.ChangeAt Go.RowKit
theorem g32 : Tryz.prog.globalNamed "math/bits.deBruijn32tab" = some 0 := by kernel_rfl
theorem t32 : (Tryz.prog.globals[0]?).map (·.type) = some 135 := by kernel_rfl
theorem cells32 : Tryz.prog.cellsOf 135 = 32 := by kernel_rfl
theorem cells8b : Tryz.prog.cellsOf 5 = 1 := by kernel_rfl
def tab32 : List Int := [0, 1, 28, 2, 29, 14, 24, 3, 30, 22, 20, 15, 25, 17, 4, 8, 31, 27, 13, 23, 21, 19, 16, 7, 26, 12, 18, 6, 11, 5, 10, 9]
theorem tab32_get : ∀ i : Fin 32, (tab32.map (fun z => Value.int .u8 z))[i.val]? = some (.int .u8 ((Big.tzTab.getD i.val 0 : Nat) : Int)) := by
  intro ⟨i, hi⟩
  have : i = 0 ∨ i = 1 ∨ i = 2 ∨ i = 3 ∨ i = 4 ∨ i = 5 ∨ i = 6 ∨ i = 7 ∨ i = 8 ∨ i = 9 ∨ i = 10 ∨ i = 11 ∨ i = 12 ∨ i = 13 ∨ i = 14 ∨ i = 15 ∨ i = 16 ∨ i = 17 ∨ i = 18 ∨ i = 19 ∨ i = 20 ∨ i = 21 ∨ i = 22 ∨ i = 23 ∨ i = 24 ∨ i = 25 ∨ i = 26 ∨ i = 27 ∨ i = 28 ∨ i = 29 ∨ i = 30 ∨ i = 31 := by omega
  rcases this with rfl | rfl | rfl | rfl | rfl | rfl | rfl | rfl | rfl | rfl | rfl | rfl | rfl | rfl | rfl | rfl | rfl | rfl | rfl | rfl | rfl | rfl | rfl | rfl | rfl | rfl | rfl | rfl | rfl | rfl | rfl | rfl <;> rfl
theorem tab32_of_laid {W : World} {l : List (String × DataW Unit)} (i : Nat) (h : laidMetH Tryz.prog l W) (hp : (l.all fun x => x.2.handleName?.isNone) = true) (hn : l[i]? = some ("math/bits.deBruijn32tab", Rows.laid_math_bits_deBruijn32tab)) : Big.Tab32 W := by
  obtain ⟨g1, t1, cs1, f1, p1, hg1, ht1, hv1, hd1⟩ := laid_at i h hp hn
  obtain rfl := Option.some.inj (g32.symm.trans hg1)
  obtain rfl := Option.some.inj (t32.symm.trans ht1)
  have hcs := Lib.cells_of_tab (zs := tab32) (k := .u8) Tryz.underlying135 Tryz.underlying5 cells8b cells32 (show DataW.trod _ Tryz.prog W 0 _ false f1 135 cs1.toList = some (Lib.tabData .u8 tab32, p1) from hd1)
  have key : ∀ j, j < 32 → W.cell? ⟨0, j, none⟩ = some (.int .u8 ((Big.tzTab.getD j 0 : Nat) : Int)) := by
    intro j hj
    have hc := World.var?_cell hg1 hv1 j
    have h15 : cs1[j]? = some (.int .u8 ((Big.tzTab.getD j 0 : Nat) : Int)) := by
      rw [← Array.getElem?_toList, hcs]
      exact tab32_get ⟨j, hj⟩
    rw [h15] at hc
    exact hc
  exact ⟨key, World.block_lt_of_cell? W _ (key 0 (by decide))⟩
end Go.Proofs.YtplmldkfgeiklaaGreatDoor
