import Derived.Test.YtplmldkfgeiklaaGreatDoorM4
import Derived.Test.YtplmldkfgeiklaaGreatDoorM19
import Derived.Test.YtplmldkfgeiklaaGreatDoorM20
import Derived.Test.YtplmldkfgeiklaaGreatDoorRows
import Derived.ProofKit
import Derived.LaidMore
import Derived.OpenShut
import Derived.Stop.Joined
import Derived.Lib.LaidTab
import Derived.Carry
import Derived.Handed
import Derived.HandedShaped
import Derived.Deep.Strs
import Derived.ChangeMaps5
import Derived.Lib.SmallJoins
import Derived.Test.YtplmldkfgeiklaaGreatDoorM17
/- mill.Mod. -/
namespace Go.Proofs.YtplmldkfgeiklaaGreatDoor
namespace Big
open Go.RowKit

theorem tmod_mod (v n : Int) (hn : 1 ≤ n) : (if v.tmod n < 0 then v.tmod n + n else v.tmod n) = v % n := by
  have h := Int.tmod_eq_emod (a := v) (b := n)
  have h1 := Int.emod_nonneg v (show n ≠ 0 by omega)
  have h2 := Int.emod_lt_of_pos v (show 0 < n by omega)
  rw [h]
  split <;> split <;> omega
theorem mod_any (w : World) (v n : Int) (_h1 : -9223372036854775808 ≤ v) (_h2 : v ≤ 9223372036854775807) (hn : 1 ≤ n) (hn2 : n ≤ 4611686018427387904) :
    Calls Tryz.prog 16 #[.int .i64 v, .int .i64 n] w fun e w' => e = .returned (.int .i64 (v % n)) ∧ w = w' := by
  have hT := tmod_mod v n hn
  have hne : (n == 0) = false := by rw [beq_eq_false_iff_ne]; omega
  obtain ⟨r, hr⟩ : ∃ r, v.tmod n = r := ⟨_, rfl⟩
  rw [hr] at hT
  have hm1 := Int.emod_nonneg v (show n ≠ 0 by omega)
  have hm2 := Int.emod_lt_of_pos v (show 0 < n by omega)
  by_cases h0 : r < 0
  · rw [if_pos h0] at hT
    have hb1 : -n ≤ r := by omega
    have HT := Lib.hid hT
    clear hT hm1 hm2
    go_enter Tryz.func16, Tryz.ntmps16
    go_wp2_with fail
    go_ret
    exact ⟨congrArg (fun z => Ending.returned (.int .i64 z)) HT.out, rfl⟩
  · rw [if_neg h0] at hT
    have hb1 : r < n := by omega
    have HT := Lib.hid hT
    clear hT hm1 hm2
    go_enter Tryz.func16, Tryz.ntmps16
    go_wp2_with fail
    go_ret
    exact ⟨congrArg (fun z => Ending.returned (.int .i64 z)) HT.out, rfl⟩

end Big
end Go.Proofs.YtplmldkfgeiklaaGreatDoor
/- RationalPowers. Printed by a program. -/
namespace Go.Proofs.YtplmldkfgeiklaaGreatDoor
namespace Big
open Go.RowKit
/-- Both powers: a code and a fraction. -/
theorem pow_both {p : Int} {q : Nat} (hl : Low p q) (a : (limbs p.natAbs).length ≤ 2) (b : (limbs q).length ≤ 2) (n : Int) :
    ∃ (cd : Nat) (P : Int) (Q : Nat), (limbs P.natAbs).length ≤ 64000001 ∧ (limbs Q).length ≤ 64000001 ∧
      (∀ W v, ArrRat W v p q → Calls Tryz.prog 40 #[v, .int .i64 n] W fun e w' => ∃ v', e = .returned (.tuple #[v', .int .i64 (cd : Int)]) ∧ IsRat W.heap.size w' v' P Q ∧ Ext W w') ∧
      (∀ W v, ArrRat W v p q → Calls Tryz.prog 14 #[v, .int .i64 n] W fun e w' => ∃ v', e = .returned (.tuple #[v', .int .i64 (cd : Int)]) ∧ IsRat W.heap.size w' v' P Q ∧ Ext W w') := by
  have z1 : (limbs (0 : Int).natAbs).length ≤ 64000001 := by rw [show limbs (0 : Int).natAbs = [] by decide +kernel]; exact Nat.zero_le _
  have z2 : (limbs 0).length ≤ 64000001 := by rw [show limbs 0 = [] by decide +kernel]; exact Nat.zero_le _
  by_cases h1 : n < -64 ∨ 64 < n
  · exact ⟨1, 0, 0, z1, z2, fun W v x => ppowR_arg W v p q x (by omega) (by omega) n h1, fun W v x => rpowR_arg W v p q x (by omega) (by omega) n h1⟩
  by_cases h2 : n < 0
  · by_cases hp : p = 0
    · exact ⟨2, 0, 0, z1, z2, fun W v x => ppowR_zero W v p q x (by omega) (by omega) n (by omega) h2 hp, fun W v x => rpowR_zero W v p q x (by omega) (by omega) n (by omega) h2 hp⟩
    · obtain ⟨m, rfl⟩ : ∃ m : Nat, n = -(m : Int) := ⟨n.natAbs, by omega⟩
      have hi := sz_inv a b
      exact ⟨0, invP p q ^ m, p.natAbs ^ m, by rw [natAbs_pow7]; exact limbs_pow64 (by omega) (by omega), limbs_pow64 (by omega) (by omega),
        fun W v x => ppowR_neg W v p q x (by omega) (by omega) m (by omega) (by omega) hp, fun W v x => rpowR_neg W v p q x (by omega) (by omega) hl m (by omega) (by omega) hp⟩
  · obtain ⟨m, rfl⟩ := Int.eq_ofNat_of_zero_le (show 0 ≤ n by omega)
    exact ⟨0, p ^ m, q ^ m, by rw [natAbs_pow7]; exact limbs_pow64 (by omega) (by omega), limbs_pow64 (by omega) (by omega),
      fun W v x => ppowR_pos W v p q x (by omega) (by omega) m (by omega), fun W v x => rpowR_pos W v p q x (by omega) (by omega) m (by omega)⟩
set_option maxHeartbeats 4000000 in
set_option maxRecDepth 100000 in
theorem rationalPowers_any (w : World) (b0 : Bool) (m0 d0 : Value) (xs0 ys0 : List Nat) (h0 : Arr w m0 xs0) (e0 : Arr w d0 ys0) (n m : Int) (hn1 : -9223372036854775808 ≤ n) (hn2 : n ≤ 9223372036854775807) (hm1 : -9223372036854775808 ≤ m) (hm2 : m ≤ 9223372036854775807) (hm : MaxV w) (ht : Tab32 w) :
    Calls Tryz.prog 8 #[.agg #[.bool b0, m0, d0], .int .i64 n, .int .i64 m] w fun e w' => e = .returned (.bool true) ∧ Ext w w' := by
  have HAW := Lib.hid (fun W hx => awake07_any W (hm.ext (w' := W) hx) (ht.ext hx))
  have HTW := Lib.hid (fun W (hx : Ext w W) => mrat_any W b0 m0 d0 xs0 ys0 2 (h0.ext hx) (e0.ext hx) (by decide) (by decide))
  rw [show ((2 : Nat) : Int) = 2 from rfl] at HTW
  unfold RatPost at HTW
  have HA129 := Lib.hid (fun W => mod_any W n 129 hn1 hn2 (by decide) (by decide))
  have HA9 := Lib.hid (fun W => mod_any W n 9 hn1 hn2 (by decide) (by decide))
  have HA30 := Lib.hid (fun W => mod_any W n 30 hn1 hn2 (by decide) (by decide))
  have HB30 := Lib.hid (fun W => mod_any W m 30 hm1 hm2 (by decide) (by decide))
  have ha1 := Int.emod_nonneg n (show (129 : Int) ≠ 0 by decide)
  have ha2 := Int.emod_lt_of_pos n (show (0 : Int) < 129 by decide)
  have hb1 := Int.emod_nonneg n (show (9 : Int) ≠ 0 by decide)
  have hb2 := Int.emod_lt_of_pos n (show (0 : Int) < 9 by decide)
  have hc1 := Int.emod_nonneg n (show (30 : Int) ≠ 0 by decide)
  have hc2 := Int.emod_lt_of_pos n (show (0 : Int) < 30 by decide)
  have hd1 := Int.emod_nonneg m (show (30 : Int) ≠ 0 by decide)
  have hd2 := Int.emod_lt_of_pos m (show (0 : Int) < 30 by decide)
  generalize n % 129 = k1 at *
  generalize n % 9 = k2 at *
  generalize n % 30 = i1 at *
  generalize m % 30 = i2 at *
  obtain ⟨i1, rfl⟩ := Int.eq_ofNat_of_zero_le hc1
  obtain ⟨i2, rfl⟩ := Int.eq_ofNat_of_zero_le hd1
  have hw1 : IntKind.i64.wrap (k1 - 64) = k1 - 64 := IntWalk.i64_in _ (by omega)
  have hw2 : IntKind.i64.wrap (k2 - 4) = k2 - 4 := IntWalk.i64_in _ (by omega)
  have hw3 : IntKind.i64.wrap ((i1 : Int) + (i2 : Int)) = (i1 : Int) + (i2 : Int) := IntWalk.i64_in _ (by omega)
  have HIB : Hid (i1 < 30 ∧ i2 < 30) := Lib.hid ⟨by omega, by omega⟩
  clear hn1 hn2 hm1 hm2 hc1 hc2 hd1 hd2
  obtain ⟨l0, A0, c0, rfl⟩ := h0.shape
  obtain ⟨k0, D0, t0, rfl⟩ := e0.shape
  clear h0 e0 hm ht
  go_enter Tryz.func8, Tryz.ntmps8
  go_wp2_with fail
  have hb0 := (Blk.new w 26 #[Value.bool b0, Value.slice A0 l0 c0, Value.slice D0 k0 t0])
  have hxo := ((Ext.refl w).alloc (.cells #[Value.bool b0, Value.slice A0 l0 c0, Value.slice D0 k0 t0] 26))
  have hszo : w.heap.size + 1 = (w.alloc (.cells #[Value.bool b0, Value.slice A0 l0 c0, Value.slice D0 k0 t0] 26)).heap.size := by simp
  generalize w.alloc (.cells #[Value.bool b0, Value.slice A0 l0 c0, Value.slice D0 k0 t0] 26) = wo at *
  have HX := Lib.hid hxo
  have HZ : Hid (w.heap.size + 1 ≤ wo.heap.size) := Lib.hid (by omega)
  have HB0 := Lib.hid hb0
  clear hxo hszo hb0
  refine (HAW.out _ HX.out).mono ?_
  rintro e w11 ⟨rfl, hx10⟩
  have HX := Lib.hid (HX.out.trans hx10)
  have HB0 := Lib.hid (HB0.out.ext hx10)
  clear hx10
  obtain ⟨hb0_0, hb0_1, hb0_2, hb0_3, hb0_4, hb0_5, hb0_6⟩ := HB0.out.three
  go_wp2_with fail
  clear hb0_0 hb0_1 hb0_2 hb0_3 hb0_4 hb0_5 hb0_6
  refine (HTW.out _ HX.out).mono ?_
  rintro e w12 ⟨r11, ok, p, q, rfl, hi11, hl, hx11⟩
  have HX := Lib.hid (HX.out.trans hx11)
  have HB0 := Lib.hid (HB0.out.ext hx11)
  clear hx11
  have QX := Lib.hid hi11
  have HL := Lib.hid hl
  obtain ⟨f11, g11, G11, j11, y11, Y11, z11, rfl⟩ := hi11.shape
  clear hi11 hl
  clear HB0
  cases ok with
  | false =>
    clear HAW HTW HL QX
    go_wp2_with fail
    go_ret
    exact ⟨rfl, HX.out.alloc _⟩
  | true =>
  obtain ⟨hlx, hpx, hqx⟩ := HL.out rfl
  clear HL HAW HTW
  have HPB := Lib.hid (fun k => pow_both hlx hpx hqx k)
  have hib := HIB.out
  have l1 := limbs_pow_le hpx i1
  have l2 := limbs_pow_le hqx i1
  have l3 := limbs_pow_le hpx i2
  have l4 := limbs_pow_le hqx i2
  have l5 := limbs_pow_le hpx (i1 + i2)
  have l6 := limbs_pow_le hqx (i1 + i2)
  have HP1 := Lib.hid (fun W v a => ppowR_pos W v p q a (by omega) (by omega) i1 (by omega))
  have HP2 := Lib.hid (fun W v a => ppowR_pos W v p q a (by omega) (by omega) i2 (by omega))
  have HP3 := Lib.hid (fun W v a => ppowR_pos W v p q a (by omega) (by omega) (i1 + i2) (by omega))
  rw [Int.natCast_add] at HP3
  have hml := pow_add7 hlx i1 i2
  have g1 := low_pow hlx i1
  have g2 := low_pow hlx i2
  have HML := Lib.hid (fun W v u x y => mulR_any W v (p ^ i1) (q ^ i1) x (by rw [natAbs_pow7]; omega) (by omega) u (p ^ i2) (q ^ i2) y (by rw [natAbs_pow7]; omega) (by omega) g1.1 g2.1)
  rw [hml.1, hml.2] at HML
  have HSM := Lib.hid (rsameR_self (p := p ^ (i1 + i2)) (q := q ^ (i1 + i2)) (N := 1000) (by rw [natAbs_pow7]; omega) (by omega) (by decide))
  clear hlx hpx hqx hib l1 l2 l3 l4 l5 l6 hml g1 g2 HIB
  generalize p ^ i1 = pa at *
  generalize q ^ i1 = qa at *
  generalize p ^ i2 = pb at *
  generalize q ^ i2 = qb at *
  generalize p ^ (i1 + i2) = pc at *
  generalize q ^ (i1 + i2) = qc at *
  go_upto_region 6 with fail
  have HLOW := Lib.hid HX.out.size
  have hb12 := Blk.new w12 26 #[Value.bool f11, Value.slice G11 g11 j11, Value.slice Y11 y11 z11]
  have hx12 := (Ext.refl w12).alloc (.cells #[Value.bool f11, Value.slice G11 g11 j11, Value.slice Y11 y11 z11] 26)
  have HX := Lib.hid (HX.out.trans hx12)
  have QX := Lib.hid (QX.out.ext hx12)
  have BX := Lib.hid hb12
  generalize w12.alloc (.cells #[Value.bool f11, Value.slice G11 g11 j11, Value.slice Y11 y11 z11] 26) = w13 at *
  generalize w12.heap.size = a12 at *
  clear hb12 hx12
  obtain ⟨bx_0, bx_1, bx_2, bx_3, bx_4, bx_5, bx_6⟩ := BX.out.three
  go_wp2_with fail
  clear bx_0 bx_1 bx_2 bx_3 bx_4 bx_5 bx_6
  refine (HA129.out _).mono ?_
  rintro e w14 ⟨rfl, rfl⟩
  go_wp2_with fail
  refine (HA9.out _).mono ?_
  rintro e w15 ⟨rfl, rfl⟩
  go_upto_region 7 with fail
  have hb15 := Blk.new w13 3 #[Value.int .i64 n, Value.int .i64 (k1 - 64), Value.int .i64 (k2 - 4)]
  have hx15 := (Ext.refl w13).alloc (.cells #[Value.int .i64 n, Value.int .i64 (k1 - 64), Value.int .i64 (k2 - 4)] 3)
  have HX := Lib.hid (HX.out.trans hx15)
  have QX := Lib.hid (QX.out.ext hx15)
  have BX := Lib.hid (BX.out.ext hx15)
  have BK := Lib.hid hb15
  generalize w13.alloc (.cells #[Value.int .i64 n, Value.int .i64 (k1 - 64), Value.int .i64 (k2 - 4)] 3) = w16 at *
  generalize w13.heap.size = a15 at *
  clear hb15 hx15
  obtain ⟨ks, hks⟩ : ∃ ks : Nat → Int, ks = fun i => if i = 0 then n else if i = 1 then k1 - 64 else k2 - 4 := ⟨_, rfl⟩
  have HKC : Hid (∀ i, i < 3 → ∀ W, Ext w16 W → W.cell? ⟨a15, i, none⟩ = some (.int .i64 (ks i))) := Lib.hid (fun i hi W hx => by
    obtain ⟨a, b, c, _⟩ := (BK.out.ext hx).three
    rw [hks]
    have : i = 0 ∨ i = 1 ∨ i = 2 := by omega
    rcases this with rfl | rfl | rfl
    · exact a
    · exact b
    · exact c)
  have HQX := Lib.hid (fun W (hx : Ext w16 W) => QX.out.ext hx)
  have HBX := Lib.hid (fun W (hx : Ext w16 W) => BX.out.ext hx)
  clear hks BK HA129 HA9
  go_loopw [41] (fun s41 wq => ∃ i : Nat, i ≤ 3 ∧ s41 = .int .i64 (i : Int) ∧ Ext w16 wq) (fun s41 _ => 3 - (intOf s41).toNat)
  case atStart => exact ⟨0, by omega, rfl, Ext.refl _⟩
  case round =>
    obtain ⟨i, hi, rfl, hext⟩ := hrel
    have HEX := Lib.hid hext
    by_cases hlt : i < 3
    · have hx := HKC.out i hlt _ hext
      have hki : (i : Int) < 3 := by omega
      obtain ⟨cd, P, Q, hPl, hQl, hpw, hrpw⟩ := HPB.out (ks i)
      have HPW := Lib.hid hpw
      have HRPW := Lib.hid hrpw
      have HSS := Lib.hid (rsameR_self hPl hQl (by decide))
      have hcd : ((cd : Int) != (cd : Int)) = false := by simp
      clear hPl hQl hpw hrpw hext
      generalize ks i = kk at *
      have HX := Lib.hid (HX.out.trans HEX.out)
      have QX := Lib.hid (HQX.out _ HEX.out)
      have BX := Lib.hid (HBX.out _ HEX.out)
      obtain ⟨bx_0, bx_1, bx_2, bx_3, bx_4, bx_5, bx_6⟩ := BX.out.three
      go_wp2_with fail
      clear hx
      clear bx_0 bx_1 bx_2 bx_3 bx_4 bx_5 bx_6
      refine (HPW.out _ _ QX.out.arr).mono ?_
      rintro e w17 ⟨r16, rfl, hi16, hx16⟩
      have HX := Lib.hid (HX.out.trans hx16)
      have HEX := Lib.hid (HEX.out.trans hx16)
      have QX := Lib.hid (QX.out.ext hx16)
      have BX := Lib.hid (BX.out.ext hx16)
      have QR := Lib.hid hi16
      obtain ⟨f16, g16, G16, j16, y16, Y16, z16, rfl⟩ := hi16.shape
      clear hi16
      clear hx16
      obtain ⟨bx_0, bx_1, bx_2, bx_3, bx_4, bx_5, bx_6⟩ := BX.out.three
      go_upto_region 10 with fail
      clear bx_0 bx_1 bx_2 bx_3 bx_4 bx_5 bx_6
      have hb17 := Blk.new w17 26 #[Value.bool f16, Value.slice G16 g16 j16, Value.slice Y16 y16 z16]
      have hx17 := (Ext.refl w17).alloc (.cells #[Value.bool f16, Value.slice G16 g16 j16, Value.slice Y16 y16 z16] 26)
      have HX := Lib.hid (HX.out.trans hx17)
      have HEX := Lib.hid (HEX.out.trans hx17)
      have QX := Lib.hid (QX.out.ext hx17)
      have QR := Lib.hid (QR.out.ext hx17)
      have BX := Lib.hid (BX.out.ext hx17)
      have BR := Lib.hid hb17
      generalize w17.alloc (.cells #[Value.bool f16, Value.slice G16 g16 j16, Value.slice Y16 y16 z16] 26) = w18 at *
      generalize w17.heap.size = a17 at *
      clear hb17 hx17
      obtain ⟨bx_0, bx_1, bx_2, bx_3, bx_4, bx_5, bx_6⟩ := BX.out.three
      obtain ⟨br_0, br_1, br_2, br_3, br_4, br_5, br_6⟩ := BR.out.three
      go_wp2_with fail
      clear bx_0 bx_1 bx_2 bx_3 bx_4 bx_5 bx_6 br_0 br_1 br_2 br_3 br_4 br_5 br_6
      refine (HRPW.out _ _ QX.out.arr).mono ?_
      rintro e w19 ⟨r18, rfl, hi18, hx18⟩
      have HX := Lib.hid (HX.out.trans hx18)
      have HEX := Lib.hid (HEX.out.trans hx18)
      have QX := Lib.hid (QX.out.ext hx18)
      have QR := Lib.hid (QR.out.ext hx18)
      have BX := Lib.hid (BX.out.ext hx18)
      have BR := Lib.hid (BR.out.ext hx18)
      have QW := Lib.hid hi18
      obtain ⟨f18, g18, G18, j18, y18, Y18, z18, rfl⟩ := hi18.shape
      clear hi18
      clear hx18
      obtain ⟨bx_0, bx_1, bx_2, bx_3, bx_4, bx_5, bx_6⟩ := BX.out.three
      obtain ⟨br_0, br_1, br_2, br_3, br_4, br_5, br_6⟩ := BR.out.three
      go_upto_region 11 with fail
      clear bx_0 bx_1 bx_2 bx_3 bx_4 bx_5 bx_6 br_0 br_1 br_2 br_3 br_4 br_5 br_6
      have hb19 := Blk.new w19 26 #[Value.bool f18, Value.slice G18 g18 j18, Value.slice Y18 y18 z18]
      have hx19 := (Ext.refl w19).alloc (.cells #[Value.bool f18, Value.slice G18 g18 j18, Value.slice Y18 y18 z18] 26)
      have HX := Lib.hid (HX.out.trans hx19)
      have HEX := Lib.hid (HEX.out.trans hx19)
      have QX := Lib.hid (QX.out.ext hx19)
      have QR := Lib.hid (QR.out.ext hx19)
      have QW := Lib.hid (QW.out.ext hx19)
      have BX := Lib.hid (BX.out.ext hx19)
      have BR := Lib.hid (BR.out.ext hx19)
      have BW := Lib.hid hb19
      generalize w19.alloc (.cells #[Value.bool f18, Value.slice G18 g18 j18, Value.slice Y18 y18 z18] 26) = w20 at *
      generalize w19.heap.size = a19 at *
      clear hb19 hx19
      obtain ⟨bx_0, bx_1, bx_2, bx_3, bx_4, bx_5, bx_6⟩ := BX.out.three
      obtain ⟨br_0, br_1, br_2, br_3, br_4, br_5, br_6⟩ := BR.out.three
      obtain ⟨bw_0, bw_1, bw_2, bw_3, bw_4, bw_5, bw_6⟩ := BW.out.three
      go_wp2_with fail
      clear bx_0 bx_1 bx_2 bx_3 bx_4 bx_5 bx_6 br_0 br_1 br_2 br_3 br_4 br_5 br_6 bw_0 bw_1 bw_2 bw_3 bw_4 bw_5 bw_6
      refine (HSS.out _ _ _ QR.out.arr QW.out.arr).mono ?_
      rintro e w21 ⟨rfl, hx20⟩
      have HX := Lib.hid (HX.out.trans hx20)
      have HEX := Lib.hid (HEX.out.trans hx20)
      have QX := Lib.hid (QX.out.ext hx20)
      have QR := Lib.hid (QR.out.ext hx20)
      have QW := Lib.hid (QW.out.ext hx20)
      have BX := Lib.hid (BX.out.ext hx20)
      have BR := Lib.hid (BR.out.ext hx20)
      have BW := Lib.hid (BW.out.ext hx20)
      clear hx20
      go_wp2_with fail
      go_roundw
      case rel => exact ⟨i + 1, by omega, by go_num, HEX.out⟩
      case measure => simp [intOf]; omega
    · obtain rfl : i = 3 := by omega
      have HX := Lib.hid (HX.out.trans HEX.out)
      have QX := Lib.hid (HQX.out _ HEX.out)
      have BX := Lib.hid (HBX.out _ HEX.out)
      clear hext
      obtain ⟨bx_0, bx_1, bx_2, bx_3, bx_4, bx_5, bx_6⟩ := BX.out.three
      go_wp2_with fail
      clear bx_0 bx_1 bx_2 bx_3 bx_4 bx_5 bx_6
      refine (HA30.out _).mono ?_
      rintro e w22 ⟨rfl, rfl⟩
      go_wp2_with fail
      refine (HB30.out _).mono ?_
      rintro e w23 ⟨rfl, rfl⟩
      obtain ⟨bx_0, bx_1, bx_2, bx_3, bx_4, bx_5, bx_6⟩ := BX.out.three
      go_wp2_with fail
      clear bx_0 bx_1 bx_2 bx_3 bx_4 bx_5 bx_6
      refine (HP1.out _ _ QX.out.arr).mono ?_
      rintro e w24 ⟨r23, rfl, hi23, hx23⟩
      have HX := Lib.hid (HX.out.trans hx23)
      have QX := Lib.hid (QX.out.ext hx23)
      have BX := Lib.hid (BX.out.ext hx23)
      have QU := Lib.hid hi23
      obtain ⟨f23, g23, G23, j23, y23, Y23, z23, rfl⟩ := hi23.shape
      clear hi23
      clear hx23
      obtain ⟨bx_0, bx_1, bx_2, bx_3, bx_4, bx_5, bx_6⟩ := BX.out.three
      go_upto_region 16 with fail
      clear bx_0 bx_1 bx_2 bx_3 bx_4 bx_5 bx_6
      have hb24 := Blk.new w24 26 #[Value.bool f23, Value.slice G23 g23 j23, Value.slice Y23 y23 z23]
      have hx24 := (Ext.refl w24).alloc (.cells #[Value.bool f23, Value.slice G23 g23 j23, Value.slice Y23 y23 z23] 26)
      have HX := Lib.hid (HX.out.trans hx24)
      have QX := Lib.hid (QX.out.ext hx24)
      have QU := Lib.hid (QU.out.ext hx24)
      have BX := Lib.hid (BX.out.ext hx24)
      have BU := Lib.hid hb24
      generalize w24.alloc (.cells #[Value.bool f23, Value.slice G23 g23 j23, Value.slice Y23 y23 z23] 26) = w25 at *
      generalize w24.heap.size = a24 at *
      clear hb24 hx24
      obtain ⟨bx_0, bx_1, bx_2, bx_3, bx_4, bx_5, bx_6⟩ := BX.out.three
      obtain ⟨bu_0, bu_1, bu_2, bu_3, bu_4, bu_5, bu_6⟩ := BU.out.three
      go_wp2_with fail
      clear bx_0 bx_1 bx_2 bx_3 bx_4 bx_5 bx_6 bu_0 bu_1 bu_2 bu_3 bu_4 bu_5 bu_6
      refine (HP2.out _ _ QX.out.arr).mono ?_
      rintro e w26 ⟨r25, rfl, hi25, hx25⟩
      have HX := Lib.hid (HX.out.trans hx25)
      have QX := Lib.hid (QX.out.ext hx25)
      have QU := Lib.hid (QU.out.ext hx25)
      have BX := Lib.hid (BX.out.ext hx25)
      have BU := Lib.hid (BU.out.ext hx25)
      have QV := Lib.hid hi25
      obtain ⟨f25, g25, G25, j25, y25, Y25, z25, rfl⟩ := hi25.shape
      clear hi25
      clear hx25
      obtain ⟨bx_0, bx_1, bx_2, bx_3, bx_4, bx_5, bx_6⟩ := BX.out.three
      obtain ⟨bu_0, bu_1, bu_2, bu_3, bu_4, bu_5, bu_6⟩ := BU.out.three
      go_upto_region 17 with fail
      clear bx_0 bx_1 bx_2 bx_3 bx_4 bx_5 bx_6 bu_0 bu_1 bu_2 bu_3 bu_4 bu_5 bu_6
      have hb26 := Blk.new w26 26 #[Value.bool f25, Value.slice G25 g25 j25, Value.slice Y25 y25 z25]
      have hx26 := (Ext.refl w26).alloc (.cells #[Value.bool f25, Value.slice G25 g25 j25, Value.slice Y25 y25 z25] 26)
      have HX := Lib.hid (HX.out.trans hx26)
      have QX := Lib.hid (QX.out.ext hx26)
      have QU := Lib.hid (QU.out.ext hx26)
      have QV := Lib.hid (QV.out.ext hx26)
      have BX := Lib.hid (BX.out.ext hx26)
      have BU := Lib.hid (BU.out.ext hx26)
      have BV := Lib.hid hb26
      generalize w26.alloc (.cells #[Value.bool f25, Value.slice G25 g25 j25, Value.slice Y25 y25 z25] 26) = w27 at *
      generalize w26.heap.size = a26 at *
      clear hb26 hx26
      obtain ⟨bx_0, bx_1, bx_2, bx_3, bx_4, bx_5, bx_6⟩ := BX.out.three
      obtain ⟨bu_0, bu_1, bu_2, bu_3, bu_4, bu_5, bu_6⟩ := BU.out.three
      obtain ⟨bv_0, bv_1, bv_2, bv_3, bv_4, bv_5, bv_6⟩ := BV.out.three
      go_wp2_with fail
      clear bx_0 bx_1 bx_2 bx_3 bx_4 bx_5 bx_6 bu_0 bu_1 bu_2 bu_3 bu_4 bu_5 bu_6 bv_0 bv_1 bv_2 bv_3 bv_4 bv_5 bv_6
      refine (HP3.out _ _ QX.out.arr).mono ?_
      rintro e w28 ⟨r27, rfl, hi27, hx27⟩
      have HX := Lib.hid (HX.out.trans hx27)
      have QX := Lib.hid (QX.out.ext hx27)
      have QU := Lib.hid (QU.out.ext hx27)
      have QV := Lib.hid (QV.out.ext hx27)
      have BX := Lib.hid (BX.out.ext hx27)
      have BU := Lib.hid (BU.out.ext hx27)
      have BV := Lib.hid (BV.out.ext hx27)
      have QS := Lib.hid hi27
      obtain ⟨f27, g27, G27, j27, y27, Y27, z27, rfl⟩ := hi27.shape
      clear hi27
      clear hx27
      obtain ⟨bx_0, bx_1, bx_2, bx_3, bx_4, bx_5, bx_6⟩ := BX.out.three
      obtain ⟨bu_0, bu_1, bu_2, bu_3, bu_4, bu_5, bu_6⟩ := BU.out.three
      obtain ⟨bv_0, bv_1, bv_2, bv_3, bv_4, bv_5, bv_6⟩ := BV.out.three
      go_upto_region 18 with fail
      clear bx_0 bx_1 bx_2 bx_3 bx_4 bx_5 bx_6 bu_0 bu_1 bu_2 bu_3 bu_4 bu_5 bu_6 bv_0 bv_1 bv_2 bv_3 bv_4 bv_5 bv_6
      have hb28 := Blk.new w28 26 #[Value.bool f27, Value.slice G27 g27 j27, Value.slice Y27 y27 z27]
      have hx28 := (Ext.refl w28).alloc (.cells #[Value.bool f27, Value.slice G27 g27 j27, Value.slice Y27 y27 z27] 26)
      have HX := Lib.hid (HX.out.trans hx28)
      have QX := Lib.hid (QX.out.ext hx28)
      have QU := Lib.hid (QU.out.ext hx28)
      have QV := Lib.hid (QV.out.ext hx28)
      have QS := Lib.hid (QS.out.ext hx28)
      have BX := Lib.hid (BX.out.ext hx28)
      have BU := Lib.hid (BU.out.ext hx28)
      have BV := Lib.hid (BV.out.ext hx28)
      have BS := Lib.hid hb28
      generalize w28.alloc (.cells #[Value.bool f27, Value.slice G27 g27 j27, Value.slice Y27 y27 z27] 26) = w29 at *
      generalize w28.heap.size = a28 at *
      clear hb28 hx28
      obtain ⟨bx_0, bx_1, bx_2, bx_3, bx_4, bx_5, bx_6⟩ := BX.out.three
      obtain ⟨bu_0, bu_1, bu_2, bu_3, bu_4, bu_5, bu_6⟩ := BU.out.three
      obtain ⟨bv_0, bv_1, bv_2, bv_3, bv_4, bv_5, bv_6⟩ := BV.out.three
      obtain ⟨bs_0, bs_1, bs_2, bs_3, bs_4, bs_5, bs_6⟩ := BS.out.three
      clear bx_0 bx_1 bx_2 bx_3 bx_4 bx_5 bx_6 bu_0 bu_1 bu_2 bu_3 bu_4 bu_5 bu_6 bv_0 bv_1 bv_2 bv_3 bv_4 bv_5 bv_6 bs_0 bs_1 bs_2 bs_3 bs_4 bs_5 bs_6
      clear BX
      obtain ⟨bu_0, bu_1, bu_2, bu_3, bu_4, bu_5, bu_6⟩ := BU.out.three
      obtain ⟨bv_0, bv_1, bv_2, bv_3, bv_4, bv_5, bv_6⟩ := BV.out.three
      obtain ⟨bs_0, bs_1, bs_2, bs_3, bs_4, bs_5, bs_6⟩ := BS.out.three
      go_region_held3 (fun w' => Ext w29 w' ∧ w'.cell? ⟨a24, 0, none⟩ = some (Value.bool f23) ∧ w'.cell? ⟨a24, 1, none⟩ = some (Value.slice G23 g23 j23) ∧ w'.cell? ⟨a24, 2, none⟩ = some (Value.slice Y23 y23 z23) ∧ w'.cell? ⟨a26, 0, none⟩ = some (Value.bool f25) ∧ w'.cell? ⟨a26, 1, none⟩ = some (Value.slice G25 g25 j25) ∧ w'.cell? ⟨a26, 2, none⟩ = some (Value.slice Y25 y25 z25) ∧ w'.cell? ⟨a28, 0, none⟩ = some (Value.bool f27) ∧ w'.cell? ⟨a28, 1, none⟩ = some (Value.slice G27 g27 j27) ∧ w'.cell? ⟨a28, 2, none⟩ = some (Value.slice Y27 y27 z27))
        (first | (exact ⟨(Ext.refl w29).drew, bu_0, bu_1, bu_2, bv_0, bv_1, bv_2, bs_0, bs_1, bs_2⟩) | (exact keptS9_0 (by assumption) (by assumption)))
        (first
          | (go_at_call 22; have hchk30 := hz29; refine (HSM.out _ _ _ U0.out.arr (QS.out.arr.ext (And.left (by assumption)))).mono ?_; rintro e w31 ⟨rfl, hx30⟩; clear hz29 hchk30; clear U0; have hz30 := hx30.size)
          | (go_at_call 25; refine (HML.out _ _ _ (QU.out.arr.ext (And.left (by assumption))) (QV.out.arr.ext (And.left (by assumption)))).mono ?_; rintro e w30 ⟨r29, rfl, hi29, hx29⟩; have hz29 := hx29.size; have U0 := Lib.hid hi29; obtain ⟨f29, g29, G29, j29, y29, Y29, z29, rfl⟩ := hi29.shape; clear hi29))
      all_goals go_wp2_with fail
      rename_i hS
      have hE := And.left hS
      go_ret
      exact ⟨rfl, HX.out.trans hE⟩
end Big
end Go.Proofs.YtplmldkfgeiklaaGreatDoor
/- The frame round a law's walk: the arguments opened; behind the call they read as they did. -/
namespace Go.Proofs.YtplmldkfgeiklaaGreatDoor
open Go.ChangeShapes Go.WideShapes Go.ChangeAt Go.RowKit

section
variable {H : Type} {enc : TypeId × Value → H} {P : Program}
theorem trodAll_stays (hl : laidOutB P = true) {W W' : World} (hb : Big.Ext W W') : ∀ (ts : List TypeId) (vs : List Value) (ds : List (DataW H)) (ps : List MemPlace),
    (∀ t ∈ ts, P.readableRec t = true ∧ t < P.types.size) → DataW.TrodAll enc P W 0 (fun _ => true) true ts vs ds ps → (∀ x ∈ ps, x.block < W.heap.size) →
    DataW.TrodAll enc P W' 0 (fun b => decide (b < W.heap.size)) true ts vs ds ps
  | [], vs, ds, ps, _, h, _ => by
    obtain ⟨rfl, rfl, rfl⟩ := trodAll_nil h
    exact trodAll_mk0
  | t :: ts, vs, ds, ps, ht, h, hlt => by
    obtain ⟨v, vs', d, ds', p, q, rfl, rfl, rfl, h1, h2⟩ := trodAll_cons h
    exact trodAll_cons_mk (Below.trod hl (ht t (by simp)).1 (ht t (by simp)).2 h1 hb (fun x hx => hlt x (List.mem_append_left _ hx)))
      (trodAll_stays hl hb ts vs' ds' q (fun t' h' => ht t' (by simp [h'])) h2 (fun x hx => hlt x (List.mem_append_right _ hx)))

/-- What the row asks of a law that returned true and left what was there. -/
theorem post_true {f : Func} {s : ChangeSpec} {W W' : World} {args : Array Value} {ds gs : List (DataW H)} {before : List MemPlace} {tb : TypeId} (hl : laidOutB P = true)
    (hts : (f.params.toList.all fun t => P.readableRec t && decide (t < P.types.size)) = true) (hv : s.vars = []) (hr : f.resultTypes = #[tb]) (htb : P.underlying tb = some .bool)
    (hW : DataW.Whole enc P f.params.toList s.vars false W args.toList ds gs before) (hfn : s.fn H ds = { results := [.lit (.bool true)], args := ds }) (hb : Big.Ext W W') :
    s.post enc P f false true false false W args (.bool true) W' := by
  have hlt := hW.lt
  have hW' := hW
  obtain ⟨p, q, hA, hV, rfl, hfz, hnd⟩ := hW
  rw [hv] at hV
  obtain ⟨rfl, rfl⟩ := trodVars_none hV
  have hfn' : s.fn H (ds ++ []) = { results := [.lit (.bool true)], args := ds } := by rw [List.append_nil]; exact hfn
  refine ⟨ds, [], p ++ [], [], p, [], hW', ?_, ?_, ?_, hb.frame _, fun h => by cases h⟩
  · rw [hfn', hr]
    exact trodAll_mk1 (shut_bool htb _)
  · rw [hfn']
    exact trodAll_stays hl hb _ _ _ _ (fun t ht => by
      have := List.all_eq_true.1 hts t ht
      simpa using this) hA (fun x hx => hlt x (by simpa using hx))
  · rw [hfn', hv]
    rfl
end

/-- A law under its row's conditions, with the form of the world at its beginning. -/
theorem handed_and_shaped {H : Type} {enc : TypeId × Value → H} {a : Assume} {C : Checked} {os : Os} {f : FuncId} {fn : Func} {s : ChangeSpec} {conds : List PathCond} {apart fresh handsOn again : Bool} {X : World → Array Value → Prop}
    (hX : ∀ (w w' : World) (args : Array Value), w.heap = w'.heap → X w args → X w' args)
    (own : ownKnob C.prog.godebug = none) (started : os.Started) (noInit : C.prog.inits.idxOf? f = none) (hfn : C.prog.funcs[f]? = some fn)
    (witness : ∃ (w : World) (tape : Tape) (i : Input), w.os = os ∧ (w.forCall tape i).Shaped C.prog ∧ i.vars = [] ∧ Input.okWide C.prog (w.forCall tape i) .any w.heap.size f i ∧
      ((s.pre enc C.prog fn conds apart (w.forCall tape i).memory i.args ∧ X (w.forCall tape i).memory i.args) ∧ sizedMet enc C.prog fn (OpenSpec.ofChange s) apart (w.forCall tape i).memory i.args) ∧ a.holds C.prog (lone (Frame.enter C.prog f i.args .normal) [] (w.forCall tape i)))
    (contract : ∀ (W : World) (base : Nat) (args : Array Value) (ds gs : List (DataW H)) (before : List MemPlace),
      (∀ (j : Nat) t v, fn.params[j]? = some t → args[j]? = some v → Value.okWide C.prog W .any base t v) →
      DataW.Whole enc C.prog fn.params.toList s.vars apart W args.toList ds gs before →
      (DataW.weightsEach C.prog (fn.params.toList ++ s.plain.varTypes C.prog) (ds ++ gs)).all (· ≤ reachBytes) = true → X W args → W.ShapedOpen C.prog →
      Calls C.prog f args W fun e W' => ∃ v, e = .returned v ∧ s.post enc C.prog fn apart fresh handsOn again W args v W') :
    ReturnsInHanded a C os f .any (fun w args => (s.pre enc C.prog fn conds apart w args ∧ X w args) ∧ sizedMet enc C.prog fn (OpenSpec.ofChange s) apart w args) (s.post enc C.prog fn apart fresh handsOn again) := by
  refine returnsInHanded_of_calls own started noInit witness ?_
  intro w tape i _ hsh _ hok hpre hholds
  obtain ⟨_, _, _, fn', hfn', _, _, _, _, hval⟩ := hok
  have e : fn' = fn := Option.some.inj (hfn'.symm.trans hfn)
  subst e
  obtain ⟨⟨⟨ds, gs, before, hw, hc⟩, hx⟩, hz⟩ := hpre
  have hw' := DataW.Whole.of_heap (w' := w.forCall tape i) (by rfl) hw
  refine (contract (w.forCall tape i) w.heap.size i.args ds gs before hval hw' (hz.weights hw) (hX _ _ _ (by rfl) hx) hsh).mono fun e W' ⟨v, he, hp⟩ => ?_
  subst he
  exact ChangeSpec.post_blind hp

theorem laid_out : laidOutB Tryz.prog = true := by kernel_rfl
theorem own : ownKnob Tryz.prog.godebug = none := by kernel_rfl

section
variable {P : Program} {W : World}
/-- One of several variables that a row lists. -/
theorem laidVars_at : ∀ (i : Nat) (l : List (String × DataW Unit)) (ps : List MemPlace) (n : String) (d : DataW Unit), DataW.LaidVars P W l ps → l[i]? = some (n, d) →
    ∃ g t cs f p, P.globalNamed n = some g ∧ (P.globals[g]?).map (·.type) = some t ∧ W.var? P n = some cs ∧ DataW.trod (fun _ => ()) P W 0 (fun _ => true) false f t cs.toList = some (d, p)
  | i, [], ps, n, d, _, hn => by simp at hn
  | 0, x :: l, ps, n, d, h, hn => by
    simp at hn
    subst hn
    obtain ⟨g, t, cs, f, p, q, h1, h2, h3, h4, _, _⟩ := h
    exact ⟨g, t, cs, f, p, h1, h2, h3, h4⟩
  | i + 1, x :: l, ps, n, d, h, hn => by
    obtain ⟨g, t, cs, f, p, q, _, _, _, _, hs, _⟩ := h
    exact laidVars_at i l q n d hs (by simpa using hn)
theorem laid_at (i : Nat) {l : List (String × DataW Unit)} {n : String} {d : DataW Unit} (h : laidMetH P l W) (hp : (l.all fun x => x.2.handleName?.isNone) = true) (hn : l[i]? = some (n, d)) :
    ∃ g t cs f p, P.globalNamed n = some g ∧ (P.globals[g]?).map (·.type) = some t ∧ W.var? P n = some cs ∧ DataW.trod (fun _ => ()) P W 0 (fun _ => true) false f t cs.toList = some (d, p) := by
  rw [MakeChecks.laidMetH_plain _ _ _ hp] at h
  obtain ⟨ps, hv, _⟩ := h
  exact laidVars_at i l ps n d hv hn
end

section
variable {H : Type} {enc : TypeId × Value → H} {W : World} {fuel : Nat} {v : Value} {y : DataW H × List MemPlace}
theorem cellsOf_u32 : Tryz.prog.cellsOf 74 = 1 := by kernel_rfl
/-- A slice of 32-bit digits that came in. -/
theorem arr_of_trod (h : DataW.trod enc Tryz.prog W 0 (fun _ => true) true fuel 22 [v] = some y) : ∃ xs, Big.Arr W v xs := by
  rcases open_ints Tryz.underlying22 Tryz.underlying74 cellsOf_u32 h with ⟨hv, _⟩ | ⟨a, len, cap, zs, hv, _, hl, hm, hz, _, hc, hw⟩
  · injection hv with hv
    subst hv
    exact ⟨[], Big.Arr.none_ W⟩
  · injection hv with hv
    subst hv
    simp only [if_true] at hz
    refine ⟨(zs.take len).map Int.toNat, ?_⟩
    have hlen : ((zs.take len).map Int.toNat).length = len := by simp; omega
    have hok : Big.Ok ((zs.take len).map Int.toNat) := fun x hx => by
      obtain ⟨n, hn, rfl⟩ := List.mem_map.1 hx
      have := bounds_u32 (hw n (List.mem_of_mem_take hn))
      omega
    have key := Big.Arr.mk (w := W) (A := some a) (c := cap) hok (by rw [hlen]; exact hl) hm (fun hp => by
      rw [hlen] at hp ⊢
      obtain ⟨b, off, rfl, hcell⟩ := ints_at hc (by omega)
      have h0 := hcell 0 (by omega)
      refine ⟨b, off, rfl, World.block_lt_of_cell? W _ h0, fun j hj => ?_⟩
      rw [hcell j (by omega)]
      have hj2 : j < zs.length := by omega
      have hb := bounds_u32 (hw zs[j] (List.getElem_mem hj2))
      have e1 : zs.getD j 0 = zs[j] := by rw [List.getD_eq_getElem?_getD, List.getElem?_eq_getElem hj2]; rfl
      have e2 : ((zs.take len).map Int.toNat).getD j 0 = zs[j].toNat := by
        rw [List.getD_eq_getElem?_getD, List.getElem?_map, List.getElem?_take_of_lt hj, List.getElem?_eq_getElem hj2]; rfl
      rw [e1, e2]
      unfold Big.d32
      rw [Int.toNat_of_nonneg hb.1])
    rw [hlen] at key
    exact key
theorem bool_of_trod (h : DataW.trod enc Tryz.prog W 0 (fun _ => true) true fuel 4 [v] = some y) : ∃ b, v = .bool b := by
  obtain ⟨b, hb, _⟩ := DataW.trod_bool Tryz.underlying4 h
  injection hb with hb
  exact ⟨b, hb⟩
end
section
variable {H : Type} {enc : TypeId × Value → H} {W : World} {v : Value} {d : DataW H} {p : List MemPlace} {r : Reach} {b0 : Nat}
set_option maxRecDepth 100000 in
theorem open_u32s (hv : Value.okWide Tryz.prog W r b0 22 v) (h : DataW.Trod enc Tryz.prog W 0 (fun _ => true) true 22 v d p) : ∃ xs, Big.Arr W v xs := by
  obtain ⟨a, len, cap, rfl⟩ := okWide_slice Tryz.underlying22 hv
  obtain ⟨fuel, hf⟩ := h
  obtain ⟨xs, hxs⟩ := arr_of_trod (by simpa [Value.cells] using hf)
  exact ⟨xs, hxs⟩
end
theorem byte_of_wf {z : Int} (w : (Lit.int .u8 z).wf = true) : ∃ d : UInt8, z = (d.toNat : Int) := by
  have h := bounds_u8 w
  refine ⟨UInt8.ofNat z.toNat, ?_⟩
  have e : (UInt8.ofNat z.toNat).toNat = z.toNat % 2 ^ 8 := UInt8.toNat_ofNat'
  rw [e, Nat.mod_eq_of_lt (by omega)]
  omega
theorem u64_of_wf {z : Int} (w : (Lit.int .u64 z).wf = true) : ∃ n : Nat, n < 18446744073709551616 ∧ z = (n : Int) := by
  have h := bounds_u64 w
  exact ⟨z.toNat, by omega, by omega⟩
theorem str_of_bytes {s : ByteArray} (h : s.size ≤ maxLen) : ∃ l : List UInt8, l.length ≤ maxLen ∧ s = ⟨l.toArray⟩ := by
  refine ⟨s.data.toList, by simpa using h, ?_⟩
  apply ByteArray.ext
  simp
end Go.Proofs.YtplmldkfgeiklaaGreatDoor
/- What the condition on the table of lowest bits gives the walks. -/
namespace Go.Proofs.YtplmldkfgeiklaaGreatDoor
open Go.ChangeShapes Go.WideShapes Go.ChangeAt Go.RowKit
theorem g32 : Tryz.prog.globalNamed "math/bits.deBruijn32tab" = some 0 := by kernel_rfl
theorem t32 : (Tryz.prog.globals[0]?).map (·.type) = some 135 := by kernel_rfl
theorem cells32 : Tryz.prog.cellsOf 135 = 32 := by kernel_rfl
theorem cells8b : Tryz.prog.cellsOf 5 = 1 := by kernel_rfl
def tab32 : List Int := [0, 1, 28, 2, 29, 14, 24, 3, 30, 22, 20, 15, 25, 17, 4, 8, 31, 27, 13, 23, 21, 19, 16, 7, 26, 12, 18, 6, 11, 5, 10, 9]
theorem tab32_get : ∀ i : Fin 32, (tab32.map (fun z => Value.int .u8 z))[i.val]? = some (.int .u8 ((Big.tzTab.getD i.val 0 : Nat) : Int)) := by
  intro ⟨i, hi⟩
  have : i = 0 ∨ i = 1 ∨ i = 2 ∨ i = 3 ∨ i = 4 ∨ i = 5 ∨ i = 6 ∨ i = 7 ∨ i = 8 ∨ i = 9 ∨ i = 10 ∨ i = 11 ∨ i = 12 ∨ i = 13 ∨ i = 14 ∨ i = 15 ∨ i = 16 ∨ i = 17 ∨ i = 18 ∨ i = 19 ∨ i = 20 ∨ i = 21 ∨ i = 22 ∨ i = 23 ∨ i = 24 ∨ i = 25 ∨ i = 26 ∨ i = 27 ∨ i = 28 ∨ i = 29 ∨ i = 30 ∨ i = 31 := by omega
  rcases this with rfl | rfl | rfl | rfl | rfl | rfl | rfl | rfl | rfl | rfl | rfl | rfl | rfl | rfl | rfl | rfl | rfl | rfl | rfl | rfl | rfl | rfl | rfl | rfl | rfl | rfl | rfl | rfl | rfl | rfl | rfl | rfl <;> rfl
theorem tab32_of_laid {W : World} {l : List (String × DataW Unit)} (i : Nat) (h : laidMetH Tryz.prog l W) (hp : (l.all fun x => x.2.handleName?.isNone) = true) (hn : l[i]? = some ("math/bits.deBruijn32tab", Rows.laid_math_bits_deBruijn32tab)) : Big.Tab32 W := by
  obtain ⟨g1, t1, cs1, f1, p1, hg1, ht1, hv1, hd1⟩ := laid_at i h hp hn
  obtain rfl := Option.some.inj (g32.symm.trans hg1)
  obtain rfl := Option.some.inj (t32.symm.trans ht1)
  have hcs := Lib.cells_of_tab (zs := tab32) (k := .u8) Tryz.underlying135 Tryz.underlying5 cells8b cells32 (show DataW.trod _ Tryz.prog W 0 _ false f1 135 cs1.toList = some (Lib.tabData .u8 tab32, p1) from hd1)
  have key : ∀ j, j < 32 → W.cell? ⟨0, j, none⟩ = some (.int .u8 ((Big.tzTab.getD j 0 : Nat) : Int)) := by
    intro j hj
    have hc := World.var?_cell hg1 hv1 j
    have h15 : cs1[j]? = some (.int .u8 ((Big.tzTab.getD j 0 : Nat) : Int)) := by
      rw [← Array.getElem?_toList, hcs]
      exact tab32_get ⟨j, hj⟩
    rw [h15] at hc
    exact hc
  exact ⟨key, World.block_lt_of_cell? W _ (key 0 (by decide))⟩
end Go.Proofs.YtplmldkfgeiklaaGreatDoor
