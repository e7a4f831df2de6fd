import Derived.Test.YtplmldkfgeiklaaGreatDoorM18
import Derived.Test.YtplmldkfgeiklaaGreatDoorM11
import Derived.Test.YtplmldkfgeiklaaGreatDoorM15
import Derived.Test.YtplmldkfgeiklaaGreatDoorM5
import Derived.Test.YtplmldkfgeiklaaGreatDoorM14
import Derived.Test.YtplmldkfgeiklaaGreatDoorM6
import Derived.Lib.ConvBytes
import Derived.Test.YtplmldkfgeiklaaGreatDoorM16
/- awake of chapter 07. Printed by a program. -/
namespace Go.Proofs.YtplmldkfgeiklaaGreatDoor
namespace Big
open Go.RowKit
theorem strip_uniq52 {t f t' f' : Nat} (h : 5 ^ f * 2 ^ t = 5 ^ f' * 2 ^ t') : t = t' ∧ f = f' := by
  have hc25 : Nat.Coprime 2 5 := by decide
  have e2 : ∀ {a b : Nat}, Strip 2 (5 ^ a * 2 ^ b) (5 ^ a) b := fun {a b} => ⟨rfl, fun hd => by
    have := (hc25.pow_right a).eq_one_of_dvd hd
    cases this⟩
  have h1 := (e2 (a := f) (b := t)).uniq (by decide) (by rw [h]; exact e2)
  refine ⟨h1.2, ?_⟩
  have e5 : ∀ {a : Nat}, Strip 5 (5 ^ a) 1 a := fun {a} => ⟨by rw [Nat.one_mul], by decide⟩
  have h2 := (e5 (a := f)).uniq (by decide) (by rw [h1.1]; exact e5)
  exact h2.2
theorem decPost_25 {w : World} {e : Ending} {w' : World} (h : DecPost 25 2 w e w') : e = .returned (.tuple #[.string ⟨#[49, 50, 46, 53]⟩, .bool true]) ∧ Ext w w' := by
  obtain ⟨hx, h | h⟩ := h
  · obtain ⟨t, f, _, hq, rfl⟩ := h
    obtain ⟨rfl, rfl⟩ := strip_uniq52 (t := 1) (f := 0) (by rw [← hq])
    exact ⟨by congr 4, hx⟩
  · obtain ⟨h | h, _⟩ := h
    · omega
    · exact absurd ⟨1, 0, rfl⟩ h
theorem sqrtPost_94 {w : World} {e : Ending} {w' : World} (h : SqrtPost 9 4 w e w') : ∃ v', e = .returned (.tuple #[v', .bool true]) ∧ IsRat w.heap.size w' v' 3 2 ∧ Ext w w' := by
  obtain ⟨v', hx, h | h⟩ := h
  · obtain ⟨r, s, h1, h2, he, hi⟩ := h
    have hr : r = 3 := by
      have h3 : r * r = 9 := by omega
      exact (IsSq.uniq (a := 9) ⟨by omega, by rw [Nat.add_mul, Nat.mul_add]; omega⟩ (show IsSq 9 3 by unfold IsSq; omega))
    have hs : s = 2 := (IsSq.uniq (a := 4) ⟨by omega, by rw [Nat.add_mul, Nat.mul_add]; omega⟩ (show IsSq 4 2 by unfold IsSq; omega))
    subst hr
    subst hs
    exact ⟨v', he, hi, hx⟩
  · exact absurd ⟨3, 2, rfl, rfl⟩ h.1
theorem make_64 : makeN 6 (-4) = -3 ∧ makeD 6 (-4) = 2 := by decide +kernel
theorem make_252 : makeN 25 2 = 25 ∧ makeD 25 2 = 2 := by decide +kernel
theorem make_94 : makeN 9 4 = 9 ∧ makeD 9 4 = 4 := by decide +kernel
theorem small_len : (limbs 6).length ≤ 10 ∧ (limbs 4).length ≤ 10 ∧ (limbs 25).length ≤ 10 ∧ (limbs 2).length ≤ 10 ∧ (limbs 9).length ≤ 10 ∧ (limbs 3).length ≤ 10 := by decide +kernel
theorem code_050 : code7 [48, 46, 53, 48] = 6 ∧ code7 [46, 53] = 6 := by decide +kernel
set_option maxHeartbeats 2000000 in
set_option maxRecDepth 100000 in
theorem awake07_any (w : World) (hm : MaxV w) (ht : Tab32 w) : Calls Tryz.prog 12 #[] w fun e w' => e = .returned (.bool true) ∧ Ext w w' := by
  obtain ⟨l6, l4, l25, l2, l9, l3⟩ := small_len
  have HO6 := Lib.hid (fun W => iof_any W 6 (by decide) (by decide))
  have HO4m := Lib.hid (fun W => iof_any W (-4) (by decide) (by decide))
  have HO25 := Lib.hid (fun W => iof_any W 25 (by decide) (by decide))
  have HO2 := Lib.hid (fun W => iof_any W 2 (by decide) (by decide))
  have HO9 := Lib.hid (fun W => iof_any W 9 (by decide) (by decide))
  have HO4 := Lib.hid (fun W => iof_any W 4 (by decide) (by decide))
  have HM1 := Lib.hid (fun W v u a b => pmake_pos W v 6 a (Nat.le_trans l6 (by decide)) u (-4) b (Nat.le_trans l4 (by decide)) (by decide))
  rw [make_64.1, make_64.2] at HM1
  have HM2 := Lib.hid (fun W v u a b => pmake_pos W v 25 a (Nat.le_trans l25 (by decide)) u 2 b (Nat.le_trans l2 (by decide)) (by decide))
  rw [make_252.1, make_252.2] at HM2
  have HM3 := Lib.hid (fun W v u a b => pmake_pos W v 9 a (Nat.le_trans l9 (by decide)) u 4 b (Nat.le_trans l4 (by decide)) (by decide))
  rw [make_94.1, make_94.2] at HM3
  have HDC := Lib.hid (fun W v a (hx : Ext w W) => (decR_any W v 25 2 a (Nat.le_trans l25 (by decide)) (Nat.le_trans l2 (by decide)) (by decide) (ht.ext hx)).mono fun _ _ h => decPost_25 h)
  have HSQ := Lib.hid (fun W v a => (sqrtR_any W v 9 4 a (Nat.le_trans l9 (by decide)) (Nat.le_trans l4 (by decide))).mono fun _ _ h => sqrtPost_94 h)
  have HP1 := Lib.hid (fun W hx => parse7_any W [48, 46, 53, 48] (hm.ext (w' := W) hx))
  have HP2 := Lib.hid (fun W hx => parse7_any W [46, 53] (hm.ext (w' := W) hx))
  unfold ParseRes7 at HP1 HP2
  rw [code_050.1] at HP1
  rw [code_050.2] at HP2
  have HNG := Lib.hid (fun W v a => rnegR_any W v 3 2 a (Nat.le_trans l3 (by decide)) (Nat.le_trans l2 (by decide)))
  have HSM := Lib.hid (fun W v a u b => rsameR_any W v (-3) 2 a (Nat.le_trans l3 (by decide)) (Nat.le_trans l2 (by decide)) u (-3) 2 b (Nat.le_trans l3 (by decide)) (Nat.le_trans l2 (by decide)))
  have hs1 : str [48, 46, 53, 48] = .string ⟨#[48, 46, 53, 48]⟩ := rfl
  have hs2 : str [46, 53] = .string ⟨#[46, 53]⟩ := rfl
  rw [hs1] at HP1
  rw [hs2] at HP2
  have HX := Lib.hid (Ext.refl w)
  clear l6 l4 l25 l2 l9 l3 hs1 hs2 hm ht
  go_enter Tryz.func12, Tryz.ntmps12
  go_wp2_with fail
  refine (HO6.out _).mono ?_
  rintro e w1 ⟨r0, rfl, hi0, hx0⟩
  have HX := Lib.hid (HX.out.trans hx0)
  have N0 := Lib.hid hi0
  obtain ⟨f0, g0, G0, j0, rfl⟩ := hi0.shape
  clear hi0
  clear hx0
  go_wp2_with fail
  refine (HO4m.out _).mono ?_
  rintro e w2 ⟨r1, rfl, hi1, hx1⟩
  have HX := Lib.hid (HX.out.trans hx1)
  have N0 := Lib.hid (N0.out.ext hx1)
  have N1 := Lib.hid hi1
  obtain ⟨f1, g1, G1, j1, rfl⟩ := hi1.shape
  clear hi1
  clear hx1
  go_wp2_with fail
  refine (HM1.out _ _ _ N0.out.arr N1.out.arr).mono ?_
  rintro e w3 ⟨r2, rfl, hi2, hx2⟩
  have HX := Lib.hid (HX.out.trans hx2)
  have N0 := Lib.hid (N0.out.ext hx2)
  have N1 := Lib.hid (N1.out.ext hx2)
  have QX := Lib.hid hi2
  obtain ⟨f2, g2, G2, j2, y2, Y2, z2, rfl⟩ := hi2.shape
  clear hi2
  clear hx2
  clear N0 N1
  go_wp2_with fail
  have hb3 := Blk.new w3 26 #[Value.bool f2, Value.slice G2 g2 j2, Value.slice Y2 y2 z2]
  have hx3 := (Ext.refl w3).alloc (.cells #[Value.bool f2, Value.slice G2 g2 j2, Value.slice Y2 y2 z2] 26)
  have HX := Lib.hid (HX.out.trans hx3)
  have QX := Lib.hid (QX.out.ext hx3)
  have BX := Lib.hid hb3
  generalize w3.alloc (.cells #[Value.bool f2, Value.slice G2 g2 j2, Value.slice Y2 y2 z2] 26) = w4 at *
  generalize w3.heap.size = a3 at *
  clear hb3 hx3
  refine (HO25.out _).mono ?_
  rintro e w5 ⟨r4, rfl, hi4, hx4⟩
  have HX := Lib.hid (HX.out.trans hx4)
  have QX := Lib.hid (QX.out.ext hx4)
  have BX := Lib.hid (BX.out.ext hx4)
  have N0 := Lib.hid hi4
  obtain ⟨f4, g4, G4, j4, rfl⟩ := hi4.shape
  clear hi4
  clear hx4
  go_wp2_with fail
  refine (HO2.out _).mono ?_
  rintro e w6 ⟨r5, rfl, hi5, hx5⟩
  have HX := Lib.hid (HX.out.trans hx5)
  have QX := Lib.hid (QX.out.ext hx5)
  have N0 := Lib.hid (N0.out.ext hx5)
  have BX := Lib.hid (BX.out.ext hx5)
  have N1 := Lib.hid hi5
  obtain ⟨f5, g5, G5, j5, rfl⟩ := hi5.shape
  clear hi5
  clear hx5
  go_wp2_with fail
  refine (HM2.out _ _ _ N0.out.arr N1.out.arr).mono ?_
  rintro e w7 ⟨r6, rfl, hi6, hx6⟩
  have HX := Lib.hid (HX.out.trans hx6)
  have QX := Lib.hid (QX.out.ext hx6)
  have N0 := Lib.hid (N0.out.ext hx6)
  have N1 := Lib.hid (N1.out.ext hx6)
  have BX := Lib.hid (BX.out.ext hx6)
  have QH := Lib.hid hi6
  obtain ⟨f6, g6, G6, j6, y6, Y6, z6, rfl⟩ := hi6.shape
  clear hi6
  clear hx6
  clear N0 N1
  obtain ⟨bx_0, bx_1, bx_2, bx_3, bx_4, bx_5, bx_6⟩ := BX.out.three
  go_wp2_with fail
  clear bx_0 bx_1 bx_2 bx_3 bx_4 bx_5 bx_6
  have hb7 := Blk.new w7 26 #[Value.bool f6, Value.slice G6 g6 j6, Value.slice Y6 y6 z6]
  have hx7 := (Ext.refl w7).alloc (.cells #[Value.bool f6, Value.slice G6 g6 j6, Value.slice Y6 y6 z6] 26)
  have HX := Lib.hid (HX.out.trans hx7)
  have QX := Lib.hid (QX.out.ext hx7)
  have QH := Lib.hid (QH.out.ext hx7)
  have BX := Lib.hid (BX.out.ext hx7)
  have BH := Lib.hid hb7
  generalize w7.alloc (.cells #[Value.bool f6, Value.slice G6 g6 j6, Value.slice Y6 y6 z6] 26) = w8 at *
  generalize w7.heap.size = a7 at *
  clear hb7 hx7
  refine (HDC.out _ _ QH.out.arr HX.out).mono ?_
  rintro e w9 ⟨rfl, hx8⟩
  have HX := Lib.hid (HX.out.trans hx8)
  have QX := Lib.hid (QX.out.ext hx8)
  have QH := Lib.hid (QH.out.ext hx8)
  have BX := Lib.hid (BX.out.ext hx8)
  have BH := Lib.hid (BH.out.ext hx8)
  clear hx8
  obtain ⟨bx_0, bx_1, bx_2, bx_3, bx_4, bx_5, bx_6⟩ := BX.out.three
  obtain ⟨bh_0, bh_1, bh_2, bh_3, bh_4, bh_5, bh_6⟩ := BH.out.three
  go_wp2_with fail
  clear bx_0 bx_1 bx_2 bx_3 bx_4 bx_5 bx_6 bh_0 bh_1 bh_2 bh_3 bh_4 bh_5 bh_6
  refine (HP1.out _ HX.out).mono ?_
  rintro e w10 ⟨r9, rfl, hi9, hx9⟩
  have HX := Lib.hid (HX.out.trans hx9)
  have QX := Lib.hid (QX.out.ext hx9)
  have QH := Lib.hid (QH.out.ext hx9)
  have BX := Lib.hid (BX.out.ext hx9)
  have BH := Lib.hid (BH.out.ext hx9)
  have QP := Lib.hid hi9
  obtain ⟨f9, g9, G9, j9, y9, Y9, z9, rfl⟩ := hi9.shape
  clear hi9
  clear hx9
  obtain ⟨bx_0, bx_1, bx_2, bx_3, bx_4, bx_5, bx_6⟩ := BX.out.three
  obtain ⟨bh_0, bh_1, bh_2, bh_3, bh_4, bh_5, bh_6⟩ := BH.out.three
  go_wp2_with fail
  clear bx_0 bx_1 bx_2 bx_3 bx_4 bx_5 bx_6 bh_0 bh_1 bh_2 bh_3 bh_4 bh_5 bh_6
  have hb10 := Blk.new w10 26 #[Value.bool f9, Value.slice G9 g9 j9, Value.slice Y9 y9 z9]
  have hx10 := (Ext.refl w10).alloc (.cells #[Value.bool f9, Value.slice G9 g9 j9, Value.slice Y9 y9 z9] 26)
  have HX := Lib.hid (HX.out.trans hx10)
  have QX := Lib.hid (QX.out.ext hx10)
  have QH := Lib.hid (QH.out.ext hx10)
  have QP := Lib.hid (QP.out.ext hx10)
  have BX := Lib.hid (BX.out.ext hx10)
  have BH := Lib.hid (BH.out.ext hx10)
  have BP := Lib.hid hb10
  generalize w10.alloc (.cells #[Value.bool f9, Value.slice G9 g9 j9, Value.slice Y9 y9 z9] 26) = w11 at *
  generalize w10.heap.size = a10 at *
  clear hb10 hx10
  clear QP BP
  refine (HP2.out _ HX.out).mono ?_
  rintro e w12 ⟨r11, rfl, hi11, hx11⟩
  have HX := Lib.hid (HX.out.trans hx11)
  have QX := Lib.hid (QX.out.ext hx11)
  have QH := Lib.hid (QH.out.ext hx11)
  have BX := Lib.hid (BX.out.ext hx11)
  have BH := Lib.hid (BH.out.ext hx11)
  have QS := Lib.hid hi11
  obtain ⟨f11, g11, G11, j11, y11, Y11, z11, rfl⟩ := hi11.shape
  clear hi11
  clear hx11
  obtain ⟨bx_0, bx_1, bx_2, bx_3, bx_4, bx_5, bx_6⟩ := BX.out.three
  obtain ⟨bh_0, bh_1, bh_2, bh_3, bh_4, bh_5, bh_6⟩ := BH.out.three
  go_wp2_with fail
  clear bx_0 bx_1 bx_2 bx_3 bx_4 bx_5 bx_6 bh_0 bh_1 bh_2 bh_3 bh_4 bh_5 bh_6
  have hb12 := Blk.new w12 26 #[Value.bool f11, Value.slice G11 g11 j11, Value.slice Y11 y11 z11]
  have hx12 := (Ext.refl w12).alloc (.cells #[Value.bool f11, Value.slice G11 g11 j11, Value.slice Y11 y11 z11] 26)
  have HX := Lib.hid (HX.out.trans hx12)
  have QX := Lib.hid (QX.out.ext hx12)
  have QH := Lib.hid (QH.out.ext hx12)
  have QS := Lib.hid (QS.out.ext hx12)
  have BX := Lib.hid (BX.out.ext hx12)
  have BH := Lib.hid (BH.out.ext hx12)
  have BS := Lib.hid hb12
  generalize w12.alloc (.cells #[Value.bool f11, Value.slice G11 g11 j11, Value.slice Y11 y11 z11] 26) = w13 at *
  generalize w12.heap.size = a12 at *
  clear hb12 hx12
  clear QS BS
  refine (HO9.out _).mono ?_
  rintro e w14 ⟨r13, rfl, hi13, hx13⟩
  have HX := Lib.hid (HX.out.trans hx13)
  have QX := Lib.hid (QX.out.ext hx13)
  have QH := Lib.hid (QH.out.ext hx13)
  have BX := Lib.hid (BX.out.ext hx13)
  have BH := Lib.hid (BH.out.ext hx13)
  have N0 := Lib.hid hi13
  obtain ⟨f13, g13, G13, j13, rfl⟩ := hi13.shape
  clear hi13
  clear hx13
  go_wp2_with fail
  refine (HO4.out _).mono ?_
  rintro e w15 ⟨r14, rfl, hi14, hx14⟩
  have HX := Lib.hid (HX.out.trans hx14)
  have QX := Lib.hid (QX.out.ext hx14)
  have QH := Lib.hid (QH.out.ext hx14)
  have N0 := Lib.hid (N0.out.ext hx14)
  have BX := Lib.hid (BX.out.ext hx14)
  have BH := Lib.hid (BH.out.ext hx14)
  have N1 := Lib.hid hi14
  obtain ⟨f14, g14, G14, j14, rfl⟩ := hi14.shape
  clear hi14
  clear hx14
  go_wp2_with fail
  refine (HM3.out _ _ _ N0.out.arr N1.out.arr).mono ?_
  rintro e w16 ⟨r15, rfl, hi15, hx15⟩
  have HX := Lib.hid (HX.out.trans hx15)
  have QX := Lib.hid (QX.out.ext hx15)
  have QH := Lib.hid (QH.out.ext hx15)
  have N0 := Lib.hid (N0.out.ext hx15)
  have N1 := Lib.hid (N1.out.ext hx15)
  have BX := Lib.hid (BX.out.ext hx15)
  have BH := Lib.hid (BH.out.ext hx15)
  have QN := Lib.hid hi15
  obtain ⟨f15, g15, G15, j15, y15, Y15, z15, rfl⟩ := hi15.shape
  clear hi15
  clear hx15
  clear N0 N1
  obtain ⟨bx_0, bx_1, bx_2, bx_3, bx_4, bx_5, bx_6⟩ := BX.out.three
  obtain ⟨bh_0, bh_1, bh_2, bh_3, bh_4, bh_5, bh_6⟩ := BH.out.three
  go_wp2_with fail
  clear bx_0 bx_1 bx_2 bx_3 bx_4 bx_5 bx_6 bh_0 bh_1 bh_2 bh_3 bh_4 bh_5 bh_6
  have hb16 := Blk.new w16 26 #[Value.bool f15, Value.slice G15 g15 j15, Value.slice Y15 y15 z15]
  have hx16 := (Ext.refl w16).alloc (.cells #[Value.bool f15, Value.slice G15 g15 j15, Value.slice Y15 y15 z15] 26)
  have HX := Lib.hid (HX.out.trans hx16)
  have QX := Lib.hid (QX.out.ext hx16)
  have QH := Lib.hid (QH.out.ext hx16)
  have QN := Lib.hid (QN.out.ext hx16)
  have BX := Lib.hid (BX.out.ext hx16)
  have BH := Lib.hid (BH.out.ext hx16)
  have BN := Lib.hid hb16
  generalize w16.alloc (.cells #[Value.bool f15, Value.slice G15 g15 j15, Value.slice Y15 y15 z15] 26) = w17 at *
  generalize w16.heap.size = a16 at *
  clear hb16 hx16
  refine (HSQ.out _ _ QN.out.arr).mono ?_
  rintro e w18 ⟨r17, rfl, hi17, hx17⟩
  have HX := Lib.hid (HX.out.trans hx17)
  have QX := Lib.hid (QX.out.ext hx17)
  have QH := Lib.hid (QH.out.ext hx17)
  have QN := Lib.hid (QN.out.ext hx17)
  have BX := Lib.hid (BX.out.ext hx17)
  have BH := Lib.hid (BH.out.ext hx17)
  have BN := Lib.hid (BN.out.ext hx17)
  have QR := Lib.hid hi17
  obtain ⟨f17, g17, G17, j17, y17, Y17, z17, rfl⟩ := hi17.shape
  clear hi17
  clear hx17
  obtain ⟨bx_0, bx_1, bx_2, bx_3, bx_4, bx_5, bx_6⟩ := BX.out.three
  obtain ⟨bh_0, bh_1, bh_2, bh_3, bh_4, bh_5, bh_6⟩ := BH.out.three
  obtain ⟨bn_0, bn_1, bn_2, bn_3, bn_4, bn_5, bn_6⟩ := BN.out.three
  go_upto_region 8 with fail
  clear bx_0 bx_1 bx_2 bx_3 bx_4 bx_5 bx_6 bh_0 bh_1 bh_2 bh_3 bh_4 bh_5 bh_6 bn_0 bn_1 bn_2 bn_3 bn_4 bn_5 bn_6
  have hb18 := Blk.new w18 26 #[Value.bool f17, Value.slice G17 g17 j17, Value.slice Y17 y17 z17]
  have hx18 := (Ext.refl w18).alloc (.cells #[Value.bool f17, Value.slice G17 g17 j17, Value.slice Y17 y17 z17] 26)
  have HX := Lib.hid (HX.out.trans hx18)
  have QX := Lib.hid (QX.out.ext hx18)
  have QH := Lib.hid (QH.out.ext hx18)
  have QN := Lib.hid (QN.out.ext hx18)
  have QR := Lib.hid (QR.out.ext hx18)
  have BX := Lib.hid (BX.out.ext hx18)
  have BH := Lib.hid (BH.out.ext hx18)
  have BN := Lib.hid (BN.out.ext hx18)
  have BR := Lib.hid hb18
  generalize w18.alloc (.cells #[Value.bool f17, Value.slice G17 g17 j17, Value.slice Y17 y17 z17] 26) = w19 at *
  generalize w18.heap.size = a18 at *
  clear hb18 hx18
  obtain ⟨bx_0, bx_1, bx_2, bx_3, bx_4, bx_5, bx_6⟩ := BX.out.three
  obtain ⟨bh_0, bh_1, bh_2, bh_3, bh_4, bh_5, bh_6⟩ := BH.out.three
  obtain ⟨bn_0, bn_1, bn_2, bn_3, bn_4, bn_5, bn_6⟩ := BN.out.three
  obtain ⟨br_0, br_1, br_2, br_3, br_4, br_5, br_6⟩ := BR.out.three
  clear bx_0 bx_1 bx_2 bx_3 bx_4 bx_5 bx_6 bh_0 bh_1 bh_2 bh_3 bh_4 bh_5 bh_6 bn_0 bn_1 bn_2 bn_3 bn_4 bn_5 bn_6 br_0 br_1 br_2 br_3 br_4 br_5 br_6
  obtain ⟨bx_0, bx_1, bx_2, bx_3, bx_4, bx_5, bx_6⟩ := BX.out.three
  obtain ⟨br_0, br_1, br_2, br_3, br_4, br_5, br_6⟩ := BR.out.three
  go_region_held3 (fun w' => Ext w19 w' ∧ w'.cell? ⟨a3, 0, none⟩ = some (Value.bool f2) ∧ w'.cell? ⟨a3, 1, none⟩ = some (Value.slice G2 g2 j2) ∧ w'.cell? ⟨a3, 2, none⟩ = some (Value.slice Y2 y2 z2) ∧ w'.cell? ⟨a18, 0, none⟩ = some (Value.bool f17) ∧ w'.cell? ⟨a18, 1, none⟩ = some (Value.slice G17 g17 j17) ∧ w'.cell? ⟨a18, 2, none⟩ = some (Value.slice Y17 y17 z17))
    (first | (exact ⟨(Ext.refl w19).drew, bx_0, bx_1, bx_2, br_0, br_1, br_2⟩) | (exact keptS6_0 (by assumption) (by assumption)))
    (first
      | (go_at_call 22; have hchk20 := hz19; refine (HSM.out _ _ (QX.out.arr.ext (And.left (by assumption))) _ RN.out).mono ?_; rintro e w21 ⟨rfl, hx20⟩; have hz20 := hx20.size; have RN := Lib.hid (RN.out.ext hx20))
      | (go_at_call 46; refine (HNG.out _ _ (QR.out.arr.ext (And.left (by assumption)))).mono ?_; rintro e w20 ⟨r19, rfl, hi19, hx19⟩; have hz19 := hx19.size; have RN := Lib.hid hi19; obtain ⟨f19, g19, G19, j19, y19, Y19, z19, rfl⟩ := hi19.shape))
  all_goals go_wp2_with fail
  rename_i hS
  have hE := And.left hS
  go_ret
  exact ⟨rfl, HX.out.trans hE⟩
end Big
end Go.Proofs.YtplmldkfgeiklaaGreatDoor
/- The reference's Ten, decimal. -/
namespace Go.Proofs.YtplmldkfgeiklaaGreatDoor
namespace Big
open Go.RowKit
theorem rten_any (w : World) (n : Nat) (hn : n ≤ 100000) :
    Calls Tryz.prog 71 #[.int .i64 (n : Int)] w fun e w' => ∃ v', e = .returned v' ∧ IsInt w.heap.size w' v' ((10 ^ n : Nat) : Int) ∧ Ext w w' := by
  have HOF := Lib.hid (fun W => rof_any W 1 (by decide))
  rw [show ((1 : Nat) : Int) = 1 from rfl] at HOF
  have HLEN : Hid (∀ k, k ≤ n → (limbs (10 ^ k)).length ≤ 100001) := Lib.hid (fun k hk => limbs_dec (k := k + 1) (Nat.pow_lt_pow_right (by decide) (by omega)) (by omega))
  go_enter Tryz.func71, Tryz.ntmps71
  go_wp2_with fail
  refine (HOF.out _).mono ?_
  rintro e w1 ⟨v1, rfl, ho1, hx1⟩
  have HB1 := Lib.hid ((Blk.new w 24 #[Value.bool false, Value.slice none 0 0]).ext hx1)
  have HX1 := Lib.hid (((Ext.refl w).alloc (.cells #[Value.bool false, Value.slice none 0 0] 24)).trans hx1)
  have HO1 := Lib.hid (ho1.mono (show w.heap.size + 1 ≤ _ by simp))
  obtain ⟨n1, A1, c1, rfl⟩ := ho1.arr.2.shape
  clear ho1 hx1
  go_wp2_with fail
  go_loopw [3, 6] (fun s3 s6 wr => ∃ (k : Nat) (m : Nat) (A : Option Addr) (c : Nat), k ≤ n ∧ s6 = .int .i64 (k : Int) ∧ s3 = .slice A m c ∧ Own (w.heap.size + 1) wr s3 (limbs (10 ^ k)) ∧ Blk wr w.heap.size 24 #[Value.bool false, Value.slice none 0 0] ∧ Ext w wr) (fun _ s6 _ => n - (intOf s6).toNat)
  case atStart => exact ⟨0, n1, A1, c1, Nat.zero_le _, rfl, rfl, HO1.out, HB1.out, HX1.out⟩
  case round =>
    obtain ⟨k, m, A, c, hk, rfl, rfl, ho, hb, hx⟩ := hrel
    have HO := Lib.hid ho
    have HB := Lib.hid hb
    have HX := Lib.hid hx
    have hsz := hb.lt
    by_cases hlt : k < n
    · have HS := Lib.hid (rsmall_any wr _ _ 10 0 ho.arr (by have := HLEN.out k hk; omega) (by decide) (by decide))
      rw [val_limbs, Nat.add_zero, ← Nat.pow_succ, show ((10 : Nat) : Int) = 10 from rfl, show ((0 : Nat) : Int) = 0 from rfl] at HS
      clear ho hb hx
      go_wp2_with fail
      refine HS.out.mono ?_
      rintro e w2 ⟨v2, rfl, ho2, hx2⟩
      have HO2 := Lib.hid (ho2.mono hsz)
      have HB2 := Lib.hid (HB.out.ext hx2)
      have HX2 := Lib.hid (HX.out.trans hx2)
      obtain ⟨n2, A2, c2, rfl⟩ := ho2.arr.2.shape
      clear ho2 hx2
      go_wp2_with fail
      go_roundw
      case rel => exact ⟨k + 1, n2, A2, c2, by omega, by go_num, rfl, HO2.out, HB2.out, HX2.out⟩
      case measure => simp [intOf]; omega
    · obtain rfl : k = n := by omega
      have HI := Lib.hid (rnat_any wr false _ _ ho.arr (by have := HLEN.out k hk; omega))
      rw [val_limbs] at HI
      clear ho hb hx
      go_wp2_with fail
      refine HI.out.mono ?_
      rintro e w2 ⟨v2, rfl, hi2, hx2⟩
      have HI2 := Lib.hid (hi2.mono hsz)
      have hb2 := HB.out.ext hx2
      have HB2 := Lib.hid hb2
      have HX2 := Lib.hid (HX.out.trans hx2)
      obtain ⟨b2, n2, A2, c2, rfl⟩ := hi2.shape
      obtain ⟨k0, k1, f0, f1, hgz⟩ := hb2.two
      clear hi2 hx2 hb2
      go_wp2_with fail
      obtain ⟨hr0, hr1⟩ := two_set' HB2.out (.bool b2) (.slice A2 n2 c2)
      refine bodyPost_ret (v := .agg #[.bool b2, .slice A2 n2 c2]) (by simp [results, Tryz.results71, go_sem, hr0, hr1]) rfl ?_
      have hst := IsInt.stored HB2.out HI2.out (Nat.lt_succ_self _) HX2.out (Nat.le_refl _)
      exact ⟨_, rfl, hst⟩

/-- What the reference's decimal returns. -/
def DecRes (w : World) (l : List UInt8) (e : Ending) (w' : World) : Prop :=
  ∃ a b : List UInt8, e = .returned (.tuple #[str a, str b, .bool (good7 l)]) ∧ (good7 l = true → a = whole l ∧ b = part l) ∧ Ext w w'
theorem last_of {l : List UInt8} {k : Nat} (h : hasDot l = true) (hk : l.length = k + 1) : (part l = [] → byteAt l k = 46) ∧ (part l ≠ [] → ((part l).getLast? == some 48) = ((byteAt l k : Int) == 48)) := by
  rcases dot_split l with ⟨_, h2⟩ | ⟨h1, _⟩
  · have hg : byteAt l k = byteAt (whole l ++ 46 :: part l) k := congrArg (fun z => byteAt z k) h2
    have hlen := congrArg List.length h2
    rw [List.length_append, List.length_cons, hk] at hlen
    constructor
    · intro hp
      rw [hg]
      rw [hp] at hlen ⊢
      simp only [List.length_nil] at hlen
      unfold byteAt
      rw [List.getD_eq_getElem?_getD, List.getElem?_append_right (by omega), show k - (whole l).length = 0 by omega]
      rfl
    · intro hp
      obtain ⟨j, hj⟩ : ∃ j, (part l).length = j + 1 := ⟨(part l).length - 1, by have := List.length_pos_iff.2 hp; omega⟩
      rw [last_byte (part l) j hj, hg]
      have : byteAt (whole l ++ 46 :: part l) k = byteAt (part l) j := by
        unfold byteAt
        rw [List.getD_eq_getElem?_getD, List.getD_eq_getElem?_getD, List.getElem?_append_right (by omega), show k - (whole l).length = j + 1 by omega, List.getElem?_cons_succ]
      rw [this]
  · rw [h] at h1; cases h1
theorem part_digit {l : List UInt8} {k : Nat} (ha : allD l = true) (h : hasDot l = true) (hp : part l ≠ []) (hk : l.length = k + 1) : 48 ≤ byteAt l k := by
  rcases dot_split l with ⟨_, h2⟩ | ⟨h1, _⟩
  · have hg : byteAt l k = byteAt (whole l ++ 46 :: part l) k := congrArg (fun z => byteAt z k) h2
    have hlen := congrArg List.length h2
    rw [List.length_append, List.length_cons, hk] at hlen
    obtain ⟨j, hj⟩ : ∃ j, (part l).length = j + 1 := ⟨(part l).length - 1, by have := List.length_pos_iff.2 hp; omega⟩
    have h3 : byteAt (whole l ++ 46 :: part l) k = byteAt (part l) j := by
      unfold byteAt
      rw [List.getD_eq_getElem?_getD, List.getD_eq_getElem?_getD, List.getElem?_append_right (by omega), show k - (whole l).length = j + 1 by omega, List.getElem?_cons_succ]
    rw [hg, h3, byteAt_eq _ _ (by omega)]
    have h4 : isDig (part l)[j] = true := by
      unfold allD at ha
      rw [List.all_append, Bool.and_eq_true] at ha
      exact List.all_eq_true.1 ha.2 _ (List.getElem_mem _)
    unfold isDig at h4
    simp only [Bool.and_eq_true, decide_eq_true_eq] at h4
    exact h4.1
  · rw [h] at h1; cases h1
theorem first_whole {l : List UInt8} (h : 0 < (whole l).length) : ((whole l)[0]? == some 48) = ((byteAt l 0 : Int) == 48) := by
  obtain ⟨k, hk⟩ : ∃ k, (whole l).length = k + 1 := ⟨(whole l).length - 1, by omega⟩
  rw [first_byte (whole l) k hk]
  have : byteAt (whole l) 0 = byteAt l 0 := by
    have h1 := take_whole l
    rw [← h1]
    unfold byteAt
    rw [List.getD_eq_getElem?_getD, List.getD_eq_getElem?_getD, List.getElem?_take_of_lt h]
  rw [this]
set_option maxHeartbeats 1000000 in
set_option maxRecDepth 100000 in
theorem rdecimal_any (w : World) (l : List UInt8) (hl : l.length ≤ 1073741824) :
    Calls Tryz.prog 79 #[str l] w (DecRes w l) := by
  go_enter Tryz.func79, Tryz.ntmps79
  go_wp2_with fail
  go_loopw [5, 6] (fun s5 s6 wr => ∃ i p : Nat, i ≤ l.length ∧ s6 = .int .i64 (i : Int) ∧ s5 = .int .i64 (p : Int) ∧ Hid (allD (l.take i) = true) ∧ Hid (p = if hasDot (l.take i) then (whole l).length else l.length) ∧ w = wr) (fun _ s6 _ => l.length - (intOf s6).toNat)
  case atStart => exact ⟨0, l.length, Nat.zero_le _, rfl, rfl, Lib.hid (by rw [List.take_zero]; rfl), Lib.hid (by rw [List.take_zero]; rfl), rfl⟩
  case round =>
    obtain ⟨i, p, hi, rfl, rfl, HA, HP, rfl⟩ := hrel
    by_cases hlt : i < l.length
    · have hst := read_step hlt HA.out
      have hby := byteAt_eq l i hlt
      have HS1 := Lib.hid hst.1
      have HS2 := Lib.hid hst.2
      have HFD := Lib.hid (first_dot l i hlt)
      have HDT := Lib.hid (dot_of_take (l := l) (j := i))
      have HBAD : Hid (allD (l.take (i + 1)) = false → good7 l = false) := Lib.hid (fun h => by rw [good7_eq, read_bad h, Bool.and_false])
      have hbl := byteAt_lt l i
      clear hst
      generalize l[i] = c at *
      have hc46 : (c == 46) = ((byteAt l i : Int) == 46) := by
        rw [hby, Bool.eq_iff_iff]
        simp only [beq_iff_eq]
        constructor
        · intro e; rw [e]; rfl
        · intro e
          apply UInt8.toNat_inj.1
          have : c.toNat = 46 := by omega
          rw [this]; rfl
      have hcd : isDig c = (decide (48 ≤ byteAt l i) && decide (byteAt l i ≤ 57)) := by rw [hby]; rfl
      have HC46 := Lib.hid hc46
      have HCD := Lib.hid hcd
      clear hc46 hcd hby
      cases hD : hasDot (l.take i)
      · have hp : p = l.length := by rw [HP.out, hD]; rfl
        subst hp
        cases h46 : ((byteAt l i : Int) == 46)
        · rcases Nat.lt_or_ge (byteAt l i) 48 with h48 | h48
          · have HG : Hid (good7 l = false) := Lib.hid (HBAD.out (by rw [HS1.out, hD, HC46.out, h46, HCD.out]; simp; omega))
            have hd1 : decide ((byteAt l i : Int) < 48) = true := by rw [decide_eq_true_iff]; omega
            have h48' : (byteAt l i : Int) < 48 := by omega
            clear hD
            go_wp2_with fail
            go_ret3
            exact ⟨[], [], by rw [HG.out]; rfl, (fun h => by rw [HG.out] at h; cases h), Ext.refl _⟩
          · have hd1 : decide ((byteAt l i : Int) < 48) = false := by simp; omega
            have h48' : ¬ (byteAt l i : Int) < 48 := by omega
            rcases Nat.lt_or_ge 57 (byteAt l i) with h57 | h57
            · have HG : Hid (good7 l = false) := Lib.hid (HBAD.out (by rw [HS1.out, hD, HC46.out, h46, HCD.out]; simp; omega))
              have hd2 : decide ((57 : Int) < (byteAt l i : Int)) = true := by rw [decide_eq_true_iff]; omega
              have h57' : (57 : Int) < (byteAt l i : Int) := by omega
              clear hD
              go_wp2_with fail
              go_ret3
              exact ⟨[], [], by rw [HG.out]; rfl, (fun h => by rw [HG.out] at h; cases h), Ext.refl _⟩
            · have hd2 : decide ((57 : Int) < (byteAt l i : Int)) = false := by simp; omega
              have h57' : ¬ (57 : Int) < (byteAt l i : Int) := by omega
              have HN1 : Hid (allD (l.take (i + 1)) = true) := Lib.hid (by rw [HS1.out, HC46.out, h46, HCD.out]; simp; omega)
              have HN2 : Hid (hasDot (l.take (i + 1)) = hasDot (l.take i)) := Lib.hid (by rw [HS2.out, HC46.out, h46, Bool.or_false])
              clear hD
              go_wp2_with fail
              go_roundw
              case rel => exact ⟨i + 1, _, by omega, by go_num, rfl, HN1, Lib.hid (by rw [HN2.out]; exact HP.out), (by first | rfl | trivial)⟩
              case measure => simp [intOf]; omega
        · have HN : Hid ((whole l).length = i) := Lib.hid (HFD.out hD (by have := HC46.out; rw [h46] at this; simpa using this))
          have HN1 : Hid (allD (l.take (i + 1)) = true) := Lib.hid (by rw [HS1.out, hD, HC46.out, h46]; rfl)
          have HN2 : Hid (hasDot (l.take (i + 1)) = true) := Lib.hid (by rw [HS2.out, HC46.out, h46, Bool.or_true])
          have hpp : ((l.length : Int) == (l.length : Int)) = true := by simp
          clear hD
          go_wp2_with fail
          go_roundw
          case rel => exact ⟨i + 1, i, by omega, by go_num, rfl, HN1, Lib.hid (by rw [HN2.out, HN.out]; rfl), (by first | rfl | trivial)⟩
          case measure => simp [intOf]; omega
      · have hpw : p = (whole l).length := by rw [HP.out, hD]; rfl
        have hlt2 := HDT.out hD
        have hpe : ((p : Int) == (l.length : Int)) = false := by rw [beq_eq_false_iff_ne]; omega
        cases h46 : ((byteAt l i : Int) == 46)
        · rcases Nat.lt_or_ge (byteAt l i) 48 with h48 | h48
          · have HG : Hid (good7 l = false) := Lib.hid (HBAD.out (by rw [HS1.out, hD, HC46.out, h46, HCD.out]; simp; omega))
            have hd1 : decide ((byteAt l i : Int) < 48) = true := by rw [decide_eq_true_iff]; omega
            have h48' : (byteAt l i : Int) < 48 := by omega
            clear hD
            go_wp2_with fail
            go_ret3
            exact ⟨[], [], by rw [HG.out]; rfl, (fun h => by rw [HG.out] at h; cases h), Ext.refl _⟩
          · have hd1 : decide ((byteAt l i : Int) < 48) = false := by simp; omega
            have h48' : ¬ (byteAt l i : Int) < 48 := by omega
            rcases Nat.lt_or_ge 57 (byteAt l i) with h57 | h57
            · have HG : Hid (good7 l = false) := Lib.hid (HBAD.out (by rw [HS1.out, hD, HC46.out, h46, HCD.out]; simp; omega))
              have hd2 : decide ((57 : Int) < (byteAt l i : Int)) = true := by rw [decide_eq_true_iff]; omega
              have h57' : (57 : Int) < (byteAt l i : Int) := by omega
              clear hD
              go_wp2_with fail
              go_ret3
              exact ⟨[], [], by rw [HG.out]; rfl, (fun h => by rw [HG.out] at h; cases h), Ext.refl _⟩
            · have hd2 : decide ((57 : Int) < (byteAt l i : Int)) = false := by simp; omega
              have h57' : ¬ (57 : Int) < (byteAt l i : Int) := by omega
              have HN1 : Hid (allD (l.take (i + 1)) = true) := Lib.hid (by rw [HS1.out, HC46.out, h46, HCD.out]; simp; omega)
              have HN2 : Hid (hasDot (l.take (i + 1)) = hasDot (l.take i)) := Lib.hid (by rw [HS2.out, HC46.out, h46, Bool.or_false])
              clear hD
              go_wp2_with fail
              go_roundw
              case rel => exact ⟨i + 1, _, by omega, by go_num, rfl, HN1, Lib.hid (by rw [HN2.out]; exact HP.out), (by first | rfl | trivial)⟩
              case measure => simp [intOf]; omega
        · have h48 : (byteAt l i : Int) < 48 := by
            have : (byteAt l i : Int) = 46 := by simpa using h46
            omega
          have HG : Hid (good7 l = false) := Lib.hid (HBAD.out (by rw [HS1.out, hD, HCD.out]; simp; omega))
          have hd1 : decide ((byteAt l i : Int) < 48) = true := by simpa using h48
          clear hD hpw hlt2
          go_wp2_with fail
          go_ret3
          exact ⟨[], [], by rw [HG.out]; rfl, (fun h => by rw [HG.out] at h; cases h), Ext.refl _⟩
    · obtain rfl : i = l.length := by omega
      rw [List.take_of_length_le (Nat.le_refl _)] at HA HP
      have hpw : p = (whole l).length := by
        rw [HP.out]
        cases hD : hasDot l
        · rw [nodot_whole hD]; rfl
        · rfl
      subst hpw
      clear HP
      rcases Nat.eq_zero_or_pos (whole l).length with hw0 | hw0
      · have HG : Hid (good7 l = false) := Lib.hid (by
          have h1 : whole l = [] := List.eq_nil_of_length_eq_zero hw0
          have h2 : bad7 l = true := by unfold bad7; rw [h1]; simp
          rw [good7_eq, h2]; rfl)
        have hz : (((whole l).length : Int) == 0) = true := by rw [hw0]; rfl
        clear hw0
        go_wp2_with fail
        go_ret3
        exact ⟨[], [], by rw [HG.out]; rfl, (fun h => by rw [HG.out] at h; cases h), Ext.refl _⟩
      · have hz : (((whole l).length : Int) == 0) = false := by rw [beq_eq_false_iff_ne]; omega
        have hwle := whole_le l
        have hl0 : (0 : Int) < (l.length : Int) := by omega
        have HW0 : Hid ((whole l == []) = false) := Lib.hid (by rw [beq_eq_false_iff_ne]; intro e; rw [e] at hw0; simp at hw0)
        have hfb := first_whole hw0
        rcases Nat.lt_or_ge 1 (whole l).length with h1w | h1w
        · have hd : (1 : Int) < ((whole l).length : Int) := by omega
          cases hb0 : ((byteAt l 0 : Int) == 48)
          · have HWZ : Hid (((whole l)[0]? == some 48 && decide (1 < (whole l).length)) = false) := Lib.hid (by rw [hfb, hb0]; rfl)
            clear hfb
            cases hD : hasDot l
            · have hwl2 := nodot_whole hD
              have HG : Hid (good7 l = true) := Lib.hid (by rw [good7_eq, HA.out, bad7_miss (by rw [hD]; rfl), HW0.out, HWZ.out]; rfl)
              have hpe : (((whole l).length : Int) == (l.length : Int)) = true := by rw [beq_iff_eq]; omega
              have hnl : ¬ ((whole l).length : Int) < (l.length : Int) := by omega
              have HE : Hid (whole l = l ∧ part l = []) := Lib.hid (by
                rcases dot_split l with ⟨h1, _⟩ | ⟨_, h2, h3⟩
                · rw [hD] at h1; cases h1
                · exact ⟨h2.symm, h3⟩)
              clear hD hwl2
              go_wp2_with fail
              go_ret3
              exact ⟨l, [], by rw [HG.out]; rfl, (fun _ => ⟨HE.out.1.symm, HE.out.2.symm⟩), Ext.refl _⟩
            · have hlt3 : (whole l).length < l.length := of_decide_eq_true hD
              have hpe : (((whole l).length : Int) == (l.length : Int)) = false := by rw [beq_eq_false_iff_ne]; omega
              have hnl : ((whole l).length : Int) < (l.length : Int) := by omega
              obtain ⟨k, hk⟩ : ∃ k, l.length = k + 1 := ⟨l.length - 1, by omega⟩
              have hks : (l.length : Int) - 1 = (k : Int) := by omega
              have hk0 : (k : Int) < (l.length : Int) := by omega
              have HLAST := Lib.hid (last_of hD hk)
              rcases Nat.eq_zero_or_pos (part l).length with hp0 | hp0
              · have hpn : part l = [] := List.eq_nil_of_length_eq_zero hp0
                have HG : Hid (good7 l = false) := Lib.hid (by rw [good7_eq, bad7_hit (by rw [hD, hpn]; rfl)]; rfl)
                have hby := HLAST.out.1 hpn
                have hb1 : ((byteAt l k : Int) == 48) = false := by rw [hby]; rfl
                have hb2 : ((byteAt l k : Int) == 46) = true := by rw [hby]; rfl
                clear hD hk hp0 hpn hby
                go_wp2_with fail
                go_ret3
                exact ⟨[], [], by rw [HG.out]; rfl, (fun h => by rw [HG.out] at h; cases h), Ext.refl _⟩
              · have hpn : part l ≠ [] := fun e => by rw [e] at hp0; simp at hp0
                have hpe2 : (part l == []) = false := by rw [beq_eq_false_iff_ne]; exact hpn
                have hby := HLAST.out.2 hpn
                cases hb : ((byteAt l k : Int) == 48)
                · have HG : Hid (good7 l = true) := Lib.hid (by rw [good7_eq, HA.out, bad7_miss (by rw [hD, hpe2, hby, hb]; rfl), HW0.out, HWZ.out]; rfl)
                  have hb2 : ((byteAt l k : Int) == 46) = false := by
                    have h1 := part_digit HA.out hD hpn hk
                    rw [beq_eq_false_iff_ne]
                    omega
                  have HTW := Lib.hid (take_whole l)
                  have HDP := Lib.hid (drop_part hD)
                  have hw1 : IntKind.i64.wrap (((whole l).length : Int) + 1) = ((whole l).length : Int) + 1 := IntWalk.i64_in _ (by omega)
                  have hw2 : (0 : Int) ≤ ((whole l).length : Int) + 1 := by omega
                  have hw3 : ((whole l).length : Int) + 1 ≤ (l.length : Int) := by omega
                  have hw4 : (((whole l).length : Int) + 1).toNat = (whole l).length + 1 := by omega
                  have hw5 : ((whole l).length : Int) ≤ (l.length : Int) := by omega
                  clear hD hk hp0 hpn hby hpe2
                  go_wp2_with fail
                  go_quiet (fail)
                  go_wp2_with fail
                  go_ret3
                  exact ⟨_, _, by rw [HG.out]; rfl, (fun _ => ⟨HTW.out, HDP.out⟩), (Ext.refl _).drewN _⟩
                · have HG : Hid (good7 l = false) := Lib.hid (by rw [good7_eq, bad7_hit (by rw [hD, hpe2, hby, hb]; rfl)]; rfl)
                  clear hD hk hp0 hpn hby hpe2
                  go_wp2_with fail
                  go_ret3
                  exact ⟨[], [], by rw [HG.out]; rfl, (fun h => by rw [HG.out] at h; cases h), Ext.refl _⟩
          · have HG : Hid (good7 l = false) := Lib.hid (by
              have h2 : bad7 l = true := by unfold bad7; rw [hfb, hb0]; simp [h1w]
              rw [good7_eq, h2]; rfl)
            clear hfb
            go_wp2_with fail
            go_ret3
            exact ⟨[], [], by rw [HG.out]; rfl, (fun h => by rw [HG.out] at h; cases h), Ext.refl _⟩
        · have hd : ¬ (1 : Int) < ((whole l).length : Int) := by omega
          have HWZ : Hid (((whole l)[0]? == some 48 && decide (1 < (whole l).length)) = false) := Lib.hid (by rw [decide_eq_false (by omega), Bool.and_false])
          clear hfb
          cases hD : hasDot l
          · have hwl2 := nodot_whole hD
            have HG : Hid (good7 l = true) := Lib.hid (by rw [good7_eq, HA.out, bad7_miss (by rw [hD]; rfl), HW0.out, HWZ.out]; rfl)
            have hpe : (((whole l).length : Int) == (l.length : Int)) = true := by rw [beq_iff_eq]; omega
            have hnl : ¬ ((whole l).length : Int) < (l.length : Int) := by omega
            have HE : Hid (whole l = l ∧ part l = []) := Lib.hid (by
              rcases dot_split l with ⟨h1, _⟩ | ⟨_, h2, h3⟩
              · rw [hD] at h1; cases h1
              · exact ⟨h2.symm, h3⟩)
            clear hD hwl2
            go_wp2_with fail
            go_ret3
            exact ⟨l, [], by rw [HG.out]; rfl, (fun _ => ⟨HE.out.1.symm, HE.out.2.symm⟩), Ext.refl _⟩
          · have hlt3 : (whole l).length < l.length := of_decide_eq_true hD
            have hpe : (((whole l).length : Int) == (l.length : Int)) = false := by rw [beq_eq_false_iff_ne]; omega
            have hnl : ((whole l).length : Int) < (l.length : Int) := by omega
            obtain ⟨k, hk⟩ : ∃ k, l.length = k + 1 := ⟨l.length - 1, by omega⟩
            have hks : (l.length : Int) - 1 = (k : Int) := by omega
            have hk0 : (k : Int) < (l.length : Int) := by omega
            have HLAST := Lib.hid (last_of hD hk)
            rcases Nat.eq_zero_or_pos (part l).length with hp0 | hp0
            · have hpn : part l = [] := List.eq_nil_of_length_eq_zero hp0
              have HG : Hid (good7 l = false) := Lib.hid (by rw [good7_eq, bad7_hit (by rw [hD, hpn]; rfl)]; rfl)
              have hby := HLAST.out.1 hpn
              have hb1 : ((byteAt l k : Int) == 48) = false := by rw [hby]; rfl
              have hb2 : ((byteAt l k : Int) == 46) = true := by rw [hby]; rfl
              clear hD hk hp0 hpn hby
              go_wp2_with fail
              go_ret3
              exact ⟨[], [], by rw [HG.out]; rfl, (fun h => by rw [HG.out] at h; cases h), Ext.refl _⟩
            · have hpn : part l ≠ [] := fun e => by rw [e] at hp0; simp at hp0
              have hpe2 : (part l == []) = false := by rw [beq_eq_false_iff_ne]; exact hpn
              have hby := HLAST.out.2 hpn
              cases hb : ((byteAt l k : Int) == 48)
              · have HG : Hid (good7 l = true) := Lib.hid (by rw [good7_eq, HA.out, bad7_miss (by rw [hD, hpe2, hby, hb]; rfl), HW0.out, HWZ.out]; rfl)
                have hb2 : ((byteAt l k : Int) == 46) = false := by
                  have h1 := part_digit HA.out hD hpn hk
                  rw [beq_eq_false_iff_ne]
                  omega
                have HTW := Lib.hid (take_whole l)
                have HDP := Lib.hid (drop_part hD)
                have hw1 : IntKind.i64.wrap (((whole l).length : Int) + 1) = ((whole l).length : Int) + 1 := IntWalk.i64_in _ (by omega)
                have hw2 : (0 : Int) ≤ ((whole l).length : Int) + 1 := by omega
                have hw3 : ((whole l).length : Int) + 1 ≤ (l.length : Int) := by omega
                have hw4 : (((whole l).length : Int) + 1).toNat = (whole l).length + 1 := by omega
                have hw5 : ((whole l).length : Int) ≤ (l.length : Int) := by omega
                clear hD hk hp0 hpn hby hpe2
                go_wp2_with fail
                go_quiet (fail)
                go_wp2_with fail
                go_ret3
                exact ⟨_, _, by rw [HG.out]; rfl, (fun _ => ⟨HTW.out, HDP.out⟩), (Ext.refl _).drewN _⟩
              · have HG : Hid (good7 l = false) := Lib.hid (by rw [good7_eq, bad7_hit (by rw [hD, hpe2, hby, hb]; rfl)]; rfl)
                clear hD hk hp0 hpn hby hpe2
                go_wp2_with fail
                go_ret3
                exact ⟨[], [], by rw [HG.out]; rfl, (fun h => by rw [HG.out] at h; cases h), Ext.refl _⟩
end Big
end Go.Proofs.YtplmldkfgeiklaaGreatDoor
/- The bytes of a text, laid in memory. -/
namespace Go.Proofs.YtplmldkfgeiklaaGreatDoor
namespace Big
open Go.RowKit
/-- '[]byte(s)'. -/
def bytesAt (w : World) (l : List UInt8) : World := Lib.bytesWorld w 5 ⟨l.toArray⟩
theorem bytesAt_ext (w : World) (l : List UInt8) : Ext w (bytesAt w l) := by
  refine ⟨?_, ?_, ?_, ?_, fun k hk => Lib.bytesWorld_at_old w _ _ k hk⟩
  · simp [bytesAt, Lib.bytesWorld, World.freeze, World.alloc, World.drew, -World.alloc_eq, -World.drew_eq]
  · simp [bytesAt, Lib.bytesWorld, World.freeze, World.alloc, World.drew, -World.alloc_eq, -World.drew_eq]
  · simp [bytesAt, Lib.bytesWorld, World.freeze, World.alloc, World.drew, -World.alloc_eq, -World.drew_eq]
  · unfold bytesAt; rw [Lib.bytesWorld_size]; omega
theorem bytesAt_cell (w : World) (l : List UInt8) (j : Nat) (h : j < l.length) : (bytesAt w l).cell? ⟨w.heap.size, j, none⟩ = some (.int .u8 (byteAt l j : Int)) := by
  unfold bytesAt byteAt
  rw [Lib.bytesWorld_cell w _ _ j (by rw [size_str]; exact h)]
theorem bytesAt_lt (w : World) (l : List UInt8) : w.heap.size < (bytesAt w l).heap.size := by unfold bytesAt; rw [Lib.bytesWorld_size]; omega
theorem run_bytesAt (w : World) (l : List UInt8) : ∃ c, (convert 9 43 (str l)).run Tryz.prog w = .ok (.slice (some ⟨w.heap.size, 0, none⟩) l.length c) (bytesAt w l) ∧ l.length ≤ c := by
  have := Lib.run_convert_string_bytes (P := Tryz.prog) w 9 43 5 ⟨l.toArray⟩ Tryz.underlying9 Tryz.underlying43 Tryz.underlying5
  rw [size_str] at this
  exact ⟨_, this, grownCap_ge w l.length 0 _⟩

end Big
end Go.Proofs.YtplmldkfgeiklaaGreatDoor
/- The reference's reading of a decimal. -/
namespace Go.Proofs.YtplmldkfgeiklaaGreatDoor
namespace Big
open Go.RowKit
theorem make_low (n : Nat) (d : Nat) : makeN (n : Int) ((d : Nat) : Int) = lowN (n : Int) d ∧ makeD (n : Int) ((d : Nat) : Int) = lowD (n : Int) d := by
  unfold makeN lowN makeD lowD
  have h1 : decide ((n : Int) < 0) = false := by simp
  have h2 : decide ((d : Int) < 0) = false := by simp
  rw [h1, h2, Int.natAbs_natCast, Int.natAbs_natCast]
  exact ⟨rfl, rfl⟩
set_option maxRecDepth 100000 in
theorem rparse7_long (w : World) (l : List UInt8) (h : 400 < l.length) : Calls Tryz.prog 23 #[str l] w (ParseRes7 w l) := by
  have hc : code7 l = 7 := if_pos h
  have h' : (400 : Int) < (l.length : Int) := by omega
  have HC := Lib.hid hc
  clear h hc
  go_enter Tryz.func23, Tryz.ntmps23
  go_wp2_with fail
  refine bodyPost_ret (v := .tuple #[.agg #[.bool false, .slice none 0 0, .slice none 0 0], .int .i64 7]) (by simp [results, Tryz.results23, go_sem]) rfl ?_
  exact ⟨_, by rw [HC.out]; rfl, by rw [HC.out]; exact IsRat.zero _ _, (Ext.refl w).alloc _⟩
set_option maxHeartbeats 1000000 in
set_option maxRecDepth 100000 in
theorem rparse7_any (w : World) (l : List UInt8) : Calls Tryz.prog 23 #[str l] w (ParseRes7 w l) := by
  rcases Nat.lt_or_ge 400 l.length with hl | hl
  · exact rparse7_long w l hl
  have HD := Lib.hid (fun W => rdecimal_any W l (by omega))
  have h400 : ¬ (400 : Int) < (l.length : Int) := by omega
  cases hg : good7 l
  · have HC : Hid (code7 l = 6) := Lib.hid (by unfold code7; rw [if_neg (by omega), hg]; rfl)
    have HG := Lib.hid hg
    clear hg
    go_enter Tryz.func23, Tryz.ntmps23
    go_wp2_with fail
    refine (HD.out _).mono ?_
    rintro e w1 ⟨a, b, rfl, _, hx1⟩
    rw [HG.out]
    have HX1 := Lib.hid (((Ext.refl w).alloc (.cells #[Value.bool false, Value.slice none 0 0, Value.slice none 0 0] 26)).trans hx1)
    have hk := (Blk.new w 26 #[Value.bool false, Value.slice none 0 0, Value.slice none 0 0]).ext hx1
    have HB1 := Lib.hid hk
    obtain ⟨k0, k1, k2, f0, f1, f2, hgz⟩ := hk.three
    clear hx1 hk
    go_wp2_with fail
    obtain ⟨hr0, hr1, hr2⟩ := three_set HB1.out (.bool false) (.slice none 0 0) (.slice none 0 0)
    refine bodyPost_ret (v := .tuple #[.agg #[.bool false, .slice none 0 0, .slice none 0 0], .int .i64 6]) (by simp [results, Tryz.results23, go_sem, hr0, hr1, hr2]) rfl ?_
    exact ⟨_, by rw [HC.out]; rfl, by rw [HC.out]; exact IsRat.zero _ _, ((HX1.out.setCell (Nat.le_refl _) _).setCell (Nat.le_refl _) _).setCell (Nat.le_refl _) _⟩
  · have HC : Hid (code7 l = 0) := Lib.hid (by unfold code7; rw [if_neg (by omega), hg]; rfl)
    have HG := Lib.hid hg
    have hall : allD l = true := by
      rw [good7_eq, Bool.and_eq_true] at hg
      exact hg.2
    have hpl : (part l).length ≤ l.length := by
      rcases dot_split l with ⟨_, h1⟩ | ⟨_, _, h2⟩
      · have := congrArg List.length h1
        simp at this
        omega
      · rw [h2]; simp
    have hwl := whole_le l
    have HNUM : Hid (num7 l = lowN (numOf (whole l ++ part l)) (10 ^ (part l).length)) := Lib.hid rfl
    have HDEN : Hid (den7 l = lowD (numOf (whole l ++ part l)) (10 ^ (part l).length)) := Lib.hid rfl
    unfold allD at hall
    clear hg
    have hadd : ∀ W', (binOp .add 9 (str (whole l)) (str (part l))).run Tryz.prog W' = .ok (str (whole l ++ part l)) W' := run_add_str _ _ (by omega)
    have hL : (whole l ++ part l).length ≤ 800 := by rw [List.length_append]; omega
    go_enter Tryz.func23, Tryz.ntmps23
    go_wp2_with fail
    refine (HD.out _).mono ?_
    rintro e w1 ⟨a, b, rfl, hab, hx1⟩
    obtain ⟨rfl, rfl⟩ := hab HG.out
    rw [HG.out]
    generalize whole l = W at *
    generalize part l = P at *
    have HX1 := Lib.hid (((Ext.refl w).alloc (.cells #[Value.bool false, Value.slice none 0 0, Value.slice none 0 0] 26)).trans hx1)
    have HB1 := Lib.hid ((Blk.new w 26 #[Value.bool false, Value.slice none 0 0, Value.slice none 0 0]).ext hx1)
    obtain ⟨cb, hcv, hcb⟩ := run_bytesAt w1 (W ++ P)
    have HBY := Lib.hid (fun j h => bytesAt_cell w1 (W ++ P) j h)
    have HXB := Lib.hid (bytesAt_ext w1 (W ++ P))
    have HLT := Lib.hid (bytesAt_lt w1 (W ++ P))
    clear hx1 hab HD HG
    generalize W ++ P = L at *
    generalize bytesAt w1 L = wb at *
    have HALL := Lib.hid hall
    clear hall
    go_wp2_with fail
    clear hcv hadd
    go_loopw [7, 28] (fun s7 s28 wr => ∃ (k m : Nat) (A : Option Addr) (c : Nat), k ≤ L.length ∧ s28 = .int .i64 (k : Int) ∧ s7 = .slice A m c ∧ Own (w.heap.size + 1) wr s7 (limbs (numOf (L.take k))) ∧ Ext wb wr) (fun _ s28 _ => L.length - (intOf s28).toNat)
    case atStart => exact ⟨0, 0, none, 0, Nat.zero_le _, rfl, rfl, Own.none_ _ _, Ext.refl _⟩
    case round =>
      obtain ⟨k, m, A, c, hk, rfl, rfl, ho, hx⟩ := hrel
      have HO := Lib.hid ho
      have HX := Lib.hid hx
      have hsz : w.heap.size + 1 ≤ wr.heap.size := by
        have h1 := HB1.out.lt
        have h2 := HLT.out
        have h3 := hx.size
        omega
      have hll : (limbs (numOf (L.take k))).length ≤ 800 := by
        refine limbs_dec (numOf_lt _ ?_) (by rw [List.length_take]; omega)
        rw [List.all_eq_true]
        intro x hxm
        exact List.all_eq_true.1 HALL.out x (List.mem_of_mem_take hxm)
      by_cases hlt : k < L.length
      · have hby := (hx.cell HLT.out).trans (HBY.out k hlt)
        have hbe := byteAt_eq L k hlt
        have hdg : isDig L[k] = true := List.all_eq_true.1 HALL.out _ (List.getElem_mem hlt)
        have hnt := numOf_take L k hlt
        rw [← hbe] at hnt
        unfold isDig at hdg
        rw [← hbe] at hdg
        simp only [Bool.and_eq_true, decide_eq_true_eq] at hdg
        obtain ⟨d1, d2⟩ := hdg
        generalize byteAt L k = b at *
        have E1 := Lib.hid (show ((b : Int) - 48) = ((b - 48 : Nat) : Int) by omega)
        have HS := Lib.hid (rsmall_any wr _ _ 10 (b - 48) ho.arr (by omega) (by decide) (by omega))
        rw [val_limbs] at HS
        have HN := Lib.hid (show numOf (L.take (k + 1)) = numOf (L.take k) * 10 + (b - 48) by rw [hnt]; omega)
        clear ho hx hbe hnt hll hcb
        go_wp2_with fail
        rw [E1.out]
        refine HS.out.mono ?_
        rintro e w2 ⟨v2, rfl, ho2, hx2⟩
        rw [← HN.out] at ho2
        have HO2 := Lib.hid (ho2.mono hsz)
        have HX2 := Lib.hid (HX.out.trans hx2)
        obtain ⟨n2, A2, c2, rfl⟩ := ho2.shape
        clear ho2 hx2
        go_wp2_with fail
        go_roundw
        case rel => exact ⟨k + 1, n2, A2, c2, by omega, by go_num, rfl, HO2.out, HX2.out⟩
        case measure => simp [intOf]; omega
      · obtain rfl : k = L.length := by omega
        rw [List.take_of_length_le (Nat.le_refl _)] at HO ho hll
        have HIN := Lib.hid (rnat_any wr false _ _ ho.arr (by omega))
        rw [val_limbs] at HIN
        have hsg : sgn false (numOf L) = ((numOf L : Nat) : Int) := rfl
        rw [hsg] at HIN
        have HTEN := Lib.hid (fun W' => rten_any W' P.length (by omega))
        have hte : (limbs (10 ^ P.length)).length ≤ 801 := limbs_dec (k := P.length + 1) (Nat.pow_lt_pow_right (by decide) (by omega)) (by omega)
        have HOF := Lib.hid (fun W' a b h1 h2 => rof7_any W' a b ((numOf L : Nat) : Int) ((10 ^ P.length : Nat) : Int) h1 h2 (by rw [Int.natAbs_natCast]; omega) (by rw [Int.natAbs_natCast]; omega) (by
          have : 0 < 10 ^ P.length := Nat.pow_pos (by decide)
          omega))
        rw [(make_low (numOf L) (10 ^ P.length)).1, (make_low (numOf L) (10 ^ P.length)).2] at HOF
        have HXX := Lib.hid ((HX1.out.trans HXB.out).trans hx)
        have HBB := Lib.hid (((HB1.out.ext HXB.out)).ext hx)
        clear ho hx hll hte hsg hcb
        go_wp2_with fail
        refine HIN.out.mono ?_
        rintro e w5 ⟨v5, rfl, hi5, hx5⟩
        have HI5 := Lib.hid hi5
        obtain ⟨b5, n5, A5, c5, rfl⟩ := hi5.shape
        have HX5 := Lib.hid (HXX.out.trans hx5)
        have HB5 := Lib.hid (HBB.out.ext hx5)
        clear hi5 hx5
        go_wp2_with fail
        refine (HTEN.out _).mono ?_
        rintro e w6 ⟨v6, rfl, hi6, hx6⟩
        have HI6 := Lib.hid hi6
        obtain ⟨b6, n6, A6, c6, rfl⟩ := hi6.shape
        have HI5' := Lib.hid (HI5.out.ext hx6)
        have HX6 := Lib.hid (HX5.out.trans hx6)
        have HB6 := Lib.hid (HB5.out.ext hx6)
        clear hi6 hx6
        go_wp2_with fail
        refine (HOF.out _ _ _ HI5'.out.arr HI6.out.arr).mono ?_
        rintro e w8 ⟨v8, rfl, hr8, hx8⟩
        obtain ⟨b8, n8, A8, c8, n8', A8', c8', rfl⟩ := hr8.shape
        have HR8 := Lib.hid hr8
        have HX8 := Lib.hid (HX6.out.trans hx8)
        have hk := HB6.out.ext hx8
        have HB8 := Lib.hid hk
        have HSZ7 := Lib.hid HX6.out.size
        have HLT7 := Lib.hid HB6.out.lt
        clear hr8 hx8
        obtain ⟨k0, k1, k2, f0, f1, f2, hgz⟩ := hk.three
        clear hk
        go_wp2_with fail
        obtain ⟨hr0, hr1, hr2⟩ := three_set HB8.out (.bool b8) (.slice A8 n8 c8) (.slice A8' n8' c8')
        refine bodyPost_ret (v := .tuple #[.agg #[.bool b8, .slice A8 n8 c8, .slice A8' n8' c8'], .int .i64 0]) (by simp [results, Tryz.results23, go_sem, hr0, hr1, hr2]) rfl ?_
        have hfin := HR8.out.put (w := w) HLT7.out HSZ7.out
        exact ⟨_, by rw [HC.out]; rfl, by rw [HC.out, if_pos rfl, if_pos rfl, HNUM.out, HDEN.out]; exact hfin, ((HX8.out.setCell (Nat.le_refl _) _).setCell (Nat.le_refl _) _).setCell (Nat.le_refl _) _⟩
end Big
end Go.Proofs.YtplmldkfgeiklaaGreatDoor
