import Derived.Test.YtplmldkfgeiklaaGreatDoorM19
import Derived.Test.YtplmldkfgeiklaaGreatDoorM21
import Derived.Deep.RegionLaw
import Derived.Test.YtplmldkfgeiklaaGreatDoorM15
import Derived.Test.YtplmldkfgeiklaaGreatDoorM6
import Derived.Lib.ConvBytes
import Derived.Test.YtplmldkfgeiklaaGreatDoorM20
import Derived.Test.YtplmldkfgeiklaaGreatDoorM16
/- rational.Power. Printed by a program. -/
namespace Go.Proofs.YtplmldkfgeiklaaGreatDoor
namespace Big
open Go.RowKit
set_option maxHeartbeats 2000000 in
set_option maxRecDepth 100000 in
theorem ppowR_arg (w : World) (v0 : Value) (p : Int) (q : Nat) (h0 : ArrRat w v0 p q) (n0 : (limbs p.natAbs).length ≤ 1000000) (m0 : (limbs q).length ≤ 1000000) (n : Int) (hn : n < -64 ∨ 64 < n) :
    Calls Tryz.prog 40 #[v0, .int .i64 n] w fun e w' => ∃ v', e = .returned (.tuple #[v', .int .i64 1]) ∧ IsRat w.heap.size w' v' (0) (0) ∧ Ext w w' := by
  have H0 := Lib.hid h0
  obtain ⟨b0, l0, A0, c0, k0, D0, e0, rfl⟩ := h0.shape
  clear h0 n0 m0
  rcases hn with hn | hn
  · have hn1 : n < -64 := hn
    go_enter Tryz.func40, Tryz.ntmps40
    go_upto_region 1 with fail
    have hb0 := ((Blk.new w 26 #[Value.bool b0, Value.slice A0 l0 c0, Value.slice D0 k0 e0]).alloc (.cells #[Value.bool false, Value.slice none 0 0, Value.slice none 0 0] 26))
    have hb1 := (Blk.new (w.alloc (.cells #[Value.bool b0, Value.slice A0 l0 c0, Value.slice D0 k0 e0] 26)) 26 #[Value.bool false, Value.slice none 0 0, Value.slice none 0 0])
    have hxo := (((Ext.refl w).alloc (.cells #[Value.bool b0, Value.slice A0 l0 c0, Value.slice D0 k0 e0] 26)).alloc (.cells #[Value.bool false, Value.slice none 0 0, Value.slice none 0 0] 26))
    have hszo : w.heap.size + 1 + 1 = ((w.alloc (.cells #[Value.bool b0, Value.slice A0 l0 c0, Value.slice D0 k0 e0] 26)).alloc (.cells #[Value.bool false, Value.slice none 0 0, Value.slice none 0 0] 26)).heap.size := by simp
    simp only [World.size_alloc] at hb1
    generalize (w.alloc (.cells #[Value.bool b0, Value.slice A0 l0 c0, Value.slice D0 k0 e0] 26)).alloc (.cells #[Value.bool false, Value.slice none 0 0, Value.slice none 0 0] 26) = wo at *
    have HB0 := Lib.hid hb0
    have HB1 := Lib.hid hb1
    have HX := Lib.hid hxo
    have HZ : Hid (w.heap.size + 1 + 1 ≤ wo.heap.size) := Lib.hid (by omega)
    clear hxo hszo hb0 hb1
    obtain ⟨t0, t1, t2, s0, s1, s2, hgz⟩ := HB1.out.three
    go_wp2_with fail
    obtain ⟨hr0, hr1, hr2⟩ := three_set HB1.out (.bool false) (.slice none 0 0) (.slice none 0 0)
    refine bodyPost_ret (v := .tuple #[.agg #[.bool false, .slice none 0 0, .slice none 0 0], .int .i64 1]) (by simp [results, Tryz.results40, go_sem, hr0, hr1, hr2]) rfl ?_
    exact ⟨_, rfl, IsRat.zero _ _, ((HX.out.setCell (Nat.le_succ _) _).setCell (Nat.le_succ _) _).setCell (Nat.le_succ _) _⟩
  · have hn1 : ¬ n < -64 := by omega
    go_enter Tryz.func40, Tryz.ntmps40
    go_upto_region 1 with fail
    have hb0 := ((Blk.new w 26 #[Value.bool b0, Value.slice A0 l0 c0, Value.slice D0 k0 e0]).alloc (.cells #[Value.bool false, Value.slice none 0 0, Value.slice none 0 0] 26))
    have hb1 := (Blk.new (w.alloc (.cells #[Value.bool b0, Value.slice A0 l0 c0, Value.slice D0 k0 e0] 26)) 26 #[Value.bool false, Value.slice none 0 0, Value.slice none 0 0])
    have hxo := (((Ext.refl w).alloc (.cells #[Value.bool b0, Value.slice A0 l0 c0, Value.slice D0 k0 e0] 26)).alloc (.cells #[Value.bool false, Value.slice none 0 0, Value.slice none 0 0] 26))
    have hszo : w.heap.size + 1 + 1 = ((w.alloc (.cells #[Value.bool b0, Value.slice A0 l0 c0, Value.slice D0 k0 e0] 26)).alloc (.cells #[Value.bool false, Value.slice none 0 0, Value.slice none 0 0] 26)).heap.size := by simp
    simp only [World.size_alloc] at hb1
    generalize (w.alloc (.cells #[Value.bool b0, Value.slice A0 l0 c0, Value.slice D0 k0 e0] 26)).alloc (.cells #[Value.bool false, Value.slice none 0 0, Value.slice none 0 0] 26) = wo at *
    have HB0 := Lib.hid hb0
    have HB1 := Lib.hid hb1
    have HX := Lib.hid hxo
    have HZ : Hid (w.heap.size + 1 + 1 ≤ wo.heap.size) := Lib.hid (by omega)
    clear hxo hszo hb0 hb1
    obtain ⟨t0, t1, t2, s0, s1, s2, hgz⟩ := HB1.out.three
    go_wp2_with fail
    obtain ⟨hr0, hr1, hr2⟩ := three_set HB1.out (.bool false) (.slice none 0 0) (.slice none 0 0)
    refine bodyPost_ret (v := .tuple #[.agg #[.bool false, .slice none 0 0, .slice none 0 0], .int .i64 1]) (by simp [results, Tryz.results40, go_sem, hr0, hr1, hr2]) rfl ?_
    exact ⟨_, rfl, IsRat.zero _ _, ((HX.out.setCell (Nat.le_succ _) _).setCell (Nat.le_succ _) _).setCell (Nat.le_succ _) _⟩
set_option maxHeartbeats 2000000 in
set_option maxRecDepth 100000 in
theorem ppowR_zero (w : World) (v0 : Value) (p : Int) (q : Nat) (h0 : ArrRat w v0 p q) (n0 : (limbs p.natAbs).length ≤ 1000000) (m0 : (limbs q).length ≤ 1000000) (n : Int) (hn : -64 ≤ n) (hn0 : n < 0) (hp : p = 0) :
    Calls Tryz.prog 40 #[v0, .int .i64 n] w fun e w' => ∃ v', e = .returned (.tuple #[v', .int .i64 2]) ∧ IsRat w.heap.size w' v' (0) (0) ∧ Ext w w' := by
  have H0 := Lib.hid h0
  have HSG := Lib.hid (fun W v a => signR_any W v p q a n0 m0)
  have hsb : (sgZ p == 0) = true := by rw [hp]; rfl
  obtain ⟨b0, l0, A0, c0, k0, D0, e0, rfl⟩ := h0.shape
  have hn1 : ¬ n < -64 := by omega
  have hn2 : ¬ 64 < n := by omega
  clear h0 n0 m0 hp
  generalize sgZ p = sg at *
  go_enter Tryz.func40, Tryz.ntmps40
  go_upto_region 1 with fail
  have hb0 := ((Blk.new w 26 #[Value.bool b0, Value.slice A0 l0 c0, Value.slice D0 k0 e0]).alloc (.cells #[Value.bool false, Value.slice none 0 0, Value.slice none 0 0] 26))
  have hb1 := (Blk.new (w.alloc (.cells #[Value.bool b0, Value.slice A0 l0 c0, Value.slice D0 k0 e0] 26)) 26 #[Value.bool false, Value.slice none 0 0, Value.slice none 0 0])
  have hxo := (((Ext.refl w).alloc (.cells #[Value.bool b0, Value.slice A0 l0 c0, Value.slice D0 k0 e0] 26)).alloc (.cells #[Value.bool false, Value.slice none 0 0, Value.slice none 0 0] 26))
  have hszo : w.heap.size + 1 + 1 = ((w.alloc (.cells #[Value.bool b0, Value.slice A0 l0 c0, Value.slice D0 k0 e0] 26)).alloc (.cells #[Value.bool false, Value.slice none 0 0, Value.slice none 0 0] 26)).heap.size := by simp
  simp only [World.size_alloc] at hb1
  generalize (w.alloc (.cells #[Value.bool b0, Value.slice A0 l0 c0, Value.slice D0 k0 e0] 26)).alloc (.cells #[Value.bool false, Value.slice none 0 0, Value.slice none 0 0] 26) = wo at *
  have HB0 := Lib.hid hb0
  have HB1 := Lib.hid hb1
  have HX := Lib.hid hxo
  have HZ : Hid (w.heap.size + 1 + 1 ≤ wo.heap.size) := Lib.hid (by omega)
  clear hxo hszo hb0 hb1
  obtain ⟨q0, q1, q2, _, _, _, qz⟩ := HB0.out.three
  go_wp2_with fail
  refine (HSG.out _ _ (H0.out.ext HX.out)).mono ?_
  rintro e w1 ⟨rfl, hx1⟩
  have HX := Lib.hid (HX.out.trans hx1)
  have HB1 := Lib.hid (HB1.out.ext hx1)
  clear hx1 q0 q1 q2 qz
  obtain ⟨t0, t1, t2, s0, s1, s2, hgz⟩ := HB1.out.three
  go_wp2_with fail
  obtain ⟨hr0, hr1, hr2⟩ := three_set HB1.out (.bool false) (.slice none 0 0) (.slice none 0 0)
  refine bodyPost_ret (v := .tuple #[.agg #[.bool false, .slice none 0 0, .slice none 0 0], .int .i64 2]) (by simp [results, Tryz.results40, go_sem, hr0, hr1, hr2]) rfl ?_
  exact ⟨_, rfl, IsRat.zero _ _, ((HX.out.setCell (Nat.le_succ _) _).setCell (Nat.le_succ _) _).setCell (Nat.le_succ _) _⟩
set_option maxHeartbeats 2000000 in
set_option maxRecDepth 100000 in
theorem ppowR_pos (w : World) (v0 : Value) (p : Int) (q : Nat) (h0 : ArrRat w v0 p q) (n0 : (limbs p.natAbs).length ≤ 1000000) (m0 : (limbs q).length ≤ 1000000) (n : Nat) (hn : n ≤ 64) :
    Calls Tryz.prog 40 #[v0, .int .i64 (n : Int)] w fun e w' => ∃ v', e = .returned (.tuple #[v', .int .i64 0]) ∧ IsRat w.heap.size w' v' (p ^ n) (q ^ n) ∧ Ext w w' := by
  have H0 := Lib.hid h0
  have n1 := n0
  have m1 := m0
  have hm1 : ¬ (n : Int) < -64 := by omega
  have hm2 : ¬ 64 < (n : Int) := by omega
  have hm3 : ¬ (n : Int) < 0 := by omega
  have HPN := Lib.hid (fun W m a => ppow_any W m (limbs p.natAbs) n a n1 hn)
  have HPD := Lib.hid (fun W m a => ppow_any W m (limbs q) n a m1 hn)
  rw [val_limbs] at HPN HPD
  have hps := pow_sgn p n
  have HNI := Lib.hid (fun W m a => inat_any W (decide (p < 0) && decide (n % 2 = 1)) m (limbs (p.natAbs ^ n)) a (by have := limbs_pow64 n1 hn; omega))
  rw [val_limbs, hps] at HNI
  have hpp := limbs_pow64 n1 hn
  have hqq := limbs_pow64 m1 hn
  obtain ⟨r, hr⟩ : ∃ r, n % 2 = r := ⟨_, rfl⟩
  have hr1 : (n : Int) % 2 = (r : Int) := by omega
  have hr2 : Int.tmod (n : Int) 2 = (r : Int) := by rw [Int.tmod_eq_emod_of_nonneg (by omega)]; omega
  have hr3 : ((r : Int) == 1) = decide (n % 2 = 1) := by rw [hr, Bool.eq_iff_iff, beq_iff_eq, decide_eq_true_iff]; omega
  generalize decide (n % 2 = 1) = d at *
  obtain ⟨b0, l0, A0, c0, k0, D0, e0, rfl⟩ := h0.shape
  clear hr hps hpp hqq n0 m0 n1 m1
  have hs0 := h0.sign
  rw [← hs0] at HNI
  clear h0 hs0
  go_enter Tryz.func40, Tryz.ntmps40
  go_upto_region 1 with fail
  have hb0 := ((Blk.new w 26 #[Value.bool b0, Value.slice A0 l0 c0, Value.slice D0 k0 e0]).alloc (.cells #[Value.bool false, Value.slice none 0 0, Value.slice none 0 0] 26))
  have hb1 := (Blk.new (w.alloc (.cells #[Value.bool b0, Value.slice A0 l0 c0, Value.slice D0 k0 e0] 26)) 26 #[Value.bool false, Value.slice none 0 0, Value.slice none 0 0])
  have hxo := (((Ext.refl w).alloc (.cells #[Value.bool b0, Value.slice A0 l0 c0, Value.slice D0 k0 e0] 26)).alloc (.cells #[Value.bool false, Value.slice none 0 0, Value.slice none 0 0] 26))
  have hszo : w.heap.size + 1 + 1 = ((w.alloc (.cells #[Value.bool b0, Value.slice A0 l0 c0, Value.slice D0 k0 e0] 26)).alloc (.cells #[Value.bool false, Value.slice none 0 0, Value.slice none 0 0] 26)).heap.size := by simp
  simp only [World.size_alloc] at hb1
  generalize (w.alloc (.cells #[Value.bool b0, Value.slice A0 l0 c0, Value.slice D0 k0 e0] 26)).alloc (.cells #[Value.bool false, Value.slice none 0 0, Value.slice none 0 0] 26) = wo at *
  have HB0 := Lib.hid hb0
  have HB1 := Lib.hid hb1
  have HX := Lib.hid hxo
  have HZ : Hid (w.heap.size + 1 + 1 ≤ wo.heap.size) := Lib.hid (by omega)
  clear hxo hszo hb0 hb1
  have HW := Lib.hid (Ext.refl wo)
  obtain ⟨hb0_0, hb0_1, hb0_2, hb0_3, hb0_4, hb0_5, hb0_6⟩ := HB0.out.three
  obtain ⟨hb1_0, hb1_1, hb1_2, hb1_3, hb1_4, hb1_5, hb1_6⟩ := HB1.out.three
  have HLW : Hid (wo.heap.size ≤ wo.heap.size) := Lib.hid (Nat.le_refl _)
  cases b0
  · simp only [Bool.false_and] at HNI
    clear hb0_0 hb0_1 hb0_2 hb0_3 hb0_4 hb0_5 hb0_6 hb1_0 hb1_1 hb1_2 hb1_3 hb1_4 hb1_5 hb1_6
    obtain ⟨hb0_0, hb0_1, hb0_2, hb0_3, hb0_4, hb0_5, hb0_6⟩ := HB0.out.three
    obtain ⟨hb1_0, hb1_1, hb1_2, hb1_3, hb1_4, hb1_5, hb1_6⟩ := HB1.out.three
    go_wp2_with fail
    clear hb0_0 hb0_1 hb0_2 hb0_3 hb0_4 hb0_5 hb0_6 hb1_0 hb1_1 hb1_2 hb1_3 hb1_4 hb1_5 hb1_6
    refine (HPN.out _ _ (H0.out.num.ext HX.out)).mono ?_
    rintro e w11 ⟨r10, rfl, hi10, hx10⟩
    have HX := Lib.hid (HX.out.trans hx10)
    have HW := Lib.hid (HW.out.trans hx10)
    have HB0 := Lib.hid (HB0.out.ext hx10)
    have HB1 := Lib.hid (HB1.out.ext hx10)
    have RN := Lib.hid hi10
    obtain ⟨g10, G10, j10, rfl⟩ := hi10.shape
    clear hi10
    clear hx10
    obtain ⟨hb0_0, hb0_1, hb0_2, hb0_3, hb0_4, hb0_5, hb0_6⟩ := HB0.out.three
    obtain ⟨hb1_0, hb1_1, hb1_2, hb1_3, hb1_4, hb1_5, hb1_6⟩ := HB1.out.three
    go_wp2_with fail
    clear hb0_0 hb0_1 hb0_2 hb0_3 hb0_4 hb0_5 hb0_6 hb1_0 hb1_1 hb1_2 hb1_3 hb1_4 hb1_5 hb1_6
    have HKI := Lib.hid (Nat.le_trans HLW.out HW.out.size)
    refine (HNI.out _ _ RN.out.arr).mono ?_
    rintro e w12 ⟨r11, rfl, hi11, hx11⟩
    have HX := Lib.hid (HX.out.trans hx11)
    have HW := Lib.hid (HW.out.trans hx11)
    have RN := Lib.hid (RN.out.ext hx11)
    have HB0 := Lib.hid (HB0.out.ext hx11)
    have HB1 := Lib.hid (HB1.out.ext hx11)
    have RI := Lib.hid hi11
    obtain ⟨f11, g11, G11, j11, rfl⟩ := hi11.shape
    clear hi11
    clear hx11
    obtain ⟨hb0_0, hb0_1, hb0_2, hb0_3, hb0_4, hb0_5, hb0_6⟩ := HB0.out.three
    obtain ⟨hb1_0, hb1_1, hb1_2, hb1_3, hb1_4, hb1_5, hb1_6⟩ := HB1.out.three
    go_upto_region 8 with fail
    clear RN
    have hlb := HB1.out.lt
    have HLO := Lib.hid HX.out.size
    have HLQ : Hid (wo.heap.size ≤ w12.heap.size) := Lib.hid (Nat.le_trans HLW.out HW.out.size)
    clear hb0_0 hb0_1 hb0_2 hb0_3 hb0_4 hb0_5 hb0_6 hb1_0 hb1_1 hb1_2 hb1_3 hb1_4 hb1_5 hb1_6
    have hb12 := Blk.new w12 24 #[Value.bool f11, Value.slice G11 g11 j11]
    have hx12 := (Ext.refl w12).alloc (.cells #[Value.bool f11, Value.slice G11 g11 j11] 24)
    have HX := Lib.hid (HX.out.trans hx12)
    have HW := Lib.hid (HW.out.trans hx12)
    have RI := Lib.hid (RI.out.ext hx12)
    have HB0 := Lib.hid (HB0.out.ext hx12)
    have HB1 := Lib.hid (HB1.out.ext hx12)
    have BI := Lib.hid hb12
    generalize w12.alloc (.cells #[Value.bool f11, Value.slice G11 g11 j11] 24) = w13 at *
    generalize w12.heap.size = a12 at *
    clear hb12 hx12
    obtain ⟨hb0_0, hb0_1, hb0_2, hb0_3, hb0_4, hb0_5, hb0_6⟩ := HB0.out.three
    obtain ⟨hb1_0, hb1_1, hb1_2, hb1_3, hb1_4, hb1_5, hb1_6⟩ := HB1.out.three
    obtain ⟨bi_0, bi_1, bi_2, bi_3, bi_4⟩ := BI.out.two
    have hlo := HLO.out
    have hzz := HZ.out
    have hlq := HLQ.out
    have RDd := Lib.hid ((H0.out.den.ext HX.out).ext (Ext.refl w13).drew)
    have RId := Lib.hid (RI.out.ext (Ext.refl w13).drew)
    go_region_held3 (fun w' => Ext w w' ∧ w'.cell? ⟨w.heap.size, 0, none⟩ = some (Value.bool false) ∧ w'.cell? ⟨w.heap.size, 1, none⟩ = some (Value.slice A0 l0 c0) ∧ w'.cell? ⟨w.heap.size, 2, none⟩ = some (Value.slice D0 k0 e0) ∧ w'.cell? ⟨a12, 0, none⟩ = some (Value.bool f11) ∧ w'.cell? ⟨a12, 1, none⟩ = some (Value.slice G11 g11 j11) ∧ w'.cell? ⟨w.heap.size + 1, 0, none⟩ = some (was w' (w.heap.size + 1) 0) ∧ w'.cell? ⟨w.heap.size + 1, 1, none⟩ = some (was w' (w.heap.size + 1) 1) ∧ w'.cell? ⟨w.heap.size + 1, 2, none⟩ = some (was w' (w.heap.size + 1) 2) ∧ w'.frozen? ⟨w.heap.size + 1, 0, none⟩ = false ∧ w'.frozen? ⟨w.heap.size + 1, 1, none⟩ = false ∧ w'.frozen? ⟨w.heap.size + 1, 2, none⟩ = false)
      (first | (exact ⟨HX.out.drew, hb0_0, hb0_1, hb0_2, bi_0, bi_1, was_some (w := w13.drew) hb1_0, was_some (w := w13.drew) hb1_1, was_some (w := w13.drew) hb1_2, hb1_3, hb1_4, hb1_5⟩) | (exact keptS5_3 (by assumption) (by assumption)) | (exact keptS5_3_set (by assumption) (by omega) (by omega) (by omega) (by omega) (by omega) (by omega)))
      (first | (go_at_call 100; refine (HPD.out _ _ RDd.out).mono ?_; rintro e w14 ⟨r13, rfl, hi13, hx13⟩; have hz13 := hx13.size; have RId := Lib.hid (RId.out.ext hx13); have RD := Lib.hid hi13; obtain ⟨g13, G13, j13, rfl⟩ := hi13.shape))
    all_goals go_wp2_with fail
    rename_i hS
    obtain ⟨hE, _, _, _, _, _, c0_, c1_, c2_, _, _, _⟩ := hS
    simp only [World.size_drew] at hz13
    obtain ⟨hr0, hr1, hr2⟩ := final3 c0_ c1_ c2_
    refine bodyPost_ret (v := .tuple #[.agg #[.bool f11, .slice G11 g11 j11, .slice G13 g13 j13], .int .i64 0]) (by simp [results, Tryz.results40, go_sem, hr0, hr1, hr2]) rfl ?_
    exact ⟨_, rfl, IsRat.put (w1 := wo) (IsRat.mk (RId.out.mono (by have := HKI.out; omega)) (RD.out.mono (by first | omega | (simp only [World.size_drew]; omega)))) (by omega) (by omega), hE⟩
  · simp only [Bool.true_and] at HNI
    clear hb0_0 hb0_1 hb0_2 hb0_3 hb0_4 hb0_5 hb0_6 hb1_0 hb1_1 hb1_2 hb1_3 hb1_4 hb1_5 hb1_6
    obtain ⟨hb0_0, hb0_1, hb0_2, hb0_3, hb0_4, hb0_5, hb0_6⟩ := HB0.out.three
    obtain ⟨hb1_0, hb1_1, hb1_2, hb1_3, hb1_4, hb1_5, hb1_6⟩ := HB1.out.three
    go_wp2_with fail
    clear hb0_0 hb0_1 hb0_2 hb0_3 hb0_4 hb0_5 hb0_6 hb1_0 hb1_1 hb1_2 hb1_3 hb1_4 hb1_5 hb1_6
    refine (HPN.out _ _ (H0.out.num.ext HX.out)).mono ?_
    rintro e w11 ⟨r10, rfl, hi10, hx10⟩
    have HX := Lib.hid (HX.out.trans hx10)
    have HW := Lib.hid (HW.out.trans hx10)
    have HB0 := Lib.hid (HB0.out.ext hx10)
    have HB1 := Lib.hid (HB1.out.ext hx10)
    have RN := Lib.hid hi10
    obtain ⟨g10, G10, j10, rfl⟩ := hi10.shape
    clear hi10
    clear hx10
    obtain ⟨hb0_0, hb0_1, hb0_2, hb0_3, hb0_4, hb0_5, hb0_6⟩ := HB0.out.three
    obtain ⟨hb1_0, hb1_1, hb1_2, hb1_3, hb1_4, hb1_5, hb1_6⟩ := HB1.out.three
    go_wp2_with fail
    clear hb0_0 hb0_1 hb0_2 hb0_3 hb0_4 hb0_5 hb0_6 hb1_0 hb1_1 hb1_2 hb1_3 hb1_4 hb1_5 hb1_6
    have HKI := Lib.hid (Nat.le_trans HLW.out HW.out.size)
    refine (HNI.out _ _ RN.out.arr).mono ?_
    rintro e w12 ⟨r11, rfl, hi11, hx11⟩
    have HX := Lib.hid (HX.out.trans hx11)
    have HW := Lib.hid (HW.out.trans hx11)
    have RN := Lib.hid (RN.out.ext hx11)
    have HB0 := Lib.hid (HB0.out.ext hx11)
    have HB1 := Lib.hid (HB1.out.ext hx11)
    have RI := Lib.hid hi11
    obtain ⟨f11, g11, G11, j11, rfl⟩ := hi11.shape
    clear hi11
    clear hx11
    obtain ⟨hb0_0, hb0_1, hb0_2, hb0_3, hb0_4, hb0_5, hb0_6⟩ := HB0.out.three
    obtain ⟨hb1_0, hb1_1, hb1_2, hb1_3, hb1_4, hb1_5, hb1_6⟩ := HB1.out.three
    go_upto_region 8 with fail
    clear RN
    have hlb := HB1.out.lt
    have HLO := Lib.hid HX.out.size
    have HLQ : Hid (wo.heap.size ≤ w12.heap.size) := Lib.hid (Nat.le_trans HLW.out HW.out.size)
    clear hb0_0 hb0_1 hb0_2 hb0_3 hb0_4 hb0_5 hb0_6 hb1_0 hb1_1 hb1_2 hb1_3 hb1_4 hb1_5 hb1_6
    have hb12 := Blk.new w12 24 #[Value.bool f11, Value.slice G11 g11 j11]
    have hx12 := (Ext.refl w12).alloc (.cells #[Value.bool f11, Value.slice G11 g11 j11] 24)
    have HX := Lib.hid (HX.out.trans hx12)
    have HW := Lib.hid (HW.out.trans hx12)
    have RI := Lib.hid (RI.out.ext hx12)
    have HB0 := Lib.hid (HB0.out.ext hx12)
    have HB1 := Lib.hid (HB1.out.ext hx12)
    have BI := Lib.hid hb12
    generalize w12.alloc (.cells #[Value.bool f11, Value.slice G11 g11 j11] 24) = w13 at *
    generalize w12.heap.size = a12 at *
    clear hb12 hx12
    obtain ⟨hb0_0, hb0_1, hb0_2, hb0_3, hb0_4, hb0_5, hb0_6⟩ := HB0.out.three
    obtain ⟨hb1_0, hb1_1, hb1_2, hb1_3, hb1_4, hb1_5, hb1_6⟩ := HB1.out.three
    obtain ⟨bi_0, bi_1, bi_2, bi_3, bi_4⟩ := BI.out.two
    have hlo := HLO.out
    have hzz := HZ.out
    have hlq := HLQ.out
    have RDd := Lib.hid ((H0.out.den.ext HX.out).ext (Ext.refl w13).drew)
    have RId := Lib.hid (RI.out.ext (Ext.refl w13).drew)
    go_region_held3 (fun w' => Ext w w' ∧ w'.cell? ⟨w.heap.size, 0, none⟩ = some (Value.bool true) ∧ w'.cell? ⟨w.heap.size, 1, none⟩ = some (Value.slice A0 l0 c0) ∧ w'.cell? ⟨w.heap.size, 2, none⟩ = some (Value.slice D0 k0 e0) ∧ w'.cell? ⟨a12, 0, none⟩ = some (Value.bool f11) ∧ w'.cell? ⟨a12, 1, none⟩ = some (Value.slice G11 g11 j11) ∧ w'.cell? ⟨w.heap.size + 1, 0, none⟩ = some (was w' (w.heap.size + 1) 0) ∧ w'.cell? ⟨w.heap.size + 1, 1, none⟩ = some (was w' (w.heap.size + 1) 1) ∧ w'.cell? ⟨w.heap.size + 1, 2, none⟩ = some (was w' (w.heap.size + 1) 2) ∧ w'.frozen? ⟨w.heap.size + 1, 0, none⟩ = false ∧ w'.frozen? ⟨w.heap.size + 1, 1, none⟩ = false ∧ w'.frozen? ⟨w.heap.size + 1, 2, none⟩ = false)
      (first | (exact ⟨HX.out.drew, hb0_0, hb0_1, hb0_2, bi_0, bi_1, was_some (w := w13.drew) hb1_0, was_some (w := w13.drew) hb1_1, was_some (w := w13.drew) hb1_2, hb1_3, hb1_4, hb1_5⟩) | (exact keptS5_3 (by assumption) (by assumption)) | (exact keptS5_3_set (by assumption) (by omega) (by omega) (by omega) (by omega) (by omega) (by omega)))
      (first | (go_at_call 100; refine (HPD.out _ _ RDd.out).mono ?_; rintro e w14 ⟨r13, rfl, hi13, hx13⟩; have hz13 := hx13.size; have RId := Lib.hid (RId.out.ext hx13); have RD := Lib.hid hi13; obtain ⟨g13, G13, j13, rfl⟩ := hi13.shape))
    all_goals go_wp2_with fail
    rename_i hS
    obtain ⟨hE, _, _, _, _, _, c0_, c1_, c2_, _, _, _⟩ := hS
    simp only [World.size_drew] at hz13
    obtain ⟨hr0, hr1, hr2⟩ := final3 c0_ c1_ c2_
    refine bodyPost_ret (v := .tuple #[.agg #[.bool f11, .slice G11 g11 j11, .slice G13 g13 j13], .int .i64 0]) (by simp [results, Tryz.results40, go_sem, hr0, hr1, hr2]) rfl ?_
    exact ⟨_, rfl, IsRat.put (w1 := wo) (IsRat.mk (RId.out.mono (by have := HKI.out; omega)) (RD.out.mono (by first | omega | (simp only [World.size_drew]; omega)))) (by omega) (by omega), hE⟩
set_option maxHeartbeats 2000000 in
set_option maxRecDepth 100000 in
theorem ppowR_neg (w : World) (v0 : Value) (p : Int) (q : Nat) (h0 : ArrRat w v0 p q) (n0 : (limbs p.natAbs).length ≤ 1000000) (m0 : (limbs q).length ≤ 1000000) (n : Nat) (hn : n ≤ 64) (hn0 : 0 < n) (hp : p ≠ 0) :
    Calls Tryz.prog 40 #[v0, .int .i64 (-(n : Int))] w fun e w' => ∃ v', e = .returned (.tuple #[v', .int .i64 0]) ∧ IsRat w.heap.size w' v' (invP p q ^ n) (p.natAbs ^ n) ∧ Ext w w' := by
  have H0 := Lib.hid h0
  have HSG := Lib.hid (fun W v a => signR_any W v p q a n0 m0)
  have hsb : (sgZ p == 0) = false := by rw [beq_eq_false_iff_ne]; unfold sgZ; split <;> (try split) <;> omega
  have HIV := Lib.hid (fun W v a => invR_any W v p q a n0 m0)
  have hi := sz_inv n0 m0
  have hna : (invP p q).natAbs = q := by unfold invP; rw [natAbs_sgn]
  have hwn : IntKind.i64.wrap (- -(n : Int)) = (n : Int) := by rw [Int.neg_neg]; exact IntWalk.i64_in _ (by omega)
  have hnn : - -(n : Int) = (n : Int) := Int.neg_neg _
  have hm1 : ¬ -(n : Int) < -64 := by omega
  have hm2 : ¬ 64 < -(n : Int) := by omega
  have hm3 : -(n : Int) < 0 := by omega
  generalize invP p q = P at *
  generalize hQ : p.natAbs = Q at *
  clear hQ
  have n1 : (limbs P.natAbs).length ≤ 1000000 := hi.1
  have m1 : (limbs Q).length ≤ 1000000 := hi.2
  have HPN := Lib.hid (fun W m a => ppow_any W m (limbs P.natAbs) n a n1 hn)
  have HPD := Lib.hid (fun W m a => ppow_any W m (limbs Q) n a m1 hn)
  rw [val_limbs] at HPN HPD
  have hps := pow_sgn P n
  have HNI := Lib.hid (fun W m a => inat_any W (decide (P < 0) && decide (n % 2 = 1)) m (limbs (P.natAbs ^ n)) a (by have := limbs_pow64 n1 hn; omega))
  rw [val_limbs, hps] at HNI
  have hpp := limbs_pow64 n1 hn
  have hqq := limbs_pow64 m1 hn
  obtain ⟨r, hr⟩ : ∃ r, n % 2 = r := ⟨_, rfl⟩
  have hr1 : (n : Int) % 2 = (r : Int) := by omega
  have hr2 : Int.tmod (n : Int) 2 = (r : Int) := by rw [Int.tmod_eq_emod_of_nonneg (by omega)]; omega
  have hr3 : ((r : Int) == 1) = decide (n % 2 = 1) := by rw [hr, Bool.eq_iff_iff, beq_iff_eq, decide_eq_true_iff]; omega
  generalize decide (n % 2 = 1) = d at *
  obtain ⟨b0, l0, A0, c0, k0, D0, e0, rfl⟩ := h0.shape
  clear hr hps hpp hqq n0 m0 n1 m1 hi hna hp
  clear h0
  generalize sgZ p = sg at *
  go_enter Tryz.func40, Tryz.ntmps40
  go_upto_region 1 with fail
  have hb0 := ((Blk.new w 26 #[Value.bool b0, Value.slice A0 l0 c0, Value.slice D0 k0 e0]).alloc (.cells #[Value.bool false, Value.slice none 0 0, Value.slice none 0 0] 26))
  have hb1 := (Blk.new (w.alloc (.cells #[Value.bool b0, Value.slice A0 l0 c0, Value.slice D0 k0 e0] 26)) 26 #[Value.bool false, Value.slice none 0 0, Value.slice none 0 0])
  have hxo := (((Ext.refl w).alloc (.cells #[Value.bool b0, Value.slice A0 l0 c0, Value.slice D0 k0 e0] 26)).alloc (.cells #[Value.bool false, Value.slice none 0 0, Value.slice none 0 0] 26))
  have hszo : w.heap.size + 1 + 1 = ((w.alloc (.cells #[Value.bool b0, Value.slice A0 l0 c0, Value.slice D0 k0 e0] 26)).alloc (.cells #[Value.bool false, Value.slice none 0 0, Value.slice none 0 0] 26)).heap.size := by simp
  simp only [World.size_alloc] at hb1
  generalize (w.alloc (.cells #[Value.bool b0, Value.slice A0 l0 c0, Value.slice D0 k0 e0] 26)).alloc (.cells #[Value.bool false, Value.slice none 0 0, Value.slice none 0 0] 26) = wo at *
  have HB0 := Lib.hid hb0
  have HB1 := Lib.hid hb1
  have HX := Lib.hid hxo
  have HZ : Hid (w.heap.size + 1 + 1 ≤ wo.heap.size) := Lib.hid (by omega)
  clear hxo hszo hb0 hb1
  have HW := Lib.hid (Ext.refl wo)
  obtain ⟨hb0_0, hb0_1, hb0_2, hb0_3, hb0_4, hb0_5, hb0_6⟩ := HB0.out.three
  obtain ⟨hb1_0, hb1_1, hb1_2, hb1_3, hb1_4, hb1_5, hb1_6⟩ := HB1.out.three
  go_wp2_with fail
  clear hb0_0 hb0_1 hb0_2 hb0_3 hb0_4 hb0_5 hb0_6 hb1_0 hb1_1 hb1_2 hb1_3 hb1_4 hb1_5 hb1_6
  refine (HSG.out _ _ (H0.out.ext HX.out)).mono ?_
  rintro e w11 ⟨rfl, hx10⟩
  have HX := Lib.hid (HX.out.trans hx10)
  have HW := Lib.hid (HW.out.trans hx10)
  have HB0 := Lib.hid (HB0.out.ext hx10)
  have HB1 := Lib.hid (HB1.out.ext hx10)
  clear hx10
  obtain ⟨hb0_0, hb0_1, hb0_2, hb0_3, hb0_4, hb0_5, hb0_6⟩ := HB0.out.three
  obtain ⟨hb1_0, hb1_1, hb1_2, hb1_3, hb1_4, hb1_5, hb1_6⟩ := HB1.out.three
  go_wp2_with fail
  clear hb0_0 hb0_1 hb0_2 hb0_3 hb0_4 hb0_5 hb0_6 hb1_0 hb1_1 hb1_2 hb1_3 hb1_4 hb1_5 hb1_6
  have HWQ := HW
  refine (HIV.out _ _ (H0.out.ext HX.out)).mono ?_
  rintro e w12 ⟨r11, rfl, hi11, hx11⟩
  have HX := Lib.hid (HX.out.trans hx11)
  have HW := Lib.hid (HW.out.trans hx11)
  have HB0 := Lib.hid (HB0.out.ext hx11)
  have HB1 := Lib.hid (HB1.out.ext hx11)
  have QI := Lib.hid hi11
  obtain ⟨f11, g11, G11, j11, y11, Y11, z11, rfl⟩ := hi11.shape
  clear hi11
  clear hx11
  obtain ⟨hb0_0, hb0_1, hb0_2, hb0_3, hb0_4, hb0_5, hb0_6⟩ := HB0.out.three
  obtain ⟨hb1_0, hb1_1, hb1_2, hb1_3, hb1_4, hb1_5, hb1_6⟩ := HB1.out.three
  go_upto_region 7 with fail
  clear hb0_0 hb0_1 hb0_2 hb0_3 hb0_4 hb0_5 hb0_6 hb1_0 hb1_1 hb1_2 hb1_3 hb1_4 hb1_5 hb1_6
  have hzz := HZ.out
  have hww := HWQ.out.size
  have hs0 := QI.out.arr.sign
  rw [← hs0] at HNI
  clear hs0
  have QI := Lib.hid (((QI.out.far (a := ⟨w.heap.size, 0, none⟩) (by first | omega | (simp only; omega)) (.bool f11)).far (a := ⟨w.heap.size, 1, none⟩) (by first | omega | (simp only; omega)) (.slice G11 g11 j11)).far (a := ⟨w.heap.size, 2, none⟩) (by first | omega | (simp only; omega)) (.slice Y11 y11 z11))
  have HB1 := Lib.hid (((HB1.out.far (p := ⟨w.heap.size, 0, none⟩) (show w.heap.size + 1 ≠ _ by (try simp only) <;> omega) (.bool f11)).far (p := ⟨w.heap.size, 1, none⟩) (show w.heap.size + 1 ≠ _ by (try simp only) <;> omega) (.slice G11 g11 j11)).far (p := ⟨w.heap.size, 2, none⟩) (show w.heap.size + 1 ≠ _ by (try simp only) <;> omega) (.slice Y11 y11 z11))
  have hB0 : Blk (((w12.setCell ⟨w.heap.size, 0, none⟩ (.bool f11)).setCell ⟨w.heap.size, 1, none⟩ (.slice G11 g11 j11)).setCell ⟨w.heap.size, 2, none⟩ (.slice Y11 y11 z11)) w.heap.size 26 #[Value.bool f11, Value.slice G11 g11 j11, Value.slice Y11 y11 z11] := ((HB0.out.set_ 0 (.bool f11)).set_ 1 (.slice G11 g11 j11)).set_ 2 (.slice Y11 y11 z11)
  have HB0 := Lib.hid hB0
  have HX := Lib.hid (((HX.out.setCell (p := ⟨w.heap.size, 0, none⟩) (Nat.le_refl _) (.bool f11)).setCell (p := ⟨w.heap.size, 1, none⟩) (Nat.le_refl _) (.slice G11 g11 j11)).setCell (p := ⟨w.heap.size, 2, none⟩) (Nat.le_refl _) (.slice Y11 y11 z11))
  have HLW : Hid (wo.heap.size ≤ ((((w12.setCell ⟨w.heap.size, 0, none⟩ (.bool f11)).setCell ⟨w.heap.size, 1, none⟩ (.slice G11 g11 j11)).setCell ⟨w.heap.size, 2, none⟩ (.slice Y11 y11 z11))).heap.size) := Lib.hid (by simp only [World.size_setCell]; have := HW.out.size; omega)
  clear hB0 hzz hww HW
  generalize ((w12.setCell ⟨w.heap.size, 0, none⟩ (.bool f11)).setCell ⟨w.heap.size, 1, none⟩ (.slice G11 g11 j11)).setCell ⟨w.heap.size, 2, none⟩ (.slice Y11 y11 z11) = w13 at *
  have HW := Lib.hid (Ext.refl w13)
  cases f11
  · simp only [Bool.false_and] at HNI
    obtain ⟨hb0_0, hb0_1, hb0_2, hb0_3, hb0_4, hb0_5, hb0_6⟩ := HB0.out.three
    obtain ⟨hb1_0, hb1_1, hb1_2, hb1_3, hb1_4, hb1_5, hb1_6⟩ := HB1.out.three
    go_wp2_with fail
    clear hb0_0 hb0_1 hb0_2 hb0_3 hb0_4 hb0_5 hb0_6 hb1_0 hb1_1 hb1_2 hb1_3 hb1_4 hb1_5 hb1_6
    refine (HPN.out _ _ QI.out.arr.num).mono ?_
    rintro e w14 ⟨r13, rfl, hi13, hx13⟩
    have HX := Lib.hid (HX.out.trans hx13)
    have HW := Lib.hid (HW.out.trans hx13)
    have QI := Lib.hid (QI.out.ext hx13)
    have HB0 := Lib.hid (HB0.out.ext hx13)
    have HB1 := Lib.hid (HB1.out.ext hx13)
    have RN := Lib.hid hi13
    obtain ⟨g13, G13, j13, rfl⟩ := hi13.shape
    clear hi13
    clear hx13
    obtain ⟨hb0_0, hb0_1, hb0_2, hb0_3, hb0_4, hb0_5, hb0_6⟩ := HB0.out.three
    obtain ⟨hb1_0, hb1_1, hb1_2, hb1_3, hb1_4, hb1_5, hb1_6⟩ := HB1.out.three
    go_wp2_with fail
    clear hb0_0 hb0_1 hb0_2 hb0_3 hb0_4 hb0_5 hb0_6 hb1_0 hb1_1 hb1_2 hb1_3 hb1_4 hb1_5 hb1_6
    have HKI := Lib.hid (Nat.le_trans HLW.out HW.out.size)
    refine (HNI.out _ _ RN.out.arr).mono ?_
    rintro e w15 ⟨r14, rfl, hi14, hx14⟩
    have HX := Lib.hid (HX.out.trans hx14)
    have HW := Lib.hid (HW.out.trans hx14)
    have QI := Lib.hid (QI.out.ext hx14)
    have RN := Lib.hid (RN.out.ext hx14)
    have HB0 := Lib.hid (HB0.out.ext hx14)
    have HB1 := Lib.hid (HB1.out.ext hx14)
    have RI := Lib.hid hi14
    obtain ⟨f14, g14, G14, j14, rfl⟩ := hi14.shape
    clear hi14
    clear hx14
    obtain ⟨hb0_0, hb0_1, hb0_2, hb0_3, hb0_4, hb0_5, hb0_6⟩ := HB0.out.three
    obtain ⟨hb1_0, hb1_1, hb1_2, hb1_3, hb1_4, hb1_5, hb1_6⟩ := HB1.out.three
    go_upto_region 8 with fail
    clear RN
    have hlb := HB1.out.lt
    have HLO := Lib.hid HX.out.size
    have HLQ : Hid (wo.heap.size ≤ w15.heap.size) := Lib.hid (Nat.le_trans HLW.out HW.out.size)
    clear hb0_0 hb0_1 hb0_2 hb0_3 hb0_4 hb0_5 hb0_6 hb1_0 hb1_1 hb1_2 hb1_3 hb1_4 hb1_5 hb1_6
    have hb15 := Blk.new w15 24 #[Value.bool f14, Value.slice G14 g14 j14]
    have hx15 := (Ext.refl w15).alloc (.cells #[Value.bool f14, Value.slice G14 g14 j14] 24)
    have HX := Lib.hid (HX.out.trans hx15)
    have HW := Lib.hid (HW.out.trans hx15)
    have QI := Lib.hid (QI.out.ext hx15)
    have RI := Lib.hid (RI.out.ext hx15)
    have HB0 := Lib.hid (HB0.out.ext hx15)
    have HB1 := Lib.hid (HB1.out.ext hx15)
    have BI := Lib.hid hb15
    generalize w15.alloc (.cells #[Value.bool f14, Value.slice G14 g14 j14] 24) = w16 at *
    generalize w15.heap.size = a15 at *
    clear hb15 hx15
    obtain ⟨hb0_0, hb0_1, hb0_2, hb0_3, hb0_4, hb0_5, hb0_6⟩ := HB0.out.three
    obtain ⟨hb1_0, hb1_1, hb1_2, hb1_3, hb1_4, hb1_5, hb1_6⟩ := HB1.out.three
    obtain ⟨bi_0, bi_1, bi_2, bi_3, bi_4⟩ := BI.out.two
    have hlo := HLO.out
    have hzz := HZ.out
    have hlq := HLQ.out
    have RDd := Lib.hid (QI.out.arr.den.ext (Ext.refl w16).drew)
    have RId := Lib.hid (RI.out.ext (Ext.refl w16).drew)
    go_region_held3 (fun w' => Ext w w' ∧ w'.cell? ⟨w.heap.size, 0, none⟩ = some (Value.bool false) ∧ w'.cell? ⟨w.heap.size, 1, none⟩ = some (Value.slice G11 g11 j11) ∧ w'.cell? ⟨w.heap.size, 2, none⟩ = some (Value.slice Y11 y11 z11) ∧ w'.cell? ⟨a15, 0, none⟩ = some (Value.bool f14) ∧ w'.cell? ⟨a15, 1, none⟩ = some (Value.slice G14 g14 j14) ∧ w'.cell? ⟨w.heap.size + 1, 0, none⟩ = some (was w' (w.heap.size + 1) 0) ∧ w'.cell? ⟨w.heap.size + 1, 1, none⟩ = some (was w' (w.heap.size + 1) 1) ∧ w'.cell? ⟨w.heap.size + 1, 2, none⟩ = some (was w' (w.heap.size + 1) 2) ∧ w'.frozen? ⟨w.heap.size + 1, 0, none⟩ = false ∧ w'.frozen? ⟨w.heap.size + 1, 1, none⟩ = false ∧ w'.frozen? ⟨w.heap.size + 1, 2, none⟩ = false)
      (first | (exact ⟨HX.out.drew, hb0_0, hb0_1, hb0_2, bi_0, bi_1, was_some (w := w16.drew) hb1_0, was_some (w := w16.drew) hb1_1, was_some (w := w16.drew) hb1_2, hb1_3, hb1_4, hb1_5⟩) | (exact keptS5_3 (by assumption) (by assumption)) | (exact keptS5_3_set (by assumption) (by omega) (by omega) (by omega) (by omega) (by omega) (by omega)))
      (first | (go_at_call 100; refine (HPD.out _ _ RDd.out).mono ?_; rintro e w17 ⟨r16, rfl, hi16, hx16⟩; have hz16 := hx16.size; have RId := Lib.hid (RId.out.ext hx16); have RD := Lib.hid hi16; obtain ⟨g16, G16, j16, rfl⟩ := hi16.shape))
    all_goals go_wp2_with fail
    rename_i hS
    obtain ⟨hE, _, _, _, _, _, c0_, c1_, c2_, _, _, _⟩ := hS
    simp only [World.size_drew] at hz16
    obtain ⟨hr0, hr1, hr2⟩ := final3 c0_ c1_ c2_
    refine bodyPost_ret (v := .tuple #[.agg #[.bool f14, .slice G14 g14 j14, .slice G16 g16 j16], .int .i64 0]) (by simp [results, Tryz.results40, go_sem, hr0, hr1, hr2]) rfl ?_
    exact ⟨_, rfl, IsRat.put (w1 := wo) (IsRat.mk (RId.out.mono (by have := HKI.out; omega)) (RD.out.mono (by first | omega | (simp only [World.size_drew]; omega)))) (by omega) (by omega), hE⟩
  · simp only [Bool.true_and] at HNI
    obtain ⟨hb0_0, hb0_1, hb0_2, hb0_3, hb0_4, hb0_5, hb0_6⟩ := HB0.out.three
    obtain ⟨hb1_0, hb1_1, hb1_2, hb1_3, hb1_4, hb1_5, hb1_6⟩ := HB1.out.three
    go_wp2_with fail
    clear hb0_0 hb0_1 hb0_2 hb0_3 hb0_4 hb0_5 hb0_6 hb1_0 hb1_1 hb1_2 hb1_3 hb1_4 hb1_5 hb1_6
    refine (HPN.out _ _ QI.out.arr.num).mono ?_
    rintro e w14 ⟨r13, rfl, hi13, hx13⟩
    have HX := Lib.hid (HX.out.trans hx13)
    have HW := Lib.hid (HW.out.trans hx13)
    have QI := Lib.hid (QI.out.ext hx13)
    have HB0 := Lib.hid (HB0.out.ext hx13)
    have HB1 := Lib.hid (HB1.out.ext hx13)
    have RN := Lib.hid hi13
    obtain ⟨g13, G13, j13, rfl⟩ := hi13.shape
    clear hi13
    clear hx13
    obtain ⟨hb0_0, hb0_1, hb0_2, hb0_3, hb0_4, hb0_5, hb0_6⟩ := HB0.out.three
    obtain ⟨hb1_0, hb1_1, hb1_2, hb1_3, hb1_4, hb1_5, hb1_6⟩ := HB1.out.three
    go_wp2_with fail
    clear hb0_0 hb0_1 hb0_2 hb0_3 hb0_4 hb0_5 hb0_6 hb1_0 hb1_1 hb1_2 hb1_3 hb1_4 hb1_5 hb1_6
    have HKI := Lib.hid (Nat.le_trans HLW.out HW.out.size)
    refine (HNI.out _ _ RN.out.arr).mono ?_
    rintro e w15 ⟨r14, rfl, hi14, hx14⟩
    have HX := Lib.hid (HX.out.trans hx14)
    have HW := Lib.hid (HW.out.trans hx14)
    have QI := Lib.hid (QI.out.ext hx14)
    have RN := Lib.hid (RN.out.ext hx14)
    have HB0 := Lib.hid (HB0.out.ext hx14)
    have HB1 := Lib.hid (HB1.out.ext hx14)
    have RI := Lib.hid hi14
    obtain ⟨f14, g14, G14, j14, rfl⟩ := hi14.shape
    clear hi14
    clear hx14
    obtain ⟨hb0_0, hb0_1, hb0_2, hb0_3, hb0_4, hb0_5, hb0_6⟩ := HB0.out.three
    obtain ⟨hb1_0, hb1_1, hb1_2, hb1_3, hb1_4, hb1_5, hb1_6⟩ := HB1.out.three
    go_upto_region 8 with fail
    clear RN
    have hlb := HB1.out.lt
    have HLO := Lib.hid HX.out.size
    have HLQ : Hid (wo.heap.size ≤ w15.heap.size) := Lib.hid (Nat.le_trans HLW.out HW.out.size)
    clear hb0_0 hb0_1 hb0_2 hb0_3 hb0_4 hb0_5 hb0_6 hb1_0 hb1_1 hb1_2 hb1_3 hb1_4 hb1_5 hb1_6
    have hb15 := Blk.new w15 24 #[Value.bool f14, Value.slice G14 g14 j14]
    have hx15 := (Ext.refl w15).alloc (.cells #[Value.bool f14, Value.slice G14 g14 j14] 24)
    have HX := Lib.hid (HX.out.trans hx15)
    have HW := Lib.hid (HW.out.trans hx15)
    have QI := Lib.hid (QI.out.ext hx15)
    have RI := Lib.hid (RI.out.ext hx15)
    have HB0 := Lib.hid (HB0.out.ext hx15)
    have HB1 := Lib.hid (HB1.out.ext hx15)
    have BI := Lib.hid hb15
    generalize w15.alloc (.cells #[Value.bool f14, Value.slice G14 g14 j14] 24) = w16 at *
    generalize w15.heap.size = a15 at *
    clear hb15 hx15
    obtain ⟨hb0_0, hb0_1, hb0_2, hb0_3, hb0_4, hb0_5, hb0_6⟩ := HB0.out.three
    obtain ⟨hb1_0, hb1_1, hb1_2, hb1_3, hb1_4, hb1_5, hb1_6⟩ := HB1.out.three
    obtain ⟨bi_0, bi_1, bi_2, bi_3, bi_4⟩ := BI.out.two
    have hlo := HLO.out
    have hzz := HZ.out
    have hlq := HLQ.out
    have RDd := Lib.hid (QI.out.arr.den.ext (Ext.refl w16).drew)
    have RId := Lib.hid (RI.out.ext (Ext.refl w16).drew)
    go_region_held3 (fun w' => Ext w w' ∧ w'.cell? ⟨w.heap.size, 0, none⟩ = some (Value.bool true) ∧ w'.cell? ⟨w.heap.size, 1, none⟩ = some (Value.slice G11 g11 j11) ∧ w'.cell? ⟨w.heap.size, 2, none⟩ = some (Value.slice Y11 y11 z11) ∧ w'.cell? ⟨a15, 0, none⟩ = some (Value.bool f14) ∧ w'.cell? ⟨a15, 1, none⟩ = some (Value.slice G14 g14 j14) ∧ w'.cell? ⟨w.heap.size + 1, 0, none⟩ = some (was w' (w.heap.size + 1) 0) ∧ w'.cell? ⟨w.heap.size + 1, 1, none⟩ = some (was w' (w.heap.size + 1) 1) ∧ w'.cell? ⟨w.heap.size + 1, 2, none⟩ = some (was w' (w.heap.size + 1) 2) ∧ w'.frozen? ⟨w.heap.size + 1, 0, none⟩ = false ∧ w'.frozen? ⟨w.heap.size + 1, 1, none⟩ = false ∧ w'.frozen? ⟨w.heap.size + 1, 2, none⟩ = false)
      (first | (exact ⟨HX.out.drew, hb0_0, hb0_1, hb0_2, bi_0, bi_1, was_some (w := w16.drew) hb1_0, was_some (w := w16.drew) hb1_1, was_some (w := w16.drew) hb1_2, hb1_3, hb1_4, hb1_5⟩) | (exact keptS5_3 (by assumption) (by assumption)) | (exact keptS5_3_set (by assumption) (by omega) (by omega) (by omega) (by omega) (by omega) (by omega)))
      (first | (go_at_call 100; refine (HPD.out _ _ RDd.out).mono ?_; rintro e w17 ⟨r16, rfl, hi16, hx16⟩; have hz16 := hx16.size; have RId := Lib.hid (RId.out.ext hx16); have RD := Lib.hid hi16; obtain ⟨g16, G16, j16, rfl⟩ := hi16.shape))
    all_goals go_wp2_with fail
    rename_i hS
    obtain ⟨hE, _, _, _, _, _, c0_, c1_, c2_, _, _, _⟩ := hS
    simp only [World.size_drew] at hz16
    obtain ⟨hr0, hr1, hr2⟩ := final3 c0_ c1_ c2_
    refine bodyPost_ret (v := .tuple #[.agg #[.bool f14, .slice G14 g14 j14, .slice G16 g16 j16], .int .i64 0]) (by simp [results, Tryz.results40, go_sem, hr0, hr1, hr2]) rfl ?_
    exact ⟨_, rfl, IsRat.put (w1 := wo) (IsRat.mk (RId.out.mono (by have := HKI.out; omega)) (RD.out.mono (by first | omega | (simp only [World.size_drew]; omega)))) (by omega) (by omega), hE⟩
end Big
end Go.Proofs.YtplmldkfgeiklaaGreatDoor
/- ref07.Power. Printed by a program. -/
namespace Go.Proofs.YtplmldkfgeiklaaGreatDoor
namespace Big
open Go.RowKit
set_option maxHeartbeats 2000000 in
set_option maxRecDepth 100000 in
theorem rpowR_arg (w : World) (v0 : Value) (p : Int) (q : Nat) (h0 : ArrRat w v0 p q) (n0 : (limbs p.natAbs).length ≤ 1000000) (m0 : (limbs q).length ≤ 1000000) (n : Int) (hn : n < -64 ∨ 64 < n) :
    Calls Tryz.prog 14 #[v0, .int .i64 n] w fun e w' => ∃ v', e = .returned (.tuple #[v', .int .i64 1]) ∧ IsRat w.heap.size w' v' (0) (0) ∧ Ext w w' := by
  have H0 := Lib.hid h0
  obtain ⟨b0, l0, A0, c0, k0, D0, e0, rfl⟩ := h0.shape
  clear h0 n0 m0
  rcases hn with hn | hn
  · have hn1 : n < -64 := hn
    go_enter Tryz.func14, Tryz.ntmps14
    go_upto_region 1 with fail
    have hb0 := ((Blk.new w 26 #[Value.bool b0, Value.slice A0 l0 c0, Value.slice D0 k0 e0]).alloc (.cells #[Value.bool false, Value.slice none 0 0, Value.slice none 0 0] 26))
    have hb1 := (Blk.new (w.alloc (.cells #[Value.bool b0, Value.slice A0 l0 c0, Value.slice D0 k0 e0] 26)) 26 #[Value.bool false, Value.slice none 0 0, Value.slice none 0 0])
    have hxo := (((Ext.refl w).alloc (.cells #[Value.bool b0, Value.slice A0 l0 c0, Value.slice D0 k0 e0] 26)).alloc (.cells #[Value.bool false, Value.slice none 0 0, Value.slice none 0 0] 26))
    have hszo : w.heap.size + 1 + 1 = ((w.alloc (.cells #[Value.bool b0, Value.slice A0 l0 c0, Value.slice D0 k0 e0] 26)).alloc (.cells #[Value.bool false, Value.slice none 0 0, Value.slice none 0 0] 26)).heap.size := by simp
    simp only [World.size_alloc] at hb1
    generalize (w.alloc (.cells #[Value.bool b0, Value.slice A0 l0 c0, Value.slice D0 k0 e0] 26)).alloc (.cells #[Value.bool false, Value.slice none 0 0, Value.slice none 0 0] 26) = wo at *
    have HB0 := Lib.hid hb0
    have HB1 := Lib.hid hb1
    have HX := Lib.hid hxo
    have HZ : Hid (w.heap.size + 1 + 1 ≤ wo.heap.size) := Lib.hid (by omega)
    clear hxo hszo hb0 hb1
    obtain ⟨t0, t1, t2, s0, s1, s2, hgz⟩ := HB1.out.three
    go_wp2_with fail
    obtain ⟨hr0, hr1, hr2⟩ := three_set HB1.out (.bool false) (.slice none 0 0) (.slice none 0 0)
    refine bodyPost_ret (v := .tuple #[.agg #[.bool false, .slice none 0 0, .slice none 0 0], .int .i64 1]) (by simp [results, Tryz.results14, go_sem, hr0, hr1, hr2]) rfl ?_
    exact ⟨_, rfl, IsRat.zero _ _, ((HX.out.setCell (Nat.le_succ _) _).setCell (Nat.le_succ _) _).setCell (Nat.le_succ _) _⟩
  · have hn1 : ¬ n < -64 := by omega
    go_enter Tryz.func14, Tryz.ntmps14
    go_upto_region 1 with fail
    have hb0 := ((Blk.new w 26 #[Value.bool b0, Value.slice A0 l0 c0, Value.slice D0 k0 e0]).alloc (.cells #[Value.bool false, Value.slice none 0 0, Value.slice none 0 0] 26))
    have hb1 := (Blk.new (w.alloc (.cells #[Value.bool b0, Value.slice A0 l0 c0, Value.slice D0 k0 e0] 26)) 26 #[Value.bool false, Value.slice none 0 0, Value.slice none 0 0])
    have hxo := (((Ext.refl w).alloc (.cells #[Value.bool b0, Value.slice A0 l0 c0, Value.slice D0 k0 e0] 26)).alloc (.cells #[Value.bool false, Value.slice none 0 0, Value.slice none 0 0] 26))
    have hszo : w.heap.size + 1 + 1 = ((w.alloc (.cells #[Value.bool b0, Value.slice A0 l0 c0, Value.slice D0 k0 e0] 26)).alloc (.cells #[Value.bool false, Value.slice none 0 0, Value.slice none 0 0] 26)).heap.size := by simp
    simp only [World.size_alloc] at hb1
    generalize (w.alloc (.cells #[Value.bool b0, Value.slice A0 l0 c0, Value.slice D0 k0 e0] 26)).alloc (.cells #[Value.bool false, Value.slice none 0 0, Value.slice none 0 0] 26) = wo at *
    have HB0 := Lib.hid hb0
    have HB1 := Lib.hid hb1
    have HX := Lib.hid hxo
    have HZ : Hid (w.heap.size + 1 + 1 ≤ wo.heap.size) := Lib.hid (by omega)
    clear hxo hszo hb0 hb1
    obtain ⟨t0, t1, t2, s0, s1, s2, hgz⟩ := HB1.out.three
    go_wp2_with fail
    obtain ⟨hr0, hr1, hr2⟩ := three_set HB1.out (.bool false) (.slice none 0 0) (.slice none 0 0)
    refine bodyPost_ret (v := .tuple #[.agg #[.bool false, .slice none 0 0, .slice none 0 0], .int .i64 1]) (by simp [results, Tryz.results14, go_sem, hr0, hr1, hr2]) rfl ?_
    exact ⟨_, rfl, IsRat.zero _ _, ((HX.out.setCell (Nat.le_succ _) _).setCell (Nat.le_succ _) _).setCell (Nat.le_succ _) _⟩
set_option maxHeartbeats 2000000 in
set_option maxRecDepth 100000 in
theorem rpowR_pos (w : World) (v0 : Value) (p : Int) (q : Nat) (h0 : ArrRat w v0 p q) (n0 : (limbs p.natAbs).length ≤ 1000000) (m0 : (limbs q).length ≤ 1000000) (n : Nat) (hn : n ≤ 64) :
    Calls Tryz.prog 14 #[v0, .int .i64 (n : Int)] w fun e w' => ∃ v', e = .returned (.tuple #[v', .int .i64 0]) ∧ IsRat w.heap.size w' v' (p ^ n) (q ^ n) ∧ Ext w w' := by
  have H0 := Lib.hid h0
  have hm1 : ¬ (n : Int) < -64 := by omega
  have hm2 : ¬ 64 < (n : Int) := by omega
  have hm3 : ¬ (n : Int) < 0 := by omega
  have HPN := Lib.hid (fun W m a => rpow_any W m (limbs p.natAbs) n a n0 hn)
  have HPD := Lib.hid (fun W m a => rpow_any W m (limbs q) n a m0 hn)
  rw [val_limbs] at HPN HPD
  have hps := pow_sgn p n
  have HNI := Lib.hid (fun W m a => rnat_any W (decide (p < 0) && decide (n % 2 = 1)) m (limbs (p.natAbs ^ n)) a (by have := limbs_pow64 n0 hn; omega))
  rw [val_limbs, hps] at HNI
  obtain ⟨r, hr⟩ : ∃ r, n % 2 = r := ⟨_, rfl⟩
  have hr1 : (n : Int) % 2 = (r : Int) := by omega
  have hr2 : Int.tmod (n : Int) 2 = (r : Int) := by rw [Int.tmod_eq_emod_of_nonneg (by omega)]; omega
  have hr3 : ((r : Int) == 1) = decide (n % 2 = 1) := by rw [hr, Bool.eq_iff_iff, beq_iff_eq, decide_eq_true_iff]; omega
  generalize decide (n % 2 = 1) = d at *
  obtain ⟨b0, l0, A0, c0, k0, D0, e0, rfl⟩ := h0.shape
  have hs0 := h0.sign
  rw [← hs0] at HNI
  have HNUM := Lib.hid h0.num
  have HDEN := Lib.hid h0.den
  clear h0 hs0 hr hps n0 m0
  cases b0
  · simp only [Bool.false_and] at HNI
    go_enter Tryz.func14, Tryz.ntmps14
    go_upto_region 8 with fail
    have hb0 := ((Blk.new w 26 #[Value.bool false, Value.slice A0 l0 c0, Value.slice D0 k0 e0]).alloc (.cells #[Value.bool false, Value.slice none 0 0, Value.slice none 0 0] 26))
    have hb1 := (Blk.new (w.alloc (.cells #[Value.bool false, Value.slice A0 l0 c0, Value.slice D0 k0 e0] 26)) 26 #[Value.bool false, Value.slice none 0 0, Value.slice none 0 0])
    have hxo := (((Ext.refl w).alloc (.cells #[Value.bool false, Value.slice A0 l0 c0, Value.slice D0 k0 e0] 26)).alloc (.cells #[Value.bool false, Value.slice none 0 0, Value.slice none 0 0] 26))
    have hszo : w.heap.size + 1 + 1 = ((w.alloc (.cells #[Value.bool false, Value.slice A0 l0 c0, Value.slice D0 k0 e0] 26)).alloc (.cells #[Value.bool false, Value.slice none 0 0, Value.slice none 0 0] 26)).heap.size := by simp
    simp only [World.size_alloc] at hb1
    generalize (w.alloc (.cells #[Value.bool false, Value.slice A0 l0 c0, Value.slice D0 k0 e0] 26)).alloc (.cells #[Value.bool false, Value.slice none 0 0, Value.slice none 0 0] 26) = wo at *
    have HB0 := Lib.hid hb0
    have HB1 := Lib.hid hb1
    have HX := Lib.hid hxo
    have HZ : Hid (w.heap.size + 1 + 1 ≤ wo.heap.size) := Lib.hid (by omega)
    clear hxo hszo hb0 hb1
    obtain ⟨hb0_0, hb0_1, hb0_2, hb0_3, hb0_4, hb0_5, hb0_6⟩ := HB0.out.three
    obtain ⟨hb1_0, hb1_1, hb1_2, hb1_3, hb1_4, hb1_5, hb1_6⟩ := HB1.out.three
    have HE0 := Lib.hid (Ext.refl wo).drew
    have hzz := HZ.out
    have HED := Lib.hid (Ext.refl wo).drew
    refine wp_region_held_drew (S := fun w' => Ext w w' ∧ w'.cell? ⟨w.heap.size, 0, none⟩ = some (Value.bool false) ∧ w'.cell? ⟨w.heap.size, 1, none⟩ = some (Value.slice A0 l0 c0) ∧ w'.cell? ⟨w.heap.size, 2, none⟩ = some (Value.slice D0 k0 e0) ∧ w'.cell? ⟨w.heap.size + 1, 0, none⟩ = some (was w' (w.heap.size + 1) 0) ∧ w'.cell? ⟨w.heap.size + 1, 1, none⟩ = some (was w' (w.heap.size + 1) 1) ∧ w'.cell? ⟨w.heap.size + 1, 2, none⟩ = some (was w' (w.heap.size + 1) 2) ∧ w'.frozen? ⟨w.heap.size + 1, 0, none⟩ = false ∧ w'.frozen? ⟨w.heap.size + 1, 1, none⟩ = false ∧ w'.frozen? ⟨w.heap.size + 1, 2, none⟩ = false) (by kernel_rfl) (by exact ⟨HX.out.drew, hb0_0, hb0_1, hb0_2, was_some (w := wo.drew) hb1_0, was_some (w := wo.drew) hb1_1, was_some (w := wo.drew) hb1_2, hb1_3, hb1_4, hb1_5⟩) (fun hHeld => ?_)
    refine' wpAnyH_take (i := 0) (v := _) rfl (by kernel_rfl) (by kernel_rfl) (by kernel_rfl) (fun _ _ _ h => h) (Or.inl ⟨by rfl, ?_⟩) hHeld ?_
    rotate_left
    · (intro w' hSw; (try dsimp only at hSw); go_simp; (try with_reducible rfl))
    try simp only [Act.put, List.setIfInBounds_toArray, List.set_cons_zero, List.set_cons_succ]
    refine' wpAnyH_take (i := 1) (v := _) rfl (by kernel_rfl) (by kernel_rfl) (by kernel_rfl) (fun _ _ _ h => h) (Or.inl ⟨by rfl, ?_⟩) hHeld ?_
    rotate_left
    · (intro w' hSw; (try dsimp only at hSw); go_simp; (try with_reducible rfl))
    try simp only [Act.put, List.setIfInBounds_toArray, List.set_cons_zero, List.set_cons_succ]
    refine' wpAnyH_take (i := 2) (v := _) rfl (by kernel_rfl) (by kernel_rfl) (by kernel_rfl) (fun _ _ _ h => h) (Or.inl ⟨by rfl, ?_⟩) hHeld ?_
    rotate_left
    · (intro w' hSw; (try dsimp only at hSw); go_simp; (try with_reducible rfl))
    try simp only [Act.put, List.setIfInBounds_toArray, List.set_cons_zero, List.set_cons_succ]
    refine' wpAnyH_take (i := 3) (v := _) rfl (by kernel_rfl) (by kernel_rfl) (by kernel_rfl) (fun _ _ _ h => h) (Or.inl ⟨by rfl, ?_⟩) hHeld ?_
    rotate_left
    · (intro w' hSw; (try dsimp only at hSw); go_simp; (try with_reducible rfl))
    try simp only [Act.put, List.setIfInBounds_toArray, List.set_cons_zero, List.set_cons_succ]
    refine wpAnyH_take (i := 4) (v := undef) rfl (by kernel_rfl) (by kernel_rfl) (by kernel_rfl) (fun _ _ _ h => h) (Or.inr ⟨by rfl, rfl⟩) hHeld ?_
    try simp only [Act.put, List.setIfInBounds_toArray, List.set_cons_zero, List.set_cons_succ]
    refine wpAnyH_take (i := 5) (v := undef) rfl (by kernel_rfl) (by kernel_rfl) (by kernel_rfl) (fun _ _ _ h => h) (Or.inr ⟨by rfl, rfl⟩) hHeld ?_
    try simp only [Act.put, List.setIfInBounds_toArray, List.set_cons_zero, List.set_cons_succ]
    refine wpAnyH_take (i := 6) (v := undef) rfl (by kernel_rfl) (by kernel_rfl) (by kernel_rfl) (fun _ _ _ h => h) (Or.inr ⟨by rfl, rfl⟩) hHeld ?_
    try simp only [Act.put, List.setIfInBounds_toArray, List.set_cons_zero, List.set_cons_succ]
    refine' wpAnyH_take (i := 7) (v := _) rfl (by kernel_rfl) (by kernel_rfl) (by kernel_rfl) (fun _ _ _ h => h) (Or.inl ⟨by rfl, ?_⟩) hHeld ?_
    rotate_left
    · (intro w' hSw; (try dsimp only at hSw); go_simp; (try with_reducible rfl))
    try simp only [Act.put, List.setIfInBounds_toArray, List.set_cons_zero, List.set_cons_succ]
    refine' wpAnyH_take (i := 8) (v := _) rfl (by kernel_rfl) (by kernel_rfl) (by kernel_rfl) (fun _ _ _ h => h) (Or.inl ⟨by rfl, ?_⟩) hHeld ?_
    rotate_left
    · (intro w' hSw; (try dsimp only at hSw); go_simp; (try with_reducible rfl))
    try simp only [Act.put, List.setIfInBounds_toArray, List.set_cons_zero, List.set_cons_succ]
    refine' wpAnyH_take (i := 9) (v := _) rfl (by kernel_rfl) (by kernel_rfl) (by kernel_rfl) (fun _ _ _ h => h) (Or.inl ⟨by rfl, ?_⟩) hHeld ?_
    rotate_left
    · (intro w' hSw; (try dsimp only at hSw); go_simp; (try with_reducible rfl))
    try simp only [Act.put, List.setIfInBounds_toArray, List.set_cons_zero, List.set_cons_succ]
    refine' wpAnyH_take (i := 10) (v := _) rfl (by kernel_rfl) (by kernel_rfl) (by kernel_rfl) (fun _ _ _ h => h) (Or.inl ⟨by rfl, ?_⟩) hHeld ?_
    rotate_left
    · (intro w' hSw; (try dsimp only at hSw); go_simp; (try with_reducible rfl))
    try simp only [Act.put, List.setIfInBounds_toArray, List.set_cons_zero, List.set_cons_succ]
    refine' wpAnyH_take (i := 11) (v := _) rfl (by kernel_rfl) (by kernel_rfl) (by kernel_rfl) (fun _ _ _ h => h) (Or.inl ⟨by rfl, ?_⟩) hHeld ?_
    rotate_left
    · (intro w' hSw; (try dsimp only at hSw); go_simp; (try with_reducible rfl))
    try simp only [Act.put, List.setIfInBounds_toArray, List.set_cons_zero, List.set_cons_succ]
    refine' wpAnyH_take (i := 14) (v := _) rfl (by kernel_rfl) (by kernel_rfl) (by kernel_rfl) (fun _ _ _ h => h) (Or.inl ⟨by rfl, ?_⟩) hHeld ?_
    rotate_left
    · (intro w' hSw; (try dsimp only at hSw); go_simp; (try with_reducible rfl))
    try simp only [Act.put, List.setIfInBounds_toArray, List.set_cons_zero, List.set_cons_succ]
    refine' wpAnyH_take (i := 15) (v := _) rfl (by kernel_rfl) (by kernel_rfl) (by kernel_rfl) (fun _ _ _ h => h) (Or.inl ⟨by rfl, ?_⟩) hHeld ?_
    rotate_left
    · (intro w' hSw; (try dsimp only at hSw); go_simp; (try with_reducible rfl))
    try simp only [Act.put, List.setIfInBounds_toArray, List.set_cons_zero, List.set_cons_succ]
    refine' wpAnyH_take (i := 16) (v := _) rfl (by kernel_rfl) (by kernel_rfl) (by kernel_rfl) (fun _ _ _ h => h) (Or.inl ⟨by rfl, ?_⟩) hHeld ?_
    rotate_left
    · (intro w' hSw; (try dsimp only at hSw); go_simp; (try with_reducible rfl))
    try simp only [Act.put, List.setIfInBounds_toArray, List.set_cons_zero, List.set_cons_succ]
    refine wpAnyH_ready (rs := [12]) (by kernel_rfl) (by simp) ?_
    refine AllReadyH.cons (i := 12) rfl (fun K hK => ?_) AllReadyH.nil
    go_simp
    (go_at_call 55; refine (HPN.out _ _ (HNUM.out.ext hHeld.1)).mono ?_; rintro e w7 ⟨r7, rfl, hi7, hx7⟩; have R7 := Lib.hid hi7; have HE1 : Hid (Ext wo w7) := Lib.hid (HED.out.trans hx7); obtain ⟨g7, G7, j7, rfl⟩ := hi7.shape)
    try go_wp2_with fail
    refine hK.out _ _ ?_ (fun hHeld => ?_)
    · (first | (exact hHeld) | (exact keptS3_3 hHeld (by assumption)) | (exact keptS3_3_set hHeld (by omega) (by omega) (by omega) (by omega)))
    clear hK K
    try simp only [Act.put, List.setIfInBounds_toArray, List.set_cons_zero, List.set_cons_succ]
    refine wpAnyH_ready (rs := [13]) (by kernel_rfl) (by simp) ?_
    refine AllReadyH.cons (i := 13) rfl (fun K hK => ?_) AllReadyH.nil
    go_simp
    (go_at_call 54; refine (HNI.out _ _ R7.out.arr).mono ?_; rintro e w8 ⟨r8, rfl, hi8, hx8⟩; have R8 := Lib.hid hi8; have HE2 : Hid (Ext wo w8) := Lib.hid (HE1.out.trans hx8); obtain ⟨f8, g8, G8, j8, rfl⟩ := hi8.shape)
    try go_wp2_with fail
    refine hK.out _ _ ?_ (fun hHeld => ?_)
    · (first | (exact hHeld) | (exact keptS3_3 hHeld (by assumption)) | (exact keptS3_3_set hHeld (by omega) (by omega) (by omega) (by omega)))
    clear hK K
    try simp only [Act.put, List.setIfInBounds_toArray, List.set_cons_zero, List.set_cons_succ]
    refine wpAnyH_ready (rs := [17]) (by kernel_rfl) (by simp) ?_
    refine AllReadyH.cons (i := 17) rfl (fun K hK => ?_) AllReadyH.nil
    go_simp
    (go_at_call 55; refine (HPD.out _ _ (HDEN.out.ext hHeld.1)).mono ?_; rintro e w9 ⟨r9, rfl, hi9, hx9⟩; have R9 := Lib.hid hi9; have R8 := Lib.hid (R8.out.ext hx9); have HE3 : Hid (Ext wo w9) := Lib.hid (HE2.out.trans hx9); obtain ⟨g9, G9, j9, rfl⟩ := hi9.shape)
    try go_wp2_with fail
    refine hK.out _ _ ?_ (fun hHeld => ?_)
    · (first | (exact hHeld) | (exact keptS3_3 hHeld (by assumption)) | (exact keptS3_3_set hHeld (by omega) (by omega) (by omega) (by omega)))
    clear hK K
    try simp only [Act.put, List.setIfInBounds_toArray, List.set_cons_zero, List.set_cons_succ]
    refine' wpAnyH_take (i := 18) (v := _) rfl (by kernel_rfl) (by kernel_rfl) (by kernel_rfl) (fun _ _ _ h => h) (Or.inl ⟨by rfl, ?_⟩) hHeld ?_
    rotate_left
    · (intro w' hSw; (try dsimp only at hSw); go_simp; (try with_reducible rfl))
    try simp only [Act.put, List.setIfInBounds_toArray, List.set_cons_zero, List.set_cons_succ]
    refine wpAnyH_ready (rs := [19]) (by kernel_rfl) (by simp) ?_
    refine AllReadyH.cons (i := 19) rfl (fun K hK => ?_) AllReadyH.nil
    go_simp
    try go_wp2_with fail
    refine hK.out _ _ ?_ (fun hHeld => ?_)
    · (first | (exact hHeld) | (exact keptS3_3 hHeld (by assumption)) | (exact keptS3_3_set hHeld (by omega) (by omega) (by omega) (by omega)))
    clear hK K
    try simp only [Act.put, List.setIfInBounds_toArray, List.set_cons_zero, List.set_cons_succ]
    refine wpAnyH_ready (rs := [20]) (by kernel_rfl) (by simp) ?_
    refine AllReadyH.cons (i := 20) rfl (fun K hK => ?_) AllReadyH.nil
    go_simp
    try go_wp2_with fail
    refine hK.out _ _ ?_ (fun hHeld => ?_)
    · (first | (exact hHeld) | (exact keptS3_3 hHeld (by assumption)) | (exact keptS3_3_set hHeld (by omega) (by omega) (by omega) (by omega)))
    clear hK K
    try simp only [Act.put, List.setIfInBounds_toArray, List.set_cons_zero, List.set_cons_succ]
    refine wpAnyH_done (by kernel_rfl) ?_ _
    go_wp2_with fail
    obtain ⟨hE, _, _, _, c0_, c1_, c2_, _, _, _⟩ := hHeld
    obtain ⟨hr0, hr1, hr2⟩ := final3 c0_ c1_ c2_
    refine bodyPost_ret (v := .tuple #[.agg #[.bool f8, .slice G8 g8 j8, .slice G9 g9 j9], .int .i64 0]) (by simp [results, Tryz.results14, go_sem, hr0, hr1, hr2]) rfl ?_
    exact ⟨_, rfl, IsRat.put (w1 := wo) (IsRat.mk (R8.out.mono (by have := HE1.out.size; omega)) (R9.out.mono (by have := HE2.out.size; omega))) (by omega) (by omega), hE⟩
  · simp only [Bool.true_and] at HNI
    go_enter Tryz.func14, Tryz.ntmps14
    go_upto_region 8 with fail
    have hb0 := ((Blk.new w 26 #[Value.bool true, Value.slice A0 l0 c0, Value.slice D0 k0 e0]).alloc (.cells #[Value.bool false, Value.slice none 0 0, Value.slice none 0 0] 26))
    have hb1 := (Blk.new (w.alloc (.cells #[Value.bool true, Value.slice A0 l0 c0, Value.slice D0 k0 e0] 26)) 26 #[Value.bool false, Value.slice none 0 0, Value.slice none 0 0])
    have hxo := (((Ext.refl w).alloc (.cells #[Value.bool true, Value.slice A0 l0 c0, Value.slice D0 k0 e0] 26)).alloc (.cells #[Value.bool false, Value.slice none 0 0, Value.slice none 0 0] 26))
    have hszo : w.heap.size + 1 + 1 = ((w.alloc (.cells #[Value.bool true, Value.slice A0 l0 c0, Value.slice D0 k0 e0] 26)).alloc (.cells #[Value.bool false, Value.slice none 0 0, Value.slice none 0 0] 26)).heap.size := by simp
    simp only [World.size_alloc] at hb1
    generalize (w.alloc (.cells #[Value.bool true, Value.slice A0 l0 c0, Value.slice D0 k0 e0] 26)).alloc (.cells #[Value.bool false, Value.slice none 0 0, Value.slice none 0 0] 26) = wo at *
    have HB0 := Lib.hid hb0
    have HB1 := Lib.hid hb1
    have HX := Lib.hid hxo
    have HZ : Hid (w.heap.size + 1 + 1 ≤ wo.heap.size) := Lib.hid (by omega)
    clear hxo hszo hb0 hb1
    obtain ⟨hb0_0, hb0_1, hb0_2, hb0_3, hb0_4, hb0_5, hb0_6⟩ := HB0.out.three
    obtain ⟨hb1_0, hb1_1, hb1_2, hb1_3, hb1_4, hb1_5, hb1_6⟩ := HB1.out.three
    have HE0 := Lib.hid (Ext.refl wo).drew
    have hzz := HZ.out
    have HED := Lib.hid (Ext.refl wo).drew
    refine wp_region_held_drew (S := fun w' => Ext w w' ∧ w'.cell? ⟨w.heap.size, 0, none⟩ = some (Value.bool true) ∧ w'.cell? ⟨w.heap.size, 1, none⟩ = some (Value.slice A0 l0 c0) ∧ w'.cell? ⟨w.heap.size, 2, none⟩ = some (Value.slice D0 k0 e0) ∧ w'.cell? ⟨w.heap.size + 1, 0, none⟩ = some (was w' (w.heap.size + 1) 0) ∧ w'.cell? ⟨w.heap.size + 1, 1, none⟩ = some (was w' (w.heap.size + 1) 1) ∧ w'.cell? ⟨w.heap.size + 1, 2, none⟩ = some (was w' (w.heap.size + 1) 2) ∧ w'.frozen? ⟨w.heap.size + 1, 0, none⟩ = false ∧ w'.frozen? ⟨w.heap.size + 1, 1, none⟩ = false ∧ w'.frozen? ⟨w.heap.size + 1, 2, none⟩ = false) (by kernel_rfl) (by exact ⟨HX.out.drew, hb0_0, hb0_1, hb0_2, was_some (w := wo.drew) hb1_0, was_some (w := wo.drew) hb1_1, was_some (w := wo.drew) hb1_2, hb1_3, hb1_4, hb1_5⟩) (fun hHeld => ?_)
    refine' wpAnyH_take (i := 0) (v := _) rfl (by kernel_rfl) (by kernel_rfl) (by kernel_rfl) (fun _ _ _ h => h) (Or.inl ⟨by rfl, ?_⟩) hHeld ?_
    rotate_left
    · (intro w' hSw; (try dsimp only at hSw); go_simp; (try with_reducible rfl))
    try simp only [Act.put, List.setIfInBounds_toArray, List.set_cons_zero, List.set_cons_succ]
    refine' wpAnyH_take (i := 1) (v := _) rfl (by kernel_rfl) (by kernel_rfl) (by kernel_rfl) (fun _ _ _ h => h) (Or.inl ⟨by rfl, ?_⟩) hHeld ?_
    rotate_left
    · (intro w' hSw; (try dsimp only at hSw); go_simp; (try with_reducible rfl))
    try simp only [Act.put, List.setIfInBounds_toArray, List.set_cons_zero, List.set_cons_succ]
    refine' wpAnyH_take (i := 2) (v := _) rfl (by kernel_rfl) (by kernel_rfl) (by kernel_rfl) (fun _ _ _ h => h) (Or.inl ⟨by rfl, ?_⟩) hHeld ?_
    rotate_left
    · (intro w' hSw; (try dsimp only at hSw); go_simp; (try with_reducible rfl))
    try simp only [Act.put, List.setIfInBounds_toArray, List.set_cons_zero, List.set_cons_succ]
    refine' wpAnyH_take (i := 3) (v := _) rfl (by kernel_rfl) (by kernel_rfl) (by kernel_rfl) (fun _ _ _ h => h) (Or.inl ⟨by rfl, ?_⟩) hHeld ?_
    rotate_left
    · (intro w' hSw; (try dsimp only at hSw); go_simp; (try with_reducible rfl))
    try simp only [Act.put, List.setIfInBounds_toArray, List.set_cons_zero, List.set_cons_succ]
    refine' wpAnyH_take (i := 4) (v := _) rfl (by kernel_rfl) (by kernel_rfl) (by kernel_rfl) (fun _ _ _ h => h) (Or.inl ⟨by rfl, ?_⟩) hHeld ?_
    rotate_left
    · (intro w' hSw; (try dsimp only at hSw); go_simp; (try with_reducible rfl))
    try simp only [Act.put, List.setIfInBounds_toArray, List.set_cons_zero, List.set_cons_succ]
    refine' wpAnyH_take (i := 5) (v := _) rfl (by kernel_rfl) (by kernel_rfl) (by kernel_rfl) (fun _ _ _ h => h) (Or.inl ⟨by rfl, ?_⟩) hHeld ?_
    rotate_left
    · (intro w' hSw; (try dsimp only at hSw); go_simp; (try with_reducible rfl))
    try simp only [Act.put, List.setIfInBounds_toArray, List.set_cons_zero, List.set_cons_succ]
    refine' wpAnyH_take (i := 6) (v := _) rfl (by kernel_rfl) (by kernel_rfl) (by kernel_rfl) (fun _ _ _ h => h) (Or.inl ⟨by rfl, ?_⟩) hHeld ?_
    rotate_left
    · (intro w' hSw; (try dsimp only at hSw); go_simp; (try with_reducible rfl))
    try simp only [Act.put, List.setIfInBounds_toArray, List.set_cons_zero, List.set_cons_succ]
    refine' wpAnyH_take (i := 7) (v := _) rfl (by kernel_rfl) (by kernel_rfl) (by kernel_rfl) (fun _ _ _ h => h) (Or.inl ⟨by rfl, ?_⟩) hHeld ?_
    rotate_left
    · (intro w' hSw; (try dsimp only at hSw); go_simp; (try with_reducible rfl))
    try simp only [Act.put, List.setIfInBounds_toArray, List.set_cons_zero, List.set_cons_succ]
    refine' wpAnyH_take (i := 8) (v := _) rfl (by kernel_rfl) (by kernel_rfl) (by kernel_rfl) (fun _ _ _ h => h) (Or.inl ⟨by rfl, ?_⟩) hHeld ?_
    rotate_left
    · (intro w' hSw; (try dsimp only at hSw); go_simp; (try with_reducible rfl))
    try simp only [Act.put, List.setIfInBounds_toArray, List.set_cons_zero, List.set_cons_succ]
    refine' wpAnyH_take (i := 9) (v := _) rfl (by kernel_rfl) (by kernel_rfl) (by kernel_rfl) (fun _ _ _ h => h) (Or.inl ⟨by rfl, ?_⟩) hHeld ?_
    rotate_left
    · (intro w' hSw; (try dsimp only at hSw); go_simp; (try with_reducible rfl))
    try simp only [Act.put, List.setIfInBounds_toArray, List.set_cons_zero, List.set_cons_succ]
    refine' wpAnyH_take (i := 10) (v := _) rfl (by kernel_rfl) (by kernel_rfl) (by kernel_rfl) (fun _ _ _ h => h) (Or.inl ⟨by rfl, ?_⟩) hHeld ?_
    rotate_left
    · (intro w' hSw; (try dsimp only at hSw); go_simp; (try with_reducible rfl))
    try simp only [Act.put, List.setIfInBounds_toArray, List.set_cons_zero, List.set_cons_succ]
    refine' wpAnyH_take (i := 11) (v := _) rfl (by kernel_rfl) (by kernel_rfl) (by kernel_rfl) (fun _ _ _ h => h) (Or.inl ⟨by rfl, ?_⟩) hHeld ?_
    rotate_left
    · (intro w' hSw; (try dsimp only at hSw); go_simp; (try with_reducible rfl))
    try simp only [Act.put, List.setIfInBounds_toArray, List.set_cons_zero, List.set_cons_succ]
    refine' wpAnyH_take (i := 14) (v := _) rfl (by kernel_rfl) (by kernel_rfl) (by kernel_rfl) (fun _ _ _ h => h) (Or.inl ⟨by rfl, ?_⟩) hHeld ?_
    rotate_left
    · (intro w' hSw; (try dsimp only at hSw); go_simp; (try with_reducible rfl))
    try simp only [Act.put, List.setIfInBounds_toArray, List.set_cons_zero, List.set_cons_succ]
    refine' wpAnyH_take (i := 15) (v := _) rfl (by kernel_rfl) (by kernel_rfl) (by kernel_rfl) (fun _ _ _ h => h) (Or.inl ⟨by rfl, ?_⟩) hHeld ?_
    rotate_left
    · (intro w' hSw; (try dsimp only at hSw); go_simp; (try with_reducible rfl))
    try simp only [Act.put, List.setIfInBounds_toArray, List.set_cons_zero, List.set_cons_succ]
    refine' wpAnyH_take (i := 16) (v := _) rfl (by kernel_rfl) (by kernel_rfl) (by kernel_rfl) (fun _ _ _ h => h) (Or.inl ⟨by rfl, ?_⟩) hHeld ?_
    rotate_left
    · (intro w' hSw; (try dsimp only at hSw); go_simp; (try with_reducible rfl))
    try simp only [Act.put, List.setIfInBounds_toArray, List.set_cons_zero, List.set_cons_succ]
    refine wpAnyH_ready (rs := [12]) (by kernel_rfl) (by simp) ?_
    refine AllReadyH.cons (i := 12) rfl (fun K hK => ?_) AllReadyH.nil
    go_simp
    (go_at_call 55; refine (HPN.out _ _ (HNUM.out.ext hHeld.1)).mono ?_; rintro e w7 ⟨r7, rfl, hi7, hx7⟩; have R7 := Lib.hid hi7; have HE1 : Hid (Ext wo w7) := Lib.hid (HED.out.trans hx7); obtain ⟨g7, G7, j7, rfl⟩ := hi7.shape)
    try go_wp2_with fail
    refine hK.out _ _ ?_ (fun hHeld => ?_)
    · (first | (exact hHeld) | (exact keptS3_3 hHeld (by assumption)) | (exact keptS3_3_set hHeld (by omega) (by omega) (by omega) (by omega)))
    clear hK K
    try simp only [Act.put, List.setIfInBounds_toArray, List.set_cons_zero, List.set_cons_succ]
    refine wpAnyH_ready (rs := [13]) (by kernel_rfl) (by simp) ?_
    refine AllReadyH.cons (i := 13) rfl (fun K hK => ?_) AllReadyH.nil
    go_simp
    (go_at_call 54; refine (HNI.out _ _ R7.out.arr).mono ?_; rintro e w8 ⟨r8, rfl, hi8, hx8⟩; have R8 := Lib.hid hi8; have HE2 : Hid (Ext wo w8) := Lib.hid (HE1.out.trans hx8); obtain ⟨f8, g8, G8, j8, rfl⟩ := hi8.shape)
    try go_wp2_with fail
    refine hK.out _ _ ?_ (fun hHeld => ?_)
    · (first | (exact hHeld) | (exact keptS3_3 hHeld (by assumption)) | (exact keptS3_3_set hHeld (by omega) (by omega) (by omega) (by omega)))
    clear hK K
    try simp only [Act.put, List.setIfInBounds_toArray, List.set_cons_zero, List.set_cons_succ]
    refine wpAnyH_ready (rs := [17]) (by kernel_rfl) (by simp) ?_
    refine AllReadyH.cons (i := 17) rfl (fun K hK => ?_) AllReadyH.nil
    go_simp
    (go_at_call 55; refine (HPD.out _ _ (HDEN.out.ext hHeld.1)).mono ?_; rintro e w9 ⟨r9, rfl, hi9, hx9⟩; have R9 := Lib.hid hi9; have R8 := Lib.hid (R8.out.ext hx9); have HE3 : Hid (Ext wo w9) := Lib.hid (HE2.out.trans hx9); obtain ⟨g9, G9, j9, rfl⟩ := hi9.shape)
    try go_wp2_with fail
    refine hK.out _ _ ?_ (fun hHeld => ?_)
    · (first | (exact hHeld) | (exact keptS3_3 hHeld (by assumption)) | (exact keptS3_3_set hHeld (by omega) (by omega) (by omega) (by omega)))
    clear hK K
    try simp only [Act.put, List.setIfInBounds_toArray, List.set_cons_zero, List.set_cons_succ]
    refine' wpAnyH_take (i := 18) (v := _) rfl (by kernel_rfl) (by kernel_rfl) (by kernel_rfl) (fun _ _ _ h => h) (Or.inl ⟨by rfl, ?_⟩) hHeld ?_
    rotate_left
    · (intro w' hSw; (try dsimp only at hSw); go_simp; (try with_reducible rfl))
    try simp only [Act.put, List.setIfInBounds_toArray, List.set_cons_zero, List.set_cons_succ]
    refine wpAnyH_ready (rs := [19]) (by kernel_rfl) (by simp) ?_
    refine AllReadyH.cons (i := 19) rfl (fun K hK => ?_) AllReadyH.nil
    go_simp
    try go_wp2_with fail
    refine hK.out _ _ ?_ (fun hHeld => ?_)
    · (first | (exact hHeld) | (exact keptS3_3 hHeld (by assumption)) | (exact keptS3_3_set hHeld (by omega) (by omega) (by omega) (by omega)))
    clear hK K
    try simp only [Act.put, List.setIfInBounds_toArray, List.set_cons_zero, List.set_cons_succ]
    refine wpAnyH_ready (rs := [20]) (by kernel_rfl) (by simp) ?_
    refine AllReadyH.cons (i := 20) rfl (fun K hK => ?_) AllReadyH.nil
    go_simp
    try go_wp2_with fail
    refine hK.out _ _ ?_ (fun hHeld => ?_)
    · (first | (exact hHeld) | (exact keptS3_3 hHeld (by assumption)) | (exact keptS3_3_set hHeld (by omega) (by omega) (by omega) (by omega)))
    clear hK K
    try simp only [Act.put, List.setIfInBounds_toArray, List.set_cons_zero, List.set_cons_succ]
    refine wpAnyH_done (by kernel_rfl) ?_ _
    go_wp2_with fail
    obtain ⟨hE, _, _, _, c0_, c1_, c2_, _, _, _⟩ := hHeld
    obtain ⟨hr0, hr1, hr2⟩ := final3 c0_ c1_ c2_
    refine bodyPost_ret (v := .tuple #[.agg #[.bool f8, .slice G8 g8 j8, .slice G9 g9 j9], .int .i64 0]) (by simp [results, Tryz.results14, go_sem, hr0, hr1, hr2]) rfl ?_
    exact ⟨_, rfl, IsRat.put (w1 := wo) (IsRat.mk (R8.out.mono (by have := HE1.out.size; omega)) (R9.out.mono (by have := HE2.out.size; omega))) (by omega) (by omega), hE⟩
end Big
end Go.Proofs.YtplmldkfgeiklaaGreatDoor
/- The bytes of a text, laid in memory. -/
namespace Go.Proofs.YtplmldkfgeiklaaGreatDoor
namespace Big
open Go.RowKit
/-- '[]byte(s)'. -/
def bytesAt (w : World) (l : List UInt8) : World := Lib.bytesWorld w 5 ⟨l.toArray⟩
theorem bytesAt_ext (w : World) (l : List UInt8) : Ext w (bytesAt w l) := by
  refine ⟨?_, ?_, ?_, ?_, fun k hk => Lib.bytesWorld_at_old w _ _ k hk⟩
  · simp [bytesAt, Lib.bytesWorld, World.freeze, World.alloc, World.drew, -World.alloc_eq, -World.drew_eq]
  · simp [bytesAt, Lib.bytesWorld, World.freeze, World.alloc, World.drew, -World.alloc_eq, -World.drew_eq]
  · simp [bytesAt, Lib.bytesWorld, World.freeze, World.alloc, World.drew, -World.alloc_eq, -World.drew_eq]
  · unfold bytesAt; rw [Lib.bytesWorld_size]; omega
theorem bytesAt_cell (w : World) (l : List UInt8) (j : Nat) (h : j < l.length) : (bytesAt w l).cell? ⟨w.heap.size, j, none⟩ = some (.int .u8 (byteAt l j : Int)) := by
  unfold bytesAt byteAt
  rw [Lib.bytesWorld_cell w _ _ j (by rw [size_str]; exact h)]
theorem bytesAt_lt (w : World) (l : List UInt8) : w.heap.size < (bytesAt w l).heap.size := by unfold bytesAt; rw [Lib.bytesWorld_size]; omega
theorem run_bytesAt (w : World) (l : List UInt8) : ∃ c, (convert 9 43 (str l)).run Tryz.prog w = .ok (.slice (some ⟨w.heap.size, 0, none⟩) l.length c) (bytesAt w l) ∧ l.length ≤ c := by
  have := Lib.run_convert_string_bytes (P := Tryz.prog) w 9 43 5 ⟨l.toArray⟩ Tryz.underlying9 Tryz.underlying43 Tryz.underlying5
  rw [size_str] at this
  exact ⟨_, this, grownCap_ge w l.length 0 _⟩

end Big
end Go.Proofs.YtplmldkfgeiklaaGreatDoor
/- The reference's reading of a decimal. -/
namespace Go.Proofs.YtplmldkfgeiklaaGreatDoor
namespace Big
open Go.RowKit
theorem make_low (n : Nat) (d : Nat) : makeN (n : Int) ((d : Nat) : Int) = lowN (n : Int) d ∧ makeD (n : Int) ((d : Nat) : Int) = lowD (n : Int) d := by
  unfold makeN lowN makeD lowD
  have h1 : decide ((n : Int) < 0) = false := by simp
  have h2 : decide ((d : Int) < 0) = false := by simp
  rw [h1, h2, Int.natAbs_natCast, Int.natAbs_natCast]
  exact ⟨rfl, rfl⟩
set_option maxRecDepth 100000 in
theorem rparse7_long (w : World) (l : List UInt8) (h : 400 < l.length) : Calls Tryz.prog 23 #[str l] w (ParseRes7 w l) := by
  have hc : code7 l = 7 := if_pos h
  have h' : (400 : Int) < (l.length : Int) := by omega
  have HC := Lib.hid hc
  clear h hc
  go_enter Tryz.func23, Tryz.ntmps23
  go_wp2_with fail
  refine bodyPost_ret (v := .tuple #[.agg #[.bool false, .slice none 0 0, .slice none 0 0], .int .i64 7]) (by simp [results, Tryz.results23, go_sem]) rfl ?_
  exact ⟨_, by rw [HC.out]; rfl, by rw [HC.out]; exact IsRat.zero _ _, (Ext.refl w).alloc _⟩
set_option maxHeartbeats 1000000 in
set_option maxRecDepth 100000 in
theorem rparse7_any (w : World) (l : List UInt8) : Calls Tryz.prog 23 #[str l] w (ParseRes7 w l) := by
  rcases Nat.lt_or_ge 400 l.length with hl | hl
  · exact rparse7_long w l hl
  have HD := Lib.hid (fun W => rdecimal_any W l (by omega))
  have h400 : ¬ (400 : Int) < (l.length : Int) := by omega
  cases hg : good7 l
  · have HC : Hid (code7 l = 6) := Lib.hid (by unfold code7; rw [if_neg (by omega), hg]; rfl)
    have HG := Lib.hid hg
    clear hg
    go_enter Tryz.func23, Tryz.ntmps23
    go_wp2_with fail
    refine (HD.out _).mono ?_
    rintro e w1 ⟨a, b, rfl, _, hx1⟩
    rw [HG.out]
    have HX1 := Lib.hid (((Ext.refl w).alloc (.cells #[Value.bool false, Value.slice none 0 0, Value.slice none 0 0] 26)).trans hx1)
    have hk := (Blk.new w 26 #[Value.bool false, Value.slice none 0 0, Value.slice none 0 0]).ext hx1
    have HB1 := Lib.hid hk
    obtain ⟨k0, k1, k2, f0, f1, f2, hgz⟩ := hk.three
    clear hx1 hk
    go_wp2_with fail
    obtain ⟨hr0, hr1, hr2⟩ := three_set HB1.out (.bool false) (.slice none 0 0) (.slice none 0 0)
    refine bodyPost_ret (v := .tuple #[.agg #[.bool false, .slice none 0 0, .slice none 0 0], .int .i64 6]) (by simp [results, Tryz.results23, go_sem, hr0, hr1, hr2]) rfl ?_
    exact ⟨_, by rw [HC.out]; rfl, by rw [HC.out]; exact IsRat.zero _ _, ((HX1.out.setCell (Nat.le_refl _) _).setCell (Nat.le_refl _) _).setCell (Nat.le_refl _) _⟩
  · have HC : Hid (code7 l = 0) := Lib.hid (by unfold code7; rw [if_neg (by omega), hg]; rfl)
    have HG := Lib.hid hg
    have hall : allD l = true := by
      rw [good7_eq, Bool.and_eq_true] at hg
      exact hg.2
    have hpl : (part l).length ≤ l.length := by
      rcases dot_split l with ⟨_, h1⟩ | ⟨_, _, h2⟩
      · have := congrArg List.length h1
        simp at this
        omega
      · rw [h2]; simp
    have hwl := whole_le l
    have HNUM : Hid (num7 l = lowN (numOf (whole l ++ part l)) (10 ^ (part l).length)) := Lib.hid rfl
    have HDEN : Hid (den7 l = lowD (numOf (whole l ++ part l)) (10 ^ (part l).length)) := Lib.hid rfl
    unfold allD at hall
    clear hg
    have hadd : ∀ W', (binOp .add 9 (str (whole l)) (str (part l))).run Tryz.prog W' = .ok (str (whole l ++ part l)) W' := run_add_str _ _ (by omega)
    have hL : (whole l ++ part l).length ≤ 800 := by rw [List.length_append]; omega
    go_enter Tryz.func23, Tryz.ntmps23
    go_wp2_with fail
    refine (HD.out _).mono ?_
    rintro e w1 ⟨a, b, rfl, hab, hx1⟩
    obtain ⟨rfl, rfl⟩ := hab HG.out
    rw [HG.out]
    generalize whole l = W at *
    generalize part l = P at *
    have HX1 := Lib.hid (((Ext.refl w).alloc (.cells #[Value.bool false, Value.slice none 0 0, Value.slice none 0 0] 26)).trans hx1)
    have HB1 := Lib.hid ((Blk.new w 26 #[Value.bool false, Value.slice none 0 0, Value.slice none 0 0]).ext hx1)
    obtain ⟨cb, hcv, hcb⟩ := run_bytesAt w1 (W ++ P)
    have HBY := Lib.hid (fun j h => bytesAt_cell w1 (W ++ P) j h)
    have HXB := Lib.hid (bytesAt_ext w1 (W ++ P))
    have HLT := Lib.hid (bytesAt_lt w1 (W ++ P))
    clear hx1 hab HD HG
    generalize W ++ P = L at *
    generalize bytesAt w1 L = wb at *
    have HALL := Lib.hid hall
    clear hall
    go_wp2_with fail
    clear hcv hadd
    go_loopw [7, 28] (fun s7 s28 wr => ∃ (k m : Nat) (A : Option Addr) (c : Nat), k ≤ L.length ∧ s28 = .int .i64 (k : Int) ∧ s7 = .slice A m c ∧ Own (w.heap.size + 1) wr s7 (limbs (numOf (L.take k))) ∧ Ext wb wr) (fun _ s28 _ => L.length - (intOf s28).toNat)
    case atStart => exact ⟨0, 0, none, 0, Nat.zero_le _, rfl, rfl, Own.none_ _ _, Ext.refl _⟩
    case round =>
      obtain ⟨k, m, A, c, hk, rfl, rfl, ho, hx⟩ := hrel
      have HO := Lib.hid ho
      have HX := Lib.hid hx
      have hsz : w.heap.size + 1 ≤ wr.heap.size := by
        have h1 := HB1.out.lt
        have h2 := HLT.out
        have h3 := hx.size
        omega
      have hll : (limbs (numOf (L.take k))).length ≤ 800 := by
        refine limbs_dec (numOf_lt _ ?_) (by rw [List.length_take]; omega)
        rw [List.all_eq_true]
        intro x hxm
        exact List.all_eq_true.1 HALL.out x (List.mem_of_mem_take hxm)
      by_cases hlt : k < L.length
      · have hby := (hx.cell HLT.out).trans (HBY.out k hlt)
        have hbe := byteAt_eq L k hlt
        have hdg : isDig L[k] = true := List.all_eq_true.1 HALL.out _ (List.getElem_mem hlt)
        have hnt := numOf_take L k hlt
        rw [← hbe] at hnt
        unfold isDig at hdg
        rw [← hbe] at hdg
        simp only [Bool.and_eq_true, decide_eq_true_eq] at hdg
        obtain ⟨d1, d2⟩ := hdg
        generalize byteAt L k = b at *
        have E1 := Lib.hid (show ((b : Int) - 48) = ((b - 48 : Nat) : Int) by omega)
        have HS := Lib.hid (rsmall_any wr _ _ 10 (b - 48) ho.arr (by omega) (by decide) (by omega))
        rw [val_limbs] at HS
        have HN := Lib.hid (show numOf (L.take (k + 1)) = numOf (L.take k) * 10 + (b - 48) by rw [hnt]; omega)
        clear ho hx hbe hnt hll hcb
        go_wp2_with fail
        rw [E1.out]
        refine HS.out.mono ?_
        rintro e w2 ⟨v2, rfl, ho2, hx2⟩
        rw [← HN.out] at ho2
        have HO2 := Lib.hid (ho2.mono hsz)
        have HX2 := Lib.hid (HX.out.trans hx2)
        obtain ⟨n2, A2, c2, rfl⟩ := ho2.shape
        clear ho2 hx2
        go_wp2_with fail
        go_roundw
        case rel => exact ⟨k + 1, n2, A2, c2, by omega, by go_num, rfl, HO2.out, HX2.out⟩
        case measure => simp [intOf]; omega
      · obtain rfl : k = L.length := by omega
        rw [List.take_of_length_le (Nat.le_refl _)] at HO ho hll
        have HIN := Lib.hid (rnat_any wr false _ _ ho.arr (by omega))
        rw [val_limbs] at HIN
        have hsg : sgn false (numOf L) = ((numOf L : Nat) : Int) := rfl
        rw [hsg] at HIN
        have HTEN := Lib.hid (fun W' => rten_any W' P.length (by omega))
        have hte : (limbs (10 ^ P.length)).length ≤ 801 := limbs_dec (k := P.length + 1) (Nat.pow_lt_pow_right (by decide) (by omega)) (by omega)
        have HOF := Lib.hid (fun W' a b h1 h2 => rof7_any W' a b ((numOf L : Nat) : Int) ((10 ^ P.length : Nat) : Int) h1 h2 (by rw [Int.natAbs_natCast]; omega) (by rw [Int.natAbs_natCast]; omega) (by
          have : 0 < 10 ^ P.length := Nat.pow_pos (by decide)
          omega))
        rw [(make_low (numOf L) (10 ^ P.length)).1, (make_low (numOf L) (10 ^ P.length)).2] at HOF
        have HXX := Lib.hid ((HX1.out.trans HXB.out).trans hx)
        have HBB := Lib.hid (((HB1.out.ext HXB.out)).ext hx)
        clear ho hx hll hte hsg hcb
        go_wp2_with fail
        refine HIN.out.mono ?_
        rintro e w5 ⟨v5, rfl, hi5, hx5⟩
        have HI5 := Lib.hid hi5
        obtain ⟨b5, n5, A5, c5, rfl⟩ := hi5.shape
        have HX5 := Lib.hid (HXX.out.trans hx5)
        have HB5 := Lib.hid (HBB.out.ext hx5)
        clear hi5 hx5
        go_wp2_with fail
        refine (HTEN.out _).mono ?_
        rintro e w6 ⟨v6, rfl, hi6, hx6⟩
        have HI6 := Lib.hid hi6
        obtain ⟨b6, n6, A6, c6, rfl⟩ := hi6.shape
        have HI5' := Lib.hid (HI5.out.ext hx6)
        have HX6 := Lib.hid (HX5.out.trans hx6)
        have HB6 := Lib.hid (HB5.out.ext hx6)
        clear hi6 hx6
        go_wp2_with fail
        refine (HOF.out _ _ _ HI5'.out.arr HI6.out.arr).mono ?_
        rintro e w8 ⟨v8, rfl, hr8, hx8⟩
        obtain ⟨b8, n8, A8, c8, n8', A8', c8', rfl⟩ := hr8.shape
        have HR8 := Lib.hid hr8
        have HX8 := Lib.hid (HX6.out.trans hx8)
        have hk := HB6.out.ext hx8
        have HB8 := Lib.hid hk
        have HSZ7 := Lib.hid HX6.out.size
        have HLT7 := Lib.hid HB6.out.lt
        clear hr8 hx8
        obtain ⟨k0, k1, k2, f0, f1, f2, hgz⟩ := hk.three
        clear hk
        go_wp2_with fail
        obtain ⟨hr0, hr1, hr2⟩ := three_set HB8.out (.bool b8) (.slice A8 n8 c8) (.slice A8' n8' c8')
        refine bodyPost_ret (v := .tuple #[.agg #[.bool b8, .slice A8 n8 c8, .slice A8' n8' c8'], .int .i64 0]) (by simp [results, Tryz.results23, go_sem, hr0, hr1, hr2]) rfl ?_
        have hfin := HR8.out.put (w := w) HLT7.out HSZ7.out
        exact ⟨_, by rw [HC.out]; rfl, by rw [HC.out, if_pos rfl, if_pos rfl, HNUM.out, HDEN.out]; exact hfin, ((HX8.out.setCell (Nat.le_refl _) _).setCell (Nat.le_refl _) _).setCell (Nat.le_refl _) _⟩
end Big
end Go.Proofs.YtplmldkfgeiklaaGreatDoor
