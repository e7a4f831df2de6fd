import Derived.Test.YtplmldkfgeiklaaGreatDoorM8
import Derived.Test.YtplmldkfgeiklaaGreatDoorM14
import Derived.Test.YtplmldkfgeiklaaGreatDoorM19
import Derived.Deep.RegionLaw
/- ref02.Power. -/
namespace Go.Proofs.YtplmldkfgeiklaaGreatDoor
namespace Big
open Go.RowKit
set_option maxRecDepth 100000 in
theorem rpow_any (w : World) (v0 : Value) (xs : List Nat) (n : Nat) (h0 : Arr w v0 xs) (hl : xs.length ≤ 1000000) (hn : n ≤ 64) :
    Calls Tryz.prog 55 #[v0, .int .i64 (n : Int)] w fun e w' => ∃ v', e = .returned v' ∧ Own w.heap.size w' v' (limbs (val xs ^ n)) ∧ Ext w w' := by
  have H0 := Lib.hid h0
  have hV : (limbs (val xs)).length ≤ 1000000 := Nat.le_trans (length_limbs_val h0.ok) hl
  have HOF := Lib.hid (fun W => rof_any W 1 (by decide))
  rw [show ((1 : Nat) : Int) = 1 from rfl] at HOF
  have HML := Lib.hid (fun W m k (hk : k ≤ 64) a (hx : Ext w W) => rmul2_any W m v0 (limbs (val xs ^ k)) xs a (h0.ext hx) (by have := limbs_pow64 hV hk; omega) (by omega))
  have HML : Hid (∀ W m k, k < n → Arr W m (limbs (val xs ^ k)) → Ext w W → Calls Tryz.prog 108 #[m, v0] W fun e w' => ∃ v', e = .returned v' ∧ Own W.heap.size w' v' (limbs (val xs ^ (k + 1))) ∧ Ext W w') := Lib.hid (fun W m k hk a hx => by
    have := HML.out W m k (by omega) a hx
    rw [val_limbs, ← Nat.pow_succ] at this
    exact this)
  obtain ⟨l0, A0, c0, rfl⟩ := h0.shape
  clear h0 hl hV
  generalize val xs = V at *
  go_enter Tryz.func55, Tryz.ntmps55
  go_wp2_with fail
  refine (HOF.out _).mono ?_
  rintro e w1 ⟨r0, rfl, hi0, hx0⟩
  have R0 := Lib.hid hi0
  have HX1 := Lib.hid hx0
  obtain ⟨g0, G0, j0, rfl⟩ := hi0.shape
  clear hi0 hx0
  go_wp2_with fail
  go_loopw [5, 8] (fun s4 s7 wr => ∃ (k : Nat) (m : Nat) (A : Option Addr) (c : Nat), k ≤ n ∧ s7 = .int .i64 (k : Int) ∧ s4 = .slice A m c ∧ Own w.heap.size wr s4 (limbs (V ^ k)) ∧ Ext w wr) (fun _ s7 _ => n - (intOf s7).toNat)
  case atStart => exact ⟨0, g0, G0, j0, Nat.zero_le _, rfl, rfl, R0.out, HX1.out⟩
  case round =>
    obtain ⟨k, m, A, c, hk, rfl, rfl, ho, hx⟩ := hrel
    have HO := Lib.hid ho
    have HX := Lib.hid hx
    clear ho hx
    by_cases hlt : k < n
    · go_wp2_with fail
      refine (HML.out _ _ k hlt HO.out.arr HX.out).mono ?_
      rintro e w2 ⟨v2, rfl, ho2, hx2⟩
      have HO2 := Lib.hid (ho2.mono HX.out.size)
      have HX2 := Lib.hid (HX.out.trans hx2)
      obtain ⟨n2, A2, c2, rfl⟩ := ho2.shape
      clear ho2 hx2
      go_wp2_with fail
      go_roundw
      case rel => exact ⟨k + 1, n2, A2, c2, by omega, by go_num, rfl, HO2.out, HX2.out⟩
      case measure => simp [intOf]; omega
    · obtain rfl : k = n := by omega
      go_wp2_with fail
      go_ret
      exact ⟨_, rfl, HO.out, HX.out⟩
end Big
end Go.Proofs.YtplmldkfgeiklaaGreatDoor
/- rational.Power. Printed by a program. -/
namespace Go.Proofs.YtplmldkfgeiklaaGreatDoor
namespace Big
open Go.RowKit
set_option maxHeartbeats 2000000 in
set_option maxRecDepth 100000 in
theorem ppowR_arg (w : World) (v0 : Value) (p : Int) (q : Nat) (h0 : ArrRat w v0 p q) (n0 : (limbs p.natAbs).length ≤ 1000000) (m0 : (limbs q).length ≤ 1000000) (n : Int) (hn : n < -64 ∨ 64 < n) :
    Calls Tryz.prog 40 #[v0, .int .i64 n] w fun e w' => ∃ v', e = .returned (.tuple #[v', .int .i64 1]) ∧ IsRat w.heap.size w' v' (0) (0) ∧ Ext w w' := by
  have H0 := Lib.hid h0
  obtain ⟨b0, l0, A0, c0, k0, D0, e0, rfl⟩ := h0.shape
  clear h0 n0 m0
  rcases hn with hn | hn
  · have hn1 : n < -64 := hn
    go_enter Tryz.func40, Tryz.ntmps40
    go_upto_region 1 with fail
    have hb0 := ((Blk.new w 26 #[Value.bool b0, Value.slice A0 l0 c0, Value.slice D0 k0 e0]).alloc (.cells #[Value.bool false, Value.slice none 0 0, Value.slice none 0 0] 26))
    have hb1 := (Blk.new (w.alloc (.cells #[Value.bool b0, Value.slice A0 l0 c0, Value.slice D0 k0 e0] 26)) 26 #[Value.bool false, Value.slice none 0 0, Value.slice none 0 0])
    have hxo := (((Ext.refl w).alloc (.cells #[Value.bool b0, Value.slice A0 l0 c0, Value.slice D0 k0 e0] 26)).alloc (.cells #[Value.bool false, Value.slice none 0 0, Value.slice none 0 0] 26))
    have hszo : w.heap.size + 1 + 1 = ((w.alloc (.cells #[Value.bool b0, Value.slice A0 l0 c0, Value.slice D0 k0 e0] 26)).alloc (.cells #[Value.bool false, Value.slice none 0 0, Value.slice none 0 0] 26)).heap.size := by simp
    simp only [World.size_alloc] at hb1
    generalize (w.alloc (.cells #[Value.bool b0, Value.slice A0 l0 c0, Value.slice D0 k0 e0] 26)).alloc (.cells #[Value.bool false, Value.slice none 0 0, Value.slice none 0 0] 26) = wo at *
    have HB0 := Lib.hid hb0
    have HB1 := Lib.hid hb1
    have HX := Lib.hid hxo
    have HZ : Hid (w.heap.size + 1 + 1 ≤ wo.heap.size) := Lib.hid (by omega)
    clear hxo hszo hb0 hb1
    obtain ⟨t0, t1, t2, s0, s1, s2, hgz⟩ := HB1.out.three
    go_wp2_with fail
    obtain ⟨hr0, hr1, hr2⟩ := three_set HB1.out (.bool false) (.slice none 0 0) (.slice none 0 0)
    refine bodyPost_ret (v := .tuple #[.agg #[.bool false, .slice none 0 0, .slice none 0 0], .int .i64 1]) (by simp [results, Tryz.results40, go_sem, hr0, hr1, hr2]) rfl ?_
    exact ⟨_, rfl, IsRat.zero _ _, ((HX.out.setCell (Nat.le_succ _) _).setCell (Nat.le_succ _) _).setCell (Nat.le_succ _) _⟩
  · have hn1 : ¬ n < -64 := by omega
    go_enter Tryz.func40, Tryz.ntmps40
    go_upto_region 1 with fail
    have hb0 := ((Blk.new w 26 #[Value.bool b0, Value.slice A0 l0 c0, Value.slice D0 k0 e0]).alloc (.cells #[Value.bool false, Value.slice none 0 0, Value.slice none 0 0] 26))
    have hb1 := (Blk.new (w.alloc (.cells #[Value.bool b0, Value.slice A0 l0 c0, Value.slice D0 k0 e0] 26)) 26 #[Value.bool false, Value.slice none 0 0, Value.slice none 0 0])
    have hxo := (((Ext.refl w).alloc (.cells #[Value.bool b0, Value.slice A0 l0 c0, Value.slice D0 k0 e0] 26)).alloc (.cells #[Value.bool false, Value.slice none 0 0, Value.slice none 0 0] 26))
    have hszo : w.heap.size + 1 + 1 = ((w.alloc (.cells #[Value.bool b0, Value.slice A0 l0 c0, Value.slice D0 k0 e0] 26)).alloc (.cells #[Value.bool false, Value.slice none 0 0, Value.slice none 0 0] 26)).heap.size := by simp
    simp only [World.size_alloc] at hb1
    generalize (w.alloc (.cells #[Value.bool b0, Value.slice A0 l0 c0, Value.slice D0 k0 e0] 26)).alloc (.cells #[Value.bool false, Value.slice none 0 0, Value.slice none 0 0] 26) = wo at *
    have HB0 := Lib.hid hb0
    have HB1 := Lib.hid hb1
    have HX := Lib.hid hxo
    have HZ : Hid (w.heap.size + 1 + 1 ≤ wo.heap.size) := Lib.hid (by omega)
    clear hxo hszo hb0 hb1
    obtain ⟨t0, t1, t2, s0, s1, s2, hgz⟩ := HB1.out.three
    go_wp2_with fail
    obtain ⟨hr0, hr1, hr2⟩ := three_set HB1.out (.bool false) (.slice none 0 0) (.slice none 0 0)
    refine bodyPost_ret (v := .tuple #[.agg #[.bool false, .slice none 0 0, .slice none 0 0], .int .i64 1]) (by simp [results, Tryz.results40, go_sem, hr0, hr1, hr2]) rfl ?_
    exact ⟨_, rfl, IsRat.zero _ _, ((HX.out.setCell (Nat.le_succ _) _).setCell (Nat.le_succ _) _).setCell (Nat.le_succ _) _⟩
set_option maxHeartbeats 2000000 in
set_option maxRecDepth 100000 in
theorem ppowR_zero (w : World) (v0 : Value) (p : Int) (q : Nat) (h0 : ArrRat w v0 p q) (n0 : (limbs p.natAbs).length ≤ 1000000) (m0 : (limbs q).length ≤ 1000000) (n : Int) (hn : -64 ≤ n) (hn0 : n < 0) (hp : p = 0) :
    Calls Tryz.prog 40 #[v0, .int .i64 n] w fun e w' => ∃ v', e = .returned (.tuple #[v', .int .i64 2]) ∧ IsRat w.heap.size w' v' (0) (0) ∧ Ext w w' := by
  have H0 := Lib.hid h0
  have HSG := Lib.hid (fun W v a => signR_any W v p q a n0 m0)
  have hsb : (sgZ p == 0) = true := by rw [hp]; rfl
  obtain ⟨b0, l0, A0, c0, k0, D0, e0, rfl⟩ := h0.shape
  have hn1 : ¬ n < -64 := by omega
  have hn2 : ¬ 64 < n := by omega
  clear h0 n0 m0 hp
  generalize sgZ p = sg at *
  go_enter Tryz.func40, Tryz.ntmps40
  go_upto_region 1 with fail
  have hb0 := ((Blk.new w 26 #[Value.bool b0, Value.slice A0 l0 c0, Value.slice D0 k0 e0]).alloc (.cells #[Value.bool false, Value.slice none 0 0, Value.slice none 0 0] 26))
  have hb1 := (Blk.new (w.alloc (.cells #[Value.bool b0, Value.slice A0 l0 c0, Value.slice D0 k0 e0] 26)) 26 #[Value.bool false, Value.slice none 0 0, Value.slice none 0 0])
  have hxo := (((Ext.refl w).alloc (.cells #[Value.bool b0, Value.slice A0 l0 c0, Value.slice D0 k0 e0] 26)).alloc (.cells #[Value.bool false, Value.slice none 0 0, Value.slice none 0 0] 26))
  have hszo : w.heap.size + 1 + 1 = ((w.alloc (.cells #[Value.bool b0, Value.slice A0 l0 c0, Value.slice D0 k0 e0] 26)).alloc (.cells #[Value.bool false, Value.slice none 0 0, Value.slice none 0 0] 26)).heap.size := by simp
  simp only [World.size_alloc] at hb1
  generalize (w.alloc (.cells #[Value.bool b0, Value.slice A0 l0 c0, Value.slice D0 k0 e0] 26)).alloc (.cells #[Value.bool false, Value.slice none 0 0, Value.slice none 0 0] 26) = wo at *
  have HB0 := Lib.hid hb0
  have HB1 := Lib.hid hb1
  have HX := Lib.hid hxo
  have HZ : Hid (w.heap.size + 1 + 1 ≤ wo.heap.size) := Lib.hid (by omega)
  clear hxo hszo hb0 hb1
  obtain ⟨q0, q1, q2, _, _, _, qz⟩ := HB0.out.three
  go_wp2_with fail
  refine (HSG.out _ _ (H0.out.ext HX.out)).mono ?_
  rintro e w1 ⟨rfl, hx1⟩
  have HX := Lib.hid (HX.out.trans hx1)
  have HB1 := Lib.hid (HB1.out.ext hx1)
  clear hx1 q0 q1 q2 qz
  obtain ⟨t0, t1, t2, s0, s1, s2, hgz⟩ := HB1.out.three
  go_wp2_with fail
  obtain ⟨hr0, hr1, hr2⟩ := three_set HB1.out (.bool false) (.slice none 0 0) (.slice none 0 0)
  refine bodyPost_ret (v := .tuple #[.agg #[.bool false, .slice none 0 0, .slice none 0 0], .int .i64 2]) (by simp [results, Tryz.results40, go_sem, hr0, hr1, hr2]) rfl ?_
  exact ⟨_, rfl, IsRat.zero _ _, ((HX.out.setCell (Nat.le_succ _) _).setCell (Nat.le_succ _) _).setCell (Nat.le_succ _) _⟩
set_option maxHeartbeats 2000000 in
set_option maxRecDepth 100000 in
theorem ppowR_pos (w : World) (v0 : Value) (p : Int) (q : Nat) (h0 : ArrRat w v0 p q) (n0 : (limbs p.natAbs).length ≤ 1000000) (m0 : (limbs q).length ≤ 1000000) (n : Nat) (hn : n ≤ 64) :
    Calls Tryz.prog 40 #[v0, .int .i64 (n : Int)] w fun e w' => ∃ v', e = .returned (.tuple #[v', .int .i64 0]) ∧ IsRat w.heap.size w' v' (p ^ n) (q ^ n) ∧ Ext w w' := by
  have H0 := Lib.hid h0
  have n1 := n0
  have m1 := m0
  have hm1 : ¬ (n : Int) < -64 := by omega
  have hm2 : ¬ 64 < (n : Int) := by omega
  have hm3 : ¬ (n : Int) < 0 := by omega
  have HPN := Lib.hid (fun W m a => ppow_any W m (limbs p.natAbs) n a n1 hn)
  have HPD := Lib.hid (fun W m a => ppow_any W m (limbs q) n a m1 hn)
  rw [val_limbs] at HPN HPD
  have hps := pow_sgn p n
  have HNI := Lib.hid (fun W m a => inat_any W (decide (p < 0) && decide (n % 2 = 1)) m (limbs (p.natAbs ^ n)) a (by have := limbs_pow64 n1 hn; omega))
  rw [val_limbs, hps] at HNI
  have hpp := limbs_pow64 n1 hn
  have hqq := limbs_pow64 m1 hn
  obtain ⟨r, hr⟩ : ∃ r, n % 2 = r := ⟨_, rfl⟩
  have hr1 : (n : Int) % 2 = (r : Int) := by omega
  have hr2 : Int.tmod (n : Int) 2 = (r : Int) := by rw [Int.tmod_eq_emod_of_nonneg (by omega)]; omega
  have hr3 : ((r : Int) == 1) = decide (n % 2 = 1) := by rw [hr, Bool.eq_iff_iff, beq_iff_eq, decide_eq_true_iff]; omega
  generalize decide (n % 2 = 1) = d at *
  obtain ⟨b0, l0, A0, c0, k0, D0, e0, rfl⟩ := h0.shape
  clear hr hps hpp hqq n0 m0 n1 m1
  have hs0 := h0.sign
  rw [← hs0] at HNI
  clear h0 hs0
  go_enter Tryz.func40, Tryz.ntmps40
  go_upto_region 1 with fail
  have hb0 := ((Blk.new w 26 #[Value.bool b0, Value.slice A0 l0 c0, Value.slice D0 k0 e0]).alloc (.cells #[Value.bool false, Value.slice none 0 0, Value.slice none 0 0] 26))
  have hb1 := (Blk.new (w.alloc (.cells #[Value.bool b0, Value.slice A0 l0 c0, Value.slice D0 k0 e0] 26)) 26 #[Value.bool false, Value.slice none 0 0, Value.slice none 0 0])
  have hxo := (((Ext.refl w).alloc (.cells #[Value.bool b0, Value.slice A0 l0 c0, Value.slice D0 k0 e0] 26)).alloc (.cells #[Value.bool false, Value.slice none 0 0, Value.slice none 0 0] 26))
  have hszo : w.heap.size + 1 + 1 = ((w.alloc (.cells #[Value.bool b0, Value.slice A0 l0 c0, Value.slice D0 k0 e0] 26)).alloc (.cells #[Value.bool false, Value.slice none 0 0, Value.slice none 0 0] 26)).heap.size := by simp
  simp only [World.size_alloc] at hb1
  generalize (w.alloc (.cells #[Value.bool b0, Value.slice A0 l0 c0, Value.slice D0 k0 e0] 26)).alloc (.cells #[Value.bool false, Value.slice none 0 0, Value.slice none 0 0] 26) = wo at *
  have HB0 := Lib.hid hb0
  have HB1 := Lib.hid hb1
  have HX := Lib.hid hxo
  have HZ : Hid (w.heap.size + 1 + 1 ≤ wo.heap.size) := Lib.hid (by omega)
  clear hxo hszo hb0 hb1
  have HW := Lib.hid (Ext.refl wo)
  obtain ⟨hb0_0, hb0_1, hb0_2, hb0_3, hb0_4, hb0_5, hb0_6⟩ := HB0.out.three
  obtain ⟨hb1_0, hb1_1, hb1_2, hb1_3, hb1_4, hb1_5, hb1_6⟩ := HB1.out.three
  have HLW : Hid (wo.heap.size ≤ wo.heap.size) := Lib.hid (Nat.le_refl _)
  cases b0
  · simp only [Bool.false_and] at HNI
    clear hb0_0 hb0_1 hb0_2 hb0_3 hb0_4 hb0_5 hb0_6 hb1_0 hb1_1 hb1_2 hb1_3 hb1_4 hb1_5 hb1_6
    obtain ⟨hb0_0, hb0_1, hb0_2, hb0_3, hb0_4, hb0_5, hb0_6⟩ := HB0.out.three
    obtain ⟨hb1_0, hb1_1, hb1_2, hb1_3, hb1_4, hb1_5, hb1_6⟩ := HB1.out.three
    go_wp2_with fail
    clear hb0_0 hb0_1 hb0_2 hb0_3 hb0_4 hb0_5 hb0_6 hb1_0 hb1_1 hb1_2 hb1_3 hb1_4 hb1_5 hb1_6
    refine (HPN.out _ _ (H0.out.num.ext HX.out)).mono ?_
    rintro e w11 ⟨r10, rfl, hi10, hx10⟩
    have HX := Lib.hid (HX.out.trans hx10)
    have HW := Lib.hid (HW.out.trans hx10)
    have HB0 := Lib.hid (HB0.out.ext hx10)
    have HB1 := Lib.hid (HB1.out.ext hx10)
    have RN := Lib.hid hi10
    obtain ⟨g10, G10, j10, rfl⟩ := hi10.shape
    clear hi10
    clear hx10
    obtain ⟨hb0_0, hb0_1, hb0_2, hb0_3, hb0_4, hb0_5, hb0_6⟩ := HB0.out.three
    obtain ⟨hb1_0, hb1_1, hb1_2, hb1_3, hb1_4, hb1_5, hb1_6⟩ := HB1.out.three
    go_wp2_with fail
    clear hb0_0 hb0_1 hb0_2 hb0_3 hb0_4 hb0_5 hb0_6 hb1_0 hb1_1 hb1_2 hb1_3 hb1_4 hb1_5 hb1_6
    have HKI := Lib.hid (Nat.le_trans HLW.out HW.out.size)
    refine (HNI.out _ _ RN.out.arr).mono ?_
    rintro e w12 ⟨r11, rfl, hi11, hx11⟩
    have HX := Lib.hid (HX.out.trans hx11)
    have HW := Lib.hid (HW.out.trans hx11)
    have RN := Lib.hid (RN.out.ext hx11)
    have HB0 := Lib.hid (HB0.out.ext hx11)
    have HB1 := Lib.hid (HB1.out.ext hx11)
    have RI := Lib.hid hi11
    obtain ⟨f11, g11, G11, j11, rfl⟩ := hi11.shape
    clear hi11
    clear hx11
    obtain ⟨hb0_0, hb0_1, hb0_2, hb0_3, hb0_4, hb0_5, hb0_6⟩ := HB0.out.three
    obtain ⟨hb1_0, hb1_1, hb1_2, hb1_3, hb1_4, hb1_5, hb1_6⟩ := HB1.out.three
    go_upto_region 8 with fail
    clear RN
    have hlb := HB1.out.lt
    have HLO := Lib.hid HX.out.size
    have HLQ : Hid (wo.heap.size ≤ w12.heap.size) := Lib.hid (Nat.le_trans HLW.out HW.out.size)
    clear hb0_0 hb0_1 hb0_2 hb0_3 hb0_4 hb0_5 hb0_6 hb1_0 hb1_1 hb1_2 hb1_3 hb1_4 hb1_5 hb1_6
    have hb12 := Blk.new w12 24 #[Value.bool f11, Value.slice G11 g11 j11]
    have hx12 := (Ext.refl w12).alloc (.cells #[Value.bool f11, Value.slice G11 g11 j11] 24)
    have HX := Lib.hid (HX.out.trans hx12)
    have HW := Lib.hid (HW.out.trans hx12)
    have RI := Lib.hid (RI.out.ext hx12)
    have HB0 := Lib.hid (HB0.out.ext hx12)
    have HB1 := Lib.hid (HB1.out.ext hx12)
    have BI := Lib.hid hb12
    generalize w12.alloc (.cells #[Value.bool f11, Value.slice G11 g11 j11] 24) = w13 at *
    generalize w12.heap.size = a12 at *
    clear hb12 hx12
    obtain ⟨hb0_0, hb0_1, hb0_2, hb0_3, hb0_4, hb0_5, hb0_6⟩ := HB0.out.three
    obtain ⟨hb1_0, hb1_1, hb1_2, hb1_3, hb1_4, hb1_5, hb1_6⟩ := HB1.out.three
    obtain ⟨bi_0, bi_1, bi_2, bi_3, bi_4⟩ := BI.out.two
    have hlo := HLO.out
    have hzz := HZ.out
    have hlq := HLQ.out
    have RDd := Lib.hid ((H0.out.den.ext HX.out).ext (Ext.refl w13).drew)
    have RId := Lib.hid (RI.out.ext (Ext.refl w13).drew)
    go_region_held3 (fun w' => Ext w w' ∧ w'.cell? ⟨w.heap.size, 0, none⟩ = some (Value.bool false) ∧ w'.cell? ⟨w.heap.size, 1, none⟩ = some (Value.slice A0 l0 c0) ∧ w'.cell? ⟨w.heap.size, 2, none⟩ = some (Value.slice D0 k0 e0) ∧ w'.cell? ⟨a12, 0, none⟩ = some (Value.bool f11) ∧ w'.cell? ⟨a12, 1, none⟩ = some (Value.slice G11 g11 j11) ∧ w'.cell? ⟨w.heap.size + 1, 0, none⟩ = some (was w' (w.heap.size + 1) 0) ∧ w'.cell? ⟨w.heap.size + 1, 1, none⟩ = some (was w' (w.heap.size + 1) 1) ∧ w'.cell? ⟨w.heap.size + 1, 2, none⟩ = some (was w' (w.heap.size + 1) 2) ∧ w'.frozen? ⟨w.heap.size + 1, 0, none⟩ = false ∧ w'.frozen? ⟨w.heap.size + 1, 1, none⟩ = false ∧ w'.frozen? ⟨w.heap.size + 1, 2, none⟩ = false)
      (first | (exact ⟨HX.out.drew, hb0_0, hb0_1, hb0_2, bi_0, bi_1, was_some (w := w13.drew) hb1_0, was_some (w := w13.drew) hb1_1, was_some (w := w13.drew) hb1_2, hb1_3, hb1_4, hb1_5⟩) | (exact keptS5_3 (by assumption) (by assumption)) | (exact keptS5_3_set (by assumption) (by omega) (by omega) (by omega) (by omega) (by omega) (by omega)))
      (first | (go_at_call 100; refine (HPD.out _ _ RDd.out).mono ?_; rintro e w14 ⟨r13, rfl, hi13, hx13⟩; have hz13 := hx13.size; have RId := Lib.hid (RId.out.ext hx13); have RD := Lib.hid hi13; obtain ⟨g13, G13, j13, rfl⟩ := hi13.shape))
    all_goals go_wp2_with fail
    rename_i hS
    obtain ⟨hE, _, _, _, _, _, c0_, c1_, c2_, _, _, _⟩ := hS
    simp only [World.size_drew] at hz13
    obtain ⟨hr0, hr1, hr2⟩ := final3 c0_ c1_ c2_
    refine bodyPost_ret (v := .tuple #[.agg #[.bool f11, .slice G11 g11 j11, .slice G13 g13 j13], .int .i64 0]) (by simp [results, Tryz.results40, go_sem, hr0, hr1, hr2]) rfl ?_
    exact ⟨_, rfl, IsRat.put (w1 := wo) (IsRat.mk (RId.out.mono (by have := HKI.out; omega)) (RD.out.mono (by first | omega | (simp only [World.size_drew]; omega)))) (by omega) (by omega), hE⟩
  · simp only [Bool.true_and] at HNI
    clear hb0_0 hb0_1 hb0_2 hb0_3 hb0_4 hb0_5 hb0_6 hb1_0 hb1_1 hb1_2 hb1_3 hb1_4 hb1_5 hb1_6
    obtain ⟨hb0_0, hb0_1, hb0_2, hb0_3, hb0_4, hb0_5, hb0_6⟩ := HB0.out.three
    obtain ⟨hb1_0, hb1_1, hb1_2, hb1_3, hb1_4, hb1_5, hb1_6⟩ := HB1.out.three
    go_wp2_with fail
    clear hb0_0 hb0_1 hb0_2 hb0_3 hb0_4 hb0_5 hb0_6 hb1_0 hb1_1 hb1_2 hb1_3 hb1_4 hb1_5 hb1_6
    refine (HPN.out _ _ (H0.out.num.ext HX.out)).mono ?_
    rintro e w11 ⟨r10, rfl, hi10, hx10⟩
    have HX := Lib.hid (HX.out.trans hx10)
    have HW := Lib.hid (HW.out.trans hx10)
    have HB0 := Lib.hid (HB0.out.ext hx10)
    have HB1 := Lib.hid (HB1.out.ext hx10)
    have RN := Lib.hid hi10
    obtain ⟨g10, G10, j10, rfl⟩ := hi10.shape
    clear hi10
    clear hx10
    obtain ⟨hb0_0, hb0_1, hb0_2, hb0_3, hb0_4, hb0_5, hb0_6⟩ := HB0.out.three
    obtain ⟨hb1_0, hb1_1, hb1_2, hb1_3, hb1_4, hb1_5, hb1_6⟩ := HB1.out.three
    go_wp2_with fail
    clear hb0_0 hb0_1 hb0_2 hb0_3 hb0_4 hb0_5 hb0_6 hb1_0 hb1_1 hb1_2 hb1_3 hb1_4 hb1_5 hb1_6
    have HKI := Lib.hid (Nat.le_trans HLW.out HW.out.size)
    refine (HNI.out _ _ RN.out.arr).mono ?_
    rintro e w12 ⟨r11, rfl, hi11, hx11⟩
    have HX := Lib.hid (HX.out.trans hx11)
    have HW := Lib.hid (HW.out.trans hx11)
    have RN := Lib.hid (RN.out.ext hx11)
    have HB0 := Lib.hid (HB0.out.ext hx11)
    have HB1 := Lib.hid (HB1.out.ext hx11)
    have RI := Lib.hid hi11
    obtain ⟨f11, g11, G11, j11, rfl⟩ := hi11.shape
    clear hi11
    clear hx11
    obtain ⟨hb0_0, hb0_1, hb0_2, hb0_3, hb0_4, hb0_5, hb0_6⟩ := HB0.out.three
    obtain ⟨hb1_0, hb1_1, hb1_2, hb1_3, hb1_4, hb1_5, hb1_6⟩ := HB1.out.three
    go_upto_region 8 with fail
    clear RN
    have hlb := HB1.out.lt
    have HLO := Lib.hid HX.out.size
    have HLQ : Hid (wo.heap.size ≤ w12.heap.size) := Lib.hid (Nat.le_trans HLW.out HW.out.size)
    clear hb0_0 hb0_1 hb0_2 hb0_3 hb0_4 hb0_5 hb0_6 hb1_0 hb1_1 hb1_2 hb1_3 hb1_4 hb1_5 hb1_6
    have hb12 := Blk.new w12 24 #[Value.bool f11, Value.slice G11 g11 j11]
    have hx12 := (Ext.refl w12).alloc (.cells #[Value.bool f11, Value.slice G11 g11 j11] 24)
    have HX := Lib.hid (HX.out.trans hx12)
    have HW := Lib.hid (HW.out.trans hx12)
    have RI := Lib.hid (RI.out.ext hx12)
    have HB0 := Lib.hid (HB0.out.ext hx12)
    have HB1 := Lib.hid (HB1.out.ext hx12)
    have BI := Lib.hid hb12
    generalize w12.alloc (.cells #[Value.bool f11, Value.slice G11 g11 j11] 24) = w13 at *
    generalize w12.heap.size = a12 at *
    clear hb12 hx12
    obtain ⟨hb0_0, hb0_1, hb0_2, hb0_3, hb0_4, hb0_5, hb0_6⟩ := HB0.out.three
    obtain ⟨hb1_0, hb1_1, hb1_2, hb1_3, hb1_4, hb1_5, hb1_6⟩ := HB1.out.three
    obtain ⟨bi_0, bi_1, bi_2, bi_3, bi_4⟩ := BI.out.two
    have hlo := HLO.out
    have hzz := HZ.out
    have hlq := HLQ.out
    have RDd := Lib.hid ((H0.out.den.ext HX.out).ext (Ext.refl w13).drew)
    have RId := Lib.hid (RI.out.ext (Ext.refl w13).drew)
    go_region_held3 (fun w' => Ext w w' ∧ w'.cell? ⟨w.heap.size, 0, none⟩ = some (Value.bool true) ∧ w'.cell? ⟨w.heap.size, 1, none⟩ = some (Value.slice A0 l0 c0) ∧ w'.cell? ⟨w.heap.size, 2, none⟩ = some (Value.slice D0 k0 e0) ∧ w'.cell? ⟨a12, 0, none⟩ = some (Value.bool f11) ∧ w'.cell? ⟨a12, 1, none⟩ = some (Value.slice G11 g11 j11) ∧ w'.cell? ⟨w.heap.size + 1, 0, none⟩ = some (was w' (w.heap.size + 1) 0) ∧ w'.cell? ⟨w.heap.size + 1, 1, none⟩ = some (was w' (w.heap.size + 1) 1) ∧ w'.cell? ⟨w.heap.size + 1, 2, none⟩ = some (was w' (w.heap.size + 1) 2) ∧ w'.frozen? ⟨w.heap.size + 1, 0, none⟩ = false ∧ w'.frozen? ⟨w.heap.size + 1, 1, none⟩ = false ∧ w'.frozen? ⟨w.heap.size + 1, 2, none⟩ = false)
      (first | (exact ⟨HX.out.drew, hb0_0, hb0_1, hb0_2, bi_0, bi_1, was_some (w := w13.drew) hb1_0, was_some (w := w13.drew) hb1_1, was_some (w := w13.drew) hb1_2, hb1_3, hb1_4, hb1_5⟩) | (exact keptS5_3 (by assumption) (by assumption)) | (exact keptS5_3_set (by assumption) (by omega) (by omega) (by omega) (by omega) (by omega) (by omega)))
      (first | (go_at_call 100; refine (HPD.out _ _ RDd.out).mono ?_; rintro e w14 ⟨r13, rfl, hi13, hx13⟩; have hz13 := hx13.size; have RId := Lib.hid (RId.out.ext hx13); have RD := Lib.hid hi13; obtain ⟨g13, G13, j13, rfl⟩ := hi13.shape))
    all_goals go_wp2_with fail
    rename_i hS
    obtain ⟨hE, _, _, _, _, _, c0_, c1_, c2_, _, _, _⟩ := hS
    simp only [World.size_drew] at hz13
    obtain ⟨hr0, hr1, hr2⟩ := final3 c0_ c1_ c2_
    refine bodyPost_ret (v := .tuple #[.agg #[.bool f11, .slice G11 g11 j11, .slice G13 g13 j13], .int .i64 0]) (by simp [results, Tryz.results40, go_sem, hr0, hr1, hr2]) rfl ?_
    exact ⟨_, rfl, IsRat.put (w1 := wo) (IsRat.mk (RId.out.mono (by have := HKI.out; omega)) (RD.out.mono (by first | omega | (simp only [World.size_drew]; omega)))) (by omega) (by omega), hE⟩
set_option maxHeartbeats 2000000 in
set_option maxRecDepth 100000 in
theorem ppowR_neg (w : World) (v0 : Value) (p : Int) (q : Nat) (h0 : ArrRat w v0 p q) (n0 : (limbs p.natAbs).length ≤ 1000000) (m0 : (limbs q).length ≤ 1000000) (n : Nat) (hn : n ≤ 64) (hn0 : 0 < n) (hp : p ≠ 0) :
    Calls Tryz.prog 40 #[v0, .int .i64 (-(n : Int))] w fun e w' => ∃ v', e = .returned (.tuple #[v', .int .i64 0]) ∧ IsRat w.heap.size w' v' (invP p q ^ n) (p.natAbs ^ n) ∧ Ext w w' := by
  have H0 := Lib.hid h0
  have HSG := Lib.hid (fun W v a => signR_any W v p q a n0 m0)
  have hsb : (sgZ p == 0) = false := by rw [beq_eq_false_iff_ne]; unfold sgZ; split <;> (try split) <;> omega
  have HIV := Lib.hid (fun W v a => invR_any W v p q a n0 m0)
  have hi := sz_inv n0 m0
  have hna : (invP p q).natAbs = q := by unfold invP; rw [natAbs_sgn]
  have hwn : IntKind.i64.wrap (- -(n : Int)) = (n : Int) := by rw [Int.neg_neg]; exact IntWalk.i64_in _ (by omega)
  have hnn : - -(n : Int) = (n : Int) := Int.neg_neg _
  have hm1 : ¬ -(n : Int) < -64 := by omega
  have hm2 : ¬ 64 < -(n : Int) := by omega
  have hm3 : -(n : Int) < 0 := by omega
  generalize invP p q = P at *
  generalize hQ : p.natAbs = Q at *
  clear hQ
  have n1 : (limbs P.natAbs).length ≤ 1000000 := hi.1
  have m1 : (limbs Q).length ≤ 1000000 := hi.2
  have HPN := Lib.hid (fun W m a => ppow_any W m (limbs P.natAbs) n a n1 hn)
  have HPD := Lib.hid (fun W m a => ppow_any W m (limbs Q) n a m1 hn)
  rw [val_limbs] at HPN HPD
  have hps := pow_sgn P n
  have HNI := Lib.hid (fun W m a => inat_any W (decide (P < 0) && decide (n % 2 = 1)) m (limbs (P.natAbs ^ n)) a (by have := limbs_pow64 n1 hn; omega))
  rw [val_limbs, hps] at HNI
  have hpp := limbs_pow64 n1 hn
  have hqq := limbs_pow64 m1 hn
  obtain ⟨r, hr⟩ : ∃ r, n % 2 = r := ⟨_, rfl⟩
  have hr1 : (n : Int) % 2 = (r : Int) := by omega
  have hr2 : Int.tmod (n : Int) 2 = (r : Int) := by rw [Int.tmod_eq_emod_of_nonneg (by omega)]; omega
  have hr3 : ((r : Int) == 1) = decide (n % 2 = 1) := by rw [hr, Bool.eq_iff_iff, beq_iff_eq, decide_eq_true_iff]; omega
  generalize decide (n % 2 = 1) = d at *
  obtain ⟨b0, l0, A0, c0, k0, D0, e0, rfl⟩ := h0.shape
  clear hr hps hpp hqq n0 m0 n1 m1 hi hna hp
  clear h0
  generalize sgZ p = sg at *
  go_enter Tryz.func40, Tryz.ntmps40
  go_upto_region 1 with fail
  have hb0 := ((Blk.new w 26 #[Value.bool b0, Value.slice A0 l0 c0, Value.slice D0 k0 e0]).alloc (.cells #[Value.bool false, Value.slice none 0 0, Value.slice none 0 0] 26))
  have hb1 := (Blk.new (w.alloc (.cells #[Value.bool b0, Value.slice A0 l0 c0, Value.slice D0 k0 e0] 26)) 26 #[Value.bool false, Value.slice none 0 0, Value.slice none 0 0])
  have hxo := (((Ext.refl w).alloc (.cells #[Value.bool b0, Value.slice A0 l0 c0, Value.slice D0 k0 e0] 26)).alloc (.cells #[Value.bool false, Value.slice none 0 0, Value.slice none 0 0] 26))
  have hszo : w.heap.size + 1 + 1 = ((w.alloc (.cells #[Value.bool b0, Value.slice A0 l0 c0, Value.slice D0 k0 e0] 26)).alloc (.cells #[Value.bool false, Value.slice none 0 0, Value.slice none 0 0] 26)).heap.size := by simp
  simp only [World.size_alloc] at hb1
  generalize (w.alloc (.cells #[Value.bool b0, Value.slice A0 l0 c0, Value.slice D0 k0 e0] 26)).alloc (.cells #[Value.bool false, Value.slice none 0 0, Value.slice none 0 0] 26) = wo at *
  have HB0 := Lib.hid hb0
  have HB1 := Lib.hid hb1
  have HX := Lib.hid hxo
  have HZ : Hid (w.heap.size + 1 + 1 ≤ wo.heap.size) := Lib.hid (by omega)
  clear hxo hszo hb0 hb1
  have HW := Lib.hid (Ext.refl wo)
  obtain ⟨hb0_0, hb0_1, hb0_2, hb0_3, hb0_4, hb0_5, hb0_6⟩ := HB0.out.three
  obtain ⟨hb1_0, hb1_1, hb1_2, hb1_3, hb1_4, hb1_5, hb1_6⟩ := HB1.out.three
  go_wp2_with fail
  clear hb0_0 hb0_1 hb0_2 hb0_3 hb0_4 hb0_5 hb0_6 hb1_0 hb1_1 hb1_2 hb1_3 hb1_4 hb1_5 hb1_6
  refine (HSG.out _ _ (H0.out.ext HX.out)).mono ?_
  rintro e w11 ⟨rfl, hx10⟩
  have HX := Lib.hid (HX.out.trans hx10)
  have HW := Lib.hid (HW.out.trans hx10)
  have HB0 := Lib.hid (HB0.out.ext hx10)
  have HB1 := Lib.hid (HB1.out.ext hx10)
  clear hx10
  obtain ⟨hb0_0, hb0_1, hb0_2, hb0_3, hb0_4, hb0_5, hb0_6⟩ := HB0.out.three
  obtain ⟨hb1_0, hb1_1, hb1_2, hb1_3, hb1_4, hb1_5, hb1_6⟩ := HB1.out.three
  go_wp2_with fail
  clear hb0_0 hb0_1 hb0_2 hb0_3 hb0_4 hb0_5 hb0_6 hb1_0 hb1_1 hb1_2 hb1_3 hb1_4 hb1_5 hb1_6
  have HWQ := HW
  refine (HIV.out _ _ (H0.out.ext HX.out)).mono ?_
  rintro e w12 ⟨r11, rfl, hi11, hx11⟩
  have HX := Lib.hid (HX.out.trans hx11)
  have HW := Lib.hid (HW.out.trans hx11)
  have HB0 := Lib.hid (HB0.out.ext hx11)
  have HB1 := Lib.hid (HB1.out.ext hx11)
  have QI := Lib.hid hi11
  obtain ⟨f11, g11, G11, j11, y11, Y11, z11, rfl⟩ := hi11.shape
  clear hi11
  clear hx11
  obtain ⟨hb0_0, hb0_1, hb0_2, hb0_3, hb0_4, hb0_5, hb0_6⟩ := HB0.out.three
  obtain ⟨hb1_0, hb1_1, hb1_2, hb1_3, hb1_4, hb1_5, hb1_6⟩ := HB1.out.three
  go_upto_region 7 with fail
  clear hb0_0 hb0_1 hb0_2 hb0_3 hb0_4 hb0_5 hb0_6 hb1_0 hb1_1 hb1_2 hb1_3 hb1_4 hb1_5 hb1_6
  have hzz := HZ.out
  have hww := HWQ.out.size
  have hs0 := QI.out.arr.sign
  rw [← hs0] at HNI
  clear hs0
  have QI := Lib.hid (((QI.out.far (a := ⟨w.heap.size, 0, none⟩) (by first | omega | (simp only; omega)) (.bool f11)).far (a := ⟨w.heap.size, 1, none⟩) (by first | omega | (simp only; omega)) (.slice G11 g11 j11)).far (a := ⟨w.heap.size, 2, none⟩) (by first | omega | (simp only; omega)) (.slice Y11 y11 z11))
  have HB1 := Lib.hid (((HB1.out.far (p := ⟨w.heap.size, 0, none⟩) (show w.heap.size + 1 ≠ _ by (try simp only) <;> omega) (.bool f11)).far (p := ⟨w.heap.size, 1, none⟩) (show w.heap.size + 1 ≠ _ by (try simp only) <;> omega) (.slice G11 g11 j11)).far (p := ⟨w.heap.size, 2, none⟩) (show w.heap.size + 1 ≠ _ by (try simp only) <;> omega) (.slice Y11 y11 z11))
  have hB0 : Blk (((w12.setCell ⟨w.heap.size, 0, none⟩ (.bool f11)).setCell ⟨w.heap.size, 1, none⟩ (.slice G11 g11 j11)).setCell ⟨w.heap.size, 2, none⟩ (.slice Y11 y11 z11)) w.heap.size 26 #[Value.bool f11, Value.slice G11 g11 j11, Value.slice Y11 y11 z11] := ((HB0.out.set_ 0 (.bool f11)).set_ 1 (.slice G11 g11 j11)).set_ 2 (.slice Y11 y11 z11)
  have HB0 := Lib.hid hB0
  have HX := Lib.hid (((HX.out.setCell (p := ⟨w.heap.size, 0, none⟩) (Nat.le_refl _) (.bool f11)).setCell (p := ⟨w.heap.size, 1, none⟩) (Nat.le_refl _) (.slice G11 g11 j11)).setCell (p := ⟨w.heap.size, 2, none⟩) (Nat.le_refl _) (.slice Y11 y11 z11))
  have HLW : Hid (wo.heap.size ≤ ((((w12.setCell ⟨w.heap.size, 0, none⟩ (.bool f11)).setCell ⟨w.heap.size, 1, none⟩ (.slice G11 g11 j11)).setCell ⟨w.heap.size, 2, none⟩ (.slice Y11 y11 z11))).heap.size) := Lib.hid (by simp only [World.size_setCell]; have := HW.out.size; omega)
  clear hB0 hzz hww HW
  generalize ((w12.setCell ⟨w.heap.size, 0, none⟩ (.bool f11)).setCell ⟨w.heap.size, 1, none⟩ (.slice G11 g11 j11)).setCell ⟨w.heap.size, 2, none⟩ (.slice Y11 y11 z11) = w13 at *
  have HW := Lib.hid (Ext.refl w13)
  cases f11
  · simp only [Bool.false_and] at HNI
    obtain ⟨hb0_0, hb0_1, hb0_2, hb0_3, hb0_4, hb0_5, hb0_6⟩ := HB0.out.three
    obtain ⟨hb1_0, hb1_1, hb1_2, hb1_3, hb1_4, hb1_5, hb1_6⟩ := HB1.out.three
    go_wp2_with fail
    clear hb0_0 hb0_1 hb0_2 hb0_3 hb0_4 hb0_5 hb0_6 hb1_0 hb1_1 hb1_2 hb1_3 hb1_4 hb1_5 hb1_6
    refine (HPN.out _ _ QI.out.arr.num).mono ?_
    rintro e w14 ⟨r13, rfl, hi13, hx13⟩
    have HX := Lib.hid (HX.out.trans hx13)
    have HW := Lib.hid (HW.out.trans hx13)
    have QI := Lib.hid (QI.out.ext hx13)
    have HB0 := Lib.hid (HB0.out.ext hx13)
    have HB1 := Lib.hid (HB1.out.ext hx13)
    have RN := Lib.hid hi13
    obtain ⟨g13, G13, j13, rfl⟩ := hi13.shape
    clear hi13
    clear hx13
    obtain ⟨hb0_0, hb0_1, hb0_2, hb0_3, hb0_4, hb0_5, hb0_6⟩ := HB0.out.three
    obtain ⟨hb1_0, hb1_1, hb1_2, hb1_3, hb1_4, hb1_5, hb1_6⟩ := HB1.out.three
    go_wp2_with fail
    clear hb0_0 hb0_1 hb0_2 hb0_3 hb0_4 hb0_5 hb0_6 hb1_0 hb1_1 hb1_2 hb1_3 hb1_4 hb1_5 hb1_6
    have HKI := Lib.hid (Nat.le_trans HLW.out HW.out.size)
    refine (HNI.out _ _ RN.out.arr).mono ?_
    rintro e w15 ⟨r14, rfl, hi14, hx14⟩
    have HX := Lib.hid (HX.out.trans hx14)
    have HW := Lib.hid (HW.out.trans hx14)
    have QI := Lib.hid (QI.out.ext hx14)
    have RN := Lib.hid (RN.out.ext hx14)
    have HB0 := Lib.hid (HB0.out.ext hx14)
    have HB1 := Lib.hid (HB1.out.ext hx14)
    have RI := Lib.hid hi14
    obtain ⟨f14, g14, G14, j14, rfl⟩ := hi14.shape
    clear hi14
    clear hx14
    obtain ⟨hb0_0, hb0_1, hb0_2, hb0_3, hb0_4, hb0_5, hb0_6⟩ := HB0.out.three
    obtain ⟨hb1_0, hb1_1, hb1_2, hb1_3, hb1_4, hb1_5, hb1_6⟩ := HB1.out.three
    go_upto_region 8 with fail
    clear RN
    have hlb := HB1.out.lt
    have HLO := Lib.hid HX.out.size
    have HLQ : Hid (wo.heap.size ≤ w15.heap.size) := Lib.hid (Nat.le_trans HLW.out HW.out.size)
    clear hb0_0 hb0_1 hb0_2 hb0_3 hb0_4 hb0_5 hb0_6 hb1_0 hb1_1 hb1_2 hb1_3 hb1_4 hb1_5 hb1_6
    have hb15 := Blk.new w15 24 #[Value.bool f14, Value.slice G14 g14 j14]
    have hx15 := (Ext.refl w15).alloc (.cells #[Value.bool f14, Value.slice G14 g14 j14] 24)
    have HX := Lib.hid (HX.out.trans hx15)
    have HW := Lib.hid (HW.out.trans hx15)
    have QI := Lib.hid (QI.out.ext hx15)
    have RI := Lib.hid (RI.out.ext hx15)
    have HB0 := Lib.hid (HB0.out.ext hx15)
    have HB1 := Lib.hid (HB1.out.ext hx15)
    have BI := Lib.hid hb15
    generalize w15.alloc (.cells #[Value.bool f14, Value.slice G14 g14 j14] 24) = w16 at *
    generalize w15.heap.size = a15 at *
    clear hb15 hx15
    obtain ⟨hb0_0, hb0_1, hb0_2, hb0_3, hb0_4, hb0_5, hb0_6⟩ := HB0.out.three
    obtain ⟨hb1_0, hb1_1, hb1_2, hb1_3, hb1_4, hb1_5, hb1_6⟩ := HB1.out.three
    obtain ⟨bi_0, bi_1, bi_2, bi_3, bi_4⟩ := BI.out.two
    have hlo := HLO.out
    have hzz := HZ.out
    have hlq := HLQ.out
    have RDd := Lib.hid (QI.out.arr.den.ext (Ext.refl w16).drew)
    have RId := Lib.hid (RI.out.ext (Ext.refl w16).drew)
    go_region_held3 (fun w' => Ext w w' ∧ w'.cell? ⟨w.heap.size, 0, none⟩ = some (Value.bool false) ∧ w'.cell? ⟨w.heap.size, 1, none⟩ = some (Value.slice G11 g11 j11) ∧ w'.cell? ⟨w.heap.size, 2, none⟩ = some (Value.slice Y11 y11 z11) ∧ w'.cell? ⟨a15, 0, none⟩ = some (Value.bool f14) ∧ w'.cell? ⟨a15, 1, none⟩ = some (Value.slice G14 g14 j14) ∧ w'.cell? ⟨w.heap.size + 1, 0, none⟩ = some (was w' (w.heap.size + 1) 0) ∧ w'.cell? ⟨w.heap.size + 1, 1, none⟩ = some (was w' (w.heap.size + 1) 1) ∧ w'.cell? ⟨w.heap.size + 1, 2, none⟩ = some (was w' (w.heap.size + 1) 2) ∧ w'.frozen? ⟨w.heap.size + 1, 0, none⟩ = false ∧ w'.frozen? ⟨w.heap.size + 1, 1, none⟩ = false ∧ w'.frozen? ⟨w.heap.size + 1, 2, none⟩ = false)
      (first | (exact ⟨HX.out.drew, hb0_0, hb0_1, hb0_2, bi_0, bi_1, was_some (w := w16.drew) hb1_0, was_some (w := w16.drew) hb1_1, was_some (w := w16.drew) hb1_2, hb1_3, hb1_4, hb1_5⟩) | (exact keptS5_3 (by assumption) (by assumption)) | (exact keptS5_3_set (by assumption) (by omega) (by omega) (by omega) (by omega) (by omega) (by omega)))
      (first | (go_at_call 100; refine (HPD.out _ _ RDd.out).mono ?_; rintro e w17 ⟨r16, rfl, hi16, hx16⟩; have hz16 := hx16.size; have RId := Lib.hid (RId.out.ext hx16); have RD := Lib.hid hi16; obtain ⟨g16, G16, j16, rfl⟩ := hi16.shape))
    all_goals go_wp2_with fail
    rename_i hS
    obtain ⟨hE, _, _, _, _, _, c0_, c1_, c2_, _, _, _⟩ := hS
    simp only [World.size_drew] at hz16
    obtain ⟨hr0, hr1, hr2⟩ := final3 c0_ c1_ c2_
    refine bodyPost_ret (v := .tuple #[.agg #[.bool f14, .slice G14 g14 j14, .slice G16 g16 j16], .int .i64 0]) (by simp [results, Tryz.results40, go_sem, hr0, hr1, hr2]) rfl ?_
    exact ⟨_, rfl, IsRat.put (w1 := wo) (IsRat.mk (RId.out.mono (by have := HKI.out; omega)) (RD.out.mono (by first | omega | (simp only [World.size_drew]; omega)))) (by omega) (by omega), hE⟩
  · simp only [Bool.true_and] at HNI
    obtain ⟨hb0_0, hb0_1, hb0_2, hb0_3, hb0_4, hb0_5, hb0_6⟩ := HB0.out.three
    obtain ⟨hb1_0, hb1_1, hb1_2, hb1_3, hb1_4, hb1_5, hb1_6⟩ := HB1.out.three
    go_wp2_with fail
    clear hb0_0 hb0_1 hb0_2 hb0_3 hb0_4 hb0_5 hb0_6 hb1_0 hb1_1 hb1_2 hb1_3 hb1_4 hb1_5 hb1_6
    refine (HPN.out _ _ QI.out.arr.num).mono ?_
    rintro e w14 ⟨r13, rfl, hi13, hx13⟩
    have HX := Lib.hid (HX.out.trans hx13)
    have HW := Lib.hid (HW.out.trans hx13)
    have QI := Lib.hid (QI.out.ext hx13)
    have HB0 := Lib.hid (HB0.out.ext hx13)
    have HB1 := Lib.hid (HB1.out.ext hx13)
    have RN := Lib.hid hi13
    obtain ⟨g13, G13, j13, rfl⟩ := hi13.shape
    clear hi13
    clear hx13
    obtain ⟨hb0_0, hb0_1, hb0_2, hb0_3, hb0_4, hb0_5, hb0_6⟩ := HB0.out.three
    obtain ⟨hb1_0, hb1_1, hb1_2, hb1_3, hb1_4, hb1_5, hb1_6⟩ := HB1.out.three
    go_wp2_with fail
    clear hb0_0 hb0_1 hb0_2 hb0_3 hb0_4 hb0_5 hb0_6 hb1_0 hb1_1 hb1_2 hb1_3 hb1_4 hb1_5 hb1_6
    have HKI := Lib.hid (Nat.le_trans HLW.out HW.out.size)
    refine (HNI.out _ _ RN.out.arr).mono ?_
    rintro e w15 ⟨r14, rfl, hi14, hx14⟩
    have HX := Lib.hid (HX.out.trans hx14)
    have HW := Lib.hid (HW.out.trans hx14)
    have QI := Lib.hid (QI.out.ext hx14)
    have RN := Lib.hid (RN.out.ext hx14)
    have HB0 := Lib.hid (HB0.out.ext hx14)
    have HB1 := Lib.hid (HB1.out.ext hx14)
    have RI := Lib.hid hi14
    obtain ⟨f14, g14, G14, j14, rfl⟩ := hi14.shape
    clear hi14
    clear hx14
    obtain ⟨hb0_0, hb0_1, hb0_2, hb0_3, hb0_4, hb0_5, hb0_6⟩ := HB0.out.three
    obtain ⟨hb1_0, hb1_1, hb1_2, hb1_3, hb1_4, hb1_5, hb1_6⟩ := HB1.out.three
    go_upto_region 8 with fail
    clear RN
    have hlb := HB1.out.lt
    have HLO := Lib.hid HX.out.size
    have HLQ : Hid (wo.heap.size ≤ w15.heap.size) := Lib.hid (Nat.le_trans HLW.out HW.out.size)
    clear hb0_0 hb0_1 hb0_2 hb0_3 hb0_4 hb0_5 hb0_6 hb1_0 hb1_1 hb1_2 hb1_3 hb1_4 hb1_5 hb1_6
    have hb15 := Blk.new w15 24 #[Value.bool f14, Value.slice G14 g14 j14]
    have hx15 := (Ext.refl w15).alloc (.cells #[Value.bool f14, Value.slice G14 g14 j14] 24)
    have HX := Lib.hid (HX.out.trans hx15)
    have HW := Lib.hid (HW.out.trans hx15)
    have QI := Lib.hid (QI.out.ext hx15)
    have RI := Lib.hid (RI.out.ext hx15)
    have HB0 := Lib.hid (HB0.out.ext hx15)
    have HB1 := Lib.hid (HB1.out.ext hx15)
    have BI := Lib.hid hb15
    generalize w15.alloc (.cells #[Value.bool f14, Value.slice G14 g14 j14] 24) = w16 at *
    generalize w15.heap.size = a15 at *
    clear hb15 hx15
    obtain ⟨hb0_0, hb0_1, hb0_2, hb0_3, hb0_4, hb0_5, hb0_6⟩ := HB0.out.three
    obtain ⟨hb1_0, hb1_1, hb1_2, hb1_3, hb1_4, hb1_5, hb1_6⟩ := HB1.out.three
    obtain ⟨bi_0, bi_1, bi_2, bi_3, bi_4⟩ := BI.out.two
    have hlo := HLO.out
    have hzz := HZ.out
    have hlq := HLQ.out
    have RDd := Lib.hid (QI.out.arr.den.ext (Ext.refl w16).drew)
    have RId := Lib.hid (RI.out.ext (Ext.refl w16).drew)
    go_region_held3 (fun w' => Ext w w' ∧ w'.cell? ⟨w.heap.size, 0, none⟩ = some (Value.bool true) ∧ w'.cell? ⟨w.heap.size, 1, none⟩ = some (Value.slice G11 g11 j11) ∧ w'.cell? ⟨w.heap.size, 2, none⟩ = some (Value.slice Y11 y11 z11) ∧ w'.cell? ⟨a15, 0, none⟩ = some (Value.bool f14) ∧ w'.cell? ⟨a15, 1, none⟩ = some (Value.slice G14 g14 j14) ∧ w'.cell? ⟨w.heap.size + 1, 0, none⟩ = some (was w' (w.heap.size + 1) 0) ∧ w'.cell? ⟨w.heap.size + 1, 1, none⟩ = some (was w' (w.heap.size + 1) 1) ∧ w'.cell? ⟨w.heap.size + 1, 2, none⟩ = some (was w' (w.heap.size + 1) 2) ∧ w'.frozen? ⟨w.heap.size + 1, 0, none⟩ = false ∧ w'.frozen? ⟨w.heap.size + 1, 1, none⟩ = false ∧ w'.frozen? ⟨w.heap.size + 1, 2, none⟩ = false)
      (first | (exact ⟨HX.out.drew, hb0_0, hb0_1, hb0_2, bi_0, bi_1, was_some (w := w16.drew) hb1_0, was_some (w := w16.drew) hb1_1, was_some (w := w16.drew) hb1_2, hb1_3, hb1_4, hb1_5⟩) | (exact keptS5_3 (by assumption) (by assumption)) | (exact keptS5_3_set (by assumption) (by omega) (by omega) (by omega) (by omega) (by omega) (by omega)))
      (first | (go_at_call 100; refine (HPD.out _ _ RDd.out).mono ?_; rintro e w17 ⟨r16, rfl, hi16, hx16⟩; have hz16 := hx16.size; have RId := Lib.hid (RId.out.ext hx16); have RD := Lib.hid hi16; obtain ⟨g16, G16, j16, rfl⟩ := hi16.shape))
    all_goals go_wp2_with fail
    rename_i hS
    obtain ⟨hE, _, _, _, _, _, c0_, c1_, c2_, _, _, _⟩ := hS
    simp only [World.size_drew] at hz16
    obtain ⟨hr0, hr1, hr2⟩ := final3 c0_ c1_ c2_
    refine bodyPost_ret (v := .tuple #[.agg #[.bool f14, .slice G14 g14 j14, .slice G16 g16 j16], .int .i64 0]) (by simp [results, Tryz.results40, go_sem, hr0, hr1, hr2]) rfl ?_
    exact ⟨_, rfl, IsRat.put (w1 := wo) (IsRat.mk (RId.out.mono (by have := HKI.out; omega)) (RD.out.mono (by first | omega | (simp only [World.size_drew]; omega)))) (by omega) (by omega), hE⟩
end Big
end Go.Proofs.YtplmldkfgeiklaaGreatDoor
/- ref07.Power. Printed by a program. -/
namespace Go.Proofs.YtplmldkfgeiklaaGreatDoor
namespace Big
open Go.RowKit
set_option maxHeartbeats 2000000 in
set_option maxRecDepth 100000 in
theorem rpowR_arg (w : World) (v0 : Value) (p : Int) (q : Nat) (h0 : ArrRat w v0 p q) (n0 : (limbs p.natAbs).length ≤ 1000000) (m0 : (limbs q).length ≤ 1000000) (n : Int) (hn : n < -64 ∨ 64 < n) :
    Calls Tryz.prog 14 #[v0, .int .i64 n] w fun e w' => ∃ v', e = .returned (.tuple #[v', .int .i64 1]) ∧ IsRat w.heap.size w' v' (0) (0) ∧ Ext w w' := by
  have H0 := Lib.hid h0
  obtain ⟨b0, l0, A0, c0, k0, D0, e0, rfl⟩ := h0.shape
  clear h0 n0 m0
  rcases hn with hn | hn
  · have hn1 : n < -64 := hn
    go_enter Tryz.func14, Tryz.ntmps14
    go_upto_region 1 with fail
    have hb0 := ((Blk.new w 26 #[Value.bool b0, Value.slice A0 l0 c0, Value.slice D0 k0 e0]).alloc (.cells #[Value.bool false, Value.slice none 0 0, Value.slice none 0 0] 26))
    have hb1 := (Blk.new (w.alloc (.cells #[Value.bool b0, Value.slice A0 l0 c0, Value.slice D0 k0 e0] 26)) 26 #[Value.bool false, Value.slice none 0 0, Value.slice none 0 0])
    have hxo := (((Ext.refl w).alloc (.cells #[Value.bool b0, Value.slice A0 l0 c0, Value.slice D0 k0 e0] 26)).alloc (.cells #[Value.bool false, Value.slice none 0 0, Value.slice none 0 0] 26))
    have hszo : w.heap.size + 1 + 1 = ((w.alloc (.cells #[Value.bool b0, Value.slice A0 l0 c0, Value.slice D0 k0 e0] 26)).alloc (.cells #[Value.bool false, Value.slice none 0 0, Value.slice none 0 0] 26)).heap.size := by simp
    simp only [World.size_alloc] at hb1
    generalize (w.alloc (.cells #[Value.bool b0, Value.slice A0 l0 c0, Value.slice D0 k0 e0] 26)).alloc (.cells #[Value.bool false, Value.slice none 0 0, Value.slice none 0 0] 26) = wo at *
    have HB0 := Lib.hid hb0
    have HB1 := Lib.hid hb1
    have HX := Lib.hid hxo
    have HZ : Hid (w.heap.size + 1 + 1 ≤ wo.heap.size) := Lib.hid (by omega)
    clear hxo hszo hb0 hb1
    obtain ⟨t0, t1, t2, s0, s1, s2, hgz⟩ := HB1.out.three
    go_wp2_with fail
    obtain ⟨hr0, hr1, hr2⟩ := three_set HB1.out (.bool false) (.slice none 0 0) (.slice none 0 0)
    refine bodyPost_ret (v := .tuple #[.agg #[.bool false, .slice none 0 0, .slice none 0 0], .int .i64 1]) (by simp [results, Tryz.results14, go_sem, hr0, hr1, hr2]) rfl ?_
    exact ⟨_, rfl, IsRat.zero _ _, ((HX.out.setCell (Nat.le_succ _) _).setCell (Nat.le_succ _) _).setCell (Nat.le_succ _) _⟩
  · have hn1 : ¬ n < -64 := by omega
    go_enter Tryz.func14, Tryz.ntmps14
    go_upto_region 1 with fail
    have hb0 := ((Blk.new w 26 #[Value.bool b0, Value.slice A0 l0 c0, Value.slice D0 k0 e0]).alloc (.cells #[Value.bool false, Value.slice none 0 0, Value.slice none 0 0] 26))
    have hb1 := (Blk.new (w.alloc (.cells #[Value.bool b0, Value.slice A0 l0 c0, Value.slice D0 k0 e0] 26)) 26 #[Value.bool false, Value.slice none 0 0, Value.slice none 0 0])
    have hxo := (((Ext.refl w).alloc (.cells #[Value.bool b0, Value.slice A0 l0 c0, Value.slice D0 k0 e0] 26)).alloc (.cells #[Value.bool false, Value.slice none 0 0, Value.slice none 0 0] 26))
    have hszo : w.heap.size + 1 + 1 = ((w.alloc (.cells #[Value.bool b0, Value.slice A0 l0 c0, Value.slice D0 k0 e0] 26)).alloc (.cells #[Value.bool false, Value.slice none 0 0, Value.slice none 0 0] 26)).heap.size := by simp
    simp only [World.size_alloc] at hb1
    generalize (w.alloc (.cells #[Value.bool b0, Value.slice A0 l0 c0, Value.slice D0 k0 e0] 26)).alloc (.cells #[Value.bool false, Value.slice none 0 0, Value.slice none 0 0] 26) = wo at *
    have HB0 := Lib.hid hb0
    have HB1 := Lib.hid hb1
    have HX := Lib.hid hxo
    have HZ : Hid (w.heap.size + 1 + 1 ≤ wo.heap.size) := Lib.hid (by omega)
    clear hxo hszo hb0 hb1
    obtain ⟨t0, t1, t2, s0, s1, s2, hgz⟩ := HB1.out.three
    go_wp2_with fail
    obtain ⟨hr0, hr1, hr2⟩ := three_set HB1.out (.bool false) (.slice none 0 0) (.slice none 0 0)
    refine bodyPost_ret (v := .tuple #[.agg #[.bool false, .slice none 0 0, .slice none 0 0], .int .i64 1]) (by simp [results, Tryz.results14, go_sem, hr0, hr1, hr2]) rfl ?_
    exact ⟨_, rfl, IsRat.zero _ _, ((HX.out.setCell (Nat.le_succ _) _).setCell (Nat.le_succ _) _).setCell (Nat.le_succ _) _⟩
set_option maxHeartbeats 2000000 in
set_option maxRecDepth 100000 in
theorem rpowR_pos (w : World) (v0 : Value) (p : Int) (q : Nat) (h0 : ArrRat w v0 p q) (n0 : (limbs p.natAbs).length ≤ 1000000) (m0 : (limbs q).length ≤ 1000000) (n : Nat) (hn : n ≤ 64) :
    Calls Tryz.prog 14 #[v0, .int .i64 (n : Int)] w fun e w' => ∃ v', e = .returned (.tuple #[v', .int .i64 0]) ∧ IsRat w.heap.size w' v' (p ^ n) (q ^ n) ∧ Ext w w' := by
  have H0 := Lib.hid h0
  have hm1 : ¬ (n : Int) < -64 := by omega
  have hm2 : ¬ 64 < (n : Int) := by omega
  have hm3 : ¬ (n : Int) < 0 := by omega
  have HPN := Lib.hid (fun W m a => rpow_any W m (limbs p.natAbs) n a n0 hn)
  have HPD := Lib.hid (fun W m a => rpow_any W m (limbs q) n a m0 hn)
  rw [val_limbs] at HPN HPD
  have hps := pow_sgn p n
  have HNI := Lib.hid (fun W m a => rnat_any W (decide (p < 0) && decide (n % 2 = 1)) m (limbs (p.natAbs ^ n)) a (by have := limbs_pow64 n0 hn; omega))
  rw [val_limbs, hps] at HNI
  obtain ⟨r, hr⟩ : ∃ r, n % 2 = r := ⟨_, rfl⟩
  have hr1 : (n : Int) % 2 = (r : Int) := by omega
  have hr2 : Int.tmod (n : Int) 2 = (r : Int) := by rw [Int.tmod_eq_emod_of_nonneg (by omega)]; omega
  have hr3 : ((r : Int) == 1) = decide (n % 2 = 1) := by rw [hr, Bool.eq_iff_iff, beq_iff_eq, decide_eq_true_iff]; omega
  generalize decide (n % 2 = 1) = d at *
  obtain ⟨b0, l0, A0, c0, k0, D0, e0, rfl⟩ := h0.shape
  have hs0 := h0.sign
  rw [← hs0] at HNI
  have HNUM := Lib.hid h0.num
  have HDEN := Lib.hid h0.den
  clear h0 hs0 hr hps n0 m0
  cases b0
  · simp only [Bool.false_and] at HNI
    go_enter Tryz.func14, Tryz.ntmps14
    go_upto_region 8 with fail
    have hb0 := ((Blk.new w 26 #[Value.bool false, Value.slice A0 l0 c0, Value.slice D0 k0 e0]).alloc (.cells #[Value.bool false, Value.slice none 0 0, Value.slice none 0 0] 26))
    have hb1 := (Blk.new (w.alloc (.cells #[Value.bool false, Value.slice A0 l0 c0, Value.slice D0 k0 e0] 26)) 26 #[Value.bool false, Value.slice none 0 0, Value.slice none 0 0])
    have hxo := (((Ext.refl w).alloc (.cells #[Value.bool false, Value.slice A0 l0 c0, Value.slice D0 k0 e0] 26)).alloc (.cells #[Value.bool false, Value.slice none 0 0, Value.slice none 0 0] 26))
    have hszo : w.heap.size + 1 + 1 = ((w.alloc (.cells #[Value.bool false, Value.slice A0 l0 c0, Value.slice D0 k0 e0] 26)).alloc (.cells #[Value.bool false, Value.slice none 0 0, Value.slice none 0 0] 26)).heap.size := by simp
    simp only [World.size_alloc] at hb1
    generalize (w.alloc (.cells #[Value.bool false, Value.slice A0 l0 c0, Value.slice D0 k0 e0] 26)).alloc (.cells #[Value.bool false, Value.slice none 0 0, Value.slice none 0 0] 26) = wo at *
    have HB0 := Lib.hid hb0
    have HB1 := Lib.hid hb1
    have HX := Lib.hid hxo
    have HZ : Hid (w.heap.size + 1 + 1 ≤ wo.heap.size) := Lib.hid (by omega)
    clear hxo hszo hb0 hb1
    obtain ⟨hb0_0, hb0_1, hb0_2, hb0_3, hb0_4, hb0_5, hb0_6⟩ := HB0.out.three
    obtain ⟨hb1_0, hb1_1, hb1_2, hb1_3, hb1_4, hb1_5, hb1_6⟩ := HB1.out.three
    have HE0 := Lib.hid (Ext.refl wo).drew
    have hzz := HZ.out
    have HED := Lib.hid (Ext.refl wo).drew
    refine wp_region_held_drew (S := fun w' => Ext w w' ∧ w'.cell? ⟨w.heap.size, 0, none⟩ = some (Value.bool false) ∧ w'.cell? ⟨w.heap.size, 1, none⟩ = some (Value.slice A0 l0 c0) ∧ w'.cell? ⟨w.heap.size, 2, none⟩ = some (Value.slice D0 k0 e0) ∧ w'.cell? ⟨w.heap.size + 1, 0, none⟩ = some (was w' (w.heap.size + 1) 0) ∧ w'.cell? ⟨w.heap.size + 1, 1, none⟩ = some (was w' (w.heap.size + 1) 1) ∧ w'.cell? ⟨w.heap.size + 1, 2, none⟩ = some (was w' (w.heap.size + 1) 2) ∧ w'.frozen? ⟨w.heap.size + 1, 0, none⟩ = false ∧ w'.frozen? ⟨w.heap.size + 1, 1, none⟩ = false ∧ w'.frozen? ⟨w.heap.size + 1, 2, none⟩ = false) (by kernel_rfl) (by exact ⟨HX.out.drew, hb0_0, hb0_1, hb0_2, was_some (w := wo.drew) hb1_0, was_some (w := wo.drew) hb1_1, was_some (w := wo.drew) hb1_2, hb1_3, hb1_4, hb1_5⟩) (fun hHeld => ?_)
    refine' wpAnyH_take (i := 0) (v := _) rfl (by kernel_rfl) (by kernel_rfl) (by kernel_rfl) (fun _ _ _ h => h) (Or.inl ⟨by rfl, ?_⟩) hHeld ?_
    rotate_left
    · (intro w' hSw; (try dsimp only at hSw); go_simp; (try with_reducible rfl))
    try simp only [Act.put, List.setIfInBounds_toArray, List.set_cons_zero, List.set_cons_succ]
    refine' wpAnyH_take (i := 1) (v := _) rfl (by kernel_rfl) (by kernel_rfl) (by kernel_rfl) (fun _ _ _ h => h) (Or.inl ⟨by rfl, ?_⟩) hHeld ?_
    rotate_left
    · (intro w' hSw; (try dsimp only at hSw); go_simp; (try with_reducible rfl))
    try simp only [Act.put, List.setIfInBounds_toArray, List.set_cons_zero, List.set_cons_succ]
    refine' wpAnyH_take (i := 2) (v := _) rfl (by kernel_rfl) (by kernel_rfl) (by kernel_rfl) (fun _ _ _ h => h) (Or.inl ⟨by rfl, ?_⟩) hHeld ?_
    rotate_left
    · (intro w' hSw; (try dsimp only at hSw); go_simp; (try with_reducible rfl))
    try simp only [Act.put, List.setIfInBounds_toArray, List.set_cons_zero, List.set_cons_succ]
    refine' wpAnyH_take (i := 3) (v := _) rfl (by kernel_rfl) (by kernel_rfl) (by kernel_rfl) (fun _ _ _ h => h) (Or.inl ⟨by rfl, ?_⟩) hHeld ?_
    rotate_left
    · (intro w' hSw; (try dsimp only at hSw); go_simp; (try with_reducible rfl))
    try simp only [Act.put, List.setIfInBounds_toArray, List.set_cons_zero, List.set_cons_succ]
    refine wpAnyH_take (i := 4) (v := undef) rfl (by kernel_rfl) (by kernel_rfl) (by kernel_rfl) (fun _ _ _ h => h) (Or.inr ⟨by rfl, rfl⟩) hHeld ?_
    try simp only [Act.put, List.setIfInBounds_toArray, List.set_cons_zero, List.set_cons_succ]
    refine wpAnyH_take (i := 5) (v := undef) rfl (by kernel_rfl) (by kernel_rfl) (by kernel_rfl) (fun _ _ _ h => h) (Or.inr ⟨by rfl, rfl⟩) hHeld ?_
    try simp only [Act.put, List.setIfInBounds_toArray, List.set_cons_zero, List.set_cons_succ]
    refine wpAnyH_take (i := 6) (v := undef) rfl (by kernel_rfl) (by kernel_rfl) (by kernel_rfl) (fun _ _ _ h => h) (Or.inr ⟨by rfl, rfl⟩) hHeld ?_
    try simp only [Act.put, List.setIfInBounds_toArray, List.set_cons_zero, List.set_cons_succ]
    refine' wpAnyH_take (i := 7) (v := _) rfl (by kernel_rfl) (by kernel_rfl) (by kernel_rfl) (fun _ _ _ h => h) (Or.inl ⟨by rfl, ?_⟩) hHeld ?_
    rotate_left
    · (intro w' hSw; (try dsimp only at hSw); go_simp; (try with_reducible rfl))
    try simp only [Act.put, List.setIfInBounds_toArray, List.set_cons_zero, List.set_cons_succ]
    refine' wpAnyH_take (i := 8) (v := _) rfl (by kernel_rfl) (by kernel_rfl) (by kernel_rfl) (fun _ _ _ h => h) (Or.inl ⟨by rfl, ?_⟩) hHeld ?_
    rotate_left
    · (intro w' hSw; (try dsimp only at hSw); go_simp; (try with_reducible rfl))
    try simp only [Act.put, List.setIfInBounds_toArray, List.set_cons_zero, List.set_cons_succ]
    refine' wpAnyH_take (i := 9) (v := _) rfl (by kernel_rfl) (by kernel_rfl) (by kernel_rfl) (fun _ _ _ h => h) (Or.inl ⟨by rfl, ?_⟩) hHeld ?_
    rotate_left
    · (intro w' hSw; (try dsimp only at hSw); go_simp; (try with_reducible rfl))
    try simp only [Act.put, List.setIfInBounds_toArray, List.set_cons_zero, List.set_cons_succ]
    refine' wpAnyH_take (i := 10) (v := _) rfl (by kernel_rfl) (by kernel_rfl) (by kernel_rfl) (fun _ _ _ h => h) (Or.inl ⟨by rfl, ?_⟩) hHeld ?_
    rotate_left
    · (intro w' hSw; (try dsimp only at hSw); go_simp; (try with_reducible rfl))
    try simp only [Act.put, List.setIfInBounds_toArray, List.set_cons_zero, List.set_cons_succ]
    refine' wpAnyH_take (i := 11) (v := _) rfl (by kernel_rfl) (by kernel_rfl) (by kernel_rfl) (fun _ _ _ h => h) (Or.inl ⟨by rfl, ?_⟩) hHeld ?_
    rotate_left
    · (intro w' hSw; (try dsimp only at hSw); go_simp; (try with_reducible rfl))
    try simp only [Act.put, List.setIfInBounds_toArray, List.set_cons_zero, List.set_cons_succ]
    refine' wpAnyH_take (i := 14) (v := _) rfl (by kernel_rfl) (by kernel_rfl) (by kernel_rfl) (fun _ _ _ h => h) (Or.inl ⟨by rfl, ?_⟩) hHeld ?_
    rotate_left
    · (intro w' hSw; (try dsimp only at hSw); go_simp; (try with_reducible rfl))
    try simp only [Act.put, List.setIfInBounds_toArray, List.set_cons_zero, List.set_cons_succ]
    refine' wpAnyH_take (i := 15) (v := _) rfl (by kernel_rfl) (by kernel_rfl) (by kernel_rfl) (fun _ _ _ h => h) (Or.inl ⟨by rfl, ?_⟩) hHeld ?_
    rotate_left
    · (intro w' hSw; (try dsimp only at hSw); go_simp; (try with_reducible rfl))
    try simp only [Act.put, List.setIfInBounds_toArray, List.set_cons_zero, List.set_cons_succ]
    refine' wpAnyH_take (i := 16) (v := _) rfl (by kernel_rfl) (by kernel_rfl) (by kernel_rfl) (fun _ _ _ h => h) (Or.inl ⟨by rfl, ?_⟩) hHeld ?_
    rotate_left
    · (intro w' hSw; (try dsimp only at hSw); go_simp; (try with_reducible rfl))
    try simp only [Act.put, List.setIfInBounds_toArray, List.set_cons_zero, List.set_cons_succ]
    refine wpAnyH_ready (rs := [12]) (by kernel_rfl) (by simp) ?_
    refine AllReadyH.cons (i := 12) rfl (fun K hK => ?_) AllReadyH.nil
    go_simp
    (go_at_call 55; refine (HPN.out _ _ (HNUM.out.ext hHeld.1)).mono ?_; rintro e w7 ⟨r7, rfl, hi7, hx7⟩; have R7 := Lib.hid hi7; have HE1 : Hid (Ext wo w7) := Lib.hid (HED.out.trans hx7); obtain ⟨g7, G7, j7, rfl⟩ := hi7.shape)
    try go_wp2_with fail
    refine hK.out _ _ ?_ (fun hHeld => ?_)
    · (first | (exact hHeld) | (exact keptS3_3 hHeld (by assumption)) | (exact keptS3_3_set hHeld (by omega) (by omega) (by omega) (by omega)))
    clear hK K
    try simp only [Act.put, List.setIfInBounds_toArray, List.set_cons_zero, List.set_cons_succ]
    refine wpAnyH_ready (rs := [13]) (by kernel_rfl) (by simp) ?_
    refine AllReadyH.cons (i := 13) rfl (fun K hK => ?_) AllReadyH.nil
    go_simp
    (go_at_call 54; refine (HNI.out _ _ R7.out.arr).mono ?_; rintro e w8 ⟨r8, rfl, hi8, hx8⟩; have R8 := Lib.hid hi8; have HE2 : Hid (Ext wo w8) := Lib.hid (HE1.out.trans hx8); obtain ⟨f8, g8, G8, j8, rfl⟩ := hi8.shape)
    try go_wp2_with fail
    refine hK.out _ _ ?_ (fun hHeld => ?_)
    · (first | (exact hHeld) | (exact keptS3_3 hHeld (by assumption)) | (exact keptS3_3_set hHeld (by omega) (by omega) (by omega) (by omega)))
    clear hK K
    try simp only [Act.put, List.setIfInBounds_toArray, List.set_cons_zero, List.set_cons_succ]
    refine wpAnyH_ready (rs := [17]) (by kernel_rfl) (by simp) ?_
    refine AllReadyH.cons (i := 17) rfl (fun K hK => ?_) AllReadyH.nil
    go_simp
    (go_at_call 55; refine (HPD.out _ _ (HDEN.out.ext hHeld.1)).mono ?_; rintro e w9 ⟨r9, rfl, hi9, hx9⟩; have R9 := Lib.hid hi9; have R8 := Lib.hid (R8.out.ext hx9); have HE3 : Hid (Ext wo w9) := Lib.hid (HE2.out.trans hx9); obtain ⟨g9, G9, j9, rfl⟩ := hi9.shape)
    try go_wp2_with fail
    refine hK.out _ _ ?_ (fun hHeld => ?_)
    · (first | (exact hHeld) | (exact keptS3_3 hHeld (by assumption)) | (exact keptS3_3_set hHeld (by omega) (by omega) (by omega) (by omega)))
    clear hK K
    try simp only [Act.put, List.setIfInBounds_toArray, List.set_cons_zero, List.set_cons_succ]
    refine' wpAnyH_take (i := 18) (v := _) rfl (by kernel_rfl) (by kernel_rfl) (by kernel_rfl) (fun _ _ _ h => h) (Or.inl ⟨by rfl, ?_⟩) hHeld ?_
    rotate_left
    · (intro w' hSw; (try dsimp only at hSw); go_simp; (try with_reducible rfl))
    try simp only [Act.put, List.setIfInBounds_toArray, List.set_cons_zero, List.set_cons_succ]
    refine wpAnyH_ready (rs := [19]) (by kernel_rfl) (by simp) ?_
    refine AllReadyH.cons (i := 19) rfl (fun K hK => ?_) AllReadyH.nil
    go_simp
    try go_wp2_with fail
    refine hK.out _ _ ?_ (fun hHeld => ?_)
    · (first | (exact hHeld) | (exact keptS3_3 hHeld (by assumption)) | (exact keptS3_3_set hHeld (by omega) (by omega) (by omega) (by omega)))
    clear hK K
    try simp only [Act.put, List.setIfInBounds_toArray, List.set_cons_zero, List.set_cons_succ]
    refine wpAnyH_ready (rs := [20]) (by kernel_rfl) (by simp) ?_
    refine AllReadyH.cons (i := 20) rfl (fun K hK => ?_) AllReadyH.nil
    go_simp
    try go_wp2_with fail
    refine hK.out _ _ ?_ (fun hHeld => ?_)
    · (first | (exact hHeld) | (exact keptS3_3 hHeld (by assumption)) | (exact keptS3_3_set hHeld (by omega) (by omega) (by omega) (by omega)))
    clear hK K
    try simp only [Act.put, List.setIfInBounds_toArray, List.set_cons_zero, List.set_cons_succ]
    refine wpAnyH_done (by kernel_rfl) ?_ _
    go_wp2_with fail
    obtain ⟨hE, _, _, _, c0_, c1_, c2_, _, _, _⟩ := hHeld
    obtain ⟨hr0, hr1, hr2⟩ := final3 c0_ c1_ c2_
    refine bodyPost_ret (v := .tuple #[.agg #[.bool f8, .slice G8 g8 j8, .slice G9 g9 j9], .int .i64 0]) (by simp [results, Tryz.results14, go_sem, hr0, hr1, hr2]) rfl ?_
    exact ⟨_, rfl, IsRat.put (w1 := wo) (IsRat.mk (R8.out.mono (by have := HE1.out.size; omega)) (R9.out.mono (by have := HE2.out.size; omega))) (by omega) (by omega), hE⟩
  · simp only [Bool.true_and] at HNI
    go_enter Tryz.func14, Tryz.ntmps14
    go_upto_region 8 with fail
    have hb0 := ((Blk.new w 26 #[Value.bool true, Value.slice A0 l0 c0, Value.slice D0 k0 e0]).alloc (.cells #[Value.bool false, Value.slice none 0 0, Value.slice none 0 0] 26))
    have hb1 := (Blk.new (w.alloc (.cells #[Value.bool true, Value.slice A0 l0 c0, Value.slice D0 k0 e0] 26)) 26 #[Value.bool false, Value.slice none 0 0, Value.slice none 0 0])
    have hxo := (((Ext.refl w).alloc (.cells #[Value.bool true, Value.slice A0 l0 c0, Value.slice D0 k0 e0] 26)).alloc (.cells #[Value.bool false, Value.slice none 0 0, Value.slice none 0 0] 26))
    have hszo : w.heap.size + 1 + 1 = ((w.alloc (.cells #[Value.bool true, Value.slice A0 l0 c0, Value.slice D0 k0 e0] 26)).alloc (.cells #[Value.bool false, Value.slice none 0 0, Value.slice none 0 0] 26)).heap.size := by simp
    simp only [World.size_alloc] at hb1
    generalize (w.alloc (.cells #[Value.bool true, Value.slice A0 l0 c0, Value.slice D0 k0 e0] 26)).alloc (.cells #[Value.bool false, Value.slice none 0 0, Value.slice none 0 0] 26) = wo at *
    have HB0 := Lib.hid hb0
    have HB1 := Lib.hid hb1
    have HX := Lib.hid hxo
    have HZ : Hid (w.heap.size + 1 + 1 ≤ wo.heap.size) := Lib.hid (by omega)
    clear hxo hszo hb0 hb1
    obtain ⟨hb0_0, hb0_1, hb0_2, hb0_3, hb0_4, hb0_5, hb0_6⟩ := HB0.out.three
    obtain ⟨hb1_0, hb1_1, hb1_2, hb1_3, hb1_4, hb1_5, hb1_6⟩ := HB1.out.three
    have HE0 := Lib.hid (Ext.refl wo).drew
    have hzz := HZ.out
    have HED := Lib.hid (Ext.refl wo).drew
    refine wp_region_held_drew (S := fun w' => Ext w w' ∧ w'.cell? ⟨w.heap.size, 0, none⟩ = some (Value.bool true) ∧ w'.cell? ⟨w.heap.size, 1, none⟩ = some (Value.slice A0 l0 c0) ∧ w'.cell? ⟨w.heap.size, 2, none⟩ = some (Value.slice D0 k0 e0) ∧ w'.cell? ⟨w.heap.size + 1, 0, none⟩ = some (was w' (w.heap.size + 1) 0) ∧ w'.cell? ⟨w.heap.size + 1, 1, none⟩ = some (was w' (w.heap.size + 1) 1) ∧ w'.cell? ⟨w.heap.size + 1, 2, none⟩ = some (was w' (w.heap.size + 1) 2) ∧ w'.frozen? ⟨w.heap.size + 1, 0, none⟩ = false ∧ w'.frozen? ⟨w.heap.size + 1, 1, none⟩ = false ∧ w'.frozen? ⟨w.heap.size + 1, 2, none⟩ = false) (by kernel_rfl) (by exact ⟨HX.out.drew, hb0_0, hb0_1, hb0_2, was_some (w := wo.drew) hb1_0, was_some (w := wo.drew) hb1_1, was_some (w := wo.drew) hb1_2, hb1_3, hb1_4, hb1_5⟩) (fun hHeld => ?_)
    refine' wpAnyH_take (i := 0) (v := _) rfl (by kernel_rfl) (by kernel_rfl) (by kernel_rfl) (fun _ _ _ h => h) (Or.inl ⟨by rfl, ?_⟩) hHeld ?_
    rotate_left
    · (intro w' hSw; (try dsimp only at hSw); go_simp; (try with_reducible rfl))
    try simp only [Act.put, List.setIfInBounds_toArray, List.set_cons_zero, List.set_cons_succ]
    refine' wpAnyH_take (i := 1) (v := _) rfl (by kernel_rfl) (by kernel_rfl) (by kernel_rfl) (fun _ _ _ h => h) (Or.inl ⟨by rfl, ?_⟩) hHeld ?_
    rotate_left
    · (intro w' hSw; (try dsimp only at hSw); go_simp; (try with_reducible rfl))
    try simp only [Act.put, List.setIfInBounds_toArray, List.set_cons_zero, List.set_cons_succ]
    refine' wpAnyH_take (i := 2) (v := _) rfl (by kernel_rfl) (by kernel_rfl) (by kernel_rfl) (fun _ _ _ h => h) (Or.inl ⟨by rfl, ?_⟩) hHeld ?_
    rotate_left
    · (intro w' hSw; (try dsimp only at hSw); go_simp; (try with_reducible rfl))
    try simp only [Act.put, List.setIfInBounds_toArray, List.set_cons_zero, List.set_cons_succ]
    refine' wpAnyH_take (i := 3) (v := _) rfl (by kernel_rfl) (by kernel_rfl) (by kernel_rfl) (fun _ _ _ h => h) (Or.inl ⟨by rfl, ?_⟩) hHeld ?_
    rotate_left
    · (intro w' hSw; (try dsimp only at hSw); go_simp; (try with_reducible rfl))
    try simp only [Act.put, List.setIfInBounds_toArray, List.set_cons_zero, List.set_cons_succ]
    refine' wpAnyH_take (i := 4) (v := _) rfl (by kernel_rfl) (by kernel_rfl) (by kernel_rfl) (fun _ _ _ h => h) (Or.inl ⟨by rfl, ?_⟩) hHeld ?_
    rotate_left
    · (intro w' hSw; (try dsimp only at hSw); go_simp; (try with_reducible rfl))
    try simp only [Act.put, List.setIfInBounds_toArray, List.set_cons_zero, List.set_cons_succ]
    refine' wpAnyH_take (i := 5) (v := _) rfl (by kernel_rfl) (by kernel_rfl) (by kernel_rfl) (fun _ _ _ h => h) (Or.inl ⟨by rfl, ?_⟩) hHeld ?_
    rotate_left
    · (intro w' hSw; (try dsimp only at hSw); go_simp; (try with_reducible rfl))
    try simp only [Act.put, List.setIfInBounds_toArray, List.set_cons_zero, List.set_cons_succ]
    refine' wpAnyH_take (i := 6) (v := _) rfl (by kernel_rfl) (by kernel_rfl) (by kernel_rfl) (fun _ _ _ h => h) (Or.inl ⟨by rfl, ?_⟩) hHeld ?_
    rotate_left
    · (intro w' hSw; (try dsimp only at hSw); go_simp; (try with_reducible rfl))
    try simp only [Act.put, List.setIfInBounds_toArray, List.set_cons_zero, List.set_cons_succ]
    refine' wpAnyH_take (i := 7) (v := _) rfl (by kernel_rfl) (by kernel_rfl) (by kernel_rfl) (fun _ _ _ h => h) (Or.inl ⟨by rfl, ?_⟩) hHeld ?_
    rotate_left
    · (intro w' hSw; (try dsimp only at hSw); go_simp; (try with_reducible rfl))
    try simp only [Act.put, List.setIfInBounds_toArray, List.set_cons_zero, List.set_cons_succ]
    refine' wpAnyH_take (i := 8) (v := _) rfl (by kernel_rfl) (by kernel_rfl) (by kernel_rfl) (fun _ _ _ h => h) (Or.inl ⟨by rfl, ?_⟩) hHeld ?_
    rotate_left
    · (intro w' hSw; (try dsimp only at hSw); go_simp; (try with_reducible rfl))
    try simp only [Act.put, List.setIfInBounds_toArray, List.set_cons_zero, List.set_cons_succ]
    refine' wpAnyH_take (i := 9) (v := _) rfl (by kernel_rfl) (by kernel_rfl) (by kernel_rfl) (fun _ _ _ h => h) (Or.inl ⟨by rfl, ?_⟩) hHeld ?_
    rotate_left
    · (intro w' hSw; (try dsimp only at hSw); go_simp; (try with_reducible rfl))
    try simp only [Act.put, List.setIfInBounds_toArray, List.set_cons_zero, List.set_cons_succ]
    refine' wpAnyH_take (i := 10) (v := _) rfl (by kernel_rfl) (by kernel_rfl) (by kernel_rfl) (fun _ _ _ h => h) (Or.inl ⟨by rfl, ?_⟩) hHeld ?_
    rotate_left
    · (intro w' hSw; (try dsimp only at hSw); go_simp; (try with_reducible rfl))
    try simp only [Act.put, List.setIfInBounds_toArray, List.set_cons_zero, List.set_cons_succ]
    refine' wpAnyH_take (i := 11) (v := _) rfl (by kernel_rfl) (by kernel_rfl) (by kernel_rfl) (fun _ _ _ h => h) (Or.inl ⟨by rfl, ?_⟩) hHeld ?_
    rotate_left
    · (intro w' hSw; (try dsimp only at hSw); go_simp; (try with_reducible rfl))
    try simp only [Act.put, List.setIfInBounds_toArray, List.set_cons_zero, List.set_cons_succ]
    refine' wpAnyH_take (i := 14) (v := _) rfl (by kernel_rfl) (by kernel_rfl) (by kernel_rfl) (fun _ _ _ h => h) (Or.inl ⟨by rfl, ?_⟩) hHeld ?_
    rotate_left
    · (intro w' hSw; (try dsimp only at hSw); go_simp; (try with_reducible rfl))
    try simp only [Act.put, List.setIfInBounds_toArray, List.set_cons_zero, List.set_cons_succ]
    refine' wpAnyH_take (i := 15) (v := _) rfl (by kernel_rfl) (by kernel_rfl) (by kernel_rfl) (fun _ _ _ h => h) (Or.inl ⟨by rfl, ?_⟩) hHeld ?_
    rotate_left
    · (intro w' hSw; (try dsimp only at hSw); go_simp; (try with_reducible rfl))
    try simp only [Act.put, List.setIfInBounds_toArray, List.set_cons_zero, List.set_cons_succ]
    refine' wpAnyH_take (i := 16) (v := _) rfl (by kernel_rfl) (by kernel_rfl) (by kernel_rfl) (fun _ _ _ h => h) (Or.inl ⟨by rfl, ?_⟩) hHeld ?_
    rotate_left
    · (intro w' hSw; (try dsimp only at hSw); go_simp; (try with_reducible rfl))
    try simp only [Act.put, List.setIfInBounds_toArray, List.set_cons_zero, List.set_cons_succ]
    refine wpAnyH_ready (rs := [12]) (by kernel_rfl) (by simp) ?_
    refine AllReadyH.cons (i := 12) rfl (fun K hK => ?_) AllReadyH.nil
    go_simp
    (go_at_call 55; refine (HPN.out _ _ (HNUM.out.ext hHeld.1)).mono ?_; rintro e w7 ⟨r7, rfl, hi7, hx7⟩; have R7 := Lib.hid hi7; have HE1 : Hid (Ext wo w7) := Lib.hid (HED.out.trans hx7); obtain ⟨g7, G7, j7, rfl⟩ := hi7.shape)
    try go_wp2_with fail
    refine hK.out _ _ ?_ (fun hHeld => ?_)
    · (first | (exact hHeld) | (exact keptS3_3 hHeld (by assumption)) | (exact keptS3_3_set hHeld (by omega) (by omega) (by omega) (by omega)))
    clear hK K
    try simp only [Act.put, List.setIfInBounds_toArray, List.set_cons_zero, List.set_cons_succ]
    refine wpAnyH_ready (rs := [13]) (by kernel_rfl) (by simp) ?_
    refine AllReadyH.cons (i := 13) rfl (fun K hK => ?_) AllReadyH.nil
    go_simp
    (go_at_call 54; refine (HNI.out _ _ R7.out.arr).mono ?_; rintro e w8 ⟨r8, rfl, hi8, hx8⟩; have R8 := Lib.hid hi8; have HE2 : Hid (Ext wo w8) := Lib.hid (HE1.out.trans hx8); obtain ⟨f8, g8, G8, j8, rfl⟩ := hi8.shape)
    try go_wp2_with fail
    refine hK.out _ _ ?_ (fun hHeld => ?_)
    · (first | (exact hHeld) | (exact keptS3_3 hHeld (by assumption)) | (exact keptS3_3_set hHeld (by omega) (by omega) (by omega) (by omega)))
    clear hK K
    try simp only [Act.put, List.setIfInBounds_toArray, List.set_cons_zero, List.set_cons_succ]
    refine wpAnyH_ready (rs := [17]) (by kernel_rfl) (by simp) ?_
    refine AllReadyH.cons (i := 17) rfl (fun K hK => ?_) AllReadyH.nil
    go_simp
    (go_at_call 55; refine (HPD.out _ _ (HDEN.out.ext hHeld.1)).mono ?_; rintro e w9 ⟨r9, rfl, hi9, hx9⟩; have R9 := Lib.hid hi9; have R8 := Lib.hid (R8.out.ext hx9); have HE3 : Hid (Ext wo w9) := Lib.hid (HE2.out.trans hx9); obtain ⟨g9, G9, j9, rfl⟩ := hi9.shape)
    try go_wp2_with fail
    refine hK.out _ _ ?_ (fun hHeld => ?_)
    · (first | (exact hHeld) | (exact keptS3_3 hHeld (by assumption)) | (exact keptS3_3_set hHeld (by omega) (by omega) (by omega) (by omega)))
    clear hK K
    try simp only [Act.put, List.setIfInBounds_toArray, List.set_cons_zero, List.set_cons_succ]
    refine' wpAnyH_take (i := 18) (v := _) rfl (by kernel_rfl) (by kernel_rfl) (by kernel_rfl) (fun _ _ _ h => h) (Or.inl ⟨by rfl, ?_⟩) hHeld ?_
    rotate_left
    · (intro w' hSw; (try dsimp only at hSw); go_simp; (try with_reducible rfl))
    try simp only [Act.put, List.setIfInBounds_toArray, List.set_cons_zero, List.set_cons_succ]
    refine wpAnyH_ready (rs := [19]) (by kernel_rfl) (by simp) ?_
    refine AllReadyH.cons (i := 19) rfl (fun K hK => ?_) AllReadyH.nil
    go_simp
    try go_wp2_with fail
    refine hK.out _ _ ?_ (fun hHeld => ?_)
    · (first | (exact hHeld) | (exact keptS3_3 hHeld (by assumption)) | (exact keptS3_3_set hHeld (by omega) (by omega) (by omega) (by omega)))
    clear hK K
    try simp only [Act.put, List.setIfInBounds_toArray, List.set_cons_zero, List.set_cons_succ]
    refine wpAnyH_ready (rs := [20]) (by kernel_rfl) (by simp) ?_
    refine AllReadyH.cons (i := 20) rfl (fun K hK => ?_) AllReadyH.nil
    go_simp
    try go_wp2_with fail
    refine hK.out _ _ ?_ (fun hHeld => ?_)
    · (first | (exact hHeld) | (exact keptS3_3 hHeld (by assumption)) | (exact keptS3_3_set hHeld (by omega) (by omega) (by omega) (by omega)))
    clear hK K
    try simp only [Act.put, List.setIfInBounds_toArray, List.set_cons_zero, List.set_cons_succ]
    refine wpAnyH_done (by kernel_rfl) ?_ _
    go_wp2_with fail
    obtain ⟨hE, _, _, _, c0_, c1_, c2_, _, _, _⟩ := hHeld
    obtain ⟨hr0, hr1, hr2⟩ := final3 c0_ c1_ c2_
    refine bodyPost_ret (v := .tuple #[.agg #[.bool f8, .slice G8 g8 j8, .slice G9 g9 j9], .int .i64 0]) (by simp [results, Tryz.results14, go_sem, hr0, hr1, hr2]) rfl ?_
    exact ⟨_, rfl, IsRat.put (w1 := wo) (IsRat.mk (R8.out.mono (by have := HE1.out.size; omega)) (R9.out.mono (by have := HE2.out.size; omega))) (by omega) (by omega), hE⟩
end Big
end Go.Proofs.YtplmldkfgeiklaaGreatDoor
/- ref07.Power at a negative power. Printed by a program. -/
namespace Go.Proofs.YtplmldkfgeiklaaGreatDoor
namespace Big
open Go.RowKit
set_option maxHeartbeats 2000000 in
set_option maxRecDepth 100000 in
theorem rpowR_zero (w : World) (v0 : Value) (p : Int) (q : Nat) (h0 : ArrRat w v0 p q) (n0 : (limbs p.natAbs).length ≤ 1000000) (m0 : (limbs q).length ≤ 1000000) (n : Int) (hn : -64 ≤ n) (hn0 : n < 0) (hp : p = 0) :
    Calls Tryz.prog 14 #[v0, .int .i64 n] w fun e w' => ∃ v', e = .returned (.tuple #[v', .int .i64 2]) ∧ IsRat w.heap.size w' v' (0) (0) ∧ Ext w w' := by
  have H0 := Lib.hid h0
  have hm1 : ¬ n < -64 := by omega
  have hm2 : ¬ 64 < n := by omega
  have HDV := Lib.hid (fun W v u a b => rdivR_zero W v 1 1 a (by rw [show (1 : Int).natAbs = 1 from rfl, limbs_one]; simp) (by rw [limbs_one]; simp) u p q b n0 m0 hp)
  have HOF := Lib.hid (fun W => rofi_any W 1 (by decide) (by decide))
  obtain ⟨b0, l0, A0, c0, k0, D0, e0, rfl⟩ := h0.shape
  clear h0 n0 m0 hp
  go_enter Tryz.func14, Tryz.ntmps14
  go_upto_region 1 with fail
  have hb0 := ((Blk.new w 26 #[Value.bool b0, Value.slice A0 l0 c0, Value.slice D0 k0 e0]).alloc (.cells #[Value.bool false, Value.slice none 0 0, Value.slice none 0 0] 26))
  have hb1 := (Blk.new (w.alloc (.cells #[Value.bool b0, Value.slice A0 l0 c0, Value.slice D0 k0 e0] 26)) 26 #[Value.bool false, Value.slice none 0 0, Value.slice none 0 0])
  have hxo := (((Ext.refl w).alloc (.cells #[Value.bool b0, Value.slice A0 l0 c0, Value.slice D0 k0 e0] 26)).alloc (.cells #[Value.bool false, Value.slice none 0 0, Value.slice none 0 0] 26))
  have hszo : w.heap.size + 1 + 1 = ((w.alloc (.cells #[Value.bool b0, Value.slice A0 l0 c0, Value.slice D0 k0 e0] 26)).alloc (.cells #[Value.bool false, Value.slice none 0 0, Value.slice none 0 0] 26)).heap.size := by simp
  simp only [World.size_alloc] at hb1
  generalize (w.alloc (.cells #[Value.bool b0, Value.slice A0 l0 c0, Value.slice D0 k0 e0] 26)).alloc (.cells #[Value.bool false, Value.slice none 0 0, Value.slice none 0 0] 26) = wo at *
  have HB0 := Lib.hid hb0
  have HB1 := Lib.hid hb1
  have HX := Lib.hid hxo
  have HZ : Hid (w.heap.size + 1 + 1 ≤ wo.heap.size) := Lib.hid (by omega)
  clear hxo hszo hb0 hb1
  have QX := Lib.hid (H0.out.ext HX.out)
  obtain ⟨hb0_0, hb0_1, hb0_2, hb0_3, hb0_4, hb0_5, hb0_6⟩ := HB0.out.three
  obtain ⟨hb1_0, hb1_1, hb1_2, hb1_3, hb1_4, hb1_5, hb1_6⟩ := HB1.out.three
  go_upto_region 4 with fail
  go_cut [6, 7] from 17 to 22 (fun s6 s7 wx => ∃ (gx : Nat) (f9 : Bool) (g9 : Nat) (G9 : Option Addr) (j9 y9 : Nat) (Y9 : Option Addr) (z9 : Nat), s6 = .pointer (some ⟨gx, 0, none⟩) ∧ s7 = .int .i64 2 ∧ Blk wx gx 26 #[Value.bool f9, Value.slice G9 g9 j9, Value.slice Y9 y9 z9] ∧ ArrRat wx (.agg #[.bool f9, .slice G9 g9 j9, .slice Y9 y9 z9]) (0) (0) ∧ Ext wo wx)
  case first =>
    have HE10 := Lib.hid (Ext.refl wo).drew
    go_region_law (first
      | (go_simp; go_at_call 17; have hchk11 := hx10; refine (HDV.out _ _ _ (by first | exact R10.out.arr | exact (R10.out.arr).ext ((Ext.refl _).alloc _)) (by first | exact QX.out.ext HE11.out | exact QX.out.ext (HE11.out.alloc _))).mono ?_; rintro e w12 ⟨r11, rfl, hi11, hx11⟩; have hsz11 := hx11.size; (try simp only [World.size_drew, World.size_alloc] at hsz11); have R10 := Lib.hid (by first | exact R10.out.ext hx11 | exact (R10.out.ext ((Ext.refl _).alloc _)).ext hx11); have R11 := Lib.hid hi11; have HE12 : Hid (Ext wo w12) := Lib.hid (by first | exact HE11.out.trans hx11 | exact (HE11.out.alloc _).trans hx11); (try (have hbn := hbn.ext hx11)); (try (have hbn := (Blk.new _ 26 #[Value.bool false, Value.slice none 0 0, Value.slice none 0 0]).ext hx11)); obtain ⟨f11, g11, G11, j11, y11, Y11, z11, rfl⟩ := hi11.shape; clear hi11 hb0_0 hb0_1 hb0_2 hb0_3 hb0_4 hb0_5 hb0_6 hb1_0 hb1_1 hb1_2 hb1_3 hb1_4 hb1_5 hb1_6; obtain ⟨hb0_0, hb0_1, hb0_2, hb0_3, hb0_4, hb0_5, hb0_6⟩ := (HB0.out.ext HE12.out).three; obtain ⟨hb1_0, hb1_1, hb1_2, hb1_3, hb1_4, hb1_5, hb1_6⟩ := (HB1.out.ext HE12.out).three; (try (obtain ⟨k0, k1, k2, kf0, kf1, kf2, kz⟩ := hbn.three)))
      | (go_simp; go_at_call 15; refine (HOF.out _).mono ?_; rintro e w11 ⟨r10, rfl, hi10, hx10⟩; have hsz10 := hx10.size; (try simp only [World.size_drew, World.size_alloc] at hsz10); have R10 := Lib.hid hi10; have HE11 : Hid (Ext wo w11) := Lib.hid (by first | exact HE10.out.trans hx10 | exact (HE10.out.alloc _).trans hx10); (try (have hbn := hbn.ext hx10)); (try (have hbn := (Blk.new _ 26 #[Value.bool false, Value.slice none 0 0, Value.slice none 0 0]).ext hx10)); (try (have hbn := ((Blk.new _ 26 #[Value.bool false, Value.slice none 0 0, Value.slice none 0 0]).drew).ext hx10; (try simp only [World.size_drew] at hbn))); obtain ⟨f10, g10, G10, j10, y10, Y10, z10, rfl⟩ := hi10.shape; clear hi10 hb0_0 hb0_1 hb0_2 hb0_3 hb0_4 hb0_5 hb0_6 hb1_0 hb1_1 hb1_2 hb1_3 hb1_4 hb1_5 hb1_6; obtain ⟨hb0_0, hb0_1, hb0_2, hb0_3, hb0_4, hb0_5, hb0_6⟩ := (HB0.out.ext HE11.out).three; obtain ⟨hb1_0, hb1_1, hb1_2, hb1_3, hb1_4, hb1_5, hb1_6⟩ := (HB1.out.ext HE11.out).three; (try (obtain ⟨k0, k1, k2, kf0, kf1, kf2, kz⟩ := hbn.three))))
    all_goals go_wp2_with fail
    all_goals go_meet
    all_goals have hlw := HE12.out.size
    all_goals first
      | (have hchk : Blk w12 wo.heap.size 26 #[Value.bool false, Value.slice none 0 0, Value.slice none 0 0] := hbn; have hT := ((hchk.set_ 0 (.bool f11)).set_ 1 (.slice G11 g11 j11)).set_ 2 (.slice Y11 y11 z11); exact ⟨_, _, _, _, _, _, _, _, rfl, rfl, hT, (((R11.out.far (a := ⟨wo.heap.size, 0, none⟩) (show wo.heap.size < _ by first | omega | (simp <;> omega)) (.bool f11)).far (a := ⟨wo.heap.size, 1, none⟩) (show wo.heap.size < _ by first | omega | (simp <;> omega)) (.slice G11 g11 j11)).far (a := ⟨wo.heap.size, 2, none⟩) (show wo.heap.size < _ by first | omega | (simp <;> omega)) (.slice Y11 y11 z11)).arr, (((HE12.out.setCell (p := ⟨wo.heap.size, 0, none⟩) (show wo.heap.size ≤ _ by (try simp only) <;> omega) (.bool f11)).setCell (p := ⟨wo.heap.size, 1, none⟩) (show wo.heap.size ≤ _ by (try simp only) <;> omega) (.slice G11 g11 j11)).setCell (p := ⟨wo.heap.size, 2, none⟩) (show wo.heap.size ≤ _ by (try simp only) <;> omega) (.slice Y11 y11 z11))⟩)
      | (have hchk : Blk w12 w11.heap.size 26 #[Value.bool false, Value.slice none 0 0, Value.slice none 0 0] := hbn; have hlq := HE11.out.size; have hT := ((hchk.set_ 0 (.bool f11)).set_ 1 (.slice G11 g11 j11)).set_ 2 (.slice Y11 y11 z11); exact ⟨_, _, _, _, _, _, _, _, rfl, rfl, hT, (((R11.out.far (a := ⟨w11.heap.size, 0, none⟩) (show w11.heap.size < _ by first | omega | (simp <;> omega)) (.bool f11)).far (a := ⟨w11.heap.size, 1, none⟩) (show w11.heap.size < _ by first | omega | (simp <;> omega)) (.slice G11 g11 j11)).far (a := ⟨w11.heap.size, 2, none⟩) (show w11.heap.size < _ by first | omega | (simp <;> omega)) (.slice Y11 y11 z11)).arr, (((HE12.out.setCell (p := ⟨w11.heap.size, 0, none⟩) (show wo.heap.size ≤ _ by (try simp only) <;> omega) (.bool f11)).setCell (p := ⟨w11.heap.size, 1, none⟩) (show wo.heap.size ≤ _ by (try simp only) <;> omega) (.slice G11 g11 j11)).setCell (p := ⟨w11.heap.size, 2, none⟩) (show wo.heap.size ≤ _ by (try simp only) <;> omega) (.slice Y11 y11 z11))⟩)
      | (have hT := Blk.new w12 26 #[Value.bool f11, Value.slice G11 g11 j11, Value.slice Y11 y11 z11]; exact ⟨_, _, _, _, _, _, _, _, rfl, rfl, hT, (R11.out.ext ((Ext.refl w12).alloc _)).arr, HE12.out.alloc _⟩)
  case rest =>
  clear hb0_0 hb0_1 hb0_2 hb0_3 hb0_4 hb0_5 hb0_6 hb1_0 hb1_1 hb1_2 hb1_3 hb1_4 hb1_5 hb1_6
  obtain ⟨a14, f14, g14, G14, j14, y14, Y14, z14, rfl, rfl, hB14, hR14, hx14⟩ := hcut
  generalize wc = w15 at *
  have HX := Lib.hid (HX.out.trans hx14)
  have QX := Lib.hid (QX.out.ext hx14)
  have HB0 := Lib.hid (HB0.out.ext hx14)
  have HB1 := Lib.hid (HB1.out.ext hx14)
  have QY := Lib.hid hR14
  have BY := Lib.hid hB14
  clear hR14 hB14 hx14
  obtain ⟨hb0_0, hb0_1, hb0_2, hb0_3, hb0_4, hb0_5, hb0_6⟩ := HB0.out.three
  obtain ⟨hb1_0, hb1_1, hb1_2, hb1_3, hb1_4, hb1_5, hb1_6⟩ := HB1.out.three
  obtain ⟨by_0, by_1, by_2, by_3, by_4, by_5, by_6⟩ := BY.out.three
  go_wp2_with fail
  obtain ⟨hr0, hr1, hr2⟩ := three_set HB1.out (.bool false) (.slice none 0 0) (.slice none 0 0)
  refine bodyPost_ret (v := .tuple #[.agg #[.bool false, .slice none 0 0, .slice none 0 0], .int .i64 2]) (by simp [results, Tryz.results14, go_sem, hr0, hr1, hr2]) rfl ?_
  exact ⟨_, rfl, IsRat.zero _ _, ((HX.out.setCell (Nat.le_succ _) _).setCell (Nat.le_succ _) _).setCell (Nat.le_succ _) _⟩
set_option maxHeartbeats 2000000 in
set_option maxRecDepth 100000 in
theorem rpowR_neg (w : World) (v0 : Value) (p : Int) (q : Nat) (h0 : ArrRat w v0 p q) (n0 : (limbs p.natAbs).length ≤ 1000000) (m0 : (limbs q).length ≤ 1000000) (hl : Low p q) (n : Nat) (hn : n ≤ 64) (hn0 : 0 < n) (hp : p ≠ 0) :
    Calls Tryz.prog 14 #[v0, .int .i64 (-(n : Int))] w fun e w' => ∃ v', e = .returned (.tuple #[v', .int .i64 0]) ∧ IsRat w.heap.size w' v' (invP p q ^ n) (p.natAbs ^ n) ∧ Ext w w' := by
  have H0 := Lib.hid h0
  have hwn : IntKind.i64.wrap (- -(n : Int)) = (n : Int) := by rw [Int.neg_neg]; exact IntWalk.i64_in _ (by omega)
  have hnn : - -(n : Int) = (n : Int) := Int.neg_neg _
  have hm1 : ¬ -(n : Int) < -64 := by omega
  have hm2 : ¬ 64 < -(n : Int) := by omega
  have hm3 : -(n : Int) < 0 := by omega
  have hdv : mulP 1 1 (invP p q) p.natAbs = invP p q ∧ mulQ 1 1 (invP p q) p.natAbs = p.natAbs := by
    have h2 := low_self (low_inv hl hp)
    unfold mulP mulQ
    rw [Int.one_mul, Nat.one_mul]
    exact h2
  have HDV := Lib.hid (fun W v u a b => rdivR_pos W v 1 1 a (by rw [show (1 : Int).natAbs = 1 from rfl, limbs_one]; simp) (by rw [limbs_one]; simp) u p q b n0 m0 (by decide) hl.1 hp)
  rw [hdv.1, hdv.2] at HDV
  have hi := sz_inv n0 m0
  have HPW := Lib.hid (fun W v a => rpowR_pos W v (invP p q) p.natAbs a hi.1 hi.2 n hn)
  clear hdv hi hl hp
  generalize invP p q = P at *
  generalize hQ : p.natAbs = Q at *
  clear hQ
  have HOF := Lib.hid (fun W => rofi_any W 1 (by decide) (by decide))
  obtain ⟨b0, l0, A0, c0, k0, D0, e0, rfl⟩ := h0.shape
  clear h0 n0 m0
  go_enter Tryz.func14, Tryz.ntmps14
  go_upto_region 1 with fail
  have hb0 := ((Blk.new w 26 #[Value.bool b0, Value.slice A0 l0 c0, Value.slice D0 k0 e0]).alloc (.cells #[Value.bool false, Value.slice none 0 0, Value.slice none 0 0] 26))
  have hb1 := (Blk.new (w.alloc (.cells #[Value.bool b0, Value.slice A0 l0 c0, Value.slice D0 k0 e0] 26)) 26 #[Value.bool false, Value.slice none 0 0, Value.slice none 0 0])
  have hxo := (((Ext.refl w).alloc (.cells #[Value.bool b0, Value.slice A0 l0 c0, Value.slice D0 k0 e0] 26)).alloc (.cells #[Value.bool false, Value.slice none 0 0, Value.slice none 0 0] 26))
  have hszo : w.heap.size + 1 + 1 = ((w.alloc (.cells #[Value.bool b0, Value.slice A0 l0 c0, Value.slice D0 k0 e0] 26)).alloc (.cells #[Value.bool false, Value.slice none 0 0, Value.slice none 0 0] 26)).heap.size := by simp
  simp only [World.size_alloc] at hb1
  generalize (w.alloc (.cells #[Value.bool b0, Value.slice A0 l0 c0, Value.slice D0 k0 e0] 26)).alloc (.cells #[Value.bool false, Value.slice none 0 0, Value.slice none 0 0] 26) = wo at *
  have HB0 := Lib.hid hb0
  have HB1 := Lib.hid hb1
  have HX := Lib.hid hxo
  have HZ : Hid (w.heap.size + 1 + 1 ≤ wo.heap.size) := Lib.hid (by omega)
  clear hxo hszo hb0 hb1
  have QX := Lib.hid (H0.out.ext HX.out)
  obtain ⟨hb0_0, hb0_1, hb0_2, hb0_3, hb0_4, hb0_5, hb0_6⟩ := HB0.out.three
  obtain ⟨hb1_0, hb1_1, hb1_2, hb1_3, hb1_4, hb1_5, hb1_6⟩ := HB1.out.three
  go_upto_region 4 with fail
  go_cut [6, 7] from 17 to 22 (fun s6 s7 wx => ∃ (gx : Nat) (f9 : Bool) (g9 : Nat) (G9 : Option Addr) (j9 y9 : Nat) (Y9 : Option Addr) (z9 : Nat), s6 = .pointer (some ⟨gx, 0, none⟩) ∧ s7 = .int .i64 0 ∧ Blk wx gx 26 #[Value.bool f9, Value.slice G9 g9 j9, Value.slice Y9 y9 z9] ∧ ArrRat wx (.agg #[.bool f9, .slice G9 g9 j9, .slice Y9 y9 z9]) (P) (Q) ∧ Ext wo wx)
  case first =>
    have HE10 := Lib.hid (Ext.refl wo).drew
    go_region_law (first
      | (go_simp; go_at_call 17; have hchk11 := hx10; refine (HDV.out _ _ _ (by first | exact R10.out.arr | exact (R10.out.arr).ext ((Ext.refl _).alloc _)) (by first | exact QX.out.ext HE11.out | exact QX.out.ext (HE11.out.alloc _))).mono ?_; rintro e w12 ⟨r11, rfl, hi11, hx11⟩; have hsz11 := hx11.size; (try simp only [World.size_drew, World.size_alloc] at hsz11); have R10 := Lib.hid (by first | exact R10.out.ext hx11 | exact (R10.out.ext ((Ext.refl _).alloc _)).ext hx11); have R11 := Lib.hid hi11; have HE12 : Hid (Ext wo w12) := Lib.hid (by first | exact HE11.out.trans hx11 | exact (HE11.out.alloc _).trans hx11); (try (have hbn := hbn.ext hx11)); (try (have hbn := (Blk.new _ 26 #[Value.bool false, Value.slice none 0 0, Value.slice none 0 0]).ext hx11)); obtain ⟨f11, g11, G11, j11, y11, Y11, z11, rfl⟩ := hi11.shape; clear hi11 hb0_0 hb0_1 hb0_2 hb0_3 hb0_4 hb0_5 hb0_6 hb1_0 hb1_1 hb1_2 hb1_3 hb1_4 hb1_5 hb1_6; obtain ⟨hb0_0, hb0_1, hb0_2, hb0_3, hb0_4, hb0_5, hb0_6⟩ := (HB0.out.ext HE12.out).three; obtain ⟨hb1_0, hb1_1, hb1_2, hb1_3, hb1_4, hb1_5, hb1_6⟩ := (HB1.out.ext HE12.out).three; (try (obtain ⟨k0, k1, k2, kf0, kf1, kf2, kz⟩ := hbn.three)))
      | (go_simp; go_at_call 15; refine (HOF.out _).mono ?_; rintro e w11 ⟨r10, rfl, hi10, hx10⟩; have hsz10 := hx10.size; (try simp only [World.size_drew, World.size_alloc] at hsz10); have R10 := Lib.hid hi10; have HE11 : Hid (Ext wo w11) := Lib.hid (by first | exact HE10.out.trans hx10 | exact (HE10.out.alloc _).trans hx10); (try (have hbn := hbn.ext hx10)); (try (have hbn := (Blk.new _ 26 #[Value.bool false, Value.slice none 0 0, Value.slice none 0 0]).ext hx10)); (try (have hbn := ((Blk.new _ 26 #[Value.bool false, Value.slice none 0 0, Value.slice none 0 0]).drew).ext hx10; (try simp only [World.size_drew] at hbn))); obtain ⟨f10, g10, G10, j10, y10, Y10, z10, rfl⟩ := hi10.shape; clear hi10 hb0_0 hb0_1 hb0_2 hb0_3 hb0_4 hb0_5 hb0_6 hb1_0 hb1_1 hb1_2 hb1_3 hb1_4 hb1_5 hb1_6; obtain ⟨hb0_0, hb0_1, hb0_2, hb0_3, hb0_4, hb0_5, hb0_6⟩ := (HB0.out.ext HE11.out).three; obtain ⟨hb1_0, hb1_1, hb1_2, hb1_3, hb1_4, hb1_5, hb1_6⟩ := (HB1.out.ext HE11.out).three; (try (obtain ⟨k0, k1, k2, kf0, kf1, kf2, kz⟩ := hbn.three))))
    all_goals go_wp2_with fail
    all_goals go_meet
    all_goals have hlw := HE12.out.size
    all_goals first
      | (have hchk : Blk w12 wo.heap.size 26 #[Value.bool false, Value.slice none 0 0, Value.slice none 0 0] := hbn; have hT := ((hchk.set_ 0 (.bool f11)).set_ 1 (.slice G11 g11 j11)).set_ 2 (.slice Y11 y11 z11); exact ⟨_, _, _, _, _, _, _, _, rfl, rfl, hT, (((R11.out.far (a := ⟨wo.heap.size, 0, none⟩) (show wo.heap.size < _ by first | omega | (simp <;> omega)) (.bool f11)).far (a := ⟨wo.heap.size, 1, none⟩) (show wo.heap.size < _ by first | omega | (simp <;> omega)) (.slice G11 g11 j11)).far (a := ⟨wo.heap.size, 2, none⟩) (show wo.heap.size < _ by first | omega | (simp <;> omega)) (.slice Y11 y11 z11)).arr, (((HE12.out.setCell (p := ⟨wo.heap.size, 0, none⟩) (show wo.heap.size ≤ _ by (try simp only) <;> omega) (.bool f11)).setCell (p := ⟨wo.heap.size, 1, none⟩) (show wo.heap.size ≤ _ by (try simp only) <;> omega) (.slice G11 g11 j11)).setCell (p := ⟨wo.heap.size, 2, none⟩) (show wo.heap.size ≤ _ by (try simp only) <;> omega) (.slice Y11 y11 z11))⟩)
      | (have hchk : Blk w12 w11.heap.size 26 #[Value.bool false, Value.slice none 0 0, Value.slice none 0 0] := hbn; have hlq := HE11.out.size; have hT := ((hchk.set_ 0 (.bool f11)).set_ 1 (.slice G11 g11 j11)).set_ 2 (.slice Y11 y11 z11); exact ⟨_, _, _, _, _, _, _, _, rfl, rfl, hT, (((R11.out.far (a := ⟨w11.heap.size, 0, none⟩) (show w11.heap.size < _ by first | omega | (simp <;> omega)) (.bool f11)).far (a := ⟨w11.heap.size, 1, none⟩) (show w11.heap.size < _ by first | omega | (simp <;> omega)) (.slice G11 g11 j11)).far (a := ⟨w11.heap.size, 2, none⟩) (show w11.heap.size < _ by first | omega | (simp <;> omega)) (.slice Y11 y11 z11)).arr, (((HE12.out.setCell (p := ⟨w11.heap.size, 0, none⟩) (show wo.heap.size ≤ _ by (try simp only) <;> omega) (.bool f11)).setCell (p := ⟨w11.heap.size, 1, none⟩) (show wo.heap.size ≤ _ by (try simp only) <;> omega) (.slice G11 g11 j11)).setCell (p := ⟨w11.heap.size, 2, none⟩) (show wo.heap.size ≤ _ by (try simp only) <;> omega) (.slice Y11 y11 z11))⟩)
      | (have hT := Blk.new w12 26 #[Value.bool f11, Value.slice G11 g11 j11, Value.slice Y11 y11 z11]; exact ⟨_, _, _, _, _, _, _, _, rfl, rfl, hT, (R11.out.ext ((Ext.refl w12).alloc _)).arr, HE12.out.alloc _⟩)
  case rest =>
  clear hb0_0 hb0_1 hb0_2 hb0_3 hb0_4 hb0_5 hb0_6 hb1_0 hb1_1 hb1_2 hb1_3 hb1_4 hb1_5 hb1_6
  obtain ⟨a14, f14, g14, G14, j14, y14, Y14, z14, rfl, rfl, hB14, hR14, hx14⟩ := hcut
  generalize wc = w15 at *
  have HX := Lib.hid (HX.out.trans hx14)
  have QX := Lib.hid (QX.out.ext hx14)
  have HB0 := Lib.hid (HB0.out.ext hx14)
  have HB1 := Lib.hid (HB1.out.ext hx14)
  have QY := Lib.hid hR14
  have BY := Lib.hid hB14
  clear hR14 hB14 hx14
  obtain ⟨hb0_0, hb0_1, hb0_2, hb0_3, hb0_4, hb0_5, hb0_6⟩ := HB0.out.three
  obtain ⟨hb1_0, hb1_1, hb1_2, hb1_3, hb1_4, hb1_5, hb1_6⟩ := HB1.out.three
  obtain ⟨by_0, by_1, by_2, by_3, by_4, by_5, by_6⟩ := BY.out.three
  go_wp2_with fail
  clear hb0_0 hb0_1 hb0_2 hb0_3 hb0_4 hb0_5 hb0_6 hb1_0 hb1_1 hb1_2 hb1_3 hb1_4 hb1_5 hb1_6 by_0 by_1 by_2 by_3 by_4 by_5 by_6
  have HLB := Lib.hid HB1.out.lt
  refine (HPW.out _ _ QY.out).mono ?_
  rintro e w16 ⟨r15, rfl, hi15, hx15⟩
  have HX := Lib.hid (HX.out.trans hx15)
  have QX := Lib.hid (QX.out.ext hx15)
  have QY := Lib.hid (QY.out.ext hx15)
  have HB0 := Lib.hid (HB0.out.ext hx15)
  have HB1 := Lib.hid (HB1.out.ext hx15)
  have BY := Lib.hid (BY.out.ext hx15)
  have QR := Lib.hid hi15
  obtain ⟨f15, g15, G15, j15, y15, Y15, z15, rfl⟩ := hi15.shape
  clear hi15
  clear hx15
  obtain ⟨hb0_0, hb0_1, hb0_2, hb0_3, hb0_4, hb0_5, hb0_6⟩ := HB0.out.three
  obtain ⟨hb1_0, hb1_1, hb1_2, hb1_3, hb1_4, hb1_5, hb1_6⟩ := HB1.out.three
  obtain ⟨by_0, by_1, by_2, by_3, by_4, by_5, by_6⟩ := BY.out.three
  go_wp2_with fail
  obtain ⟨hr0, hr1, hr2⟩ := three_set HB1.out (.bool f15) (.slice G15 g15 j15) (.slice Y15 y15 z15)
  refine bodyPost_ret (v := .tuple #[.agg #[.bool f15, .slice G15 g15 j15, .slice Y15 y15 z15], .int .i64 0]) (by simp [results, Tryz.results14, go_sem, hr0, hr1, hr2]) rfl ?_
  have hbl := HLB.out
  exact ⟨_, rfl, QR.out.put (by omega) (by omega), ((HX.out.setCell (Nat.le_succ _) _).setCell (Nat.le_succ _) _).setCell (Nat.le_succ _) _⟩
end Big
end Go.Proofs.YtplmldkfgeiklaaGreatDoor
