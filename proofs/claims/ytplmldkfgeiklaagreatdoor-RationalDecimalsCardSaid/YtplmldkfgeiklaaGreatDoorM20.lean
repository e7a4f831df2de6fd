import Derived.Test.YtplmldkfgeiklaaGreatDoorM19
import Derived.Deep.RegionLaw
import Derived.Test.YtplmldkfgeiklaaGreatDoorM11
import Derived.Test.YtplmldkfgeiklaaGreatDoorM16
import Derived.Test.YtplmldkfgeiklaaGreatDoorM5
/- integer.DivMod, ref05.DivMod at a positive divisor. Printed by a program. -/
namespace Go.Proofs.YtplmldkfgeiklaaGreatDoor
namespace Big
open Go.RowKit
theorem fdiv_b {x : Int} {d : Nat} (hd : 0 < d) (h : ¬ x < 0 ∨ x.natAbs % d = 0) : sgn (decide (x < 0)) (x.natAbs / d) = x / (d : Int) := by
  have h1 := Nat.div_add_mod x.natAbs d
  have h2 := Nat.mod_lt x.natAbs hd
  have e1 : (d : Int) * ((x.natAbs / d : Nat) : Int) = ((d * (x.natAbs / d) : Nat) : Int) := by rw [Int.natCast_mul]
  generalize x.natAbs / d = Q at *
  generalize x.natAbs % d = R at *
  by_cases hx : x < 0
  · have hR : R = 0 := by rcases h with h | h; exact absurd hx h; exact h
    rw [decide_eq_true hx]
    refine ((Int.ediv_emod_unique (r := 0) (by omega)).2 ⟨?_, by omega, by omega⟩).1.symm
    show 0 + (d : Int) * (-(Q : Int)) = x
    rw [Int.mul_neg, e1]
    omega
  · rw [decide_eq_false hx]
    refine ((Int.ediv_emod_unique (r := (R : Int)) (by omega)).2 ⟨?_, by omega, by omega⟩).1.symm
    show (R : Int) + (d : Int) * (Q : Int) = x
    rw [e1]
    omega
theorem fdiv_a {x : Int} {d : Nat} (hd : 0 < d) (hx : x < 0) (h : x.natAbs % d ≠ 0) : sgn true (x.natAbs / d + 1) = x / (d : Int) := by
  have h1 := Nat.div_add_mod x.natAbs d
  have h2 := Nat.mod_lt x.natAbs hd
  have e1 : (d : Int) * ((x.natAbs / d : Nat) : Int) = ((d * (x.natAbs / d) : Nat) : Int) := by rw [Int.natCast_mul]
  generalize x.natAbs / d = Q at *
  generalize x.natAbs % d = R at *
  refine ((Int.ediv_emod_unique (r := (d : Int) - R) (by omega)).2 ⟨?_, by omega, by omega⟩).1.symm
  show (d : Int) - R + (d : Int) * (-((Q + 1 : Nat) : Int)) = x
  rw [Int.mul_neg, show ((Q + 1 : Nat) : Int) = (Q : Int) + 1 from rfl, Int.mul_add, e1, Int.mul_one]
  omega
theorem fdiv_a' {x : Int} {d : Nat} (hd : 0 < d) (hx : x < 0) (h : x.natAbs % d ≠ 0) : sgn true (x.natAbs / d) + -1 = x / (d : Int) := by
  rw [← fdiv_a hd hx h]
  unfold sgn
  simp
  omega
set_option maxHeartbeats 2000000 in
set_option maxRecDepth 100000 in
theorem idm_a (w : World) (v0 : Value) (x : Int) (h0 : ArrInt w v0 x) (n0 : (limbs x.natAbs).length ≤ 1000000) (v1 : Value) (d : Nat) (h1 : ArrInt w v1 (d : Int)) (n1 : (limbs d).length ≤ 1000000) (hd : 0 < d) (hx : x < 0) (hr : x.natAbs % d ≠ 0) :
    Calls Tryz.prog 95 #[v0, v1] w fun e w' => ∃ v' u' z, e = .returned (.tuple #[v', u', .bool true]) ∧ IsInt w.heap.size w' v' (x / (d : Int)) ∧ IsInt w.heap.size w' u' z ∧ Ext w w' := by
  have H0 := Lib.hid h0
  have H1 := Lib.hid h1
  have hql : (limbs (x.natAbs / d)).length ≤ 1000000 := Nat.le_trans (limbs_mono (Nat.div_le_self _ _)) n0
  have hrl : (limbs (x.natAbs % d)).length ≤ 1000000 := Nat.le_trans (limbs_mono (Nat.le_of_lt (Nat.mod_lt _ hd))) n1
  have HQD := Lib.hid (fun W m m' a b => qdivmod_any W m m' (limbs x.natAbs) (limbs d) a b (by omega) (by omega) (by rw [val_limbs]; omega))
  unfold DivPost at HQD
  rw [val_limbs, val_limbs] at HQD
  have HOF := Lib.hid (fun W => of_any W 1 (by decide))
  rw [show ((1 : Nat) : Int) = 1 from rfl] at HOF
  have HAD := Lib.hid (fun W m m' a b => add_any W m m' (limbs (x.natAbs / d)) (limbs 1) a b (by omega) (by rw [limbs_one]; simp))
  rw [val_limbs, val_limbs] at HAD
  have hql2 : (limbs (x.natAbs / d + 1)).length ≤ 1000002 := by have := length_limbs_sum hql (show (limbs 1).length ≤ 1 by rw [limbs_one]; simp); omega
  have HSB := Lib.hid (fun W m m' a b => nsub_ge W m m' (limbs d) (limbs (x.natAbs % d)) a b (by omega) (by omega) (by rw [val_limbs, val_limbs]; exact Nat.le_of_lt (Nat.mod_lt _ hd)))
  rw [val_limbs, val_limbs] at HSB
  have hrl2 : (limbs (d - x.natAbs % d)).length ≤ 1000000 := Nat.le_trans (limbs_mono (Nat.sub_le _ _)) n1
  have HN1 := Lib.hid (fun W m a => inat_any W true m (limbs (x.natAbs / d + 1)) a (by omega))
  rw [val_limbs, fdiv_a hd hx hr] at HN1
  have HN2 := Lib.hid (fun W m a => inat_any W false m (limbs (d - x.natAbs % d)) a (by omega))
  rw [val_limbs] at HN2
  have hrp : 0 < (limbs (x.natAbs % d)).length := by rw [List.length_pos_iff]; intro e; rw [limbs_eq_nil] at e; exact hr e
  have hbx : decide (x < 0) = true := decide_eq_true hx
  obtain ⟨b0, l0, A0, c0, rfl⟩ := h0.shape
  obtain ⟨b1, l1, A1, c1, rfl⟩ := h1.shape
  have hs0 := h0.sign
  have hs1 := h1.sign
  rw [decide_eq_false (p := (d : Int) < 0) (by omega)] at hs1
  subst hs1
  rw [hbx] at hs0
  subst hs0
  clear h0 h1 hbx hx hr hd hql hrl hql2 hrl2 n0 n1
  generalize x / (d : Int) = zq at *
  go_enter Tryz.func95, Tryz.ntmps95
  go_wp2_with fail
  have hb0 := ((((Blk.new w 24 #[Value.bool true, Value.slice A0 l0 c0]).alloc (.cells #[Value.bool false, Value.slice A1 l1 c1] 24)).alloc (.cells #[Value.bool false, Value.slice none 0 0] 24)).alloc (.cells #[Value.bool false, Value.slice none 0 0] 24))
  have hb1 := (((Blk.new (w.alloc (.cells #[Value.bool true, Value.slice A0 l0 c0] 24)) 24 #[Value.bool false, Value.slice A1 l1 c1]).alloc (.cells #[Value.bool false, Value.slice none 0 0] 24)).alloc (.cells #[Value.bool false, Value.slice none 0 0] 24))
  have hb2 := ((Blk.new ((w.alloc (.cells #[Value.bool true, Value.slice A0 l0 c0] 24)).alloc (.cells #[Value.bool false, Value.slice A1 l1 c1] 24)) 24 #[Value.bool false, Value.slice none 0 0]).alloc (.cells #[Value.bool false, Value.slice none 0 0] 24))
  have hb3 := (Blk.new (((w.alloc (.cells #[Value.bool true, Value.slice A0 l0 c0] 24)).alloc (.cells #[Value.bool false, Value.slice A1 l1 c1] 24)).alloc (.cells #[Value.bool false, Value.slice none 0 0] 24)) 24 #[Value.bool false, Value.slice none 0 0])
  have hxo := (((((Ext.refl w).alloc (.cells #[Value.bool true, Value.slice A0 l0 c0] 24)).alloc (.cells #[Value.bool false, Value.slice A1 l1 c1] 24)).alloc (.cells #[Value.bool false, Value.slice none 0 0] 24)).alloc (.cells #[Value.bool false, Value.slice none 0 0] 24))
  have hszo : w.heap.size + 1 + 1 + 1 + 1 = ((((w.alloc (.cells #[Value.bool true, Value.slice A0 l0 c0] 24)).alloc (.cells #[Value.bool false, Value.slice A1 l1 c1] 24)).alloc (.cells #[Value.bool false, Value.slice none 0 0] 24)).alloc (.cells #[Value.bool false, Value.slice none 0 0] 24)).heap.size := by simp
  simp only [World.size_alloc] at hb1 hb2 hb3
  generalize (((w.alloc (.cells #[Value.bool true, Value.slice A0 l0 c0] 24)).alloc (.cells #[Value.bool false, Value.slice A1 l1 c1] 24)).alloc (.cells #[Value.bool false, Value.slice none 0 0] 24)).alloc (.cells #[Value.bool false, Value.slice none 0 0] 24) = wo at *
  have HX := Lib.hid hxo
  have HZ : Hid (w.heap.size + 1 + 1 + 1 + 1 ≤ wo.heap.size) := Lib.hid (by omega)
  have HB0 := Lib.hid hb0
  have HB1 := Lib.hid hb1
  have HB2 := Lib.hid hb2
  have HB3 := Lib.hid hb3
  clear hxo hszo hb0 hb1 hb2 hb3
  have HW := Lib.hid (Ext.refl wo)
  refine (HQD.out _ _ _ (H0.out.mag.ext HX.out) (H1.out.mag.ext HX.out)).mono ?_
  rintro e w11 ⟨r10, r10b, rfl, hi10, hj10, hx10⟩
  have HX := Lib.hid (HX.out.trans hx10)
  have HW := Lib.hid (HW.out.trans hx10)
  have HB0 := Lib.hid (HB0.out.ext hx10)
  have HB1 := Lib.hid (HB1.out.ext hx10)
  have HB2 := Lib.hid (HB2.out.ext hx10)
  have HB3 := Lib.hid (HB3.out.ext hx10)
  clear hx10
  have RQ := Lib.hid hi10
  have RR := Lib.hid hj10
  obtain ⟨g10, G10, j10, rfl⟩ := hi10.shape
  obtain ⟨y10, Y10, z10, rfl⟩ := hj10.shape
  have hrlen := RR.out.arr.len
  clear hi10 hj10
  rw [← hrlen] at hrp
  have hrp2 : (0 : Int) < (y10 : Int) := by omega
  clear hrlen hrp
  obtain ⟨hb0_0, hb0_1, hb0_2, hb0_3, hb0_4⟩ := HB0.out.two
  obtain ⟨hb1_0, hb1_1, hb1_2, hb1_3, hb1_4⟩ := HB1.out.two
  obtain ⟨hb2_0, hb2_1, hb2_2, hb2_3, hb2_4⟩ := HB2.out.two
  obtain ⟨hb3_0, hb3_1, hb3_2, hb3_3, hb3_4⟩ := HB3.out.two
  go_wp2_with fail
  clear hb0_0 hb0_1 hb0_2 hb0_3 hb0_4 hb1_0 hb1_1 hb1_2 hb1_3 hb1_4 hb2_0 hb2_1 hb2_2 hb2_3 hb2_4 hb3_0 hb3_1 hb3_2 hb3_3 hb3_4
  refine (HOF.out _).mono ?_
  rintro e w12 ⟨r11, rfl, hi11, hx11⟩
  have HX := Lib.hid (HX.out.trans hx11)
  have HW := Lib.hid (HW.out.trans hx11)
  have RQ := Lib.hid (RQ.out.ext hx11)
  have RR := Lib.hid (RR.out.ext hx11)
  have HB0 := Lib.hid (HB0.out.ext hx11)
  have HB1 := Lib.hid (HB1.out.ext hx11)
  have HB2 := Lib.hid (HB2.out.ext hx11)
  have HB3 := Lib.hid (HB3.out.ext hx11)
  have R1 := Lib.hid hi11
  obtain ⟨g11, G11, j11, rfl⟩ := hi11.shape
  clear hi11
  clear hx11
  obtain ⟨hb0_0, hb0_1, hb0_2, hb0_3, hb0_4⟩ := HB0.out.two
  obtain ⟨hb1_0, hb1_1, hb1_2, hb1_3, hb1_4⟩ := HB1.out.two
  obtain ⟨hb2_0, hb2_1, hb2_2, hb2_3, hb2_4⟩ := HB2.out.two
  obtain ⟨hb3_0, hb3_1, hb3_2, hb3_3, hb3_4⟩ := HB3.out.two
  go_wp2_with fail
  clear hb0_0 hb0_1 hb0_2 hb0_3 hb0_4 hb1_0 hb1_1 hb1_2 hb1_3 hb1_4 hb2_0 hb2_1 hb2_2 hb2_3 hb2_4 hb3_0 hb3_1 hb3_2 hb3_3 hb3_4
  refine (HAD.out _ _ _ RQ.out.arr R1.out.arr).mono ?_
  rintro e w13 ⟨r12, rfl, hi12, hx12⟩
  have HX := Lib.hid (HX.out.trans hx12)
  have HW := Lib.hid (HW.out.trans hx12)
  have RQ := Lib.hid (RQ.out.ext hx12)
  have RR := Lib.hid (RR.out.ext hx12)
  have R1 := Lib.hid (R1.out.ext hx12)
  have HB0 := Lib.hid (HB0.out.ext hx12)
  have HB1 := Lib.hid (HB1.out.ext hx12)
  have HB2 := Lib.hid (HB2.out.ext hx12)
  have HB3 := Lib.hid (HB3.out.ext hx12)
  have RQ2 := Lib.hid hi12
  obtain ⟨g12, G12, j12, rfl⟩ := hi12.shape
  clear hi12
  clear hx12
  obtain ⟨hb0_0, hb0_1, hb0_2, hb0_3, hb0_4⟩ := HB0.out.two
  obtain ⟨hb1_0, hb1_1, hb1_2, hb1_3, hb1_4⟩ := HB1.out.two
  obtain ⟨hb2_0, hb2_1, hb2_2, hb2_3, hb2_4⟩ := HB2.out.two
  obtain ⟨hb3_0, hb3_1, hb3_2, hb3_3, hb3_4⟩ := HB3.out.two
  go_wp2_with fail
  clear hb0_0 hb0_1 hb0_2 hb0_3 hb0_4 hb1_0 hb1_1 hb1_2 hb1_3 hb1_4 hb2_0 hb2_1 hb2_2 hb2_3 hb2_4 hb3_0 hb3_1 hb3_2 hb3_3 hb3_4
  refine (HSB.out _ _ _ (H1.out.mag.ext HX.out) RR.out.arr).mono ?_
  rintro e w14 ⟨r13, rfl, hi13, hx13⟩
  have HX := Lib.hid (HX.out.trans hx13)
  have HW := Lib.hid (HW.out.trans hx13)
  have RQ := Lib.hid (RQ.out.ext hx13)
  have RR := Lib.hid (RR.out.ext hx13)
  have R1 := Lib.hid (R1.out.ext hx13)
  have RQ2 := Lib.hid (RQ2.out.ext hx13)
  have HB0 := Lib.hid (HB0.out.ext hx13)
  have HB1 := Lib.hid (HB1.out.ext hx13)
  have HB2 := Lib.hid (HB2.out.ext hx13)
  have HB3 := Lib.hid (HB3.out.ext hx13)
  clear hx13
  have RR2 := Lib.hid hi13
  obtain ⟨g13, G13, j13, rfl⟩ := hi13.shape
  clear hi13
  obtain ⟨hb0_0, hb0_1, hb0_2, hb0_3, hb0_4⟩ := HB0.out.two
  obtain ⟨hb1_0, hb1_1, hb1_2, hb1_3, hb1_4⟩ := HB1.out.two
  obtain ⟨hb2_0, hb2_1, hb2_2, hb2_3, hb2_4⟩ := HB2.out.two
  obtain ⟨hb3_0, hb3_1, hb3_2, hb3_3, hb3_4⟩ := HB3.out.two
  go_upto_region 7 with fail
  have RQd := Lib.hid (RQ2.out.arr.ext (Ext.refl _).drew)
  have RRd := Lib.hid (RR2.out.arr.ext (Ext.refl _).drew)
  have hzz := HZ.out
  have hwx : wo.heap.size ≤ w14.heap.size := HW.out.size
  go_region_held3 (fun w' => Ext w w' ∧ w'.cell? ⟨w.heap.size, 0, none⟩ = some (Value.bool true) ∧ w'.cell? ⟨w.heap.size, 1, none⟩ = some (Value.slice A0 l0 c0) ∧ w'.cell? ⟨w.heap.size + 1, 0, none⟩ = some (Value.bool false) ∧ w'.cell? ⟨w.heap.size + 1, 1, none⟩ = some (Value.slice A1 l1 c1) ∧ w'.cell? ⟨w.heap.size, 0, none⟩ = some (Value.bool true) ∧ w'.cell? ⟨w.heap.size, 1, none⟩ = some (Value.slice A0 l0 c0) ∧ w'.cell? ⟨w.heap.size + 1 + 1, 0, none⟩ = some (was w' (w.heap.size + 1 + 1) 0) ∧ w'.cell? ⟨w.heap.size + 1 + 1, 1, none⟩ = some (was w' (w.heap.size + 1 + 1) 1) ∧ w'.cell? ⟨w.heap.size + 1 + 1 + 1, 0, none⟩ = some (was w' (w.heap.size + 1 + 1 + 1) 0) ∧ w'.cell? ⟨w.heap.size + 1 + 1 + 1, 1, none⟩ = some (was w' (w.heap.size + 1 + 1 + 1) 1) ∧ w'.frozen? ⟨w.heap.size + 1 + 1, 0, none⟩ = false ∧ w'.frozen? ⟨w.heap.size + 1 + 1, 1, none⟩ = false ∧ w'.frozen? ⟨w.heap.size + 1 + 1 + 1, 0, none⟩ = false ∧ w'.frozen? ⟨w.heap.size + 1 + 1 + 1, 1, none⟩ = false)
    (first | (exact ⟨HX.out.drew, hb0_0, hb0_1, hb1_0, hb1_1, hb0_0, hb0_1, was_some (w := w14.drew) hb2_0, was_some (w := w14.drew) hb2_1, was_some (w := w14.drew) hb3_0, was_some (w := w14.drew) hb3_1, hb2_2, hb2_3, hb3_2, hb3_3⟩) | (exact keptD6 (by assumption) (by assumption)) | (exact keptD6_set (by assumption) (by omega) (by omega) (by omega) (by omega) (by omega) (by omega) (by omega)))
    (first
      | (go_at_call 77; have hchk15 := hz14; refine (HN2.out _ _ RRd.out).mono ?_; rintro e w16 ⟨r15, rfl, hi15, hx15⟩; have hz15 := hx15.size; have S1 := Lib.hid (S1.out.ext hx15); have S2 := Lib.hid hi15; obtain ⟨f15, g15, G15, j15, rfl⟩ := hi15.shape)
      | (go_at_call 77; refine (HN1.out _ _ RQd.out).mono ?_; rintro e w15 ⟨r14, rfl, hi14, hx14⟩; have hz14 := hx14.size; have S1 := Lib.hid hi14; have RRd := Lib.hid (RRd.out.ext hx14); obtain ⟨f14, g14, G14, j14, rfl⟩ := hi14.shape))
  all_goals go_wp2_with fail
  rename_i hS
  obtain ⟨hE, _, _, _, _, _, _, c0, c1, c2, c3, _, _, _, _⟩ := hS
  simp only [World.size_drew] at hz14
  obtain ⟨hr0, hr1, hr2, hr3⟩ := final22 c0 c1 c2 c3 (by omega)
  refine bodyPost_ret (v := .tuple #[.agg #[.bool f14, .slice G14 g14 j14], .agg #[.bool f15, .slice G15 g15 j15], .bool true]) (by simp [results, Tryz.results95, go_sem, hr0, hr1, hr2, hr3]) rfl ?_
  exact ⟨_, _, _, rfl, ((((S1.out.far (p := ⟨w.heap.size + 1 + 1, 0, none⟩) (by first | omega | (simp <;> omega)) (.bool f14)).far (p := ⟨w.heap.size + 1 + 1, 1, none⟩) (by first | omega | (simp <;> omega)) (.slice G14 g14 j14)).far (p := ⟨w.heap.size + 1 + 1 + 1, 0, none⟩) (by first | omega | (simp <;> omega)) (.bool f15)).far (p := ⟨w.heap.size + 1 + 1 + 1, 1, none⟩) (by first | omega | (simp <;> omega)) (.slice G15 g15 j15)).mono (by first | omega | (simp <;> omega)), ((((S2.out.far (p := ⟨w.heap.size + 1 + 1, 0, none⟩) (by first | omega | (simp <;> omega)) (.bool f14)).far (p := ⟨w.heap.size + 1 + 1, 1, none⟩) (by first | omega | (simp <;> omega)) (.slice G14 g14 j14)).far (p := ⟨w.heap.size + 1 + 1 + 1, 0, none⟩) (by first | omega | (simp <;> omega)) (.bool f15)).far (p := ⟨w.heap.size + 1 + 1 + 1, 1, none⟩) (by first | omega | (simp <;> omega)) (.slice G15 g15 j15)).mono (by first | omega | (simp <;> omega)), hE⟩
set_option maxHeartbeats 2000000 in
set_option maxRecDepth 100000 in
theorem idm_b (w : World) (v0 : Value) (x : Int) (h0 : ArrInt w v0 x) (n0 : (limbs x.natAbs).length ≤ 1000000) (v1 : Value) (d : Nat) (h1 : ArrInt w v1 (d : Int)) (n1 : (limbs d).length ≤ 1000000) (hd : 0 < d) (hB : ¬ x < 0 ∨ x.natAbs % d = 0) :
    Calls Tryz.prog 95 #[v0, v1] w fun e w' => ∃ v' u' z, e = .returned (.tuple #[v', u', .bool true]) ∧ IsInt w.heap.size w' v' (x / (d : Int)) ∧ IsInt w.heap.size w' u' z ∧ Ext w w' := by
  have H0 := Lib.hid h0
  have H1 := Lib.hid h1
  have hql : (limbs (x.natAbs / d)).length ≤ 1000000 := Nat.le_trans (limbs_mono (Nat.div_le_self _ _)) n0
  have hrl : (limbs (x.natAbs % d)).length ≤ 1000000 := Nat.le_trans (limbs_mono (Nat.le_of_lt (Nat.mod_lt _ hd))) n1
  have HQD := Lib.hid (fun W m m' a b => qdivmod_any W m m' (limbs x.natAbs) (limbs d) a b (by omega) (by omega) (by rw [val_limbs]; omega))
  unfold DivPost at HQD
  rw [val_limbs, val_limbs] at HQD
  have HN1 := Lib.hid (fun W m a => inat_any W (decide (x < 0)) m (limbs (x.natAbs / d)) a (by omega))
  rw [val_limbs, fdiv_b hd hB] at HN1
  have HN2 := Lib.hid (fun W m a => inat_any W false m (limbs (x.natAbs % d)) a (by omega))
  rw [val_limbs] at HN2
  have hrp : decide (x < 0) = true → (limbs (x.natAbs % d)).length = 0 := fun e => by
    have hx := of_decide_eq_true e
    rcases hB with h | h
    · exact absurd hx h
    · rw [h]; rfl
  obtain ⟨b0, l0, A0, c0, rfl⟩ := h0.shape
  obtain ⟨b1, l1, A1, c1, rfl⟩ := h1.shape
  have hs0 := h0.sign
  have hs1 := h1.sign
  rw [decide_eq_false (p := (d : Int) < 0) (by omega)] at hs1
  subst hs1
  rw [← hs0] at HN1 hrp
  clear h0 h1 hs0 hB hd hql hrl n0 n1
  generalize x / (d : Int) = zq at *
  go_enter Tryz.func95, Tryz.ntmps95
  go_wp2_with fail
  have hb0 := ((((Blk.new w 24 #[Value.bool b0, Value.slice A0 l0 c0]).alloc (.cells #[Value.bool false, Value.slice A1 l1 c1] 24)).alloc (.cells #[Value.bool false, Value.slice none 0 0] 24)).alloc (.cells #[Value.bool false, Value.slice none 0 0] 24))
  have hb1 := (((Blk.new (w.alloc (.cells #[Value.bool b0, Value.slice A0 l0 c0] 24)) 24 #[Value.bool false, Value.slice A1 l1 c1]).alloc (.cells #[Value.bool false, Value.slice none 0 0] 24)).alloc (.cells #[Value.bool false, Value.slice none 0 0] 24))
  have hb2 := ((Blk.new ((w.alloc (.cells #[Value.bool b0, Value.slice A0 l0 c0] 24)).alloc (.cells #[Value.bool false, Value.slice A1 l1 c1] 24)) 24 #[Value.bool false, Value.slice none 0 0]).alloc (.cells #[Value.bool false, Value.slice none 0 0] 24))
  have hb3 := (Blk.new (((w.alloc (.cells #[Value.bool b0, Value.slice A0 l0 c0] 24)).alloc (.cells #[Value.bool false, Value.slice A1 l1 c1] 24)).alloc (.cells #[Value.bool false, Value.slice none 0 0] 24)) 24 #[Value.bool false, Value.slice none 0 0])
  have hxo := (((((Ext.refl w).alloc (.cells #[Value.bool b0, Value.slice A0 l0 c0] 24)).alloc (.cells #[Value.bool false, Value.slice A1 l1 c1] 24)).alloc (.cells #[Value.bool false, Value.slice none 0 0] 24)).alloc (.cells #[Value.bool false, Value.slice none 0 0] 24))
  have hszo : w.heap.size + 1 + 1 + 1 + 1 = ((((w.alloc (.cells #[Value.bool b0, Value.slice A0 l0 c0] 24)).alloc (.cells #[Value.bool false, Value.slice A1 l1 c1] 24)).alloc (.cells #[Value.bool false, Value.slice none 0 0] 24)).alloc (.cells #[Value.bool false, Value.slice none 0 0] 24)).heap.size := by simp
  simp only [World.size_alloc] at hb1 hb2 hb3
  generalize (((w.alloc (.cells #[Value.bool b0, Value.slice A0 l0 c0] 24)).alloc (.cells #[Value.bool false, Value.slice A1 l1 c1] 24)).alloc (.cells #[Value.bool false, Value.slice none 0 0] 24)).alloc (.cells #[Value.bool false, Value.slice none 0 0] 24) = wo at *
  have HX := Lib.hid hxo
  have HZ : Hid (w.heap.size + 1 + 1 + 1 + 1 ≤ wo.heap.size) := Lib.hid (by omega)
  have HB0 := Lib.hid hb0
  have HB1 := Lib.hid hb1
  have HB2 := Lib.hid hb2
  have HB3 := Lib.hid hb3
  clear hxo hszo hb0 hb1 hb2 hb3
  have HW := Lib.hid (Ext.refl wo)
  refine (HQD.out _ _ _ (H0.out.mag.ext HX.out) (H1.out.mag.ext HX.out)).mono ?_
  rintro e w11 ⟨r10, r10b, rfl, hi10, hj10, hx10⟩
  have HX := Lib.hid (HX.out.trans hx10)
  have HW := Lib.hid (HW.out.trans hx10)
  have HB0 := Lib.hid (HB0.out.ext hx10)
  have HB1 := Lib.hid (HB1.out.ext hx10)
  have HB2 := Lib.hid (HB2.out.ext hx10)
  have HB3 := Lib.hid (HB3.out.ext hx10)
  clear hx10
  have RQ := Lib.hid hi10
  have RR := Lib.hid hj10
  obtain ⟨g10, G10, j10, rfl⟩ := hi10.shape
  obtain ⟨y10, Y10, z10, rfl⟩ := hj10.shape
  have hrlen := RR.out.arr.len
  clear hi10 hj10
  rw [← hrlen] at hrp
  clear hrlen
  obtain ⟨hb0_0, hb0_1, hb0_2, hb0_3, hb0_4⟩ := HB0.out.two
  obtain ⟨hb1_0, hb1_1, hb1_2, hb1_3, hb1_4⟩ := HB1.out.two
  obtain ⟨hb2_0, hb2_1, hb2_2, hb2_3, hb2_4⟩ := HB2.out.two
  obtain ⟨hb3_0, hb3_1, hb3_2, hb3_3, hb3_4⟩ := HB3.out.two
  cases b0
  · clear hrp
    go_upto_region 7 with fail
    have RQd := Lib.hid (RQ.out.arr.ext (Ext.refl _).drew)
    have RRd := Lib.hid (RR.out.arr.ext (Ext.refl _).drew)
    have hzz := HZ.out
    have hwx : wo.heap.size ≤ w11.heap.size := HW.out.size
    go_region_held3 (fun w' => Ext w w' ∧ w'.cell? ⟨w.heap.size, 0, none⟩ = some (Value.bool false) ∧ w'.cell? ⟨w.heap.size, 1, none⟩ = some (Value.slice A0 l0 c0) ∧ w'.cell? ⟨w.heap.size + 1, 0, none⟩ = some (Value.bool false) ∧ w'.cell? ⟨w.heap.size + 1, 1, none⟩ = some (Value.slice A1 l1 c1) ∧ w'.cell? ⟨w.heap.size, 0, none⟩ = some (Value.bool false) ∧ w'.cell? ⟨w.heap.size, 1, none⟩ = some (Value.slice A0 l0 c0) ∧ w'.cell? ⟨w.heap.size + 1 + 1, 0, none⟩ = some (was w' (w.heap.size + 1 + 1) 0) ∧ w'.cell? ⟨w.heap.size + 1 + 1, 1, none⟩ = some (was w' (w.heap.size + 1 + 1) 1) ∧ w'.cell? ⟨w.heap.size + 1 + 1 + 1, 0, none⟩ = some (was w' (w.heap.size + 1 + 1 + 1) 0) ∧ w'.cell? ⟨w.heap.size + 1 + 1 + 1, 1, none⟩ = some (was w' (w.heap.size + 1 + 1 + 1) 1) ∧ w'.frozen? ⟨w.heap.size + 1 + 1, 0, none⟩ = false ∧ w'.frozen? ⟨w.heap.size + 1 + 1, 1, none⟩ = false ∧ w'.frozen? ⟨w.heap.size + 1 + 1 + 1, 0, none⟩ = false ∧ w'.frozen? ⟨w.heap.size + 1 + 1 + 1, 1, none⟩ = false)
      (first | (exact ⟨HX.out.drew, hb0_0, hb0_1, hb1_0, hb1_1, hb0_0, hb0_1, was_some (w := w11.drew) hb2_0, was_some (w := w11.drew) hb2_1, was_some (w := w11.drew) hb3_0, was_some (w := w11.drew) hb3_1, hb2_2, hb2_3, hb3_2, hb3_3⟩) | (exact keptD6 (by assumption) (by assumption)) | (exact keptD6_set (by assumption) (by omega) (by omega) (by omega) (by omega) (by omega) (by omega) (by omega)))
      (first
        | (go_at_call 77; have hchk12 := hz11; refine (HN2.out _ _ RRd.out).mono ?_; rintro e w13 ⟨r12, rfl, hi12, hx12⟩; have hz12 := hx12.size; have S1 := Lib.hid (S1.out.ext hx12); have S2 := Lib.hid hi12; obtain ⟨f12, g12, G12, j12, rfl⟩ := hi12.shape)
        | (go_at_call 77; refine (HN1.out _ _ RQd.out).mono ?_; rintro e w12 ⟨r11, rfl, hi11, hx11⟩; have hz11 := hx11.size; have S1 := Lib.hid hi11; have RRd := Lib.hid (RRd.out.ext hx11); obtain ⟨f11, g11, G11, j11, rfl⟩ := hi11.shape))
    all_goals go_wp2_with fail
    rename_i hS
    obtain ⟨hE, _, _, _, _, _, _, c0, c1, c2, c3, _, _, _, _⟩ := hS
    simp only [World.size_drew] at hz11
    obtain ⟨hr0, hr1, hr2, hr3⟩ := final22 c0 c1 c2 c3 (by omega)
    refine bodyPost_ret (v := .tuple #[.agg #[.bool f11, .slice G11 g11 j11], .agg #[.bool f12, .slice G12 g12 j12], .bool true]) (by simp [results, Tryz.results95, go_sem, hr0, hr1, hr2, hr3]) rfl ?_
    exact ⟨_, _, _, rfl, ((((S1.out.far (p := ⟨w.heap.size + 1 + 1, 0, none⟩) (by first | omega | (simp <;> omega)) (.bool f11)).far (p := ⟨w.heap.size + 1 + 1, 1, none⟩) (by first | omega | (simp <;> omega)) (.slice G11 g11 j11)).far (p := ⟨w.heap.size + 1 + 1 + 1, 0, none⟩) (by first | omega | (simp <;> omega)) (.bool f12)).far (p := ⟨w.heap.size + 1 + 1 + 1, 1, none⟩) (by first | omega | (simp <;> omega)) (.slice G12 g12 j12)).mono (by first | omega | (simp <;> omega)), ((((S2.out.far (p := ⟨w.heap.size + 1 + 1, 0, none⟩) (by first | omega | (simp <;> omega)) (.bool f11)).far (p := ⟨w.heap.size + 1 + 1, 1, none⟩) (by first | omega | (simp <;> omega)) (.slice G11 g11 j11)).far (p := ⟨w.heap.size + 1 + 1 + 1, 0, none⟩) (by first | omega | (simp <;> omega)) (.bool f12)).far (p := ⟨w.heap.size + 1 + 1 + 1, 1, none⟩) (by first | omega | (simp <;> omega)) (.slice G12 g12 j12)).mono (by first | omega | (simp <;> omega)), hE⟩
  · have hr0 := hrp rfl
    subst hr0
    clear hrp
    go_upto_region 7 with fail
    have RQd := Lib.hid (RQ.out.arr.ext (Ext.refl _).drew)
    have RRd := Lib.hid (RR.out.arr.ext (Ext.refl _).drew)
    have hzz := HZ.out
    have hwx : wo.heap.size ≤ w11.heap.size := HW.out.size
    go_region_held3 (fun w' => Ext w w' ∧ w'.cell? ⟨w.heap.size, 0, none⟩ = some (Value.bool true) ∧ w'.cell? ⟨w.heap.size, 1, none⟩ = some (Value.slice A0 l0 c0) ∧ w'.cell? ⟨w.heap.size + 1, 0, none⟩ = some (Value.bool false) ∧ w'.cell? ⟨w.heap.size + 1, 1, none⟩ = some (Value.slice A1 l1 c1) ∧ w'.cell? ⟨w.heap.size, 0, none⟩ = some (Value.bool true) ∧ w'.cell? ⟨w.heap.size, 1, none⟩ = some (Value.slice A0 l0 c0) ∧ w'.cell? ⟨w.heap.size + 1 + 1, 0, none⟩ = some (was w' (w.heap.size + 1 + 1) 0) ∧ w'.cell? ⟨w.heap.size + 1 + 1, 1, none⟩ = some (was w' (w.heap.size + 1 + 1) 1) ∧ w'.cell? ⟨w.heap.size + 1 + 1 + 1, 0, none⟩ = some (was w' (w.heap.size + 1 + 1 + 1) 0) ∧ w'.cell? ⟨w.heap.size + 1 + 1 + 1, 1, none⟩ = some (was w' (w.heap.size + 1 + 1 + 1) 1) ∧ w'.frozen? ⟨w.heap.size + 1 + 1, 0, none⟩ = false ∧ w'.frozen? ⟨w.heap.size + 1 + 1, 1, none⟩ = false ∧ w'.frozen? ⟨w.heap.size + 1 + 1 + 1, 0, none⟩ = false ∧ w'.frozen? ⟨w.heap.size + 1 + 1 + 1, 1, none⟩ = false)
      (first | (exact ⟨HX.out.drew, hb0_0, hb0_1, hb1_0, hb1_1, hb0_0, hb0_1, was_some (w := w11.drew) hb2_0, was_some (w := w11.drew) hb2_1, was_some (w := w11.drew) hb3_0, was_some (w := w11.drew) hb3_1, hb2_2, hb2_3, hb3_2, hb3_3⟩) | (exact keptD6 (by assumption) (by assumption)) | (exact keptD6_set (by assumption) (by omega) (by omega) (by omega) (by omega) (by omega) (by omega) (by omega)))
      (first
        | (go_at_call 77; have hchk12 := hz11; refine (HN2.out _ _ RRd.out).mono ?_; rintro e w13 ⟨r12, rfl, hi12, hx12⟩; have hz12 := hx12.size; have S1 := Lib.hid (S1.out.ext hx12); have S2 := Lib.hid hi12; obtain ⟨f12, g12, G12, j12, rfl⟩ := hi12.shape)
        | (go_at_call 77; refine (HN1.out _ _ RQd.out).mono ?_; rintro e w12 ⟨r11, rfl, hi11, hx11⟩; have hz11 := hx11.size; have S1 := Lib.hid hi11; have RRd := Lib.hid (RRd.out.ext hx11); obtain ⟨f11, g11, G11, j11, rfl⟩ := hi11.shape))
    all_goals go_wp2_with fail
    rename_i hS
    obtain ⟨hE, _, _, _, _, _, _, c0, c1, c2, c3, _, _, _, _⟩ := hS
    simp only [World.size_drew] at hz11
    obtain ⟨hr0, hr1, hr2, hr3⟩ := final22 c0 c1 c2 c3 (by omega)
    refine bodyPost_ret (v := .tuple #[.agg #[.bool f11, .slice G11 g11 j11], .agg #[.bool f12, .slice G12 g12 j12], .bool true]) (by simp [results, Tryz.results95, go_sem, hr0, hr1, hr2, hr3]) rfl ?_
    exact ⟨_, _, _, rfl, ((((S1.out.far (p := ⟨w.heap.size + 1 + 1, 0, none⟩) (by first | omega | (simp <;> omega)) (.bool f11)).far (p := ⟨w.heap.size + 1 + 1, 1, none⟩) (by first | omega | (simp <;> omega)) (.slice G11 g11 j11)).far (p := ⟨w.heap.size + 1 + 1 + 1, 0, none⟩) (by first | omega | (simp <;> omega)) (.bool f12)).far (p := ⟨w.heap.size + 1 + 1 + 1, 1, none⟩) (by first | omega | (simp <;> omega)) (.slice G12 g12 j12)).mono (by first | omega | (simp <;> omega)), ((((S2.out.far (p := ⟨w.heap.size + 1 + 1, 0, none⟩) (by first | omega | (simp <;> omega)) (.bool f11)).far (p := ⟨w.heap.size + 1 + 1, 1, none⟩) (by first | omega | (simp <;> omega)) (.slice G11 g11 j11)).far (p := ⟨w.heap.size + 1 + 1 + 1, 0, none⟩) (by first | omega | (simp <;> omega)) (.bool f12)).far (p := ⟨w.heap.size + 1 + 1 + 1, 1, none⟩) (by first | omega | (simp <;> omega)) (.slice G12 g12 j12)).mono (by first | omega | (simp <;> omega)), hE⟩
set_option maxHeartbeats 2000000 in
set_option maxRecDepth 100000 in
theorem rdm_b (w : World) (v0 : Value) (x : Int) (h0 : ArrInt w v0 x) (n0 : (limbs x.natAbs).length ≤ 1000000) (v1 : Value) (d : Nat) (h1 : ArrInt w v1 (d : Int)) (n1 : (limbs d).length ≤ 1000000) (hd : 0 < d) (hB : ¬ x < 0 ∨ x.natAbs % d = 0) :
    Calls Tryz.prog 96 #[v0, v1] w fun e w' => ∃ v' u' z, e = .returned (.tuple #[v', u', .bool true]) ∧ IsInt w.heap.size w' v' (x / (d : Int)) ∧ IsInt w.heap.size w' u' z ∧ Ext w w' := by
  have H0 := Lib.hid h0
  have H1 := Lib.hid h1
  have hql : (limbs (x.natAbs / d)).length ≤ 1000000 := Nat.le_trans (limbs_mono (Nat.div_le_self _ _)) n0
  have hrl : (limbs (x.natAbs % d)).length ≤ 1000000 := Nat.le_trans (limbs_mono (Nat.le_of_lt (Nat.mod_lt _ hd))) n1
  have HQD := Lib.hid (fun W m m' a b => rdivmod_any W m m' (limbs x.natAbs) (limbs d) a b (by omega) (by omega) (by rw [val_limbs]; exact hd))
  rw [val_limbs, val_limbs] at HQD
  have HN1 := Lib.hid (fun W m a => rnat_any W (decide (x < 0)) m (limbs (x.natAbs / d)) a (by omega))
  rw [val_limbs] at HN1
  have hzl : (limbs (x / (d : Int)).natAbs).length ≤ 1000002 := by
    rw [← fdiv_b hd hB, natAbs_sgn]; omega
  rw [fdiv_b hd hB] at HN1
  have hrp : decide (x < 0) = true → (limbs (x.natAbs % d)).length = 0 := fun e => by
    have hx := of_decide_eq_true e
    rcases hB with h | h
    · exact absurd hx h
    · rw [h]; rfl
  have HML := Lib.hid (fun W v u a b => rmul5_any W v (x / (d : Int)) a (by omega) u (d : Int) b (by rw [limbs_nat_cast]; omega))
  have hml : (limbs (x / (d : Int) * (d : Int)).natAbs).length ≤ 2000004 := by
    rw [Int.natAbs_mul, Int.natAbs_natCast]
    have := length_limbs_prod hzl n1
    omega
  have HSB2 := Lib.hid (fun W v u a b => rsub5_any W v x a (by omega) u (x / (d : Int) * (d : Int)) b (by omega))
  obtain ⟨b0, l0, A0, c0, rfl⟩ := h0.shape
  obtain ⟨b1, l1, A1, c1, rfl⟩ := h1.shape
  have hs0 := h0.sign
  have hs1 := h1.sign
  rw [decide_eq_false (p := (d : Int) < 0) (by omega)] at hs1
  subst hs1
  rw [← hs0] at HN1 hrp
  clear h0 h1 hs0 hB hd hql hrl n0 n1 hzl hml
  generalize x / (d : Int) = zq at *
  go_enter Tryz.func96, Tryz.ntmps96
  go_wp2_with fail
  have hb0 := ((((Blk.new w 24 #[Value.bool b0, Value.slice A0 l0 c0]).alloc (.cells #[Value.bool false, Value.slice A1 l1 c1] 24)).alloc (.cells #[Value.bool false, Value.slice none 0 0] 24)).alloc (.cells #[Value.bool false, Value.slice none 0 0] 24))
  have hb1 := (((Blk.new (w.alloc (.cells #[Value.bool b0, Value.slice A0 l0 c0] 24)) 24 #[Value.bool false, Value.slice A1 l1 c1]).alloc (.cells #[Value.bool false, Value.slice none 0 0] 24)).alloc (.cells #[Value.bool false, Value.slice none 0 0] 24))
  have hb2 := ((Blk.new ((w.alloc (.cells #[Value.bool b0, Value.slice A0 l0 c0] 24)).alloc (.cells #[Value.bool false, Value.slice A1 l1 c1] 24)) 24 #[Value.bool false, Value.slice none 0 0]).alloc (.cells #[Value.bool false, Value.slice none 0 0] 24))
  have hb3 := (Blk.new (((w.alloc (.cells #[Value.bool b0, Value.slice A0 l0 c0] 24)).alloc (.cells #[Value.bool false, Value.slice A1 l1 c1] 24)).alloc (.cells #[Value.bool false, Value.slice none 0 0] 24)) 24 #[Value.bool false, Value.slice none 0 0])
  have hxo := (((((Ext.refl w).alloc (.cells #[Value.bool b0, Value.slice A0 l0 c0] 24)).alloc (.cells #[Value.bool false, Value.slice A1 l1 c1] 24)).alloc (.cells #[Value.bool false, Value.slice none 0 0] 24)).alloc (.cells #[Value.bool false, Value.slice none 0 0] 24))
  have hszo : w.heap.size + 1 + 1 + 1 + 1 = ((((w.alloc (.cells #[Value.bool b0, Value.slice A0 l0 c0] 24)).alloc (.cells #[Value.bool false, Value.slice A1 l1 c1] 24)).alloc (.cells #[Value.bool false, Value.slice none 0 0] 24)).alloc (.cells #[Value.bool false, Value.slice none 0 0] 24)).heap.size := by simp
  simp only [World.size_alloc] at hb1 hb2 hb3
  generalize (((w.alloc (.cells #[Value.bool b0, Value.slice A0 l0 c0] 24)).alloc (.cells #[Value.bool false, Value.slice A1 l1 c1] 24)).alloc (.cells #[Value.bool false, Value.slice none 0 0] 24)).alloc (.cells #[Value.bool false, Value.slice none 0 0] 24) = wo at *
  have HX := Lib.hid hxo
  have HX0 := Lib.hid hxo
  have HZ : Hid (w.heap.size + 1 + 1 + 1 + 1 ≤ wo.heap.size) := Lib.hid (by omega)
  have HB0 := Lib.hid hb0
  have HB1 := Lib.hid hb1
  have HB2 := Lib.hid hb2
  have HB3 := Lib.hid hb3
  clear hxo hszo hb0 hb1 hb2 hb3
  have HW := Lib.hid (Ext.refl wo)
  refine (HQD.out _ _ _ (H0.out.mag.ext HX.out) (H1.out.mag.ext HX.out)).mono ?_
  rintro e w11 ⟨r10, r10b, rfl, hi10, hj10, hx10⟩
  have HX := Lib.hid (HX.out.trans hx10)
  have HW := Lib.hid (HW.out.trans hx10)
  have HB0 := Lib.hid (HB0.out.ext hx10)
  have HB1 := Lib.hid (HB1.out.ext hx10)
  have HB2 := Lib.hid (HB2.out.ext hx10)
  have HB3 := Lib.hid (HB3.out.ext hx10)
  clear hx10
  have RQ := Lib.hid hi10
  have RR := Lib.hid hj10
  obtain ⟨g10, G10, j10, rfl⟩ := hi10.shape
  obtain ⟨y10, Y10, z10, rfl⟩ := hj10.shape
  have hrlen := RR.out.len
  clear hi10 hj10
  have HQB := Lib.hid (Nat.le_trans HZ.out HW.out.size)
  rw [← hrlen] at hrp
  clear hrlen
  obtain ⟨hb0_0, hb0_1, hb0_2, hb0_3, hb0_4⟩ := HB0.out.two
  obtain ⟨hb1_0, hb1_1, hb1_2, hb1_3, hb1_4⟩ := HB1.out.two
  obtain ⟨hb2_0, hb2_1, hb2_2, hb2_3, hb2_4⟩ := HB2.out.two
  obtain ⟨hb3_0, hb3_1, hb3_2, hb3_3, hb3_4⟩ := HB3.out.two
  go_wp2_with fail
  clear hb0_0 hb0_1 hb0_2 hb0_3 hb0_4 hb1_0 hb1_1 hb1_2 hb1_3 hb1_4 hb2_0 hb2_1 hb2_2 hb2_3 hb2_4 hb3_0 hb3_1 hb3_2 hb3_3 hb3_4
  refine (HN1.out _ _ RQ.out.arr).mono ?_
  rintro e w12 ⟨r11, rfl, hi11, hx11⟩
  have HX := Lib.hid (HX.out.trans hx11)
  have HW := Lib.hid (HW.out.trans hx11)
  have RQ := Lib.hid (RQ.out.ext hx11)
  have RR := Lib.hid (RR.out.ext hx11)
  have HB0 := Lib.hid (HB0.out.ext hx11)
  have HB1 := Lib.hid (HB1.out.ext hx11)
  have HB2 := Lib.hid (HB2.out.ext hx11)
  have HB3 := Lib.hid (HB3.out.ext hx11)
  have QO := Lib.hid hi11
  obtain ⟨f11, g11, G11, j11, rfl⟩ := hi11.shape
  clear hi11
  clear hx11
  obtain ⟨hb0_0, hb0_1, hb0_2, hb0_3, hb0_4⟩ := HB0.out.two
  obtain ⟨hb1_0, hb1_1, hb1_2, hb1_3, hb1_4⟩ := HB1.out.two
  obtain ⟨hb2_0, hb2_1, hb2_2, hb2_3, hb2_4⟩ := HB2.out.two
  obtain ⟨hb3_0, hb3_1, hb3_2, hb3_3, hb3_4⟩ := HB3.out.two
  go_upto_region 5 with fail
  have HLO := Lib.hid (Nat.le_trans HZ.out HW.out.size)
  have HLO2 := Lib.hid HW.out.size
  clear hb0_0 hb0_1 hb0_2 hb0_3 hb0_4 hb1_0 hb1_1 hb1_2 hb1_3 hb1_4 hb2_0 hb2_1 hb2_2 hb2_3 hb2_4 hb3_0 hb3_1 hb3_2 hb3_3 hb3_4
  have hb12 := Blk.new w12 24 #[Value.bool f11, Value.slice G11 g11 j11]
  have hx12 := (Ext.refl w12).alloc (.cells #[Value.bool f11, Value.slice G11 g11 j11] 24)
  have HX := Lib.hid (HX.out.trans hx12)
  have HW := Lib.hid (HW.out.trans hx12)
  have RQ := Lib.hid (RQ.out.ext hx12)
  have RR := Lib.hid (RR.out.ext hx12)
  have QO := Lib.hid (QO.out.ext hx12)
  have HB0 := Lib.hid (HB0.out.ext hx12)
  have HB1 := Lib.hid (HB1.out.ext hx12)
  have HB2 := Lib.hid (HB2.out.ext hx12)
  have HB3 := Lib.hid (HB3.out.ext hx12)
  have BO := Lib.hid hb12
  generalize w12.alloc (.cells #[Value.bool f11, Value.slice G11 g11 j11] 24) = w13 at *
  generalize w12.heap.size = a12 at *
  clear hb12 hx12
  have HLB := Lib.hid BO.out.lt
  obtain ⟨hb0_0, hb0_1, hb0_2, hb0_3, hb0_4⟩ := HB0.out.two
  obtain ⟨hb1_0, hb1_1, hb1_2, hb1_3, hb1_4⟩ := HB1.out.two
  obtain ⟨hb2_0, hb2_1, hb2_2, hb2_3, hb2_4⟩ := HB2.out.two
  obtain ⟨hb3_0, hb3_1, hb3_2, hb3_3, hb3_4⟩ := HB3.out.two
  obtain ⟨bo_0, bo_1, bo_2, bo_3, bo_4⟩ := BO.out.two
  cases b0
  · have hbn : (false != false) = false := rfl
    clear hrp
    go_upto_region 7 with fail
    have QOd := Lib.hid (QO.out.ext (Ext.refl _).drew)
    have hzz := HZ.out
    have hlo := HLO.out
    have hwx : wo.heap.size ≤ w13.heap.size := HW.out.size
    go_region_held3 (fun w' => Ext w w' ∧ w'.cell? ⟨w.heap.size, 0, none⟩ = some (Value.bool false) ∧ w'.cell? ⟨w.heap.size, 1, none⟩ = some (Value.slice A0 l0 c0) ∧ w'.cell? ⟨w.heap.size + 1, 0, none⟩ = some (Value.bool false) ∧ w'.cell? ⟨w.heap.size + 1, 1, none⟩ = some (Value.slice A1 l1 c1) ∧ w'.cell? ⟨a12, 0, none⟩ = some (Value.bool f11) ∧ w'.cell? ⟨a12, 1, none⟩ = some (Value.slice G11 g11 j11) ∧ w'.cell? ⟨w.heap.size + 1 + 1, 0, none⟩ = some (was w' (w.heap.size + 1 + 1) 0) ∧ w'.cell? ⟨w.heap.size + 1 + 1, 1, none⟩ = some (was w' (w.heap.size + 1 + 1) 1) ∧ w'.cell? ⟨w.heap.size + 1 + 1 + 1, 0, none⟩ = some (was w' (w.heap.size + 1 + 1 + 1) 0) ∧ w'.cell? ⟨w.heap.size + 1 + 1 + 1, 1, none⟩ = some (was w' (w.heap.size + 1 + 1 + 1) 1) ∧ w'.frozen? ⟨w.heap.size + 1 + 1, 0, none⟩ = false ∧ w'.frozen? ⟨w.heap.size + 1 + 1, 1, none⟩ = false ∧ w'.frozen? ⟨w.heap.size + 1 + 1 + 1, 0, none⟩ = false ∧ w'.frozen? ⟨w.heap.size + 1 + 1 + 1, 1, none⟩ = false)
      (first | (exact ⟨HX.out.drew, hb0_0, hb0_1, hb1_0, hb1_1, bo_0, bo_1, was_some (w := w13.drew) hb2_0, was_some (w := w13.drew) hb2_1, was_some (w := w13.drew) hb3_0, was_some (w := w13.drew) hb3_1, hb2_2, hb2_3, hb3_2, hb3_3⟩) | (exact keptD6 (by assumption) (by assumption)) | (exact keptD6_set (by assumption) (by omega) (by omega) (by omega) (by omega) (by omega) (by omega) (by omega)))
      (first
        | (go_at_call 142; have hchk14 := hz13; refine (HSB2.out _ _ _ (H0.out.ext (And.left (by assumption))) S1.out.arr).mono ?_; rintro e w15 ⟨r14, rfl, hi14, hx14⟩; have hz14 := hx14.size; have QOd := Lib.hid (QOd.out.ext hx14); have S1 := Lib.hid (S1.out.ext hx14); have S2 := Lib.hid hi14; obtain ⟨f14, g14, G14, j14, rfl⟩ := hi14.shape)
        | (go_at_call 58; refine (HML.out _ _ _ QOd.out.arr (H1.out.ext (And.left (by assumption)))).mono ?_; rintro e w14 ⟨r13, rfl, hi13, hx13⟩; have hz13 := hx13.size; have S1 := Lib.hid hi13; have QOd := Lib.hid (QOd.out.ext hx13); obtain ⟨f13, g13, G13, j13, rfl⟩ := hi13.shape))
    all_goals go_wp2_with fail
    rename_i hS
    obtain ⟨hE, _, _, _, _, _, _, c0, c1, c2, c3, _, _, _, _⟩ := hS
    simp only [World.size_drew] at hz13
    obtain ⟨hr0, hr1, hr2, hr3⟩ := final22 c0 c1 c2 c3 (by omega)
    refine bodyPost_ret (v := .tuple #[.agg #[(Value.bool f11), (Value.slice G11 g11 j11)], .agg #[.bool f14, .slice G14 g14 j14], .bool true]) (by simp [results, Tryz.results96, go_sem, hr0, hr1, hr2, hr3]) rfl ?_
    have hqb := HQB.out
    exact ⟨_, _, _, rfl, ((((QOd.out.far (p := ⟨w.heap.size + 1 + 1, 0, none⟩) (by first | omega | (simp <;> omega)) (Value.bool f11)).far (p := ⟨w.heap.size + 1 + 1, 1, none⟩) (by first | omega | (simp <;> omega)) (Value.slice G11 g11 j11)).far (p := ⟨w.heap.size + 1 + 1 + 1, 0, none⟩) (by first | omega | (simp <;> omega)) (.bool f14)).far (p := ⟨w.heap.size + 1 + 1 + 1, 1, none⟩) (by first | omega | (simp <;> omega)) (.slice G14 g14 j14)).mono (by first | omega | (simp <;> omega)), ((((S2.out.far (p := ⟨w.heap.size + 1 + 1, 0, none⟩) (by first | omega | (simp <;> omega)) (Value.bool f11)).far (p := ⟨w.heap.size + 1 + 1, 1, none⟩) (by first | omega | (simp <;> omega)) (Value.slice G11 g11 j11)).far (p := ⟨w.heap.size + 1 + 1 + 1, 0, none⟩) (by first | omega | (simp <;> omega)) (.bool f14)).far (p := ⟨w.heap.size + 1 + 1 + 1, 1, none⟩) (by first | omega | (simp <;> omega)) (.slice G14 g14 j14)).mono (by first | omega | (simp <;> omega)), hE⟩
  · have hr0 := hrp rfl
    subst hr0
    clear hrp
    go_upto_region 7 with fail
    have QOd := Lib.hid (QO.out.ext (Ext.refl _).drew)
    have hzz := HZ.out
    have hlo := HLO.out
    have hwx : wo.heap.size ≤ w13.heap.size := HW.out.size
    go_region_held3 (fun w' => Ext w w' ∧ w'.cell? ⟨w.heap.size, 0, none⟩ = some (Value.bool true) ∧ w'.cell? ⟨w.heap.size, 1, none⟩ = some (Value.slice A0 l0 c0) ∧ w'.cell? ⟨w.heap.size + 1, 0, none⟩ = some (Value.bool false) ∧ w'.cell? ⟨w.heap.size + 1, 1, none⟩ = some (Value.slice A1 l1 c1) ∧ w'.cell? ⟨a12, 0, none⟩ = some (Value.bool f11) ∧ w'.cell? ⟨a12, 1, none⟩ = some (Value.slice G11 g11 j11) ∧ w'.cell? ⟨w.heap.size + 1 + 1, 0, none⟩ = some (was w' (w.heap.size + 1 + 1) 0) ∧ w'.cell? ⟨w.heap.size + 1 + 1, 1, none⟩ = some (was w' (w.heap.size + 1 + 1) 1) ∧ w'.cell? ⟨w.heap.size + 1 + 1 + 1, 0, none⟩ = some (was w' (w.heap.size + 1 + 1 + 1) 0) ∧ w'.cell? ⟨w.heap.size + 1 + 1 + 1, 1, none⟩ = some (was w' (w.heap.size + 1 + 1 + 1) 1) ∧ w'.frozen? ⟨w.heap.size + 1 + 1, 0, none⟩ = false ∧ w'.frozen? ⟨w.heap.size + 1 + 1, 1, none⟩ = false ∧ w'.frozen? ⟨w.heap.size + 1 + 1 + 1, 0, none⟩ = false ∧ w'.frozen? ⟨w.heap.size + 1 + 1 + 1, 1, none⟩ = false)
      (first | (exact ⟨HX.out.drew, hb0_0, hb0_1, hb1_0, hb1_1, bo_0, bo_1, was_some (w := w13.drew) hb2_0, was_some (w := w13.drew) hb2_1, was_some (w := w13.drew) hb3_0, was_some (w := w13.drew) hb3_1, hb2_2, hb2_3, hb3_2, hb3_3⟩) | (exact keptD6 (by assumption) (by assumption)) | (exact keptD6_set (by assumption) (by omega) (by omega) (by omega) (by omega) (by omega) (by omega) (by omega)))
      (first
        | (go_at_call 142; have hchk14 := hz13; refine (HSB2.out _ _ _ (H0.out.ext (And.left (by assumption))) S1.out.arr).mono ?_; rintro e w15 ⟨r14, rfl, hi14, hx14⟩; have hz14 := hx14.size; have QOd := Lib.hid (QOd.out.ext hx14); have S1 := Lib.hid (S1.out.ext hx14); have S2 := Lib.hid hi14; obtain ⟨f14, g14, G14, j14, rfl⟩ := hi14.shape)
        | (go_at_call 58; refine (HML.out _ _ _ QOd.out.arr (H1.out.ext (And.left (by assumption)))).mono ?_; rintro e w14 ⟨r13, rfl, hi13, hx13⟩; have hz13 := hx13.size; have S1 := Lib.hid hi13; have QOd := Lib.hid (QOd.out.ext hx13); obtain ⟨f13, g13, G13, j13, rfl⟩ := hi13.shape))
    all_goals go_wp2_with fail
    rename_i hS
    obtain ⟨hE, _, _, _, _, _, _, c0, c1, c2, c3, _, _, _, _⟩ := hS
    simp only [World.size_drew] at hz13
    obtain ⟨hr0, hr1, hr2, hr3⟩ := final22 c0 c1 c2 c3 (by omega)
    refine bodyPost_ret (v := .tuple #[.agg #[(Value.bool f11), (Value.slice G11 g11 j11)], .agg #[.bool f14, .slice G14 g14 j14], .bool true]) (by simp [results, Tryz.results96, go_sem, hr0, hr1, hr2, hr3]) rfl ?_
    have hqb := HQB.out
    exact ⟨_, _, _, rfl, ((((QOd.out.far (p := ⟨w.heap.size + 1 + 1, 0, none⟩) (by first | omega | (simp <;> omega)) (Value.bool f11)).far (p := ⟨w.heap.size + 1 + 1, 1, none⟩) (by first | omega | (simp <;> omega)) (Value.slice G11 g11 j11)).far (p := ⟨w.heap.size + 1 + 1 + 1, 0, none⟩) (by first | omega | (simp <;> omega)) (.bool f14)).far (p := ⟨w.heap.size + 1 + 1 + 1, 1, none⟩) (by first | omega | (simp <;> omega)) (.slice G14 g14 j14)).mono (by first | omega | (simp <;> omega)), ((((S2.out.far (p := ⟨w.heap.size + 1 + 1, 0, none⟩) (by first | omega | (simp <;> omega)) (Value.bool f11)).far (p := ⟨w.heap.size + 1 + 1, 1, none⟩) (by first | omega | (simp <;> omega)) (Value.slice G11 g11 j11)).far (p := ⟨w.heap.size + 1 + 1 + 1, 0, none⟩) (by first | omega | (simp <;> omega)) (.bool f14)).far (p := ⟨w.heap.size + 1 + 1 + 1, 1, none⟩) (by first | omega | (simp <;> omega)) (.slice G14 g14 j14)).mono (by first | omega | (simp <;> omega)), hE⟩
set_option maxHeartbeats 2000000 in
set_option maxRecDepth 100000 in
theorem rdm_a (w : World) (v0 : Value) (x : Int) (h0 : ArrInt w v0 x) (n0 : (limbs x.natAbs).length ≤ 1000000) (v1 : Value) (d : Nat) (h1 : ArrInt w v1 (d : Int)) (n1 : (limbs d).length ≤ 1000000) (hd : 0 < d) (hx : x < 0) (hr : x.natAbs % d ≠ 0) :
    Calls Tryz.prog 96 #[v0, v1] w fun e w' => ∃ v' u' z, e = .returned (.tuple #[v', u', .bool true]) ∧ IsInt w.heap.size w' v' (x / (d : Int)) ∧ IsInt w.heap.size w' u' z ∧ Ext w w' := by
  have H0 := Lib.hid h0
  have H1 := Lib.hid h1
  have hql : (limbs (x.natAbs / d)).length ≤ 1000000 := Nat.le_trans (limbs_mono (Nat.div_le_self _ _)) n0
  have hrl : (limbs (x.natAbs % d)).length ≤ 1000000 := Nat.le_trans (limbs_mono (Nat.le_of_lt (Nat.mod_lt _ hd))) n1
  have HQD := Lib.hid (fun W m m' a b => rdivmod_any W m m' (limbs x.natAbs) (limbs d) a b (by omega) (by omega) (by rw [val_limbs]; exact hd))
  rw [val_limbs, val_limbs] at HQD
  have HN1 := Lib.hid (fun W m a => rnat_any W (decide (x < 0)) m (limbs (x.natAbs / d)) a (by omega))
  rw [val_limbs] at HN1
  have hzl : (limbs (x / (d : Int)).natAbs).length ≤ 1000002 := by
    rw [← fdiv_a hd hx hr, natAbs_sgn]
    have := length_limbs_sum hql (show (limbs 1).length ≤ 1 by rw [limbs_one]; simp)
    omega
  have HOF := Lib.hid (fun W => rof5_any W 1 (by decide) (by decide))
  have HSB := Lib.hid (fun W v u a b => rsub5_any W v (sgn true (x.natAbs / d)) a (by rw [natAbs_sgn]; omega) u 1 b (by rw [show (1 : Int).natAbs = 1 from rfl, limbs_one]; simp))
  rw [fdiv_a' hd hx hr] at HSB
  have hrp : 0 < (limbs (x.natAbs % d)).length := by rw [List.length_pos_iff]; intro e; rw [limbs_eq_nil] at e; exact hr e
  have hbx : decide (x < 0) = true := decide_eq_true hx
  rw [hbx] at HN1
  generalize sgn true (x.natAbs / d) = z1 at *
  have HML := Lib.hid (fun W v u a b => rmul5_any W v (x / (d : Int)) a (by omega) u (d : Int) b (by rw [limbs_nat_cast]; omega))
  have hml : (limbs (x / (d : Int) * (d : Int)).natAbs).length ≤ 2000004 := by
    rw [Int.natAbs_mul, Int.natAbs_natCast]
    have := length_limbs_prod hzl n1
    omega
  have HSB2 := Lib.hid (fun W v u a b => rsub5_any W v x a (by omega) u (x / (d : Int) * (d : Int)) b (by omega))
  obtain ⟨b0, l0, A0, c0, rfl⟩ := h0.shape
  obtain ⟨b1, l1, A1, c1, rfl⟩ := h1.shape
  have hs0 := h0.sign
  have hs1 := h1.sign
  rw [decide_eq_false (p := (d : Int) < 0) (by omega)] at hs1
  subst hs1
  rw [hbx] at hs0
  subst hs0
  clear h0 h1 hbx hx hr hd hql hrl n0 n1 hzl hml
  generalize x / (d : Int) = zq at *
  go_enter Tryz.func96, Tryz.ntmps96
  go_wp2_with fail
  have hb0 := ((((Blk.new w 24 #[Value.bool true, Value.slice A0 l0 c0]).alloc (.cells #[Value.bool false, Value.slice A1 l1 c1] 24)).alloc (.cells #[Value.bool false, Value.slice none 0 0] 24)).alloc (.cells #[Value.bool false, Value.slice none 0 0] 24))
  have hb1 := (((Blk.new (w.alloc (.cells #[Value.bool true, Value.slice A0 l0 c0] 24)) 24 #[Value.bool false, Value.slice A1 l1 c1]).alloc (.cells #[Value.bool false, Value.slice none 0 0] 24)).alloc (.cells #[Value.bool false, Value.slice none 0 0] 24))
  have hb2 := ((Blk.new ((w.alloc (.cells #[Value.bool true, Value.slice A0 l0 c0] 24)).alloc (.cells #[Value.bool false, Value.slice A1 l1 c1] 24)) 24 #[Value.bool false, Value.slice none 0 0]).alloc (.cells #[Value.bool false, Value.slice none 0 0] 24))
  have hb3 := (Blk.new (((w.alloc (.cells #[Value.bool true, Value.slice A0 l0 c0] 24)).alloc (.cells #[Value.bool false, Value.slice A1 l1 c1] 24)).alloc (.cells #[Value.bool false, Value.slice none 0 0] 24)) 24 #[Value.bool false, Value.slice none 0 0])
  have hxo := (((((Ext.refl w).alloc (.cells #[Value.bool true, Value.slice A0 l0 c0] 24)).alloc (.cells #[Value.bool false, Value.slice A1 l1 c1] 24)).alloc (.cells #[Value.bool false, Value.slice none 0 0] 24)).alloc (.cells #[Value.bool false, Value.slice none 0 0] 24))
  have hszo : w.heap.size + 1 + 1 + 1 + 1 = ((((w.alloc (.cells #[Value.bool true, Value.slice A0 l0 c0] 24)).alloc (.cells #[Value.bool false, Value.slice A1 l1 c1] 24)).alloc (.cells #[Value.bool false, Value.slice none 0 0] 24)).alloc (.cells #[Value.bool false, Value.slice none 0 0] 24)).heap.size := by simp
  simp only [World.size_alloc] at hb1 hb2 hb3
  generalize (((w.alloc (.cells #[Value.bool true, Value.slice A0 l0 c0] 24)).alloc (.cells #[Value.bool false, Value.slice A1 l1 c1] 24)).alloc (.cells #[Value.bool false, Value.slice none 0 0] 24)).alloc (.cells #[Value.bool false, Value.slice none 0 0] 24) = wo at *
  have HX := Lib.hid hxo
  have HX0 := Lib.hid hxo
  have HZ : Hid (w.heap.size + 1 + 1 + 1 + 1 ≤ wo.heap.size) := Lib.hid (by omega)
  have HB0 := Lib.hid hb0
  have HB1 := Lib.hid hb1
  have HB2 := Lib.hid hb2
  have HB3 := Lib.hid hb3
  clear hxo hszo hb0 hb1 hb2 hb3
  have HW := Lib.hid (Ext.refl wo)
  refine (HQD.out _ _ _ (H0.out.mag.ext HX.out) (H1.out.mag.ext HX.out)).mono ?_
  rintro e w11 ⟨r10, r10b, rfl, hi10, hj10, hx10⟩
  have HX := Lib.hid (HX.out.trans hx10)
  have HW := Lib.hid (HW.out.trans hx10)
  have HB0 := Lib.hid (HB0.out.ext hx10)
  have HB1 := Lib.hid (HB1.out.ext hx10)
  have HB2 := Lib.hid (HB2.out.ext hx10)
  have HB3 := Lib.hid (HB3.out.ext hx10)
  clear hx10
  have RQ := Lib.hid hi10
  have RR := Lib.hid hj10
  obtain ⟨g10, G10, j10, rfl⟩ := hi10.shape
  obtain ⟨y10, Y10, z10, rfl⟩ := hj10.shape
  have hrlen := RR.out.len
  clear hi10 hj10
  have HQB := Lib.hid (Nat.le_trans HZ.out HW.out.size)
  rw [← hrlen] at hrp
  have hrp2 : (0 : Int) < (y10 : Int) := by omega
  have hrp3 : decide (0 < y10) = true := decide_eq_true hrp
  clear hrlen hrp
  obtain ⟨hb0_0, hb0_1, hb0_2, hb0_3, hb0_4⟩ := HB0.out.two
  obtain ⟨hb1_0, hb1_1, hb1_2, hb1_3, hb1_4⟩ := HB1.out.two
  obtain ⟨hb2_0, hb2_1, hb2_2, hb2_3, hb2_4⟩ := HB2.out.two
  obtain ⟨hb3_0, hb3_1, hb3_2, hb3_3, hb3_4⟩ := HB3.out.two
  go_wp2_with fail
  clear hb0_0 hb0_1 hb0_2 hb0_3 hb0_4 hb1_0 hb1_1 hb1_2 hb1_3 hb1_4 hb2_0 hb2_1 hb2_2 hb2_3 hb2_4 hb3_0 hb3_1 hb3_2 hb3_3 hb3_4
  refine (HN1.out _ _ RQ.out.arr).mono ?_
  rintro e w12 ⟨r11, rfl, hi11, hx11⟩
  have HX := Lib.hid (HX.out.trans hx11)
  have HW := Lib.hid (HW.out.trans hx11)
  have RQ := Lib.hid (RQ.out.ext hx11)
  have RR := Lib.hid (RR.out.ext hx11)
  have HB0 := Lib.hid (HB0.out.ext hx11)
  have HB1 := Lib.hid (HB1.out.ext hx11)
  have HB2 := Lib.hid (HB2.out.ext hx11)
  have HB3 := Lib.hid (HB3.out.ext hx11)
  have QO := Lib.hid hi11
  obtain ⟨f11, g11, G11, j11, rfl⟩ := hi11.shape
  clear hi11
  clear hx11
  obtain ⟨hb0_0, hb0_1, hb0_2, hb0_3, hb0_4⟩ := HB0.out.two
  obtain ⟨hb1_0, hb1_1, hb1_2, hb1_3, hb1_4⟩ := HB1.out.two
  obtain ⟨hb2_0, hb2_1, hb2_2, hb2_3, hb2_4⟩ := HB2.out.two
  obtain ⟨hb3_0, hb3_1, hb3_2, hb3_3, hb3_4⟩ := HB3.out.two
  go_upto_region 5 with fail
  have HLO := Lib.hid (Nat.le_trans HZ.out HW.out.size)
  have HLO2 := Lib.hid HW.out.size
  clear hb0_0 hb0_1 hb0_2 hb0_3 hb0_4 hb1_0 hb1_1 hb1_2 hb1_3 hb1_4 hb2_0 hb2_1 hb2_2 hb2_3 hb2_4 hb3_0 hb3_1 hb3_2 hb3_3 hb3_4
  have hb12 := Blk.new w12 24 #[Value.bool f11, Value.slice G11 g11 j11]
  have hx12 := (Ext.refl w12).alloc (.cells #[Value.bool f11, Value.slice G11 g11 j11] 24)
  have HX := Lib.hid (HX.out.trans hx12)
  have HW := Lib.hid (HW.out.trans hx12)
  have RQ := Lib.hid (RQ.out.ext hx12)
  have RR := Lib.hid (RR.out.ext hx12)
  have QO := Lib.hid (QO.out.ext hx12)
  have HB0 := Lib.hid (HB0.out.ext hx12)
  have HB1 := Lib.hid (HB1.out.ext hx12)
  have HB2 := Lib.hid (HB2.out.ext hx12)
  have HB3 := Lib.hid (HB3.out.ext hx12)
  have BO := Lib.hid hb12
  generalize w12.alloc (.cells #[Value.bool f11, Value.slice G11 g11 j11] 24) = w13 at *
  generalize w12.heap.size = a12 at *
  clear hb12 hx12
  have HLB := Lib.hid BO.out.lt
  obtain ⟨hb0_0, hb0_1, hb0_2, hb0_3, hb0_4⟩ := HB0.out.two
  obtain ⟨hb1_0, hb1_1, hb1_2, hb1_3, hb1_4⟩ := HB1.out.two
  obtain ⟨hb2_0, hb2_1, hb2_2, hb2_3, hb2_4⟩ := HB2.out.two
  obtain ⟨hb3_0, hb3_1, hb3_2, hb3_3, hb3_4⟩ := HB3.out.two
  obtain ⟨bo_0, bo_1, bo_2, bo_3, bo_4⟩ := BO.out.two
  go_upto_region 6 with fail
  go_cut [9] from 41 to 43 (fun s9 wx => ∃ (f9 : Bool) (g9 : Nat) (G9 : Option Addr) (j9 : Nat), s9 = .bool true ∧ Blk wx a12 24 #[Value.bool f9, Value.slice G9 g9 j9] ∧ IsInt (w.heap.size + 1 + 1 + 1 + 1) wx (.agg #[.bool f9, .slice G9 g9 j9]) zq ∧ Blk wx (w.heap.size) 24 #[Value.bool true, Value.slice A0 l0 c0] ∧ Blk wx (w.heap.size + 1) 24 #[Value.bool false, Value.slice A1 l1 c1] ∧ Blk wx (w.heap.size + 1 + 1) 24 #[Value.bool false, Value.slice none 0 0] ∧ Blk wx (w.heap.size + 1 + 1 + 1) 24 #[Value.bool false, Value.slice none 0 0] ∧ Ext wo wx)
  case first =>
    have HE0 := Lib.hid (Ext.refl w13).drew
    have QOd := Lib.hid (QO.out.ext HE0.out)
    go_region_law (first
      | (go_simp; go_at_call 142; have hchk := hx8; refine (HSB.out _ _ _ QOd.out.arr R8.out.arr).mono ?_; rintro e w9 ⟨r9, rfl, hi9, hx9⟩; have R9 := Lib.hid hi9; have HE2 : Hid (Ext w13 w9) := Lib.hid (HE1.out.trans hx9); obtain ⟨f9, g9, G9, j9, rfl⟩ := hi9.shape; clear hi9 hx8 hb0_0 hb0_1 hb0_2 hb0_3 hb0_4 hb1_0 hb1_1 hb1_2 hb1_3 hb1_4 hb2_0 hb2_1 hb2_2 hb2_3 hb2_4 hb3_0 hb3_1 hb3_2 hb3_3 hb3_4 bo_0 bo_1 bo_2 bo_3 bo_4; obtain ⟨hb0_0, hb0_1, hb0_2, hb0_3, hb0_4⟩ := (HB0.out.ext HE2.out).two; obtain ⟨hb1_0, hb1_1, hb1_2, hb1_3, hb1_4⟩ := (HB1.out.ext HE2.out).two; obtain ⟨hb2_0, hb2_1, hb2_2, hb2_3, hb2_4⟩ := (HB2.out.ext HE2.out).two; obtain ⟨hb3_0, hb3_1, hb3_2, hb3_3, hb3_4⟩ := (HB3.out.ext HE2.out).two; obtain ⟨bo_0, bo_1, bo_2, bo_3, bo_4⟩ := (BO.out.ext HE2.out).two; )
      | (go_simp; go_at_call 57; refine (HOF.out _).mono ?_; rintro e w8 ⟨r8, rfl, hi8, hx8⟩; have R8 := Lib.hid hi8; have HE1 : Hid (Ext w13 w8) := Lib.hid (HE0.out.trans hx8); have QOd := Lib.hid (QOd.out.ext hx8); obtain ⟨f8, g8, G8, j8, rfl⟩ := hi8.shape; clear hi8 hb0_0 hb0_1 hb0_2 hb0_3 hb0_4 hb1_0 hb1_1 hb1_2 hb1_3 hb1_4 hb2_0 hb2_1 hb2_2 hb2_3 hb2_4 hb3_0 hb3_1 hb3_2 hb3_3 hb3_4 bo_0 bo_1 bo_2 bo_3 bo_4; obtain ⟨hb0_0, hb0_1, hb0_2, hb0_3, hb0_4⟩ := (HB0.out.ext HE1.out).two; obtain ⟨hb1_0, hb1_1, hb1_2, hb1_3, hb1_4⟩ := (HB1.out.ext HE1.out).two; obtain ⟨hb2_0, hb2_1, hb2_2, hb2_3, hb2_4⟩ := (HB2.out.ext HE1.out).two; obtain ⟨hb3_0, hb3_1, hb3_2, hb3_3, hb3_4⟩ := (HB3.out.ext HE1.out).two; obtain ⟨bo_0, bo_1, bo_2, bo_3, bo_4⟩ := (BO.out.ext HE1.out).two; ))
    all_goals go_wp2_with fail
    all_goals go_meet
    all_goals have hlo := HLO.out
    all_goals have hzz := HZ.out
    all_goals have h01 := HE1.out.size
    all_goals have h0w := HLO2.out
    all_goals have hlb := HLB.out
    all_goals exact ⟨_, _, _, _, rfl, ((BO.out.ext HE2.out).set_ 0 (.bool f9)).set_ 1 (.slice G9 g9 j9), ((R9.out.far (p := ⟨a12, 0, none⟩) (by first | omega | (simp <;> omega)) (.bool f9)).far (p := ⟨a12, 1, none⟩) (by first | omega | (simp <;> omega)) (.slice G9 g9 j9)).mono (by first | omega | (simp <;> omega)), (((HB0.out.ext HE2.out).far (p := ⟨a12, 0, none⟩) (show _ ≠ _ by (try simp only) <;> omega) (.bool f9)).far (p := ⟨a12, 1, none⟩) (show _ ≠ _ by (try simp only) <;> omega) (.slice G9 g9 j9)), (((HB1.out.ext HE2.out).far (p := ⟨a12, 0, none⟩) (show _ ≠ _ by (try simp only) <;> omega) (.bool f9)).far (p := ⟨a12, 1, none⟩) (show _ ≠ _ by (try simp only) <;> omega) (.slice G9 g9 j9)), (((HB2.out.ext HE2.out).far (p := ⟨a12, 0, none⟩) (show _ ≠ _ by (try simp only) <;> omega) (.bool f9)).far (p := ⟨a12, 1, none⟩) (show _ ≠ _ by (try simp only) <;> omega) (.slice G9 g9 j9)), (((HB3.out.ext HE2.out).far (p := ⟨a12, 0, none⟩) (show _ ≠ _ by (try simp only) <;> omega) (.bool f9)).far (p := ⟨a12, 1, none⟩) (show _ ≠ _ by (try simp only) <;> omega) (.slice G9 g9 j9)), (((HW.out.trans HE2.out).setCell (p := ⟨a12, 0, none⟩) (show wo.heap.size ≤ _ by (try simp only) <;> omega) (.bool f9)).setCell (p := ⟨a12, 1, none⟩) (show wo.heap.size ≤ _ by (try simp only) <;> omega) (.slice G9 g9 j9))⟩
  case rest =>
  obtain ⟨f9, g9, G9, j9, rfl, hBO, hQO, hb0, hb1, hb2, hb3, hxw⟩ := hcut
  clear BO QO HB0 HB1 HB2 HB3 HLB RQ RR
  generalize wc = w30 at *
  have BO := Lib.hid hBO
  have QO := Lib.hid hQO
  have HX := Lib.hid (HX0.out.trans hxw)
  have HW := Lib.hid hxw
  have HB0 := Lib.hid hb0
  have HB1 := Lib.hid hb1
  have HB2 := Lib.hid hb2
  have HB3 := Lib.hid hb3
  clear hBO hQO hb0 hb1 hb2 hb3 hxw
  obtain ⟨hb0_0, hb0_1, hb0_2, hb0_3, hb0_4⟩ := HB0.out.two
  obtain ⟨hb1_0, hb1_1, hb1_2, hb1_3, hb1_4⟩ := HB1.out.two
  obtain ⟨hb2_0, hb2_1, hb2_2, hb2_3, hb2_4⟩ := HB2.out.two
  obtain ⟨hb3_0, hb3_1, hb3_2, hb3_3, hb3_4⟩ := HB3.out.two
  obtain ⟨bo_0, bo_1, bo_2, bo_3, bo_4⟩ := BO.out.two
  go_upto_region 7 with fail
  have QOd := Lib.hid (QO.out.ext (Ext.refl _).drew)
  have hzz := HZ.out
  have hlo := HLO.out
  have hwx : wo.heap.size ≤ w30.heap.size := HW.out.size
  go_region_held3 (fun w' => Ext w w' ∧ w'.cell? ⟨w.heap.size, 0, none⟩ = some (Value.bool true) ∧ w'.cell? ⟨w.heap.size, 1, none⟩ = some (Value.slice A0 l0 c0) ∧ w'.cell? ⟨w.heap.size + 1, 0, none⟩ = some (Value.bool false) ∧ w'.cell? ⟨w.heap.size + 1, 1, none⟩ = some (Value.slice A1 l1 c1) ∧ w'.cell? ⟨a12, 0, none⟩ = some (Value.bool f9) ∧ w'.cell? ⟨a12, 1, none⟩ = some (Value.slice G9 g9 j9) ∧ w'.cell? ⟨w.heap.size + 1 + 1, 0, none⟩ = some (was w' (w.heap.size + 1 + 1) 0) ∧ w'.cell? ⟨w.heap.size + 1 + 1, 1, none⟩ = some (was w' (w.heap.size + 1 + 1) 1) ∧ w'.cell? ⟨w.heap.size + 1 + 1 + 1, 0, none⟩ = some (was w' (w.heap.size + 1 + 1 + 1) 0) ∧ w'.cell? ⟨w.heap.size + 1 + 1 + 1, 1, none⟩ = some (was w' (w.heap.size + 1 + 1 + 1) 1) ∧ w'.frozen? ⟨w.heap.size + 1 + 1, 0, none⟩ = false ∧ w'.frozen? ⟨w.heap.size + 1 + 1, 1, none⟩ = false ∧ w'.frozen? ⟨w.heap.size + 1 + 1 + 1, 0, none⟩ = false ∧ w'.frozen? ⟨w.heap.size + 1 + 1 + 1, 1, none⟩ = false)
    (first | (exact ⟨HX.out.drew, hb0_0, hb0_1, hb1_0, hb1_1, bo_0, bo_1, was_some (w := w30.drew) hb2_0, was_some (w := w30.drew) hb2_1, was_some (w := w30.drew) hb3_0, was_some (w := w30.drew) hb3_1, hb2_2, hb2_3, hb3_2, hb3_3⟩) | (exact keptD6 (by assumption) (by assumption)) | (exact keptD6_set (by assumption) (by omega) (by omega) (by omega) (by omega) (by omega) (by omega) (by omega)))
    (first
      | (go_at_call 142; have hchk32 := hz31; refine (HSB2.out _ _ _ (H0.out.ext (And.left (by assumption))) S1.out.arr).mono ?_; rintro e w33 ⟨r32, rfl, hi32, hx32⟩; have hz32 := hx32.size; have QOd := Lib.hid (QOd.out.ext hx32); have S1 := Lib.hid (S1.out.ext hx32); have S2 := Lib.hid hi32; obtain ⟨f32, g32, G32, j32, rfl⟩ := hi32.shape)
      | (go_at_call 58; refine (HML.out _ _ _ QOd.out.arr (H1.out.ext (And.left (by assumption)))).mono ?_; rintro e w32 ⟨r31, rfl, hi31, hx31⟩; have hz31 := hx31.size; have S1 := Lib.hid hi31; have QOd := Lib.hid (QOd.out.ext hx31); obtain ⟨f31, g31, G31, j31, rfl⟩ := hi31.shape))
  all_goals go_wp2_with fail
  rename_i hS
  obtain ⟨hE, _, _, _, _, _, _, c0, c1, c2, c3, _, _, _, _⟩ := hS
  simp only [World.size_drew] at hz31
  obtain ⟨hr0, hr1, hr2, hr3⟩ := final22 c0 c1 c2 c3 (by omega)
  refine bodyPost_ret (v := .tuple #[.agg #[(Value.bool f9), (Value.slice G9 g9 j9)], .agg #[.bool f32, .slice G32 g32 j32], .bool true]) (by simp [results, Tryz.results96, go_sem, hr0, hr1, hr2, hr3]) rfl ?_
  have hqb := HQB.out
  exact ⟨_, _, _, rfl, ((((QOd.out.far (p := ⟨w.heap.size + 1 + 1, 0, none⟩) (by first | omega | (simp <;> omega)) (Value.bool f9)).far (p := ⟨w.heap.size + 1 + 1, 1, none⟩) (by first | omega | (simp <;> omega)) (Value.slice G9 g9 j9)).far (p := ⟨w.heap.size + 1 + 1 + 1, 0, none⟩) (by first | omega | (simp <;> omega)) (.bool f32)).far (p := ⟨w.heap.size + 1 + 1 + 1, 1, none⟩) (by first | omega | (simp <;> omega)) (.slice G32 g32 j32)).mono (by first | omega | (simp <;> omega)), ((((S2.out.far (p := ⟨w.heap.size + 1 + 1, 0, none⟩) (by first | omega | (simp <;> omega)) (Value.bool f9)).far (p := ⟨w.heap.size + 1 + 1, 1, none⟩) (by first | omega | (simp <;> omega)) (Value.slice G9 g9 j9)).far (p := ⟨w.heap.size + 1 + 1 + 1, 0, none⟩) (by first | omega | (simp <;> omega)) (.bool f32)).far (p := ⟨w.heap.size + 1 + 1 + 1, 1, none⟩) (by first | omega | (simp <;> omega)) (.slice G32 g32 j32)).mono (by first | omega | (simp <;> omega)), hE⟩
end Big
end Go.Proofs.YtplmldkfgeiklaaGreatDoor
/- rational.Floor, ref07.Floor. Printed by a program. -/
namespace Go.Proofs.YtplmldkfgeiklaaGreatDoor
namespace Big
open Go.RowKit
theorem idm_any (w : World) (v0 : Value) (x : Int) (h0 : ArrInt w v0 x) (n0 : (limbs x.natAbs).length ≤ 1000000) (v1 : Value) (d : Nat) (h1 : ArrInt w v1 (d : Int)) (n1 : (limbs d).length ≤ 1000000) (hd : 0 < d) :
    Calls Tryz.prog 95 #[v0, v1] w fun e w' => ∃ v' u' z, e = .returned (.tuple #[v', u', .bool true]) ∧ IsInt w.heap.size w' v' (x / (d : Int)) ∧ IsInt w.heap.size w' u' z ∧ Ext w w' := by
  by_cases h : ¬ x < 0 ∨ x.natAbs % d = 0
  · exact idm_b w v0 x h0 n0 v1 d h1 n1 hd h
  · exact idm_a w v0 x h0 n0 v1 d h1 n1 hd (by omega) (fun e => h (.inr e))
theorem rdm_any (w : World) (v0 : Value) (x : Int) (h0 : ArrInt w v0 x) (n0 : (limbs x.natAbs).length ≤ 1000000) (v1 : Value) (d : Nat) (h1 : ArrInt w v1 (d : Int)) (n1 : (limbs d).length ≤ 1000000) (hd : 0 < d) :
    Calls Tryz.prog 96 #[v0, v1] w fun e w' => ∃ v' u' z, e = .returned (.tuple #[v', u', .bool true]) ∧ IsInt w.heap.size w' v' (x / (d : Int)) ∧ IsInt w.heap.size w' u' z ∧ Ext w w' := by
  by_cases h : ¬ x < 0 ∨ x.natAbs % d = 0
  · exact rdm_b w v0 x h0 n0 v1 d h1 n1 hd h
  · exact rdm_a w v0 x h0 n0 v1 d h1 n1 hd (by omega) (fun e => h (.inr e))
theorem Blk.to {w : World} {g : Nat} {t : TypeId} {cs cs' : Array Value} (h : Blk w g t cs) (e : cs = cs') : Blk w g t cs' := e ▸ h
theorem Blk.new' {w w' : World} {g : Nat} {t : TypeId} {cs : Array Value} (hw : w' = w.alloc (.cells cs t)) (hg : g = w.heap.size) : Blk w' g t cs := by subst hw; subst hg; exact Blk.new w t cs
theorem IsInt.far2 {B : Nat} {w : World} {v : Value} {z : Int} (h : IsInt B w v z) {g : Nat} (hg : g < B) (a b : Value) : IsInt B ((w.setCell ⟨g, 0, none⟩ a).setCell ⟨g, 1, none⟩ b) v z := (h.far (p := ⟨g, 0, none⟩) hg a).far (p := ⟨g, 1, none⟩) hg b
set_option maxHeartbeats 4000000 in
set_option maxRecDepth 100000 in
theorem pfloor_any (w : World) (v0 : Value) (p : Int) (q : Nat) (h0 : ArrRat w v0 p q) (n0 : (limbs p.natAbs).length ≤ 1000000) (m0 : (limbs q).length ≤ 1000000) (hq : 0 < q) :
    Calls Tryz.prog 34 #[v0] w fun e w' => ∃ v', e = .returned v' ∧ IsInt w.heap.size w' v' (p / (q : Int)) ∧ Ext w w' := by
  have H0 := Lib.hid h0
  have HN := Lib.hid (fun W m a => inat_any W false m (limbs q) a (by omega))
  rw [val_limbs, show sgn false q = (q : Int) from rfl] at HN
  have HDM := Lib.hid (fun W v u a b => idm_any W v p a n0 u q b m0 hq)
  obtain ⟨b0, l0, A0, c0, k0, D0, e0, rfl⟩ := h0.shape
  clear h0 hq n0 m0
  generalize p / (q : Int) = zq at *
  go_enter Tryz.func34, Tryz.ntmps34
  go_wp2_with fail
  have hb0 := ((Blk.new w 26 #[Value.bool b0, Value.slice A0 l0 c0, Value.slice D0 k0 e0]).alloc (.cells #[Value.bool false, Value.slice none 0 0] 24))
  have hb1 := (Blk.new (w.alloc (.cells #[Value.bool b0, Value.slice A0 l0 c0, Value.slice D0 k0 e0] 26)) 24 #[Value.bool false, Value.slice none 0 0])
  have hxo := (((Ext.refl w).alloc (.cells #[Value.bool b0, Value.slice A0 l0 c0, Value.slice D0 k0 e0] 26)).alloc (.cells #[Value.bool false, Value.slice none 0 0] 24))
  have hszo : w.heap.size + 1 + 1 = ((w.alloc (.cells #[Value.bool b0, Value.slice A0 l0 c0, Value.slice D0 k0 e0] 26)).alloc (.cells #[Value.bool false, Value.slice none 0 0] 24)).heap.size := by simp
  simp only [World.size_alloc] at hb1
  generalize (w.alloc (.cells #[Value.bool b0, Value.slice A0 l0 c0, Value.slice D0 k0 e0] 26)).alloc (.cells #[Value.bool false, Value.slice none 0 0] 24) = wo at *
  have HX := Lib.hid hxo
  have HB1 := Lib.hid hb1
  have HZ : Hid (w.heap.size + 1 + 1 ≤ wo.heap.size) := Lib.hid (by omega)
  have hc : ∀ w', Ext wo w' → w'.cell? ⟨w.heap.size, 0, none⟩ = some (Value.bool b0) ∧ w'.cell? ⟨w.heap.size, 1, none⟩ = some (Value.slice A0 l0 c0) ∧ w'.cell? ⟨w.heap.size, 2, none⟩ = some (Value.slice D0 k0 e0) := fun w' hx => by
    obtain ⟨a, b, c, _⟩ := (hb0.ext hx).three
    exact ⟨a, b, c⟩
  have hc0 := fun w' hx => (hc w' hx).1
  have hc1 := fun w' hx => (hc w' hx).2.1
  have hc2 := fun w' hx => (hc w' hx).2.2
  clear hc hb0 hb1 hxo hszo
  go_upto_region 1 with fail
  have hzz := HZ.out
  go_cut [3, 4] from 6 to 15 (fun s3 s4 wx => ∃ (g : Nat) (f9 : Bool) (g9 : Nat) (G9 : Option Addr) (j9 : Nat), s3 = .pointer (some ⟨g, 0, none⟩) ∧ Blk wx g 24 #[Value.bool f9, Value.slice G9 g9 j9] ∧ IsInt (w.heap.size + 1 + 1) wx (.agg #[.bool f9, .slice G9 g9 j9]) zq ∧ Ext wo wx)
  case first =>
    go_region_held3 (fun w' => Ext wo w')
      (repeat' (first | assumption | (exact HE2.out) | (exact HE1.out) | (exact Ext.refl _) | (refine Ext.drew ?_) | (exact Ext.trans (by assumption) (by assumption)) | (refine Ext.alloc ?_ _) | (refine Ext.setCell ?_ (by first | omega | (simp <;> omega)) _)))
      (first
        | (go_at_call 95; have hchk1 := hz0; refine (HDM.out _ _ _ (H0.out.int.ext (HX.out.trans (by assumption))) (by first | exact R0.out.arr | exact R0.out.arr.ext ((Ext.refl _).alloc _) | exact R0.out.arr.ext (((Ext.refl _).alloc _).alloc _))).mono ?_; rintro e w2 ⟨r1, r1b, zr, rfl, hi1, hj1, hx1⟩; have HE2 : Hid (Ext wo w2) := Lib.hid (Ext.trans (by assumption) hx1); have hz1 := hx1.size; (try simp only [World.size_alloc] at hz1); (first | (have hbB := hbB.ext hx1) | (have hc := hbA; have hbB := (Blk.new w1 24 #[Value.bool false, Value.slice none 0 0]).ext hx1; clear hc) | (have hbB := (Blk.new (w1.alloc (.cells #[Value.bool false, Value.slice none 0 0] 24)) 24 #[Value.bool false, Value.slice none 0 0]).ext hx1) | skip); (first | (have hbA := hbA.ext hx1) | (have hbA := (hbA.alloc _).ext hx1) | (have hbA := (Blk.new w1 24 #[Value.bool false, Value.slice none 0 0]).ext hx1) | (have hbA := ((Blk.new w1 24 #[Value.bool false, Value.slice none 0 0]).alloc _).ext hx1) | skip); (try simp only [World.size_alloc, World.size_drew] at hbA); (try simp only [World.size_alloc, World.size_drew] at hbB); (try (clear ka0 ka1 kaf0 kaf1 kaz)); (try (clear kb0 kb1 kbf0 kbf1 kbz)); (try (obtain ⟨ka0, ka1, kaf0, kaf1, kaz⟩ := hbA.two)); (try (obtain ⟨kb0, kb1, kbf0, kbf1, kbz⟩ := hbB.two)); have R1 := Lib.hid hi1; have S1 := Lib.hid hj1; obtain ⟨f1, g1, G1, j1, rfl⟩ := hi1.shape; obtain ⟨f2, g2, G2, j2, rfl⟩ := hj1.shape)
        | (go_at_call 77; refine (HN.out _ _ (H0.out.den.ext (HX.out.trans (by assumption)))).mono ?_; rintro e w1 ⟨r0, rfl, hi0, hx0⟩; have HE1 : Hid (Ext wo w1) := Lib.hid (Ext.trans (by assumption) hx0); have hz0 := hx0.size; (try simp only [World.size_alloc, World.size_drew] at hz0); (first | (have hbB := (Blk.new (wo.drew.alloc (.cells #[Value.bool false, Value.slice none 0 0] 24)) 24 #[Value.bool false, Value.slice none 0 0]).ext hx0) | (have hbB := ((Blk.new (wo.alloc (.cells #[Value.bool false, Value.slice none 0 0] 24)) 24 #[Value.bool false, Value.slice none 0 0]).drew).ext hx0) | skip); (first | (have hbA := (Blk.new wo.drew 24 #[Value.bool false, Value.slice none 0 0]).ext hx0) | (have hbA := ((Blk.new wo 24 #[Value.bool false, Value.slice none 0 0]).drew).ext hx0) | (have hbA := ((Blk.new wo.drew 24 #[Value.bool false, Value.slice none 0 0]).alloc _).ext hx0) | (have hbA := (((Blk.new wo 24 #[Value.bool false, Value.slice none 0 0]).alloc _).drew).ext hx0) | skip); (try simp only [World.size_alloc, World.size_drew] at hbA); (try simp only [World.size_alloc, World.size_drew] at hbB); (try (obtain ⟨ka0, ka1, kaf0, kaf1, kaz⟩ := hbA.two)); (try (obtain ⟨kb0, kb1, kbf0, kbf1, kbz⟩ := hbB.two)); have R0 := Lib.hid hi0; obtain ⟨f0, g0, G0, j0, rfl⟩ := hi0.shape))
    all_goals rename_i hF
    all_goals go_wp2_with fail
    all_goals go_meet
    all_goals have h1z := HE1.out.size
    all_goals refine ⟨_, f1, g1, G1, j1, rfl, ?_, ?_, hF⟩
    all_goals first
      | with_reducible exact ((R1.out.far2 (by first | omega | (simp <;> omega)) _ _).far2 (by first | omega | (simp <;> omega)) _ _).mono (by first | omega | (simp <;> omega))
      | with_reducible exact ((R1.out.far2 (by first | omega | (simp <;> omega)) _ _).ext ((Ext.refl _).alloc _)).mono (by first | omega | (simp <;> omega))
      | with_reducible exact ((R1.out.ext ((Ext.refl _).alloc _)).far2 (by first | omega | (simp <;> omega)) _ _).mono (by first | omega | (simp <;> omega))
      | with_reducible exact ((R1.out.ext ((Ext.refl _).alloc _)).ext ((Ext.refl _).alloc _)).mono (by first | omega | (simp <;> omega))
      | ((with_reducible refine Blk.to ((((hbA.set_ 0 (.bool f1)).set_ 1 (.slice G1 g1 j1)).far (by first | omega | (simp <;> omega)) _).far (by first | omega | (simp <;> omega)) _) ?_); rfl)
      | ((with_reducible refine Blk.to ((((hbB.set_ 0 (.bool f1)).set_ 1 (.slice G1 g1 j1)).far (by first | omega | (simp <;> omega)) _).far (by first | omega | (simp <;> omega)) _) ?_); rfl)
      | ((with_reducible refine Blk.to (((hbA.alloc _).set_ 0 (.bool f1)).set_ 1 (.slice G1 g1 j1)) ?_); rfl)
      | ((with_reducible refine Blk.to (((hbA.set_ 0 (.bool f1)).set_ 1 (.slice G1 g1 j1)).alloc _) ?_); rfl)
      | with_reducible exact (((Blk.new w2 24 #[Value.bool f1, Value.slice G1 g1 j1]).far (by first | omega | (simp <;> omega)) _).far (by first | omega | (simp <;> omega)) _)
      | with_reducible exact ((Blk.new w2 24 #[Value.bool f1, Value.slice G1 g1 j1]).alloc _)
      | (have hq := Blk.new (w2.alloc (.cells #[Value.bool f2, Value.slice G2 g2 j2] 24)) 24 #[Value.bool f1, Value.slice G1 g1 j1]; simp only [World.size_alloc] at hq; (with_reducible exact hq))
      | (apply Blk.new'; (with_reducible rfl); (simp only [World.size_setCell]))
  case rest =>
  obtain ⟨g, f9, g9, G9, j9, rfl, hG, hI, hF⟩ := hcut
  have hBF := HB1.out.ext hF
  have HGB := Lib.hid hG
  have HI := Lib.hid hI
  obtain ⟨z0, z1, zf0, zf1, zz⟩ := hBF.two
  obtain ⟨y0, y1, yf0, yf1, yz⟩ := hG.two
  clear hI
  go_wp2_with fail
  obtain ⟨hr0, hr1⟩ := two_set' hBF (.bool f9) (.slice G9 g9 j9)
  refine bodyPost_ret (v := .agg #[.bool f9, .slice G9 g9 j9]) (by simp [results, Tryz.results34, go_sem, hr0, hr1]) rfl ?_
  exact ⟨_, rfl, (HI.out.far2 (by omega) _ _).mono (by omega), ((HX.out.trans hF).setCell (Nat.le_succ _) _).setCell (Nat.le_succ _) _⟩
set_option maxHeartbeats 4000000 in
set_option maxRecDepth 100000 in
theorem rfloor_any (w : World) (v0 : Value) (p : Int) (q : Nat) (h0 : ArrRat w v0 p q) (n0 : (limbs p.natAbs).length ≤ 1000000) (m0 : (limbs q).length ≤ 1000000) (hq : 0 < q) :
    Calls Tryz.prog 37 #[v0] w fun e w' => ∃ v', e = .returned v' ∧ IsInt w.heap.size w' v' (p / (q : Int)) ∧ Ext w w' := by
  have H0 := Lib.hid h0
  have HN := Lib.hid (fun W v a => rden_any W v p q a n0 m0)
  have HDM := Lib.hid (fun W v u a b => rdm_any W v p a n0 u q b m0 hq)
  obtain ⟨b0, l0, A0, c0, k0, D0, e0, rfl⟩ := h0.shape
  clear h0 hq n0 m0
  generalize p / (q : Int) = zq at *
  go_enter Tryz.func37, Tryz.ntmps37
  go_wp2_with fail
  have hb0 := ((Blk.new w 26 #[Value.bool b0, Value.slice A0 l0 c0, Value.slice D0 k0 e0]).alloc (.cells #[Value.bool false, Value.slice none 0 0] 24))
  have hb1 := (Blk.new (w.alloc (.cells #[Value.bool b0, Value.slice A0 l0 c0, Value.slice D0 k0 e0] 26)) 24 #[Value.bool false, Value.slice none 0 0])
  have hxo := (((Ext.refl w).alloc (.cells #[Value.bool b0, Value.slice A0 l0 c0, Value.slice D0 k0 e0] 26)).alloc (.cells #[Value.bool false, Value.slice none 0 0] 24))
  have hszo : w.heap.size + 1 + 1 = ((w.alloc (.cells #[Value.bool b0, Value.slice A0 l0 c0, Value.slice D0 k0 e0] 26)).alloc (.cells #[Value.bool false, Value.slice none 0 0] 24)).heap.size := by simp
  simp only [World.size_alloc] at hb1
  generalize (w.alloc (.cells #[Value.bool b0, Value.slice A0 l0 c0, Value.slice D0 k0 e0] 26)).alloc (.cells #[Value.bool false, Value.slice none 0 0] 24) = wo at *
  have HX := Lib.hid hxo
  have HB1 := Lib.hid hb1
  have HZ : Hid (w.heap.size + 1 + 1 ≤ wo.heap.size) := Lib.hid (by omega)
  have hc : ∀ w', Ext wo w' → w'.cell? ⟨w.heap.size, 0, none⟩ = some (Value.bool b0) ∧ w'.cell? ⟨w.heap.size, 1, none⟩ = some (Value.slice A0 l0 c0) ∧ w'.cell? ⟨w.heap.size, 2, none⟩ = some (Value.slice D0 k0 e0) := fun w' hx => by
    obtain ⟨a, b, c, _⟩ := (hb0.ext hx).three
    exact ⟨a, b, c⟩
  have hc0 := fun w' hx => (hc w' hx).1
  have hc1 := fun w' hx => (hc w' hx).2.1
  have hc2 := fun w' hx => (hc w' hx).2.2
  clear hc hb0 hb1 hxo hszo
  go_upto_region 1 with fail
  have hzz := HZ.out
  go_cut [3, 4] from 6 to 15 (fun s3 s4 wx => ∃ (g : Nat) (f9 : Bool) (g9 : Nat) (G9 : Option Addr) (j9 : Nat), s3 = .pointer (some ⟨g, 0, none⟩) ∧ Blk wx g 24 #[Value.bool f9, Value.slice G9 g9 j9] ∧ IsInt (w.heap.size + 1 + 1) wx (.agg #[.bool f9, .slice G9 g9 j9]) zq ∧ Ext wo wx)
  case first =>
    go_region_held3 (fun w' => Ext wo w')
      (repeat' (first | assumption | (exact HE2.out) | (exact HE1.out) | (exact Ext.refl _) | (refine Ext.drew ?_) | (exact Ext.trans (by assumption) (by assumption)) | (refine Ext.alloc ?_ _) | (refine Ext.setCell ?_ (by first | omega | (simp <;> omega)) _)))
      (first
        | (go_at_call 96; have hchk1 := hz0; refine (HDM.out _ _ _ (H0.out.int.ext (HX.out.trans (by assumption))) (by first | exact R0.out.arr | exact R0.out.arr.ext ((Ext.refl _).alloc _) | exact R0.out.arr.ext (((Ext.refl _).alloc _).alloc _))).mono ?_; rintro e w2 ⟨r1, r1b, zr, rfl, hi1, hj1, hx1⟩; have HE2 : Hid (Ext wo w2) := Lib.hid (Ext.trans (by assumption) hx1); have hz1 := hx1.size; (try simp only [World.size_alloc] at hz1); (first | (have hbB := hbB.ext hx1) | (have hc := hbA; have hbB := (Blk.new w1 24 #[Value.bool false, Value.slice none 0 0]).ext hx1; clear hc) | (have hbB := (Blk.new (w1.alloc (.cells #[Value.bool false, Value.slice none 0 0] 24)) 24 #[Value.bool false, Value.slice none 0 0]).ext hx1) | skip); (first | (have hbA := hbA.ext hx1) | (have hbA := (hbA.alloc _).ext hx1) | (have hbA := (Blk.new w1 24 #[Value.bool false, Value.slice none 0 0]).ext hx1) | (have hbA := ((Blk.new w1 24 #[Value.bool false, Value.slice none 0 0]).alloc _).ext hx1) | skip); (try simp only [World.size_alloc, World.size_drew] at hbA); (try simp only [World.size_alloc, World.size_drew] at hbB); (try (clear ka0 ka1 kaf0 kaf1 kaz)); (try (clear kb0 kb1 kbf0 kbf1 kbz)); (try (obtain ⟨ka0, ka1, kaf0, kaf1, kaz⟩ := hbA.two)); (try (obtain ⟨kb0, kb1, kbf0, kbf1, kbz⟩ := hbB.two)); have R1 := Lib.hid hi1; have S1 := Lib.hid hj1; obtain ⟨f1, g1, G1, j1, rfl⟩ := hi1.shape; obtain ⟨f2, g2, G2, j2, rfl⟩ := hj1.shape)
        | (go_at_call 59; refine (HN.out _ _ (H0.out.ext (HX.out.trans (by assumption)))).mono ?_; rintro e w1 ⟨r0, rfl, hi0, hx0⟩; have HE1 : Hid (Ext wo w1) := Lib.hid (Ext.trans (by assumption) hx0); have hz0 := hx0.size; (try simp only [World.size_alloc, World.size_drew] at hz0); (first | (have hbB := (Blk.new (wo.drew.alloc (.cells #[Value.bool false, Value.slice none 0 0] 24)) 24 #[Value.bool false, Value.slice none 0 0]).ext hx0) | (have hbB := ((Blk.new (wo.alloc (.cells #[Value.bool false, Value.slice none 0 0] 24)) 24 #[Value.bool false, Value.slice none 0 0]).drew).ext hx0) | skip); (first | (have hbA := (Blk.new wo.drew 24 #[Value.bool false, Value.slice none 0 0]).ext hx0) | (have hbA := ((Blk.new wo 24 #[Value.bool false, Value.slice none 0 0]).drew).ext hx0) | (have hbA := ((Blk.new wo.drew 24 #[Value.bool false, Value.slice none 0 0]).alloc _).ext hx0) | (have hbA := (((Blk.new wo 24 #[Value.bool false, Value.slice none 0 0]).alloc _).drew).ext hx0) | skip); (try simp only [World.size_alloc, World.size_drew] at hbA); (try simp only [World.size_alloc, World.size_drew] at hbB); (try (obtain ⟨ka0, ka1, kaf0, kaf1, kaz⟩ := hbA.two)); (try (obtain ⟨kb0, kb1, kbf0, kbf1, kbz⟩ := hbB.two)); have R0 := Lib.hid hi0; obtain ⟨f0, g0, G0, j0, rfl⟩ := hi0.shape))
    all_goals rename_i hF
    all_goals go_wp2_with fail
    all_goals go_meet
    all_goals have h1z := HE1.out.size
    all_goals refine ⟨_, f1, g1, G1, j1, rfl, ?_, ?_, hF⟩
    all_goals first
      | with_reducible exact ((R1.out.far2 (by first | omega | (simp <;> omega)) _ _).far2 (by first | omega | (simp <;> omega)) _ _).mono (by first | omega | (simp <;> omega))
      | with_reducible exact ((R1.out.far2 (by first | omega | (simp <;> omega)) _ _).ext ((Ext.refl _).alloc _)).mono (by first | omega | (simp <;> omega))
      | with_reducible exact ((R1.out.ext ((Ext.refl _).alloc _)).far2 (by first | omega | (simp <;> omega)) _ _).mono (by first | omega | (simp <;> omega))
      | with_reducible exact ((R1.out.ext ((Ext.refl _).alloc _)).ext ((Ext.refl _).alloc _)).mono (by first | omega | (simp <;> omega))
      | ((with_reducible refine Blk.to ((((hbA.set_ 0 (.bool f1)).set_ 1 (.slice G1 g1 j1)).far (by first | omega | (simp <;> omega)) _).far (by first | omega | (simp <;> omega)) _) ?_); rfl)
      | ((with_reducible refine Blk.to ((((hbB.set_ 0 (.bool f1)).set_ 1 (.slice G1 g1 j1)).far (by first | omega | (simp <;> omega)) _).far (by first | omega | (simp <;> omega)) _) ?_); rfl)
      | ((with_reducible refine Blk.to (((hbA.alloc _).set_ 0 (.bool f1)).set_ 1 (.slice G1 g1 j1)) ?_); rfl)
      | ((with_reducible refine Blk.to (((hbA.set_ 0 (.bool f1)).set_ 1 (.slice G1 g1 j1)).alloc _) ?_); rfl)
      | with_reducible exact (((Blk.new w2 24 #[Value.bool f1, Value.slice G1 g1 j1]).far (by first | omega | (simp <;> omega)) _).far (by first | omega | (simp <;> omega)) _)
      | with_reducible exact ((Blk.new w2 24 #[Value.bool f1, Value.slice G1 g1 j1]).alloc _)
      | (have hq := Blk.new (w2.alloc (.cells #[Value.bool f2, Value.slice G2 g2 j2] 24)) 24 #[Value.bool f1, Value.slice G1 g1 j1]; simp only [World.size_alloc] at hq; (with_reducible exact hq))
      | (apply Blk.new'; (with_reducible rfl); (simp only [World.size_setCell]))
  case rest =>
  obtain ⟨g, f9, g9, G9, j9, rfl, hG, hI, hF⟩ := hcut
  have hBF := HB1.out.ext hF
  have HGB := Lib.hid hG
  have HI := Lib.hid hI
  obtain ⟨z0, z1, zf0, zf1, zz⟩ := hBF.two
  obtain ⟨y0, y1, yf0, yf1, yz⟩ := hG.two
  clear hI
  go_wp2_with fail
  obtain ⟨hr0, hr1⟩ := two_set' hBF (.bool f9) (.slice G9 g9 j9)
  refine bodyPost_ret (v := .agg #[.bool f9, .slice G9 g9 j9]) (by simp [results, Tryz.results37, go_sem, hr0, hr1]) rfl ?_
  exact ⟨_, rfl, (HI.out.far2 (by omega) _ _).mono (by omega), ((HX.out.trans hF).setCell (Nat.le_succ _) _).setCell (Nat.le_succ _) _⟩
end Big
end Go.Proofs.YtplmldkfgeiklaaGreatDoor
/- ref03.Divides, Exact; the document's strip. -/
namespace Go.Proofs.YtplmldkfgeiklaaGreatDoor
namespace Big
open Go.RowKit
theorem limbs_len_pos {B : Nat} (h : 0 < B) : 0 < (limbs B).length := by
  rw [List.length_pos_iff]
  intro e
  rw [limbs_eq_nil] at e
  omega
set_option maxRecDepth 100000 in
theorem rdivides_any (w : World) (v u : Value) (B A : Nat) (h : Arr w v (limbs B)) (h' : Arr w u (limbs A)) (hn : (limbs B).length ≤ 1000000) (hn' : (limbs A).length ≤ 1000000) (hB : 0 < B) :
    Calls Tryz.prog 153 #[v, u] w fun e w' => e = .returned (.bool (decide (A % B = 0))) ∧ Ext w w' := by
  have HD := Lib.hid (rdivmod_any w u v (limbs A) (limbs B) h' h (by omega) (by omega) (by rw [val_limbs]; exact hB))
  rw [val_limbs, val_limbs] at HD
  have hl := limbs_len_pos hB
  obtain ⟨_, A0, c0, rfl, _, _, _⟩ := h.open
  obtain ⟨_, A1, c1, rfl, _, _, _⟩ := h'.open
  have hb0 : (((limbs B).length : Int) == 0) = false := by rw [beq_eq_false_iff_ne]; omega
  clear h h' hn hn' hl
  generalize (limbs B).length = L0 at *
  generalize (limbs A).length = L1 at *
  obtain ⟨d, hd⟩ : ∃ d, decide (A % B = 0) = d := ⟨_, rfl⟩
  rw [hd]
  have HDD := Lib.hid hd
  clear hd
  go_enter Tryz.func153, Tryz.ntmps153
  go_wp2_with fail
  refine HD.out.mono ?_
  rintro e w1 ⟨r0, r1, rfl, hi0, hi1, hx0⟩
  have hl1 := hi1
  obtain ⟨g0, G0, j0, rfl⟩ := hi0.shape
  obtain ⟨g1, G1, j1, rfl⟩ := hi1.shape
  have hlen := hi1.len
  have HX := Lib.hid hx0
  have hgb : ((g1 : Int) == 0) = d := by
    rw [← HDD.out, hlen, Bool.eq_iff_iff, beq_iff_eq, decide_eq_true_iff]
    constructor
    · intro e
      rw [← limbs_eq_nil, ← List.length_eq_zero_iff]
      omega
    · intro e
      rw [e]
      rfl
  clear hl1 hi0 hi1 hx0 hlen HDD
  go_wp2_with fail
  go_ret
  exact ⟨rfl, HX.out⟩
set_option maxRecDepth 100000 in
theorem rexact_yes (w : World) (v u : Value) (A B : Nat) (h : Arr w v (limbs A)) (h' : Arr w u (limbs B)) (hn : (limbs A).length ≤ 1000000) (hn' : (limbs B).length ≤ 1000000) (hB : 0 < B) (hd : A % B = 0) :
    Calls Tryz.prog 122 #[v, u] w fun e w' => ∃ v', e = .returned (.tuple #[v', .bool true]) ∧ Own w.heap.size w' v' (limbs (A / B)) ∧ Ext w w' := by
  have HDV := Lib.hid (fun W (hx : Ext w W) => rdivides_any W u v B A (h'.ext hx) (h.ext hx) hn' hn hB)
  rw [decide_eq_true hd] at HDV
  have HQ := Lib.hid (fun W (hx : Ext w W) => rdiv_any W v u A B (h.ext hx) (h'.ext hx) (by omega) (by omega) hB)
  have hl := limbs_len_pos hB
  obtain ⟨_, A0, c0, rfl, _, _, _⟩ := h.open
  obtain ⟨_, A1, c1, rfl, _, _, _⟩ := h'.open
  have hb0 : (((limbs B).length : Int) == 0) = false := by rw [beq_eq_false_iff_ne]; omega
  have HX := Lib.hid (Ext.refl w)
  clear h h' hn hn' hl
  generalize (limbs B).length = L0 at *
  generalize (limbs A).length = L1 at *
  go_enter Tryz.func122, Tryz.ntmps122
  go_wp2_with fail
  refine (HDV.out _ HX.out).mono ?_
  rintro e w1 ⟨rfl, hx1⟩
  have HX := Lib.hid (HX.out.trans hx1)
  clear hx1
  go_wp2_with fail
  refine (HQ.out _ HX.out).mono ?_
  rintro e w2 ⟨r2, rfl, hi2, hx2⟩
  have R2 := Lib.hid (hi2.mono HX.out.size)
  have HX := Lib.hid (HX.out.trans hx2)
  obtain ⟨g2, G2, j2, rfl⟩ := hi2.shape
  clear hi2 hx2
  go_wp2_with fail
  go_ret2
  exact ⟨_, rfl, R2.out, HX.out⟩
set_option maxRecDepth 100000 in
theorem rexact_no (w : World) (v u : Value) (A B : Nat) (h : Arr w v (limbs A)) (h' : Arr w u (limbs B)) (hn : (limbs A).length ≤ 1000000) (hn' : (limbs B).length ≤ 1000000) (hB : 0 < B) (hd : ¬ A % B = 0) :
    Calls Tryz.prog 122 #[v, u] w fun e w' => e = .returned (.tuple #[.slice none 0 0, .bool false]) ∧ Ext w w' := by
  have HDV := Lib.hid (fun W (hx : Ext w W) => rdivides_any W u v B A (h'.ext hx) (h.ext hx) hn' hn hB)
  rw [decide_eq_false hd] at HDV
  have hl := limbs_len_pos hB
  obtain ⟨_, A0, c0, rfl, _, _, _⟩ := h.open
  obtain ⟨_, A1, c1, rfl, _, _, _⟩ := h'.open
  have hb0 : (((limbs B).length : Int) == 0) = false := by rw [beq_eq_false_iff_ne]; omega
  have HX := Lib.hid (Ext.refl w)
  clear h h' hn hn' hl
  generalize (limbs B).length = L0 at *
  generalize (limbs A).length = L1 at *
  go_enter Tryz.func122, Tryz.ntmps122
  go_wp2_with fail
  refine (HDV.out _ HX.out).mono ?_
  rintro e w1 ⟨rfl, hx1⟩
  have HX := Lib.hid (HX.out.trans hx1)
  clear hx1
  go_wp2_with fail
  go_ret2
  exact ⟨rfl, HX.out⟩
theorem strip_bound {V b n P L : Nat} (hP : 2 ≤ P) (h : V = b * P ^ n) (hV : 0 < V) (hL : (limbs V).length ≤ L) : n ≤ 32 * L := by
  have hb : 0 < b := by
    rcases Nat.eq_zero_or_pos b with e | e
    · rw [e, Nat.zero_mul] at h; omega
    · exact e
  have h1 : 2 ^ n ≤ V := by
    rw [h]
    exact Nat.le_trans (Nat.pow_le_pow_left hP n) (Nat.le_mul_of_pos_left _ hb)
  have h2 : V < 2 ^ (32 * L) := by
    rw [Nat.pow_mul]
    exact Nat.lt_of_lt_of_le (by have := val_lt (ok_limbs V); rw [val_limbs] at this; exact this) (Nat.pow_le_pow_right (by decide) hL)
  have h3 : 2 ^ n < 2 ^ (32 * L) := Nat.lt_of_le_of_lt h1 h2
  have := (Nat.pow_lt_pow_iff_right (by decide)).1 h3
  omega
set_option maxRecDepth 100000 in
theorem rstrip_any (w : World) (v0 : Value) (V P : Nat) (h0 : Arr w v0 (limbs V)) (hl : (limbs V).length ≤ 10000) (hV : 0 < V) (hP : 2 ≤ P) (hP2 : P < 4294967296) :
    Calls Tryz.prog 68 #[v0, .int .u64 (P : Int)] w fun e w' => ∃ v' b n, e = .returned (.tuple #[v', .int .i64 ((n : Nat) : Int)]) ∧ Arr w' v' (limbs b) ∧ Strip P V b n ∧ n ≤ 320000 ∧ Ext w w' := by
  have H0 := Lib.hid h0
  have HOF := Lib.hid (fun W => rof_any W P (by omega))
  have hpl : (limbs P).length ≤ 1 := length_limbs_le (by omega)
  have HYES := Lib.hid (fun W m m' (a : Nat) x y (ha : (limbs a).length ≤ 10000) hd => rexact_yes W m m' a P x y (by omega) (by omega) (by omega) hd)
  have HNO := Lib.hid (fun W m m' (a : Nat) x y (ha : (limbs a).length ≤ 10000) hd => rexact_no W m m' a P x y (by omega) (by omega) (by omega) hd)
  have HSB := Lib.hid (fun b n (h : V = b * P ^ n) => strip_bound hP h hV hl)
  have HL := Lib.hid (And.intro hl (And.intro hV hP))
  obtain ⟨l0, A0, c0, rfl⟩ := h0.shape
  clear h0 hl hV hP hP2 hpl
  go_enter Tryz.func68, Tryz.ntmps68
  go_wp2_with fail
  go_loopw [0, 6] (fun s0 s6 wr => ∃ (a n : Nat) (l : Nat) (A : Option Addr) (c : Nat), s0 = .slice A l c ∧ s6 = .int .i64 (n : Int) ∧ Arr wr s0 (limbs a) ∧ V = a * P ^ n ∧ Ext w wr) (fun _ s6 _ => 320001 - (intOf s6).toNat)
  case atStart => exact ⟨V, 0, l0, A0, c0, rfl, rfl, H0.out, by rw [Nat.pow_zero, Nat.mul_one], Ext.refl w⟩
  case round =>
    obtain ⟨a, n, l, A, c, rfl, rfl, ha, hv, hx⟩ := hrel
    have HA := Lib.hid ha
    have HX := Lib.hid hx
    have HV := Lib.hid hv
    have hn := HSB.out a n hv
    have hn2 : n ≤ 320000 := by have := HL.out.1; omega
    have hal : (limbs a).length ≤ 10000 := by
      refine Nat.le_trans (limbs_mono ?_) HL.out.1
      rw [hv]
      exact Nat.le_mul_of_pos_right _ (Nat.pow_pos (by have := HL.out.2.2; omega))
    have hnw : IntKind.i64.wrap ((n : Int) + 1) = (n : Int) + 1 := IntWalk.i64_in _ (by omega)
    have HY := Lib.hid (fun W m m' x y hd => HYES.out W m m' a x y hal hd)
    have HN := Lib.hid (fun W m m' x y hd => HNO.out W m m' a x y hal hd)
    clear ha hx hv hn hal
    by_cases hd : a % P = 0
    · go_wp2_with fail
      refine (HOF.out _).mono ?_
      rintro e w2 ⟨r2, rfl, hi2, hx2⟩
      have R2 := Lib.hid hi2
      have HA := Lib.hid (HA.out.ext hx2)
      have HX := Lib.hid (HX.out.trans hx2)
      obtain ⟨g2, G2, j2, rfl⟩ := hi2.shape
      clear hi2 hx2
      go_wp2_with fail
      refine (HY.out _ _ _ HA.out R2.out.arr hd).mono ?_
      rintro e w3 ⟨r3, rfl, hi3, hx3⟩
      have R3 := Lib.hid hi3.arr
      have HX := Lib.hid (HX.out.trans hx3)
      obtain ⟨g3, G3, j3, rfl⟩ := hi3.shape
      clear hi3 hx3
      have hv2 : V = a / P * P ^ (n + 1) := by
        rw [Nat.pow_succ, Nat.mul_comm (P ^ n), ← Nat.mul_assoc, Nat.div_mul_cancel (Nat.dvd_of_mod_eq_zero hd)]
        exact HV.out
      have HV2 := Lib.hid hv2
      have hn3 : n + 1 ≤ 320000 := by have := HSB.out _ _ hv2; have := HL.out.1; omega
      clear hv2 hd
      go_wp2_with fail
      go_roundw
      case rel => exact ⟨a / P, n + 1, g3, G3, j3, rfl, by go_num, R3.out, HV2.out, HX.out⟩
      case measure => simp [intOf]; omega
    · have HD := Lib.hid hd
      go_wp2_with fail
      refine (HOF.out _).mono ?_
      rintro e w2 ⟨r2, rfl, hi2, hx2⟩
      have R2 := Lib.hid hi2
      have HA := Lib.hid (HA.out.ext hx2)
      have HX := Lib.hid (HX.out.trans hx2)
      obtain ⟨g2, G2, j2, rfl⟩ := hi2.shape
      clear hi2 hx2
      go_wp2_with fail
      refine (HN.out _ _ _ HA.out R2.out.arr hd).mono ?_
      rintro e w3 ⟨rfl, hx3⟩
      have HA := Lib.hid (HA.out.ext hx3)
      have HX := Lib.hid (HX.out.trans hx3)
      clear hx3 hd
      go_wp2_with fail
      go_ret2
      exact ⟨_, a, n, rfl, HA.out, ⟨HV.out, fun hdv => HD.out (Nat.mod_eq_zero_of_dvd hdv)⟩, hn2, HX.out⟩
end Big
end Go.Proofs.YtplmldkfgeiklaaGreatDoor
/- The reference's Ten, decimal. -/
namespace Go.Proofs.YtplmldkfgeiklaaGreatDoor
namespace Big
open Go.RowKit
theorem rten_any (w : World) (n : Nat) (hn : n ≤ 100000) :
    Calls Tryz.prog 71 #[.int .i64 (n : Int)] w fun e w' => ∃ v', e = .returned v' ∧ IsInt w.heap.size w' v' ((10 ^ n : Nat) : Int) ∧ Ext w w' := by
  have HOF := Lib.hid (fun W => rof_any W 1 (by decide))
  rw [show ((1 : Nat) : Int) = 1 from rfl] at HOF
  have HLEN : Hid (∀ k, k ≤ n → (limbs (10 ^ k)).length ≤ 100001) := Lib.hid (fun k hk => limbs_dec (k := k + 1) (Nat.pow_lt_pow_right (by decide) (by omega)) (by omega))
  go_enter Tryz.func71, Tryz.ntmps71
  go_wp2_with fail
  refine (HOF.out _).mono ?_
  rintro e w1 ⟨v1, rfl, ho1, hx1⟩
  have HB1 := Lib.hid ((Blk.new w 24 #[Value.bool false, Value.slice none 0 0]).ext hx1)
  have HX1 := Lib.hid (((Ext.refl w).alloc (.cells #[Value.bool false, Value.slice none 0 0] 24)).trans hx1)
  have HO1 := Lib.hid (ho1.mono (show w.heap.size + 1 ≤ _ by simp))
  obtain ⟨n1, A1, c1, rfl⟩ := ho1.arr.2.shape
  clear ho1 hx1
  go_wp2_with fail
  go_loopw [3, 6] (fun s3 s6 wr => ∃ (k : Nat) (m : Nat) (A : Option Addr) (c : Nat), k ≤ n ∧ s6 = .int .i64 (k : Int) ∧ s3 = .slice A m c ∧ Own (w.heap.size + 1) wr s3 (limbs (10 ^ k)) ∧ Blk wr w.heap.size 24 #[Value.bool false, Value.slice none 0 0] ∧ Ext w wr) (fun _ s6 _ => n - (intOf s6).toNat)
  case atStart => exact ⟨0, n1, A1, c1, Nat.zero_le _, rfl, rfl, HO1.out, HB1.out, HX1.out⟩
  case round =>
    obtain ⟨k, m, A, c, hk, rfl, rfl, ho, hb, hx⟩ := hrel
    have HO := Lib.hid ho
    have HB := Lib.hid hb
    have HX := Lib.hid hx
    have hsz := hb.lt
    by_cases hlt : k < n
    · have HS := Lib.hid (rsmall_any wr _ _ 10 0 ho.arr (by have := HLEN.out k hk; omega) (by decide) (by decide))
      rw [val_limbs, Nat.add_zero, ← Nat.pow_succ, show ((10 : Nat) : Int) = 10 from rfl, show ((0 : Nat) : Int) = 0 from rfl] at HS
      clear ho hb hx
      go_wp2_with fail
      refine HS.out.mono ?_
      rintro e w2 ⟨v2, rfl, ho2, hx2⟩
      have HO2 := Lib.hid (ho2.mono hsz)
      have HB2 := Lib.hid (HB.out.ext hx2)
      have HX2 := Lib.hid (HX.out.trans hx2)
      obtain ⟨n2, A2, c2, rfl⟩ := ho2.arr.2.shape
      clear ho2 hx2
      go_wp2_with fail
      go_roundw
      case rel => exact ⟨k + 1, n2, A2, c2, by omega, by go_num, rfl, HO2.out, HB2.out, HX2.out⟩
      case measure => simp [intOf]; omega
    · obtain rfl : k = n := by omega
      have HI := Lib.hid (rnat_any wr false _ _ ho.arr (by have := HLEN.out k hk; omega))
      rw [val_limbs] at HI
      clear ho hb hx
      go_wp2_with fail
      refine HI.out.mono ?_
      rintro e w2 ⟨v2, rfl, hi2, hx2⟩
      have HI2 := Lib.hid (hi2.mono hsz)
      have hb2 := HB.out.ext hx2
      have HB2 := Lib.hid hb2
      have HX2 := Lib.hid (HX.out.trans hx2)
      obtain ⟨b2, n2, A2, c2, rfl⟩ := hi2.shape
      obtain ⟨k0, k1, f0, f1, hgz⟩ := hb2.two
      clear hi2 hx2 hb2
      go_wp2_with fail
      obtain ⟨hr0, hr1⟩ := two_set' HB2.out (.bool b2) (.slice A2 n2 c2)
      refine bodyPost_ret (v := .agg #[.bool b2, .slice A2 n2 c2]) (by simp [results, Tryz.results71, go_sem, hr0, hr1]) rfl ?_
      have hst := IsInt.stored HB2.out HI2.out (Nat.lt_succ_self _) HX2.out (Nat.le_refl _)
      exact ⟨_, rfl, hst⟩

/-- What the reference's decimal returns. -/
def DecRes (w : World) (l : List UInt8) (e : Ending) (w' : World) : Prop :=
  ∃ a b : List UInt8, e = .returned (.tuple #[str a, str b, .bool (good7 l)]) ∧ (good7 l = true → a = whole l ∧ b = part l) ∧ Ext w w'
theorem last_of {l : List UInt8} {k : Nat} (h : hasDot l = true) (hk : l.length = k + 1) : (part l = [] → byteAt l k = 46) ∧ (part l ≠ [] → ((part l).getLast? == some 48) = ((byteAt l k : Int) == 48)) := by
  rcases dot_split l with ⟨_, h2⟩ | ⟨h1, _⟩
  · have hg : byteAt l k = byteAt (whole l ++ 46 :: part l) k := congrArg (fun z => byteAt z k) h2
    have hlen := congrArg List.length h2
    rw [List.length_append, List.length_cons, hk] at hlen
    constructor
    · intro hp
      rw [hg]
      rw [hp] at hlen ⊢
      simp only [List.length_nil] at hlen
      unfold byteAt
      rw [List.getD_eq_getElem?_getD, List.getElem?_append_right (by omega), show k - (whole l).length = 0 by omega]
      rfl
    · intro hp
      obtain ⟨j, hj⟩ : ∃ j, (part l).length = j + 1 := ⟨(part l).length - 1, by have := List.length_pos_iff.2 hp; omega⟩
      rw [last_byte (part l) j hj, hg]
      have : byteAt (whole l ++ 46 :: part l) k = byteAt (part l) j := by
        unfold byteAt
        rw [List.getD_eq_getElem?_getD, List.getD_eq_getElem?_getD, List.getElem?_append_right (by omega), show k - (whole l).length = j + 1 by omega, List.getElem?_cons_succ]
      rw [this]
  · rw [h] at h1; cases h1
theorem part_digit {l : List UInt8} {k : Nat} (ha : allD l = true) (h : hasDot l = true) (hp : part l ≠ []) (hk : l.length = k + 1) : 48 ≤ byteAt l k := by
  rcases dot_split l with ⟨_, h2⟩ | ⟨h1, _⟩
  · have hg : byteAt l k = byteAt (whole l ++ 46 :: part l) k := congrArg (fun z => byteAt z k) h2
    have hlen := congrArg List.length h2
    rw [List.length_append, List.length_cons, hk] at hlen
    obtain ⟨j, hj⟩ : ∃ j, (part l).length = j + 1 := ⟨(part l).length - 1, by have := List.length_pos_iff.2 hp; omega⟩
    have h3 : byteAt (whole l ++ 46 :: part l) k = byteAt (part l) j := by
      unfold byteAt
      rw [List.getD_eq_getElem?_getD, List.getD_eq_getElem?_getD, List.getElem?_append_right (by omega), show k - (whole l).length = j + 1 by omega, List.getElem?_cons_succ]
    rw [hg, h3, byteAt_eq _ _ (by omega)]
    have h4 : isDig (part l)[j] = true := by
      unfold allD at ha
      rw [List.all_append, Bool.and_eq_true] at ha
      exact List.all_eq_true.1 ha.2 _ (List.getElem_mem _)
    unfold isDig at h4
    simp only [Bool.and_eq_true, decide_eq_true_eq] at h4
    exact h4.1
  · rw [h] at h1; cases h1
theorem first_whole {l : List UInt8} (h : 0 < (whole l).length) : ((whole l)[0]? == some 48) = ((byteAt l 0 : Int) == 48) := by
  obtain ⟨k, hk⟩ : ∃ k, (whole l).length = k + 1 := ⟨(whole l).length - 1, by omega⟩
  rw [first_byte (whole l) k hk]
  have : byteAt (whole l) 0 = byteAt l 0 := by
    have h1 := take_whole l
    rw [← h1]
    unfold byteAt
    rw [List.getD_eq_getElem?_getD, List.getD_eq_getElem?_getD, List.getElem?_take_of_lt h]
  rw [this]
set_option maxHeartbeats 1000000 in
set_option maxRecDepth 100000 in
theorem rdecimal_any (w : World) (l : List UInt8) (hl : l.length ≤ 1073741824) :
    Calls Tryz.prog 79 #[str l] w (DecRes w l) := by
  go_enter Tryz.func79, Tryz.ntmps79
  go_wp2_with fail
  go_loopw [5, 6] (fun s5 s6 wr => ∃ i p : Nat, i ≤ l.length ∧ s6 = .int .i64 (i : Int) ∧ s5 = .int .i64 (p : Int) ∧ Hid (allD (l.take i) = true) ∧ Hid (p = if hasDot (l.take i) then (whole l).length else l.length) ∧ w = wr) (fun _ s6 _ => l.length - (intOf s6).toNat)
  case atStart => exact ⟨0, l.length, Nat.zero_le _, rfl, rfl, Lib.hid (by rw [List.take_zero]; rfl), Lib.hid (by rw [List.take_zero]; rfl), rfl⟩
  case round =>
    obtain ⟨i, p, hi, rfl, rfl, HA, HP, rfl⟩ := hrel
    by_cases hlt : i < l.length
    · have hst := read_step hlt HA.out
      have hby := byteAt_eq l i hlt
      have HS1 := Lib.hid hst.1
      have HS2 := Lib.hid hst.2
      have HFD := Lib.hid (first_dot l i hlt)
      have HDT := Lib.hid (dot_of_take (l := l) (j := i))
      have HBAD : Hid (allD (l.take (i + 1)) = false → good7 l = false) := Lib.hid (fun h => by rw [good7_eq, read_bad h, Bool.and_false])
      have hbl := byteAt_lt l i
      clear hst
      generalize l[i] = c at *
      have hc46 : (c == 46) = ((byteAt l i : Int) == 46) := by
        rw [hby, Bool.eq_iff_iff]
        simp only [beq_iff_eq]
        constructor
        · intro e; rw [e]; rfl
        · intro e
          apply UInt8.toNat_inj.1
          have : c.toNat = 46 := by omega
          rw [this]; rfl
      have hcd : isDig c = (decide (48 ≤ byteAt l i) && decide (byteAt l i ≤ 57)) := by rw [hby]; rfl
      have HC46 := Lib.hid hc46
      have HCD := Lib.hid hcd
      clear hc46 hcd hby
      cases hD : hasDot (l.take i)
      · have hp : p = l.length := by rw [HP.out, hD]; rfl
        subst hp
        cases h46 : ((byteAt l i : Int) == 46)
        · rcases Nat.lt_or_ge (byteAt l i) 48 with h48 | h48
          · have HG : Hid (good7 l = false) := Lib.hid (HBAD.out (by rw [HS1.out, hD, HC46.out, h46, HCD.out]; simp; omega))
            have hd1 : decide ((byteAt l i : Int) < 48) = true := by rw [decide_eq_true_iff]; omega
            have h48' : (byteAt l i : Int) < 48 := by omega
            clear hD
            go_wp2_with fail
            go_ret3
            exact ⟨[], [], by rw [HG.out]; rfl, (fun h => by rw [HG.out] at h; cases h), Ext.refl _⟩
          · have hd1 : decide ((byteAt l i : Int) < 48) = false := by simp; omega
            have h48' : ¬ (byteAt l i : Int) < 48 := by omega
            rcases Nat.lt_or_ge 57 (byteAt l i) with h57 | h57
            · have HG : Hid (good7 l = false) := Lib.hid (HBAD.out (by rw [HS1.out, hD, HC46.out, h46, HCD.out]; simp; omega))
              have hd2 : decide ((57 : Int) < (byteAt l i : Int)) = true := by rw [decide_eq_true_iff]; omega
              have h57' : (57 : Int) < (byteAt l i : Int) := by omega
              clear hD
              go_wp2_with fail
              go_ret3
              exact ⟨[], [], by rw [HG.out]; rfl, (fun h => by rw [HG.out] at h; cases h), Ext.refl _⟩
            · have hd2 : decide ((57 : Int) < (byteAt l i : Int)) = false := by simp; omega
              have h57' : ¬ (57 : Int) < (byteAt l i : Int) := by omega
              have HN1 : Hid (allD (l.take (i + 1)) = true) := Lib.hid (by rw [HS1.out, HC46.out, h46, HCD.out]; simp; omega)
              have HN2 : Hid (hasDot (l.take (i + 1)) = hasDot (l.take i)) := Lib.hid (by rw [HS2.out, HC46.out, h46, Bool.or_false])
              clear hD
              go_wp2_with fail
              go_roundw
              case rel => exact ⟨i + 1, _, by omega, by go_num, rfl, HN1, Lib.hid (by rw [HN2.out]; exact HP.out), (by first | rfl | trivial)⟩
              case measure => simp [intOf]; omega
        · have HN : Hid ((whole l).length = i) := Lib.hid (HFD.out hD (by have := HC46.out; rw [h46] at this; simpa using this))
          have HN1 : Hid (allD (l.take (i + 1)) = true) := Lib.hid (by rw [HS1.out, hD, HC46.out, h46]; rfl)
          have HN2 : Hid (hasDot (l.take (i + 1)) = true) := Lib.hid (by rw [HS2.out, HC46.out, h46, Bool.or_true])
          have hpp : ((l.length : Int) == (l.length : Int)) = true := by simp
          clear hD
          go_wp2_with fail
          go_roundw
          case rel => exact ⟨i + 1, i, by omega, by go_num, rfl, HN1, Lib.hid (by rw [HN2.out, HN.out]; rfl), (by first | rfl | trivial)⟩
          case measure => simp [intOf]; omega
      · have hpw : p = (whole l).length := by rw [HP.out, hD]; rfl
        have hlt2 := HDT.out hD
        have hpe : ((p : Int) == (l.length : Int)) = false := by rw [beq_eq_false_iff_ne]; omega
        cases h46 : ((byteAt l i : Int) == 46)
        · rcases Nat.lt_or_ge (byteAt l i) 48 with h48 | h48
          · have HG : Hid (good7 l = false) := Lib.hid (HBAD.out (by rw [HS1.out, hD, HC46.out, h46, HCD.out]; simp; omega))
            have hd1 : decide ((byteAt l i : Int) < 48) = true := by rw [decide_eq_true_iff]; omega
            have h48' : (byteAt l i : Int) < 48 := by omega
            clear hD
            go_wp2_with fail
            go_ret3
            exact ⟨[], [], by rw [HG.out]; rfl, (fun h => by rw [HG.out] at h; cases h), Ext.refl _⟩
          · have hd1 : decide ((byteAt l i : Int) < 48) = false := by simp; omega
            have h48' : ¬ (byteAt l i : Int) < 48 := by omega
            rcases Nat.lt_or_ge 57 (byteAt l i) with h57 | h57
            · have HG : Hid (good7 l = false) := Lib.hid (HBAD.out (by rw [HS1.out, hD, HC46.out, h46, HCD.out]; simp; omega))
              have hd2 : decide ((57 : Int) < (byteAt l i : Int)) = true := by rw [decide_eq_true_iff]; omega
              have h57' : (57 : Int) < (byteAt l i : Int) := by omega
              clear hD
              go_wp2_with fail
              go_ret3
              exact ⟨[], [], by rw [HG.out]; rfl, (fun h => by rw [HG.out] at h; cases h), Ext.refl _⟩
            · have hd2 : decide ((57 : Int) < (byteAt l i : Int)) = false := by simp; omega
              have h57' : ¬ (57 : Int) < (byteAt l i : Int) := by omega
              have HN1 : Hid (allD (l.take (i + 1)) = true) := Lib.hid (by rw [HS1.out, HC46.out, h46, HCD.out]; simp; omega)
              have HN2 : Hid (hasDot (l.take (i + 1)) = hasDot (l.take i)) := Lib.hid (by rw [HS2.out, HC46.out, h46, Bool.or_false])
              clear hD
              go_wp2_with fail
              go_roundw
              case rel => exact ⟨i + 1, _, by omega, by go_num, rfl, HN1, Lib.hid (by rw [HN2.out]; exact HP.out), (by first | rfl | trivial)⟩
              case measure => simp [intOf]; omega
        · have h48 : (byteAt l i : Int) < 48 := by
            have : (byteAt l i : Int) = 46 := by simpa using h46
            omega
          have HG : Hid (good7 l = false) := Lib.hid (HBAD.out (by rw [HS1.out, hD, HCD.out]; simp; omega))
          have hd1 : decide ((byteAt l i : Int) < 48) = true := by simpa using h48
          clear hD hpw hlt2
          go_wp2_with fail
          go_ret3
          exact ⟨[], [], by rw [HG.out]; rfl, (fun h => by rw [HG.out] at h; cases h), Ext.refl _⟩
    · obtain rfl : i = l.length := by omega
      rw [List.take_of_length_le (Nat.le_refl _)] at HA HP
      have hpw : p = (whole l).length := by
        rw [HP.out]
        cases hD : hasDot l
        · rw [nodot_whole hD]; rfl
        · rfl
      subst hpw
      clear HP
      rcases Nat.eq_zero_or_pos (whole l).length with hw0 | hw0
      · have HG : Hid (good7 l = false) := Lib.hid (by
          have h1 : whole l = [] := List.eq_nil_of_length_eq_zero hw0
          have h2 : bad7 l = true := by unfold bad7; rw [h1]; simp
          rw [good7_eq, h2]; rfl)
        have hz : (((whole l).length : Int) == 0) = true := by rw [hw0]; rfl
        clear hw0
        go_wp2_with fail
        go_ret3
        exact ⟨[], [], by rw [HG.out]; rfl, (fun h => by rw [HG.out] at h; cases h), Ext.refl _⟩
      · have hz : (((whole l).length : Int) == 0) = false := by rw [beq_eq_false_iff_ne]; omega
        have hwle := whole_le l
        have hl0 : (0 : Int) < (l.length : Int) := by omega
        have HW0 : Hid ((whole l == []) = false) := Lib.hid (by rw [beq_eq_false_iff_ne]; intro e; rw [e] at hw0; simp at hw0)
        have hfb := first_whole hw0
        rcases Nat.lt_or_ge 1 (whole l).length with h1w | h1w
        · have hd : (1 : Int) < ((whole l).length : Int) := by omega
          cases hb0 : ((byteAt l 0 : Int) == 48)
          · have HWZ : Hid (((whole l)[0]? == some 48 && decide (1 < (whole l).length)) = false) := Lib.hid (by rw [hfb, hb0]; rfl)
            clear hfb
            cases hD : hasDot l
            · have hwl2 := nodot_whole hD
              have HG : Hid (good7 l = true) := Lib.hid (by rw [good7_eq, HA.out, bad7_miss (by rw [hD]; rfl), HW0.out, HWZ.out]; rfl)
              have hpe : (((whole l).length : Int) == (l.length : Int)) = true := by rw [beq_iff_eq]; omega
              have hnl : ¬ ((whole l).length : Int) < (l.length : Int) := by omega
              have HE : Hid (whole l = l ∧ part l = []) := Lib.hid (by
                rcases dot_split l with ⟨h1, _⟩ | ⟨_, h2, h3⟩
                · rw [hD] at h1; cases h1
                · exact ⟨h2.symm, h3⟩)
              clear hD hwl2
              go_wp2_with fail
              go_ret3
              exact ⟨l, [], by rw [HG.out]; rfl, (fun _ => ⟨HE.out.1.symm, HE.out.2.symm⟩), Ext.refl _⟩
            · have hlt3 : (whole l).length < l.length := of_decide_eq_true hD
              have hpe : (((whole l).length : Int) == (l.length : Int)) = false := by rw [beq_eq_false_iff_ne]; omega
              have hnl : ((whole l).length : Int) < (l.length : Int) := by omega
              obtain ⟨k, hk⟩ : ∃ k, l.length = k + 1 := ⟨l.length - 1, by omega⟩
              have hks : (l.length : Int) - 1 = (k : Int) := by omega
              have hk0 : (k : Int) < (l.length : Int) := by omega
              have HLAST := Lib.hid (last_of hD hk)
              rcases Nat.eq_zero_or_pos (part l).length with hp0 | hp0
              · have hpn : part l = [] := List.eq_nil_of_length_eq_zero hp0
                have HG : Hid (good7 l = false) := Lib.hid (by rw [good7_eq, bad7_hit (by rw [hD, hpn]; rfl)]; rfl)
                have hby := HLAST.out.1 hpn
                have hb1 : ((byteAt l k : Int) == 48) = false := by rw [hby]; rfl
                have hb2 : ((byteAt l k : Int) == 46) = true := by rw [hby]; rfl
                clear hD hk hp0 hpn hby
                go_wp2_with fail
                go_ret3
                exact ⟨[], [], by rw [HG.out]; rfl, (fun h => by rw [HG.out] at h; cases h), Ext.refl _⟩
              · have hpn : part l ≠ [] := fun e => by rw [e] at hp0; simp at hp0
                have hpe2 : (part l == []) = false := by rw [beq_eq_false_iff_ne]; exact hpn
                have hby := HLAST.out.2 hpn
                cases hb : ((byteAt l k : Int) == 48)
                · have HG : Hid (good7 l = true) := Lib.hid (by rw [good7_eq, HA.out, bad7_miss (by rw [hD, hpe2, hby, hb]; rfl), HW0.out, HWZ.out]; rfl)
                  have hb2 : ((byteAt l k : Int) == 46) = false := by
                    have h1 := part_digit HA.out hD hpn hk
                    rw [beq_eq_false_iff_ne]
                    omega
                  have HTW := Lib.hid (take_whole l)
                  have HDP := Lib.hid (drop_part hD)
                  have hw1 : IntKind.i64.wrap (((whole l).length : Int) + 1) = ((whole l).length : Int) + 1 := IntWalk.i64_in _ (by omega)
                  have hw2 : (0 : Int) ≤ ((whole l).length : Int) + 1 := by omega
                  have hw3 : ((whole l).length : Int) + 1 ≤ (l.length : Int) := by omega
                  have hw4 : (((whole l).length : Int) + 1).toNat = (whole l).length + 1 := by omega
                  have hw5 : ((whole l).length : Int) ≤ (l.length : Int) := by omega
                  clear hD hk hp0 hpn hby hpe2
                  go_wp2_with fail
                  go_quiet (fail)
                  go_wp2_with fail
                  go_ret3
                  exact ⟨_, _, by rw [HG.out]; rfl, (fun _ => ⟨HTW.out, HDP.out⟩), (Ext.refl _).drewN _⟩
                · have HG : Hid (good7 l = false) := Lib.hid (by rw [good7_eq, bad7_hit (by rw [hD, hpe2, hby, hb]; rfl)]; rfl)
                  clear hD hk hp0 hpn hby hpe2
                  go_wp2_with fail
                  go_ret3
                  exact ⟨[], [], by rw [HG.out]; rfl, (fun h => by rw [HG.out] at h; cases h), Ext.refl _⟩
          · have HG : Hid (good7 l = false) := Lib.hid (by
              have h2 : bad7 l = true := by unfold bad7; rw [hfb, hb0]; simp [h1w]
              rw [good7_eq, h2]; rfl)
            clear hfb
            go_wp2_with fail
            go_ret3
            exact ⟨[], [], by rw [HG.out]; rfl, (fun h => by rw [HG.out] at h; cases h), Ext.refl _⟩
        · have hd : ¬ (1 : Int) < ((whole l).length : Int) := by omega
          have HWZ : Hid (((whole l)[0]? == some 48 && decide (1 < (whole l).length)) = false) := Lib.hid (by rw [decide_eq_false (by omega), Bool.and_false])
          clear hfb
          cases hD : hasDot l
          · have hwl2 := nodot_whole hD
            have HG : Hid (good7 l = true) := Lib.hid (by rw [good7_eq, HA.out, bad7_miss (by rw [hD]; rfl), HW0.out, HWZ.out]; rfl)
            have hpe : (((whole l).length : Int) == (l.length : Int)) = true := by rw [beq_iff_eq]; omega
            have hnl : ¬ ((whole l).length : Int) < (l.length : Int) := by omega
            have HE : Hid (whole l = l ∧ part l = []) := Lib.hid (by
              rcases dot_split l with ⟨h1, _⟩ | ⟨_, h2, h3⟩
              · rw [hD] at h1; cases h1
              · exact ⟨h2.symm, h3⟩)
            clear hD hwl2
            go_wp2_with fail
            go_ret3
            exact ⟨l, [], by rw [HG.out]; rfl, (fun _ => ⟨HE.out.1.symm, HE.out.2.symm⟩), Ext.refl _⟩
          · have hlt3 : (whole l).length < l.length := of_decide_eq_true hD
            have hpe : (((whole l).length : Int) == (l.length : Int)) = false := by rw [beq_eq_false_iff_ne]; omega
            have hnl : ((whole l).length : Int) < (l.length : Int) := by omega
            obtain ⟨k, hk⟩ : ∃ k, l.length = k + 1 := ⟨l.length - 1, by omega⟩
            have hks : (l.length : Int) - 1 = (k : Int) := by omega
            have hk0 : (k : Int) < (l.length : Int) := by omega
            have HLAST := Lib.hid (last_of hD hk)
            rcases Nat.eq_zero_or_pos (part l).length with hp0 | hp0
            · have hpn : part l = [] := List.eq_nil_of_length_eq_zero hp0
              have HG : Hid (good7 l = false) := Lib.hid (by rw [good7_eq, bad7_hit (by rw [hD, hpn]; rfl)]; rfl)
              have hby := HLAST.out.1 hpn
              have hb1 : ((byteAt l k : Int) == 48) = false := by rw [hby]; rfl
              have hb2 : ((byteAt l k : Int) == 46) = true := by rw [hby]; rfl
              clear hD hk hp0 hpn hby
              go_wp2_with fail
              go_ret3
              exact ⟨[], [], by rw [HG.out]; rfl, (fun h => by rw [HG.out] at h; cases h), Ext.refl _⟩
            · have hpn : part l ≠ [] := fun e => by rw [e] at hp0; simp at hp0
              have hpe2 : (part l == []) = false := by rw [beq_eq_false_iff_ne]; exact hpn
              have hby := HLAST.out.2 hpn
              cases hb : ((byteAt l k : Int) == 48)
              · have HG : Hid (good7 l = true) := Lib.hid (by rw [good7_eq, HA.out, bad7_miss (by rw [hD, hpe2, hby, hb]; rfl), HW0.out, HWZ.out]; rfl)
                have hb2 : ((byteAt l k : Int) == 46) = false := by
                  have h1 := part_digit HA.out hD hpn hk
                  rw [beq_eq_false_iff_ne]
                  omega
                have HTW := Lib.hid (take_whole l)
                have HDP := Lib.hid (drop_part hD)
                have hw1 : IntKind.i64.wrap (((whole l).length : Int) + 1) = ((whole l).length : Int) + 1 := IntWalk.i64_in _ (by omega)
                have hw2 : (0 : Int) ≤ ((whole l).length : Int) + 1 := by omega
                have hw3 : ((whole l).length : Int) + 1 ≤ (l.length : Int) := by omega
                have hw4 : (((whole l).length : Int) + 1).toNat = (whole l).length + 1 := by omega
                have hw5 : ((whole l).length : Int) ≤ (l.length : Int) := by omega
                clear hD hk hp0 hpn hby hpe2
                go_wp2_with fail
                go_quiet (fail)
                go_wp2_with fail
                go_ret3
                exact ⟨_, _, by rw [HG.out]; rfl, (fun _ => ⟨HTW.out, HDP.out⟩), (Ext.refl _).drewN _⟩
              · have HG : Hid (good7 l = false) := Lib.hid (by rw [good7_eq, bad7_hit (by rw [hD, hpe2, hby, hb]; rfl)]; rfl)
                clear hD hk hp0 hpn hby hpe2
                go_wp2_with fail
                go_ret3
                exact ⟨[], [], by rw [HG.out]; rfl, (fun h => by rw [HG.out] at h; cases h), Ext.refl _⟩
end Big
end Go.Proofs.YtplmldkfgeiklaaGreatDoor
