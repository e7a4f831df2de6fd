import Derived.Test.YtplmldkfgeiklaaGreatDoorM10
import Derived.Test.YtplmldkfgeiklaaGreatDoorM2
import Derived.Test.YtplmldkfgeiklaaGreatDoorM13
import Derived.Test.YtplmldkfgeiklaaGreatDoorM7
import Derived.Test.YtplmldkfgeiklaaGreatDoorM12
import Derived.Deep.RegionLaw
/- product.Square, product.Power. Printed by a program. -/
namespace Go.Proofs.YtplmldkfgeiklaaGreatDoor
namespace Big
open Go.RowKit
theorem limbs_pow_le {V L : Nat} (h : (limbs V).length ≤ L) (j : Nat) : (limbs (V ^ j)).length ≤ j * L + 1 := by
  induction j with
  | zero =>
    rw [Nat.pow_zero]
    have : (limbs 1).length = 1 := by decide +kernel
    omega
  | succ j ih =>
    rw [Nat.pow_succ, Nat.add_mul, Nat.one_mul]
    have := length_limbs_prod ih h
    omega
theorem limbs_pow64 {V : Nat} (h : (limbs V).length ≤ 1000000) {j : Nat} (hj : j ≤ 64) : (limbs (V ^ j)).length ≤ 64000001 := by
  have h1 := limbs_pow_le h j
  have h2 : j * 1000000 ≤ 64 * 1000000 := Nat.mul_le_mul_right _ hj
  omega
theorem limbs_one : limbs 1 = [1] := by decide +kernel
theorem limbs_is_one {m : Nat} (h : (limbs m).length = 1) : limbs m = [m] := by
  have h0 : m ≠ 0 := by rintro rfl; simp [limbs_zero] at h
  rw [limbs_pos m h0] at h ⊢
  have h1 : limbs (m / 4294967296) = [] := List.eq_nil_of_length_eq_zero (by simpa using h)
  rw [h1]
  have h2 := limbs_eq_nil.1 h1
  congr 1
  omega
theorem and1_small : ∀ a : Fin 65, bits .and .i64 (a.val : Int) 1 = ((a.val % 2 : Nat) : Int) := by decide +kernel
theorem pow_half (n k : Nat) : n / 2 ^ k = 2 * (n / 2 ^ (k + 1)) + n / 2 ^ k % 2 := by
  rw [Nat.pow_succ, ← Nat.div_div_eq_div_mul]
  omega
set_option maxRecDepth 100000 in
theorem square_any (w : World) (v0 : Value) (xs : List Nat) (h0 : Arr w v0 xs) (n0 : xs.length ≤ 268435456) :
    Calls Tryz.prog 145 #[v0] w fun e w' => ∃ v', e = .returned v' ∧ Own w.heap.size w' v' (limbs (val xs * val xs)) ∧ Ext w w' := by
  have H0 := Lib.hid h0
  have HM := Lib.hid (fun W m m' a b => mul_any W m m' xs xs a b (by omega) (by omega))
  obtain ⟨l0, A0, c0, rfl⟩ := h0.shape
  clear h0
  go_enter Tryz.func145, Tryz.ntmps145
  go_wp2_with fail
  have hxo := (Ext.refl w)
  have hszo : w.heap.size = w.heap.size := by simp
  have HX := Lib.hid (Ext.refl w)
  clear hxo hszo 
  refine (HM.out _ _ _ (H0.out.ext HX.out) (H0.out.ext HX.out)).mono ?_
  rintro e w1 ⟨r0, rfl, hi0, hx0⟩
  have HX := Lib.hid (HX.out.trans hx0)
  have HZ0 := Lib.hid hx0.size
  have R0 := Lib.hid hi0
  obtain ⟨g0, G0, j0, rfl⟩ := hi0.shape
  clear hx0 hi0
  go_wp2_with fail
  go_ret
  exact ⟨_, rfl, R0.out, HX.out⟩
/-- What product.Power holds ahead of bit k. -/
def PowRel (w wr : World) (V n : Nat) (s5 s6 : Value) : Prop :=
  (∃ k : Nat, k ≤ 6 ∧ s6 = .int .i64 (k : Int) ∧ Own w.heap.size wr s5 (limbs (V ^ (n / 2 ^ (k + 1)))) ∧ Ext w wr) ∨ (s6 = .int .i64 (-1) ∧ Own w.heap.size wr s5 (limbs (V ^ n)) ∧ Ext w wr)
theorem PowRel.next {w wr : World} {V n k : Nat} {s5 : Value} (hk : k ≤ 6) (ho : Own w.heap.size wr s5 (limbs (V ^ (n / 2 ^ k)))) (hx : Ext w wr) : PowRel w wr V n s5 (.int .i64 ((k : Int) - 1)) := by
  cases k with
  | zero => right; rw [Nat.pow_zero, Nat.div_one] at ho; exact ⟨rfl, ho, hx⟩
  | succ k => left; exact ⟨k, by omega, by congr 1; omega, ho, hx⟩
set_option maxHeartbeats 4000000 in
set_option maxRecDepth 100000 in
theorem ppow_any (w : World) (v0 : Value) (xs : List Nat) (n : Nat) (h0 : Arr w v0 xs) (hl : xs.length ≤ 1000000) (hn : n ≤ 64) :
    Calls Tryz.prog 100 #[v0, .int .i64 (n : Int)] w fun e w' => ∃ v', e = .returned v' ∧ Own w.heap.size w' v' (limbs (val xs ^ n)) ∧ Ext w w' := by
  have H0 := Lib.hid h0
  have hV : (limbs (val xs)).length ≤ 1000000 := Nat.le_trans (length_limbs_val h0.ok) hl
  have HOF := Lib.hid (fun W => of_any W 1 (by decide))
  obtain ⟨l0, A0, c0, rfl⟩ := h0.shape
  have hn0 : ¬ (n : Int) < 0 := by omega
  have hn1 : ¬ (64 : Int) < (n : Int) := by omega
  have hn2 : (n : Int) ≤ 64 := by omega
  have hn3 : (0 : Int) ≤ (n : Int) := by omega
  have hmin : min (n : Int) 64 = (n : Int) := by omega
  clear h0
  generalize hVe : val xs = V at *
  have HVE := Lib.hid hVe
  clear hVe
  go_enter Tryz.func100, Tryz.ntmps100
  go_wp2_with fail
  refine (HOF.out _).mono ?_
  rintro e w1 ⟨r0, rfl, hi0, hx0⟩
  have R0 := Lib.hid hi0
  have HX1 := Lib.hid hx0
  obtain ⟨g0, G0, j0, rfl⟩ := hi0.shape
  clear hi0 hx0 hn0 hn1 hn2 hn3
  go_wp2_with fail
  clear hmin
  go_loopw [5, 6] (fun s5 s6 wr => PowRel w wr V n s5 s6) (fun _ s6 _ => (intOf s6 + 1).toNat)
  case atStart => exact .inl ⟨6, by omega, rfl, by rw [show n / 2 ^ (6 + 1) = 0 from Nat.div_eq_of_lt (by omega), Nat.pow_zero]; exact R0.out, HX1.out⟩
  case round =>
    rcases hrel with ⟨k, hk, rfl, ho, hx⟩ | ⟨rfl, ho, hx⟩
    · have hk0 : (0 : Int) ≤ (k : Int) := by omega
      have hk64 : (k : Int) ≤ 64 := by omega
      obtain ⟨m1, hm1⟩ : ∃ m1, m1 = n / 2 ^ (k + 1) := ⟨_, rfl⟩
      rw [← hm1] at ho
      have hph := pow_half n k
      rw [← hm1] at hph
      have hle : n / 2 ^ k ≤ n := Nat.div_le_self _ _
      obtain ⟨b, hb⟩ : ∃ b, b = n / 2 ^ k % 2 := ⟨_, rfl⟩
      have hand : bits .and .i64 ((n : Int) / 2 ^ k) 1 = (b : Int) := by
        have h1 := and1_small ⟨n / 2 ^ k, by omega⟩
        rw [hb, ← h1]
        congr 1
      rw [← hb] at hph
      have hb2 : b ≤ 1 := by omega
      have HM1 := Lib.hid hph
      have hm64 : 2 * m1 ≤ 64 := by omega
      have HO := Lib.hid ho
      have HX := Lib.hid hx
      obtain ⟨g5, A5, c5, rfl⟩ := ho.shape
      have hlen := ho.arr.len
      have hsq : V ^ m1 * V ^ m1 = V ^ (2 * m1) := by rw [Nat.two_mul, Nat.pow_add]
      have HSQ := Lib.hid (fun W m a => square_any W m (limbs (V ^ m1)) a (by have := limbs_pow64 hV (show m1 ≤ 64 by omega); omega))
      rw [val_limbs, hsq] at HSQ
      obtain ⟨hok5, A5', c5', he5, _, _, hcell⟩ := ho.arr.open
      injection he5 with e1 e2 e3
      subst e1
      have HVL := Lib.hid hV
      have HLL := Lib.hid hl
      have HM64 := Lib.hid hm64
      clear e2 e3 hb hph hle hm1 hsq hV hl hm64
      by_cases hone : V ^ m1 = 1
      · have h2m : V ^ (2 * m1) = 1 := by rw [Nat.two_mul, Nat.pow_add, hone]
        have HO2 : Hid (Own w.heap.size wr (.slice A5 g5 c5) (limbs (V ^ (2 * m1)))) := Lib.hid (by rw [h2m, ← hone]; exact HO.out)
        rw [hone, limbs_one] at hcell hlen
        obtain ⟨bb, oo, rfl, _, hc⟩ := hcell (by simp)
        have hx0 : wr.cell? ⟨bb, oo, none⟩ = some (.int .u32 1) := hc 0 (by simp)
        rw [List.length_singleton] at hlen
        subst hlen
        clear hcell hc ho hx hone h2m hok5
        have hb01 : b = 0 ∨ b = 1 := by omega
        rcases hb01 with rfl | rfl
        · have hand : bits .and .i64 ((n : Int) / 2 ^ k) 1 = 0 := hand
          go_wp2_with fail
          go_roundw
          case rel => exact PowRel.next hk (by rw [HM1.out, Nat.add_zero]; exact HO2.out) (HX.out)
          case measure => simp [intOf] <;> omega
        · have HML := Lib.hid (fun W m a c => mul_any W m (.slice A0 l0 c0) (limbs (V ^ (2 * m1))) xs a c (by have := limbs_pow64 HVL.out HM64.out; omega) (by have := HLL.out; omega))
          rw [val_limbs, HVE.out] at HML
          have hand : bits .and .i64 ((n : Int) / 2 ^ k) 1 = 1 := hand
          go_wp2_with fail
          refine (HML.out _ _ HO2.out.arr (H0.out.ext HX.out)).mono ?_
          rintro e w9 ⟨r9, rfl, hi9, hx9⟩
          have R9 := Lib.hid (hi9.mono (HX.out).size)
          have HX9 := Lib.hid ((HX.out).trans hx9)
          obtain ⟨g9, G9, j9, rfl⟩ := hi9.shape
          clear hi9 hx9
          go_wp2_with fail
          go_roundw
          case rel => exact PowRel.next hk (by rw [HM1.out, Nat.pow_succ]; exact R9.out) HX9.out
          case measure => simp [intOf] <;> omega
      · by_cases hg : g5 = 1
        · subst hg
          have hl1 := limbs_is_one hlen.symm
          rw [hl1] at hcell
          obtain ⟨bb, oo, rfl, _, hc⟩ := hcell (by simp)
          have hx0 := hc 0 (by simp)
          rw [Nat.add_zero] at hx0
          simp only [List.getD_cons_zero] at hx0
          have hlt : V ^ m1 < 4294967296 := by
            have := hok5.get 0
            rw [hl1] at this
            exact this
          generalize V ^ m1 = Y at *
          simp only [d32] at hx0
          have hy1 : ((Y : Int) != 1) = true := by rw [bne_iff_ne]; omega
          have hy2 : ((Y : Int) == 1) = false := by rw [beq_eq_false_iff_ne]; omega
          clear hcell hc ho hx hl1 hlen hok5
          go_wp2_with fail
          refine (HSQ.out _ _ HO.out.arr).mono ?_
          rintro e w8 ⟨r8, rfl, hi8, hx8⟩
          have R8 := Lib.hid (hi8.mono HX.out.size)
          have HX8 := Lib.hid (HX.out.trans hx8)
          obtain ⟨g8, G8, j8, rfl⟩ := hi8.shape
          clear hi8 hx8
          have hb01 : b = 0 ∨ b = 1 := by omega
          rcases hb01 with rfl | rfl
          · have hand : bits .and .i64 ((n : Int) / 2 ^ k) 1 = 0 := hand
            go_wp2_with fail
            go_roundw
            case rel => exact PowRel.next hk (by rw [HM1.out, Nat.add_zero]; exact R8.out) (HX8.out)
            case measure => simp [intOf] <;> omega
          · have HML := Lib.hid (fun W m a c => mul_any W m (.slice A0 l0 c0) (limbs (V ^ (2 * m1))) xs a c (by have := limbs_pow64 HVL.out HM64.out; omega) (by have := HLL.out; omega))
            rw [val_limbs, HVE.out] at HML
            have hand : bits .and .i64 ((n : Int) / 2 ^ k) 1 = 1 := hand
            go_wp2_with fail
            refine (HML.out _ _ R8.out.arr (H0.out.ext HX8.out)).mono ?_
            rintro e w9 ⟨r9, rfl, hi9, hx9⟩
            have R9 := Lib.hid (hi9.mono (HX8.out).size)
            have HX9 := Lib.hid ((HX8.out).trans hx9)
            obtain ⟨g9, G9, j9, rfl⟩ := hi9.shape
            clear hi9 hx9
            go_wp2_with fail
            go_roundw
            case rel => exact PowRel.next hk (by rw [HM1.out, Nat.pow_succ]; exact R9.out) HX9.out
            case measure => simp [intOf] <;> omega
        · have hne : ((g5 : Int) != 1) = true := by rw [bne_iff_ne]; omega
          have hne2 : ((g5 : Int) == 1) = false := by rw [beq_eq_false_iff_ne]; omega
          clear hcell ho hx hlen hok5 hg
          go_wp2_with fail
          refine (HSQ.out _ _ HO.out.arr).mono ?_
          rintro e w8 ⟨r8, rfl, hi8, hx8⟩
          have R8 := Lib.hid (hi8.mono HX.out.size)
          have HX8 := Lib.hid (HX.out.trans hx8)
          obtain ⟨g8, G8, j8, rfl⟩ := hi8.shape
          clear hi8 hx8
          have hb01 : b = 0 ∨ b = 1 := by omega
          rcases hb01 with rfl | rfl
          · have hand : bits .and .i64 ((n : Int) / 2 ^ k) 1 = 0 := hand
            go_wp2_with fail
            go_roundw
            case rel => exact PowRel.next hk (by rw [HM1.out, Nat.add_zero]; exact R8.out) (HX8.out)
            case measure => simp [intOf] <;> omega
          · have HML := Lib.hid (fun W m a c => mul_any W m (.slice A0 l0 c0) (limbs (V ^ (2 * m1))) xs a c (by have := limbs_pow64 HVL.out HM64.out; omega) (by have := HLL.out; omega))
            rw [val_limbs, HVE.out] at HML
            have hand : bits .and .i64 ((n : Int) / 2 ^ k) 1 = 1 := hand
            go_wp2_with fail
            refine (HML.out _ _ R8.out.arr (H0.out.ext HX8.out)).mono ?_
            rintro e w9 ⟨r9, rfl, hi9, hx9⟩
            have R9 := Lib.hid (hi9.mono (HX8.out).size)
            have HX9 := Lib.hid ((HX8.out).trans hx9)
            obtain ⟨g9, G9, j9, rfl⟩ := hi9.shape
            clear hi9 hx9
            go_wp2_with fail
            go_roundw
            case rel => exact PowRel.next hk (by rw [HM1.out, Nat.pow_succ]; exact R9.out) HX9.out
            case measure => simp [intOf] <;> omega
    · have HO := Lib.hid ho
      have HX := Lib.hid hx
      obtain ⟨g5, A5, c5, rfl⟩ := ho.shape
      clear ho hx
      go_wp2_with fail
      go_ret
      exact ⟨_, rfl, HO.out, HX.out⟩
end Big
end Go.Proofs.YtplmldkfgeiklaaGreatDoor
/- mill.Rat. Printed by a program. -/
namespace Go.Proofs.YtplmldkfgeiklaaGreatDoor
namespace Big
open Go.RowKit
/-- What mill.Rat returns: a fraction in lowest terms with short parts, or that the parts given are too long. -/
def RatPost (N : Nat) (w : World) (e : Ending) (w' : World) : Prop :=
  ∃ v' ok p q, e = .returned (.tuple #[v', .bool ok]) ∧ IsRat w.heap.size w' v' p q ∧ (ok = true → Low p q ∧ (limbs p.natAbs).length ≤ N ∧ (limbs q).length ≤ N) ∧ Ext w w'
theorem low_sizes {z : Int} {d N : Nat} (hz : (limbs z.natAbs).length ≤ N) (hd : (limbs d).length ≤ N) : (limbs (lowN z d).natAbs).length ≤ N ∧ (limbs (lowD z d)).length ≤ N := by
  constructor
  · rw [lowN_natAbs]; exact Nat.le_trans (limbs_mono (Nat.div_le_self _ _)) hz
  · unfold lowD; exact Nat.le_trans (limbs_mono (Nat.div_le_self _ _)) hd
theorem makeR (W : World) (v u : Value) (x : Int) (d : Nat) (h : ArrInt W v x) (h' : ArrInt W u (d : Int)) (hn : (limbs x.natAbs).length ≤ 134217728) (hn' : (limbs d).length ≤ 134217728) (hd : 0 < d) :
    Calls Tryz.prog 31 #[v, u] W fun e w' => ∃ v', e = .returned (.tuple #[v', .int .i64 0]) ∧ IsRat W.heap.size w' v' (lowN x d) (lowD x d) ∧ Ext W w' := by
  have := rmake_any W v u x (d : Int) h h' hn (by rw [limbs_nat_cast]; exact hn') (by omega)
  rw [(make_nat x d).1, (make_nat x d).2] at this
  exact this
set_option maxHeartbeats 2000000 in
set_option maxRecDepth 100000 in
theorem mrat_a (w : World) (b : Bool) (m d : Value) (xs ys : List Nat) (N : Nat) (h : Arr w m xs) (h' : Arr w d ys) (_hN : 1 ≤ N) (_hN2 : N ≤ 1000) (hx : N < xs.length) (hy : N < ys.length) :
    Calls Tryz.prog 13 #[.agg #[.bool b, m, d], .int .i64 (N : Int)] w (RatPost N w) := by
  have H := Lib.hid h
  have H' := Lib.hid h'
  obtain ⟨l0, A0, c0, rfl⟩ := h.shape
  obtain ⟨l1, A1, c1, rfl⟩ := h'.shape
  have hl := h.len
  have hl' := h'.len
  have HI := Lib.hid (fun W => mint_big2 W b A0 l0 c0 (N : Int) (by omega))
  have HN := Lib.hid (fun W => mnat_big W A1 l1 c1 (N : Int) (by omega))
  clear h h' hl hl' _hN _hN2 hx hy
  go_enter Tryz.func13, Tryz.ntmps13
  go_wp2_with fail
  have hb0 := (Blk.new w 26 #[Value.bool b, Value.slice A0 l0 c0, Value.slice A1 l1 c1]).alloc (.cells #[Value.bool false, Value.slice none 0 0, Value.slice none 0 0] 26)
  have hb1 := Blk.new (w.alloc (.cells #[Value.bool b, Value.slice A0 l0 c0, Value.slice A1 l1 c1] 26)) 26 #[Value.bool false, Value.slice none 0 0, Value.slice none 0 0]
  have hxo := ((Ext.refl w).alloc (.cells #[Value.bool b, Value.slice A0 l0 c0, Value.slice A1 l1 c1] 26)).alloc (.cells #[Value.bool false, Value.slice none 0 0, Value.slice none 0 0] 26)
  simp only [World.size_alloc] at hb1
  have hszo : w.heap.size + 1 + 1 = ((w.alloc (.cells #[Value.bool b, Value.slice A0 l0 c0, Value.slice A1 l1 c1] 26)).alloc (.cells #[Value.bool false, Value.slice none 0 0, Value.slice none 0 0] 26)).heap.size := by simp
  generalize (w.alloc (.cells #[Value.bool b, Value.slice A0 l0 c0, Value.slice A1 l1 c1] 26)).alloc (.cells #[Value.bool false, Value.slice none 0 0, Value.slice none 0 0] 26) = wo at *
  have HB0 := Lib.hid hb0
  have HB1 := Lib.hid hb1
  have HX := Lib.hid hxo
  have HZW : Hid (w.heap.size + 1 + 1 ≤ wo.heap.size) := Lib.hid (by omega)
  clear hb0 hb1 hxo hszo
  refine (HI.out _).mono ?_
  rintro e w1 ⟨rfl, hx0⟩
  have HX1 := Lib.hid (HX.out.trans hx0)
  have HB01 := Lib.hid (HB0.out.ext hx0)
  have HB11 := Lib.hid (HB1.out.ext hx0)
  have HZ1 := Lib.hid hx0.size
  clear hx0
  obtain ⟨q0, q1, q2, _, _, _, qz⟩ := HB01.out.three
  obtain ⟨t0, t1, t2, s0, s1, s2, tz⟩ := HB11.out.three
  go_wp2_with fail
  have hb2 := Blk.new w1 24 #[Value.bool false, Value.slice none 0 0]
  have hx1 := (Ext.refl w1).alloc (.cells #[Value.bool false, Value.slice none 0 0] 24)
  have hz2 : w1.heap.size < (w1.alloc (.cells #[Value.bool false, Value.slice none 0 0] 24)).heap.size := by simp
  generalize w1.alloc (.cells #[Value.bool false, Value.slice none 0 0] 24) = w2 at *
  have HZA : Hid (w1.heap.size < w2.heap.size) := Lib.hid hz2
  generalize hga : w1.heap.size = ga at *
  have HGA := Lib.hid hga
  have HX2 := Lib.hid (HX1.out.trans hx1)
  have HB02 := Lib.hid (HB01.out.ext hx1)
  have HB12 := Lib.hid (HB11.out.ext hx1)
  have HB22 := Lib.hid hb2
  clear hb2 hx1 hz2 hga q0 q1 q2 qz t0 t1 t2 s0 s1 s2 tz
  refine (HN.out _).mono ?_
  rintro e w3 ⟨rfl, rfl⟩
  obtain ⟨t0, t1, t2, s0, s1, s2, tz⟩ := HB12.out.three
  obtain ⟨i0, i1, _, _, iz⟩ := HB22.out.two
  go_wp2_with fail
  obtain ⟨hr0, hr1, hr2⟩ := three_set HB12.out (.bool false) (.slice none 0 0) (.slice none 0 0)
  refine bodyPost_ret (v := .tuple #[.agg #[.bool false, .slice none 0 0, .slice none 0 0], .bool false]) (by simp [results, Tryz.results13, go_sem, hr0, hr1, hr2]) rfl ?_
  exact ⟨_, false, 0, 0, rfl, IsRat.zero _ _, fun e => absurd e (by decide), ((HX2.out.setCell (Nat.le_succ _) _).setCell (Nat.le_succ _) _).setCell (Nat.le_succ _) _⟩
set_option maxHeartbeats 2000000 in
set_option maxRecDepth 100000 in
theorem mrat_b (w : World) (b : Bool) (m d : Value) (xs ys : List Nat) (N : Nat) (h : Arr w m xs) (h' : Arr w d ys) (hN : 1 ≤ N) (hN2 : N ≤ 1000) (hx : N < xs.length) (hy : ys.length ≤ N) :
    Calls Tryz.prog 13 #[.agg #[.bool b, m, d], .int .i64 (N : Int)] w (RatPost N w) := by
  have H := Lib.hid h
  have H' := Lib.hid h'
  obtain ⟨l0, A0, c0, rfl⟩ := h.shape
  obtain ⟨l1, A1, c1, rfl⟩ := h'.shape
  have hl := h.len
  have hl' := h'.len
  have HI := Lib.hid (fun W => mint_big2 W b A0 l0 c0 (N : Int) (by omega))
  have HN := Lib.hid (fun W m a => mnat_any W m ys (N : Int) a (by omega) (by omega))
  clear h h' hl hl' hN hN2 hx hy
  go_enter Tryz.func13, Tryz.ntmps13
  go_wp2_with fail
  have hb0 := (Blk.new w 26 #[Value.bool b, Value.slice A0 l0 c0, Value.slice A1 l1 c1]).alloc (.cells #[Value.bool false, Value.slice none 0 0, Value.slice none 0 0] 26)
  have hb1 := Blk.new (w.alloc (.cells #[Value.bool b, Value.slice A0 l0 c0, Value.slice A1 l1 c1] 26)) 26 #[Value.bool false, Value.slice none 0 0, Value.slice none 0 0]
  have hxo := ((Ext.refl w).alloc (.cells #[Value.bool b, Value.slice A0 l0 c0, Value.slice A1 l1 c1] 26)).alloc (.cells #[Value.bool false, Value.slice none 0 0, Value.slice none 0 0] 26)
  simp only [World.size_alloc] at hb1
  have hszo : w.heap.size + 1 + 1 = ((w.alloc (.cells #[Value.bool b, Value.slice A0 l0 c0, Value.slice A1 l1 c1] 26)).alloc (.cells #[Value.bool false, Value.slice none 0 0, Value.slice none 0 0] 26)).heap.size := by simp
  generalize (w.alloc (.cells #[Value.bool b, Value.slice A0 l0 c0, Value.slice A1 l1 c1] 26)).alloc (.cells #[Value.bool false, Value.slice none 0 0, Value.slice none 0 0] 26) = wo at *
  have HB0 := Lib.hid hb0
  have HB1 := Lib.hid hb1
  have HX := Lib.hid hxo
  have HZW : Hid (w.heap.size + 1 + 1 ≤ wo.heap.size) := Lib.hid (by omega)
  clear hb0 hb1 hxo hszo
  refine (HI.out _).mono ?_
  rintro e w1 ⟨rfl, hx0⟩
  have HX1 := Lib.hid (HX.out.trans hx0)
  have HB01 := Lib.hid (HB0.out.ext hx0)
  have HB11 := Lib.hid (HB1.out.ext hx0)
  have HZ1 := Lib.hid hx0.size
  clear hx0
  obtain ⟨q0, q1, q2, _, _, _, qz⟩ := HB01.out.three
  obtain ⟨t0, t1, t2, s0, s1, s2, tz⟩ := HB11.out.three
  go_wp2_with fail
  have hb2 := Blk.new w1 24 #[Value.bool false, Value.slice none 0 0]
  have hx1 := (Ext.refl w1).alloc (.cells #[Value.bool false, Value.slice none 0 0] 24)
  have hz2 : w1.heap.size < (w1.alloc (.cells #[Value.bool false, Value.slice none 0 0] 24)).heap.size := by simp
  generalize w1.alloc (.cells #[Value.bool false, Value.slice none 0 0] 24) = w2 at *
  have HZA : Hid (w1.heap.size < w2.heap.size) := Lib.hid hz2
  generalize hga : w1.heap.size = ga at *
  have HGA := Lib.hid hga
  have HX2 := Lib.hid (HX1.out.trans hx1)
  have HB02 := Lib.hid (HB01.out.ext hx1)
  have HB12 := Lib.hid (HB11.out.ext hx1)
  have HB22 := Lib.hid hb2
  clear hb2 hx1 hz2 hga q0 q1 q2 qz t0 t1 t2 s0 s1 s2 tz
  refine (HN.out _ _ (H'.out.ext HX2.out)).mono ?_
  rintro e w3 ⟨r1, rfl, hi1, hx2⟩
  have R1 := Lib.hid hi1
  obtain ⟨g1, G1, j1, rfl⟩ := hi1.shape
  have hgl := hi1.arr.len
  clear hi1
  have HX3 := Lib.hid (HX2.out.trans hx2)
  have HB13 := Lib.hid (HB12.out.ext hx2)
  have HB23 := Lib.hid (HB22.out.ext hx2)
  have HZ3 := Lib.hid hx2.size
  clear hx2
  obtain ⟨t0, t1, t2, s0, s1, s2, tz⟩ := HB13.out.three
  obtain ⟨i0, i1, _, _, iz⟩ := HB23.out.two
  clear hgl
  go_wp2_with fail
  obtain ⟨hr0, hr1, hr2⟩ := three_set HB13.out (.bool false) (.slice none 0 0) (.slice none 0 0)
  refine bodyPost_ret (v := .tuple #[.agg #[.bool false, .slice none 0 0, .slice none 0 0], .bool false]) (by simp [results, Tryz.results13, go_sem, hr0, hr1, hr2]) rfl ?_
  exact ⟨_, false, 0, 0, rfl, IsRat.zero _ _, fun e => absurd e (by decide), ((HX3.out.setCell (Nat.le_succ _) _).setCell (Nat.le_succ _) _).setCell (Nat.le_succ _) _⟩
set_option maxHeartbeats 2000000 in
set_option maxRecDepth 100000 in
theorem mrat_c (w : World) (b : Bool) (m d : Value) (xs ys : List Nat) (N : Nat) (h : Arr w m xs) (h' : Arr w d ys) (hN : 1 ≤ N) (hN2 : N ≤ 1000) (hx : xs.length ≤ N) (hy : N < ys.length) :
    Calls Tryz.prog 13 #[.agg #[.bool b, m, d], .int .i64 (N : Int)] w (RatPost N w) := by
  have H := Lib.hid h
  have H' := Lib.hid h'
  obtain ⟨l0, A0, c0, rfl⟩ := h.shape
  obtain ⟨l1, A1, c1, rfl⟩ := h'.shape
  have hl := h.len
  have hl' := h'.len
  have HI := Lib.hid (fun W m a => mint_any W b m xs (N : Int) a (by omega) (by omega))
  have HN := Lib.hid (fun W => mnat_big W A1 l1 c1 (N : Int) (by omega))
  clear h h' hl hl' hN hN2 hx hy
  go_enter Tryz.func13, Tryz.ntmps13
  go_wp2_with fail
  have hb0 := (Blk.new w 26 #[Value.bool b, Value.slice A0 l0 c0, Value.slice A1 l1 c1]).alloc (.cells #[Value.bool false, Value.slice none 0 0, Value.slice none 0 0] 26)
  have hb1 := Blk.new (w.alloc (.cells #[Value.bool b, Value.slice A0 l0 c0, Value.slice A1 l1 c1] 26)) 26 #[Value.bool false, Value.slice none 0 0, Value.slice none 0 0]
  have hxo := ((Ext.refl w).alloc (.cells #[Value.bool b, Value.slice A0 l0 c0, Value.slice A1 l1 c1] 26)).alloc (.cells #[Value.bool false, Value.slice none 0 0, Value.slice none 0 0] 26)
  simp only [World.size_alloc] at hb1
  have hszo : w.heap.size + 1 + 1 = ((w.alloc (.cells #[Value.bool b, Value.slice A0 l0 c0, Value.slice A1 l1 c1] 26)).alloc (.cells #[Value.bool false, Value.slice none 0 0, Value.slice none 0 0] 26)).heap.size := by simp
  generalize (w.alloc (.cells #[Value.bool b, Value.slice A0 l0 c0, Value.slice A1 l1 c1] 26)).alloc (.cells #[Value.bool false, Value.slice none 0 0, Value.slice none 0 0] 26) = wo at *
  have HB0 := Lib.hid hb0
  have HB1 := Lib.hid hb1
  have HX := Lib.hid hxo
  have HZW : Hid (w.heap.size + 1 + 1 ≤ wo.heap.size) := Lib.hid (by omega)
  clear hb0 hb1 hxo hszo
  refine (HI.out _ _ (H.out.ext HX.out)).mono ?_
  rintro e w1 ⟨r0, rfl, hi0, hx0⟩
  have R0 := Lib.hid hi0
  obtain ⟨f0, g0, G0, j0, rfl⟩ := hi0.shape
  clear hi0
  have HX1 := Lib.hid (HX.out.trans hx0)
  have HB01 := Lib.hid (HB0.out.ext hx0)
  have HB11 := Lib.hid (HB1.out.ext hx0)
  have HZ1 := Lib.hid hx0.size
  clear hx0
  obtain ⟨q0, q1, q2, _, _, _, qz⟩ := HB01.out.three
  obtain ⟨t0, t1, t2, s0, s1, s2, tz⟩ := HB11.out.three
  go_wp2_with fail
  have hb2 := Blk.new w1 24 #[Value.bool f0, Value.slice G0 g0 j0]
  have hx1 := (Ext.refl w1).alloc (.cells #[Value.bool f0, Value.slice G0 g0 j0] 24)
  have hz2 : w1.heap.size < (w1.alloc (.cells #[Value.bool f0, Value.slice G0 g0 j0] 24)).heap.size := by simp
  generalize w1.alloc (.cells #[Value.bool f0, Value.slice G0 g0 j0] 24) = w2 at *
  have HZA : Hid (w1.heap.size < w2.heap.size) := Lib.hid hz2
  generalize hga : w1.heap.size = ga at *
  have HGA := Lib.hid hga
  have HX2 := Lib.hid (HX1.out.trans hx1)
  have HB02 := Lib.hid (HB01.out.ext hx1)
  have HB12 := Lib.hid (HB11.out.ext hx1)
  have HB22 := Lib.hid hb2
  have R02 := Lib.hid (R0.out.ext hx1)
  clear hb2 hx1 hz2 hga q0 q1 q2 qz t0 t1 t2 s0 s1 s2 tz
  refine (HN.out _).mono ?_
  rintro e w3 ⟨rfl, rfl⟩
  obtain ⟨t0, t1, t2, s0, s1, s2, tz⟩ := HB12.out.three
  obtain ⟨i0, i1, _, _, iz⟩ := HB22.out.two
  go_wp2_with fail
  obtain ⟨hr0, hr1, hr2⟩ := three_set HB12.out (.bool false) (.slice none 0 0) (.slice none 0 0)
  refine bodyPost_ret (v := .tuple #[.agg #[.bool false, .slice none 0 0, .slice none 0 0], .bool false]) (by simp [results, Tryz.results13, go_sem, hr0, hr1, hr2]) rfl ?_
  exact ⟨_, false, 0, 0, rfl, IsRat.zero _ _, fun e => absurd e (by decide), ((HX2.out.setCell (Nat.le_succ _) _).setCell (Nat.le_succ _) _).setCell (Nat.le_succ _) _⟩
set_option maxHeartbeats 2000000 in
set_option maxRecDepth 100000 in
theorem mrat_d (w : World) (b : Bool) (m d : Value) (xs ys : List Nat) (N : Nat) (h : Arr w m xs) (h' : Arr w d ys) (hN : 1 ≤ N) (hN2 : N ≤ 1000) (hx : xs.length ≤ N) (hy : ys.length ≤ N) (hz : val ys = 0) :
    Calls Tryz.prog 13 #[.agg #[.bool b, m, d], .int .i64 (N : Int)] w (RatPost N w) := by
  have H := Lib.hid h
  have H' := Lib.hid h'
  obtain ⟨l0, A0, c0, rfl⟩ := h.shape
  obtain ⟨l1, A1, c1, rfl⟩ := h'.shape
  have hl := h.len
  have hl' := h'.len
  have HI := Lib.hid (fun W m a => mint_any W b m xs (N : Int) a (by omega) (by omega))
  have HN := Lib.hid (fun W m a => mnat_any W m ys (N : Int) a (by omega) (by omega))
  have hzl : (limbs (sgn b (val xs)).natAbs).length ≤ N := by rw [natAbs_sgn]; exact Nat.le_trans (length_limbs_val h.ok) hx
  have hdl : (limbs 1).length ≤ N := by rw [limbs_one]; exact hN
  have HR := Lib.hid (low_sizes hzl hdl)
  have HLW : Hid (Low (lowN (sgn b (val xs)) 1) (lowD (sgn b (val xs)) 1)) := Lib.hid (low_of _ (by decide))
  have HRN := Lib.hid (fun W m a => rnat_any W false m (limbs 1) a (by omega))
  rw [val_limbs, show sgn false 1 = ((1 : Nat) : Int) from rfl] at HRN
  have HMK := Lib.hid (fun W v u a c => makeR W v u (sgn b (val xs)) 1 a c (by omega) (by omega) (by decide))
  have HOF := Lib.hid (fun W => rof_any W 1 (by decide))
  have hz0 : (limbs (val ys)).length = 0 := by rw [hz]; rfl
  generalize hZ : sgn b (val xs) = Z at *
  clear hzl hdl hZ
  clear h h' hl hl' hN hN2 hx hy hz
  go_enter Tryz.func13, Tryz.ntmps13
  go_wp2_with fail
  have hb0 := (Blk.new w 26 #[Value.bool b, Value.slice A0 l0 c0, Value.slice A1 l1 c1]).alloc (.cells #[Value.bool false, Value.slice none 0 0, Value.slice none 0 0] 26)
  have hb1 := Blk.new (w.alloc (.cells #[Value.bool b, Value.slice A0 l0 c0, Value.slice A1 l1 c1] 26)) 26 #[Value.bool false, Value.slice none 0 0, Value.slice none 0 0]
  have hxo := ((Ext.refl w).alloc (.cells #[Value.bool b, Value.slice A0 l0 c0, Value.slice A1 l1 c1] 26)).alloc (.cells #[Value.bool false, Value.slice none 0 0, Value.slice none 0 0] 26)
  simp only [World.size_alloc] at hb1
  have hszo : w.heap.size + 1 + 1 = ((w.alloc (.cells #[Value.bool b, Value.slice A0 l0 c0, Value.slice A1 l1 c1] 26)).alloc (.cells #[Value.bool false, Value.slice none 0 0, Value.slice none 0 0] 26)).heap.size := by simp
  generalize (w.alloc (.cells #[Value.bool b, Value.slice A0 l0 c0, Value.slice A1 l1 c1] 26)).alloc (.cells #[Value.bool false, Value.slice none 0 0, Value.slice none 0 0] 26) = wo at *
  have HB0 := Lib.hid hb0
  have HB1 := Lib.hid hb1
  have HX := Lib.hid hxo
  have HZW : Hid (w.heap.size + 1 + 1 ≤ wo.heap.size) := Lib.hid (by omega)
  clear hb0 hb1 hxo hszo
  refine (HI.out _ _ (H.out.ext HX.out)).mono ?_
  rintro e w1 ⟨r0, rfl, hi0, hx0⟩
  have R0 := Lib.hid hi0
  obtain ⟨f0, g0, G0, j0, rfl⟩ := hi0.shape
  clear hi0
  have HX1 := Lib.hid (HX.out.trans hx0)
  have HB01 := Lib.hid (HB0.out.ext hx0)
  have HB11 := Lib.hid (HB1.out.ext hx0)
  have HZ1 := Lib.hid hx0.size
  clear hx0
  obtain ⟨q0, q1, q2, _, _, _, qz⟩ := HB01.out.three
  obtain ⟨t0, t1, t2, s0, s1, s2, tz⟩ := HB11.out.three
  go_wp2_with fail
  have hb2 := Blk.new w1 24 #[Value.bool f0, Value.slice G0 g0 j0]
  have hx1 := (Ext.refl w1).alloc (.cells #[Value.bool f0, Value.slice G0 g0 j0] 24)
  have hz2 : w1.heap.size < (w1.alloc (.cells #[Value.bool f0, Value.slice G0 g0 j0] 24)).heap.size := by simp
  generalize w1.alloc (.cells #[Value.bool f0, Value.slice G0 g0 j0] 24) = w2 at *
  have HZA : Hid (w1.heap.size < w2.heap.size) := Lib.hid hz2
  generalize hga : w1.heap.size = ga at *
  have HGA := Lib.hid hga
  have HX2 := Lib.hid (HX1.out.trans hx1)
  have HB02 := Lib.hid (HB01.out.ext hx1)
  have HB12 := Lib.hid (HB11.out.ext hx1)
  have HB22 := Lib.hid hb2
  have R02 := Lib.hid (R0.out.ext hx1)
  clear hb2 hx1 hz2 hga q0 q1 q2 qz t0 t1 t2 s0 s1 s2 tz
  refine (HN.out _ _ (H'.out.ext HX2.out)).mono ?_
  rintro e w3 ⟨r1, rfl, hi1, hx2⟩
  have R1 := Lib.hid hi1
  obtain ⟨g1, G1, j1, rfl⟩ := hi1.shape
  have hgl := hi1.arr.len
  clear hi1
  have HX3 := Lib.hid (HX2.out.trans hx2)
  have HB13 := Lib.hid (HB12.out.ext hx2)
  have HB23 := Lib.hid (HB22.out.ext hx2)
  have HZ3 := Lib.hid hx2.size
  have R03 := Lib.hid (R02.out.ext hx2)
  clear hx2
  obtain ⟨t0, t1, t2, s0, s1, s2, tz⟩ := HB13.out.three
  obtain ⟨i0, i1, _, _, iz⟩ := HB23.out.two
  have hg0 : g1 = 0 := hgl.trans hz0
  subst hg0
  clear hgl hz0
  go_wp2_with fail
  refine (HOF.out _).mono ?_
  rintro e w4 ⟨r2, rfl, hi2, hx3⟩
  have R2 := Lib.hid hi2
  obtain ⟨g2, G2, j2, rfl⟩ := hi2.shape
  clear hi2 t0 t1 t2 s0 s1 s2 tz i0 i1 iz
  have HX4 := Lib.hid (HX3.out.trans hx3)
  have HB14 := Lib.hid (HB13.out.ext hx3)
  have HB24 := Lib.hid (HB23.out.ext hx3)
  have R04 := Lib.hid (R03.out.ext hx3)
  have HZ4 : Hid (w2.heap.size ≤ w4.heap.size) := Lib.hid (by have := HZ3.out; have := hx3.size; omega)
  clear hx3
  obtain ⟨t0, t1, t2, s0, s1, s2, tz⟩ := HB14.out.three
  obtain ⟨i0, i1, _, _, iz⟩ := HB24.out.two
  go_upto_region 7 with fail
  have hlw0 := tz
  have hzw := HZW.out
  go_cut [10] from 37 to 43 (fun s10 wx => ∃ (gx B : Nat) (f8 : Bool) (g8 : Nat) (G8 : Option Addr) (j8 y8 : Nat) (Y8 : Option Addr) (z8 : Nat), s10 = .pointer (some ⟨gx, 0, none⟩) ∧ wx.cell? ⟨gx, 0, none⟩ = some (.bool f8) ∧ wx.cell? ⟨gx, 1, none⟩ = some (.slice G8 g8 j8) ∧ wx.cell? ⟨gx, 2, none⟩ = some (.slice Y8 y8 z8) ∧ gx < wx.heap.size ∧ w.heap.size + 1 < B ∧ IsRat B wx (.agg #[.bool f8, .slice G8 g8 j8, .slice Y8 y8 z8]) (lowN Z 1) (lowD Z 1) ∧ Blk wx (w.heap.size + 1) 26 #[Value.bool false, Value.slice none 0 0, Value.slice none 0 0] ∧ Ext w wx)
  case first =>
    have hxd := (Ext.refl w4).drew
    go_region_law (first
      | (go_simp; go_at_call 54; refine (HRN.out _ _ (by first | exact R2.out.arr.ext hxd | exact R2.out.arr.ext (hxd.alloc _))).mono ?_; rintro e w7 ⟨r7, rfl, hi7, hx7⟩; have R7 := Lib.hid hi7; obtain ⟨f7, g7, G7, j7, rfl⟩ := hi7.shape; have HE7 : Hid (Ext w4 w7) := Lib.hid (by first | exact hxd.trans hx7 | exact (hxd.alloc _).trans hx7); (try (have hbn := ((Blk.new _ 26 #[Value.bool false, Value.slice none 0 0, Value.slice none 0 0]).drew).ext hx7; (try simp only [World.size_drew] at hbn))); clear t0 t1 t2 s0 s1 s2 tz i0 i1 iz; obtain ⟨i0, i1, _, _, iz⟩ := (HB24.out.ext HE7.out).two; clear hi7)
      | (go_simp; go_at_call 31; refine (HMK.out _ _ _ (R04.out.arr.ext (by first | exact HE7.out | exact HE7.out.alloc _)) (by first | exact R7.out.arr | exact R7.out.arr.ext ((Ext.refl _).alloc _))).mono ?_; rintro e w8 ⟨r8, rfl, hi8, hx8⟩; have R8 := Lib.hid hi8; have hlw := HE7.out.size; (try (have hlb := hbn.lt)); obtain ⟨f8, g8, G8, j8, y8, Y8, z8, rfl⟩ := hi8.shape; (try (have hbm := hbn.ext hx8; obtain ⟨k0, k1, k2, kf0, kf1, kf2, kz⟩ := hbm.three)); (try (have hbm := (Blk.new _ 26 #[Value.bool false, Value.slice none 0 0, Value.slice none 0 0]).ext hx8; obtain ⟨k0, k1, k2, kf0, kf1, kf2, kz⟩ := hbm.three)); have HE8 : Hid (Ext w4 w8) := Lib.hid (by first | exact HE7.out.trans hx8 | exact (HE7.out.alloc _).trans hx8); clear i0 i1 iz; obtain ⟨t0, t1, t2, s0, s1, s2, tz⟩ := (HB14.out.ext HE8.out).three; clear hi8))
    all_goals go_wp2_with fail
    all_goals go_meet
    all_goals first
      | (have hchk : Blk w8 w7.heap.size 26 #[Value.bool false, Value.slice none 0 0, Value.slice none 0 0] := hbm; have hT := ((hchk.set_ 0 (.bool f8)).set_ 1 (.slice G8 g8 j8)).set_ 2 (.slice Y8 y8 z8); exact ⟨_, _, _, _, _, _, _, _, _, rfl, hT.cell 0, hT.cell 1, hT.cell 2, hT.lt, (by first | omega | (simp <;> omega)), (((R8.out.far (a := ⟨w7.heap.size, 0, none⟩) (show w7.heap.size < _ by first | omega | (simp <;> omega)) (.bool f8)).far (a := ⟨w7.heap.size, 1, none⟩) (show w7.heap.size < _ by first | omega | (simp <;> omega)) (.slice G8 g8 j8)).far (a := ⟨w7.heap.size, 2, none⟩) (show w7.heap.size < _ by first | omega | (simp <;> omega)) (.slice Y8 y8 z8)), ((((HB14.out.ext HE8.out).far (p := ⟨w7.heap.size, 0, none⟩) (show w.heap.size + 1 ≠ _ by (try simp only) <;> omega) (.bool f8)).far (p := ⟨w7.heap.size, 1, none⟩) (show w.heap.size + 1 ≠ _ by (try simp only) <;> omega) (.slice G8 g8 j8)).far (p := ⟨w7.heap.size, 2, none⟩) (show w.heap.size + 1 ≠ _ by (try simp only) <;> omega) (.slice Y8 y8 z8)), ((((HX4.out.trans HE8.out).setCell (p := ⟨w7.heap.size, 0, none⟩) (show w.heap.size ≤ _ by (try simp only) <;> omega) (.bool f8)).setCell (p := ⟨w7.heap.size, 1, none⟩) (show w.heap.size ≤ _ by (try simp only) <;> omega) (.slice G8 g8 j8)).setCell (p := ⟨w7.heap.size, 2, none⟩) (show w.heap.size ≤ _ by (try simp only) <;> omega) (.slice Y8 y8 z8))⟩)
      | (have hchk : Blk w8 w4.heap.size 26 #[Value.bool false, Value.slice none 0 0, Value.slice none 0 0] := hbm; have hT := ((hchk.set_ 0 (.bool f8)).set_ 1 (.slice G8 g8 j8)).set_ 2 (.slice Y8 y8 z8); exact ⟨_, _, _, _, _, _, _, _, _, rfl, hT.cell 0, hT.cell 1, hT.cell 2, hT.lt, (by first | omega | (simp <;> omega)), (((R8.out.far (a := ⟨w4.heap.size, 0, none⟩) (show w4.heap.size < _ by first | omega | (simp <;> omega)) (.bool f8)).far (a := ⟨w4.heap.size, 1, none⟩) (show w4.heap.size < _ by first | omega | (simp <;> omega)) (.slice G8 g8 j8)).far (a := ⟨w4.heap.size, 2, none⟩) (show w4.heap.size < _ by first | omega | (simp <;> omega)) (.slice Y8 y8 z8)), ((((HB14.out.ext HE8.out).far (p := ⟨w4.heap.size, 0, none⟩) (show w.heap.size + 1 ≠ _ by (try simp only) <;> omega) (.bool f8)).far (p := ⟨w4.heap.size, 1, none⟩) (show w.heap.size + 1 ≠ _ by (try simp only) <;> omega) (.slice G8 g8 j8)).far (p := ⟨w4.heap.size, 2, none⟩) (show w.heap.size + 1 ≠ _ by (try simp only) <;> omega) (.slice Y8 y8 z8)), ((((HX4.out.trans HE8.out).setCell (p := ⟨w4.heap.size, 0, none⟩) (show w.heap.size ≤ _ by (try simp only) <;> omega) (.bool f8)).setCell (p := ⟨w4.heap.size, 1, none⟩) (show w.heap.size ≤ _ by (try simp only) <;> omega) (.slice G8 g8 j8)).setCell (p := ⟨w4.heap.size, 2, none⟩) (show w.heap.size ≤ _ by (try simp only) <;> omega) (.slice Y8 y8 z8))⟩)
      | (have hT := Blk.new w8 26 #[Value.bool f8, Value.slice G8 g8 j8, Value.slice Y8 y8 z8]; exact ⟨_, _, _, _, _, _, _, _, _, rfl, hT.cell 0, hT.cell 1, hT.cell 2, hT.lt, (by first | omega | (simp <;> omega)), R8.out.ext ((Ext.refl w8).alloc _), (HB14.out.ext HE8.out).alloc _, (HX4.out.trans HE8.out).alloc _⟩)
  case rest =>
  obtain ⟨gx, B, f8, g8, G8, j8, y8, Y8, z8, rfl, k0, k1, k2, kz, hBlt, hI, hB, hE⟩ := hcut
  have HBF := Lib.hid hB
  have HIF := Lib.hid hI
  have HEF := Lib.hid hE
  clear t0 t1 t2 s0 s1 s2 tz i0 i1 iz
  obtain ⟨t0, t1, t2, s0, s1, s2, tz⟩ := hB.three
  clear hB hI hE
  go_wp2_with fail
  obtain ⟨hr0, hr1, hr2⟩ := three_set HBF.out (.bool f8) (.slice G8 g8 j8) (.slice Y8 y8 z8)
  refine bodyPost_ret (v := .tuple #[.agg #[Value.bool f8, Value.slice G8 g8 j8, Value.slice Y8 y8 z8], .bool true]) (by simp [results, Tryz.results13, go_sem, hr0, hr1, hr2]) rfl ?_
  exact ⟨_, true, _, _, rfl, (((HIF.out.far (a := ⟨w.heap.size + 1, 0, none⟩) hBlt (.bool f8)).far (a := ⟨w.heap.size + 1, 1, none⟩) hBlt (.slice G8 g8 j8)).far (a := ⟨w.heap.size + 1, 2, none⟩) hBlt (.slice Y8 y8 z8)).mono (by omega), fun _ => ⟨HLW.out, HR.out⟩, (((HEF.out.setCell (p := ⟨w.heap.size + 1, 0, none⟩) (Nat.le_succ _) (.bool f8)).setCell (p := ⟨w.heap.size + 1, 1, none⟩) (Nat.le_succ _) (.slice G8 g8 j8)).setCell (p := ⟨w.heap.size + 1, 2, none⟩) (Nat.le_succ _) (.slice Y8 y8 z8))⟩
set_option maxHeartbeats 2000000 in
set_option maxRecDepth 100000 in
theorem mrat_e (w : World) (b : Bool) (m d : Value) (xs ys : List Nat) (N : Nat) (h : Arr w m xs) (h' : Arr w d ys) (hN : 1 ≤ N) (hN2 : N ≤ 1000) (hx : xs.length ≤ N) (hy : ys.length ≤ N) (hz : 0 < val ys) :
    Calls Tryz.prog 13 #[.agg #[.bool b, m, d], .int .i64 (N : Int)] w (RatPost N w) := by
  have H := Lib.hid h
  have H' := Lib.hid h'
  obtain ⟨l0, A0, c0, rfl⟩ := h.shape
  obtain ⟨l1, A1, c1, rfl⟩ := h'.shape
  have hl := h.len
  have hl' := h'.len
  have HI := Lib.hid (fun W m a => mint_any W b m xs (N : Int) a (by omega) (by omega))
  have HN := Lib.hid (fun W m a => mnat_any W m ys (N : Int) a (by omega) (by omega))
  have hzl : (limbs (sgn b (val xs)).natAbs).length ≤ N := by rw [natAbs_sgn]; exact Nat.le_trans (length_limbs_val h.ok) hx
  have hdl : (limbs (val ys)).length ≤ N := Nat.le_trans (length_limbs_val h'.ok) hy
  have HR := Lib.hid (low_sizes hzl hdl)
  have HLW : Hid (Low (lowN (sgn b (val xs)) (val ys)) (lowD (sgn b (val xs)) (val ys))) := Lib.hid (low_of _ hz)
  have HRN := Lib.hid (fun W m a => rnat_any W false m (limbs (val ys)) a (by omega))
  rw [val_limbs, show sgn false (val ys) = (((val ys) : Nat) : Int) from rfl] at HRN
  have HMK := Lib.hid (fun W v u a c => makeR W v u (sgn b (val xs)) (val ys) a c (by omega) (by omega) hz)
  have hz1 : 0 < (limbs (val ys)).length := by rw [List.length_pos_iff]; intro e; rw [limbs_eq_nil] at e; omega
  generalize hZ : sgn b (val xs) = Z at *
  clear hzl hdl hZ
  clear h h' hl hl' hN hN2 hx hy hz
  go_enter Tryz.func13, Tryz.ntmps13
  go_wp2_with fail
  have hb0 := (Blk.new w 26 #[Value.bool b, Value.slice A0 l0 c0, Value.slice A1 l1 c1]).alloc (.cells #[Value.bool false, Value.slice none 0 0, Value.slice none 0 0] 26)
  have hb1 := Blk.new (w.alloc (.cells #[Value.bool b, Value.slice A0 l0 c0, Value.slice A1 l1 c1] 26)) 26 #[Value.bool false, Value.slice none 0 0, Value.slice none 0 0]
  have hxo := ((Ext.refl w).alloc (.cells #[Value.bool b, Value.slice A0 l0 c0, Value.slice A1 l1 c1] 26)).alloc (.cells #[Value.bool false, Value.slice none 0 0, Value.slice none 0 0] 26)
  simp only [World.size_alloc] at hb1
  have hszo : w.heap.size + 1 + 1 = ((w.alloc (.cells #[Value.bool b, Value.slice A0 l0 c0, Value.slice A1 l1 c1] 26)).alloc (.cells #[Value.bool false, Value.slice none 0 0, Value.slice none 0 0] 26)).heap.size := by simp
  generalize (w.alloc (.cells #[Value.bool b, Value.slice A0 l0 c0, Value.slice A1 l1 c1] 26)).alloc (.cells #[Value.bool false, Value.slice none 0 0, Value.slice none 0 0] 26) = wo at *
  have HB0 := Lib.hid hb0
  have HB1 := Lib.hid hb1
  have HX := Lib.hid hxo
  have HZW : Hid (w.heap.size + 1 + 1 ≤ wo.heap.size) := Lib.hid (by omega)
  clear hb0 hb1 hxo hszo
  refine (HI.out _ _ (H.out.ext HX.out)).mono ?_
  rintro e w1 ⟨r0, rfl, hi0, hx0⟩
  have R0 := Lib.hid hi0
  obtain ⟨f0, g0, G0, j0, rfl⟩ := hi0.shape
  clear hi0
  have HX1 := Lib.hid (HX.out.trans hx0)
  have HB01 := Lib.hid (HB0.out.ext hx0)
  have HB11 := Lib.hid (HB1.out.ext hx0)
  have HZ1 := Lib.hid hx0.size
  clear hx0
  obtain ⟨q0, q1, q2, _, _, _, qz⟩ := HB01.out.three
  obtain ⟨t0, t1, t2, s0, s1, s2, tz⟩ := HB11.out.three
  go_wp2_with fail
  have hb2 := Blk.new w1 24 #[Value.bool f0, Value.slice G0 g0 j0]
  have hx1 := (Ext.refl w1).alloc (.cells #[Value.bool f0, Value.slice G0 g0 j0] 24)
  have hz2 : w1.heap.size < (w1.alloc (.cells #[Value.bool f0, Value.slice G0 g0 j0] 24)).heap.size := by simp
  generalize w1.alloc (.cells #[Value.bool f0, Value.slice G0 g0 j0] 24) = w2 at *
  have HZA : Hid (w1.heap.size < w2.heap.size) := Lib.hid hz2
  generalize hga : w1.heap.size = ga at *
  have HGA := Lib.hid hga
  have HX2 := Lib.hid (HX1.out.trans hx1)
  have HB02 := Lib.hid (HB01.out.ext hx1)
  have HB12 := Lib.hid (HB11.out.ext hx1)
  have HB22 := Lib.hid hb2
  have R02 := Lib.hid (R0.out.ext hx1)
  clear hb2 hx1 hz2 hga q0 q1 q2 qz t0 t1 t2 s0 s1 s2 tz
  refine (HN.out _ _ (H'.out.ext HX2.out)).mono ?_
  rintro e w3 ⟨r1, rfl, hi1, hx2⟩
  have R1 := Lib.hid hi1
  obtain ⟨g1, G1, j1, rfl⟩ := hi1.shape
  have hgl := hi1.arr.len
  clear hi1
  have HX3 := Lib.hid (HX2.out.trans hx2)
  have HB13 := Lib.hid (HB12.out.ext hx2)
  have HB23 := Lib.hid (HB22.out.ext hx2)
  have HZ3 := Lib.hid hx2.size
  have R03 := Lib.hid (R02.out.ext hx2)
  clear hx2
  obtain ⟨t0, t1, t2, s0, s1, s2, tz⟩ := HB13.out.three
  obtain ⟨i0, i1, _, _, iz⟩ := HB23.out.two
  have hg0 : ((g1 : Int) == 0) = false := by rw [beq_eq_false_iff_ne]; omega
  clear hgl hz1
  have HZ4 := HZ3
  go_upto_region 7 with fail
  have hlw0 := tz
  have hzw := HZW.out
  go_cut [10] from 37 to 43 (fun s10 wx => ∃ (gx B : Nat) (f8 : Bool) (g8 : Nat) (G8 : Option Addr) (j8 y8 : Nat) (Y8 : Option Addr) (z8 : Nat), s10 = .pointer (some ⟨gx, 0, none⟩) ∧ wx.cell? ⟨gx, 0, none⟩ = some (.bool f8) ∧ wx.cell? ⟨gx, 1, none⟩ = some (.slice G8 g8 j8) ∧ wx.cell? ⟨gx, 2, none⟩ = some (.slice Y8 y8 z8) ∧ gx < wx.heap.size ∧ w.heap.size + 1 < B ∧ IsRat B wx (.agg #[.bool f8, .slice G8 g8 j8, .slice Y8 y8 z8]) (lowN Z (val ys)) (lowD Z (val ys)) ∧ Blk wx (w.heap.size + 1) 26 #[Value.bool false, Value.slice none 0 0, Value.slice none 0 0] ∧ Ext w wx)
  case first =>
    have hxd := (Ext.refl w3).drew
    go_region_law (first
      | (go_simp; go_at_call 54; refine (HRN.out _ _ (by first | exact R1.out.arr.ext hxd | exact R1.out.arr.ext (hxd.alloc _))).mono ?_; rintro e w7 ⟨r7, rfl, hi7, hx7⟩; have R7 := Lib.hid hi7; obtain ⟨f7, g7, G7, j7, rfl⟩ := hi7.shape; have HE7 : Hid (Ext w3 w7) := Lib.hid (by first | exact hxd.trans hx7 | exact (hxd.alloc _).trans hx7); (try (have hbn := ((Blk.new _ 26 #[Value.bool false, Value.slice none 0 0, Value.slice none 0 0]).drew).ext hx7; (try simp only [World.size_drew] at hbn))); clear t0 t1 t2 s0 s1 s2 tz i0 i1 iz; obtain ⟨i0, i1, _, _, iz⟩ := (HB23.out.ext HE7.out).two; clear hi7)
      | (go_simp; go_at_call 31; refine (HMK.out _ _ _ (R03.out.arr.ext (by first | exact HE7.out | exact HE7.out.alloc _)) (by first | exact R7.out.arr | exact R7.out.arr.ext ((Ext.refl _).alloc _))).mono ?_; rintro e w8 ⟨r8, rfl, hi8, hx8⟩; have R8 := Lib.hid hi8; have hlw := HE7.out.size; (try (have hlb := hbn.lt)); obtain ⟨f8, g8, G8, j8, y8, Y8, z8, rfl⟩ := hi8.shape; (try (have hbm := hbn.ext hx8; obtain ⟨k0, k1, k2, kf0, kf1, kf2, kz⟩ := hbm.three)); (try (have hbm := (Blk.new _ 26 #[Value.bool false, Value.slice none 0 0, Value.slice none 0 0]).ext hx8; obtain ⟨k0, k1, k2, kf0, kf1, kf2, kz⟩ := hbm.three)); have HE8 : Hid (Ext w3 w8) := Lib.hid (by first | exact HE7.out.trans hx8 | exact (HE7.out.alloc _).trans hx8); clear i0 i1 iz; obtain ⟨t0, t1, t2, s0, s1, s2, tz⟩ := (HB13.out.ext HE8.out).three; clear hi8))
    all_goals go_wp2_with fail
    all_goals go_meet
    all_goals first
      | (have hchk : Blk w8 w7.heap.size 26 #[Value.bool false, Value.slice none 0 0, Value.slice none 0 0] := hbm; have hT := ((hchk.set_ 0 (.bool f8)).set_ 1 (.slice G8 g8 j8)).set_ 2 (.slice Y8 y8 z8); exact ⟨_, _, _, _, _, _, _, _, _, rfl, hT.cell 0, hT.cell 1, hT.cell 2, hT.lt, (by first | omega | (simp <;> omega)), (((R8.out.far (a := ⟨w7.heap.size, 0, none⟩) (show w7.heap.size < _ by first | omega | (simp <;> omega)) (.bool f8)).far (a := ⟨w7.heap.size, 1, none⟩) (show w7.heap.size < _ by first | omega | (simp <;> omega)) (.slice G8 g8 j8)).far (a := ⟨w7.heap.size, 2, none⟩) (show w7.heap.size < _ by first | omega | (simp <;> omega)) (.slice Y8 y8 z8)), ((((HB13.out.ext HE8.out).far (p := ⟨w7.heap.size, 0, none⟩) (show w.heap.size + 1 ≠ _ by (try simp only) <;> omega) (.bool f8)).far (p := ⟨w7.heap.size, 1, none⟩) (show w.heap.size + 1 ≠ _ by (try simp only) <;> omega) (.slice G8 g8 j8)).far (p := ⟨w7.heap.size, 2, none⟩) (show w.heap.size + 1 ≠ _ by (try simp only) <;> omega) (.slice Y8 y8 z8)), ((((HX3.out.trans HE8.out).setCell (p := ⟨w7.heap.size, 0, none⟩) (show w.heap.size ≤ _ by (try simp only) <;> omega) (.bool f8)).setCell (p := ⟨w7.heap.size, 1, none⟩) (show w.heap.size ≤ _ by (try simp only) <;> omega) (.slice G8 g8 j8)).setCell (p := ⟨w7.heap.size, 2, none⟩) (show w.heap.size ≤ _ by (try simp only) <;> omega) (.slice Y8 y8 z8))⟩)
      | (have hchk : Blk w8 w3.heap.size 26 #[Value.bool false, Value.slice none 0 0, Value.slice none 0 0] := hbm; have hT := ((hchk.set_ 0 (.bool f8)).set_ 1 (.slice G8 g8 j8)).set_ 2 (.slice Y8 y8 z8); exact ⟨_, _, _, _, _, _, _, _, _, rfl, hT.cell 0, hT.cell 1, hT.cell 2, hT.lt, (by first | omega | (simp <;> omega)), (((R8.out.far (a := ⟨w3.heap.size, 0, none⟩) (show w3.heap.size < _ by first | omega | (simp <;> omega)) (.bool f8)).far (a := ⟨w3.heap.size, 1, none⟩) (show w3.heap.size < _ by first | omega | (simp <;> omega)) (.slice G8 g8 j8)).far (a := ⟨w3.heap.size, 2, none⟩) (show w3.heap.size < _ by first | omega | (simp <;> omega)) (.slice Y8 y8 z8)), ((((HB13.out.ext HE8.out).far (p := ⟨w3.heap.size, 0, none⟩) (show w.heap.size + 1 ≠ _ by (try simp only) <;> omega) (.bool f8)).far (p := ⟨w3.heap.size, 1, none⟩) (show w.heap.size + 1 ≠ _ by (try simp only) <;> omega) (.slice G8 g8 j8)).far (p := ⟨w3.heap.size, 2, none⟩) (show w.heap.size + 1 ≠ _ by (try simp only) <;> omega) (.slice Y8 y8 z8)), ((((HX3.out.trans HE8.out).setCell (p := ⟨w3.heap.size, 0, none⟩) (show w.heap.size ≤ _ by (try simp only) <;> omega) (.bool f8)).setCell (p := ⟨w3.heap.size, 1, none⟩) (show w.heap.size ≤ _ by (try simp only) <;> omega) (.slice G8 g8 j8)).setCell (p := ⟨w3.heap.size, 2, none⟩) (show w.heap.size ≤ _ by (try simp only) <;> omega) (.slice Y8 y8 z8))⟩)
      | (have hT := Blk.new w8 26 #[Value.bool f8, Value.slice G8 g8 j8, Value.slice Y8 y8 z8]; exact ⟨_, _, _, _, _, _, _, _, _, rfl, hT.cell 0, hT.cell 1, hT.cell 2, hT.lt, (by first | omega | (simp <;> omega)), R8.out.ext ((Ext.refl w8).alloc _), (HB13.out.ext HE8.out).alloc _, (HX3.out.trans HE8.out).alloc _⟩)
  case rest =>
  obtain ⟨gx, B, f8, g8, G8, j8, y8, Y8, z8, rfl, k0, k1, k2, kz, hBlt, hI, hB, hE⟩ := hcut
  have HBF := Lib.hid hB
  have HIF := Lib.hid hI
  have HEF := Lib.hid hE
  clear t0 t1 t2 s0 s1 s2 tz i0 i1 iz
  obtain ⟨t0, t1, t2, s0, s1, s2, tz⟩ := hB.three
  clear hB hI hE
  go_wp2_with fail
  obtain ⟨hr0, hr1, hr2⟩ := three_set HBF.out (.bool f8) (.slice G8 g8 j8) (.slice Y8 y8 z8)
  refine bodyPost_ret (v := .tuple #[.agg #[Value.bool f8, Value.slice G8 g8 j8, Value.slice Y8 y8 z8], .bool true]) (by simp [results, Tryz.results13, go_sem, hr0, hr1, hr2]) rfl ?_
  exact ⟨_, true, _, _, rfl, (((HIF.out.far (a := ⟨w.heap.size + 1, 0, none⟩) hBlt (.bool f8)).far (a := ⟨w.heap.size + 1, 1, none⟩) hBlt (.slice G8 g8 j8)).far (a := ⟨w.heap.size + 1, 2, none⟩) hBlt (.slice Y8 y8 z8)).mono (by omega), fun _ => ⟨HLW.out, HR.out⟩, (((HEF.out.setCell (p := ⟨w.heap.size + 1, 0, none⟩) (Nat.le_succ _) (.bool f8)).setCell (p := ⟨w.heap.size + 1, 1, none⟩) (Nat.le_succ _) (.slice G8 g8 j8)).setCell (p := ⟨w.heap.size + 1, 2, none⟩) (Nat.le_succ _) (.slice Y8 y8 z8))⟩
theorem mrat_any (w : World) (b : Bool) (m d : Value) (xs ys : List Nat) (N : Nat) (h : Arr w m xs) (h' : Arr w d ys) (hN : 1 ≤ N) (hN2 : N ≤ 1000) :
    Calls Tryz.prog 13 #[.agg #[.bool b, m, d], .int .i64 (N : Int)] w (RatPost N w) := by
  by_cases hx : xs.length ≤ N <;> by_cases hy : ys.length ≤ N
  · rcases Nat.eq_zero_or_pos (val ys) with hz | hz
    · exact mrat_d w b m d xs ys N h h' hN hN2 hx hy hz
    · exact mrat_e w b m d xs ys N h h' hN hN2 hx hy hz
  · exact mrat_c w b m d xs ys N h h' hN hN2 hx (by omega)
  · exact mrat_b w b m d xs ys N h h' hN hN2 (by omega) hy
  · exact mrat_a w b m d xs ys N h h' hN hN2 (by omega) (by omega)
end Big
end Go.Proofs.YtplmldkfgeiklaaGreatDoor
/- two of chapter 07: two fractions. Printed by a program. -/
namespace Go.Proofs.YtplmldkfgeiklaaGreatDoor
namespace Big
open Go.RowKit
/-- What two returns. -/
def TwoPost (N : Nat) (w : World) (e : Ending) (w' : World) : Prop :=
  ∃ v' u' ok p q r s, e = .returned (.tuple #[v', u', .bool ok]) ∧ IsRat w.heap.size w' v' p q ∧ IsRat w.heap.size w' u' r s ∧ (ok = true → (Low p q ∧ (limbs p.natAbs).length ≤ N ∧ (limbs q).length ≤ N) ∧ (Low r s ∧ (limbs r.natAbs).length ≤ N ∧ (limbs s).length ≤ N)) ∧ Ext w w'
set_option maxHeartbeats 2000000 in
set_option maxRecDepth 100000 in
theorem two_any (w : World) (b : Bool) (m d : Value) (xs ys : List Nat) (b' : Bool) (m' d' : Value) (xs' ys' : List Nat) (N : Nat) (h : Arr w m xs) (hd : Arr w d ys) (h' : Arr w m' xs') (hd' : Arr w d' ys') (hN : 1 ≤ N) (hN2 : N ≤ 1000) :
    Calls Tryz.prog 41 #[.agg #[.bool b, m, d], .agg #[.bool b', m', d'], .int .i64 (N : Int)] w (TwoPost N w) := by
  have H1 := Lib.hid (fun W hx => mrat_any W b m d xs ys N (h.ext hx) (hd.ext (w' := W) hx) hN hN2)
  have H2 := Lib.hid (fun W hx => mrat_any W b' m' d' xs' ys' N (h'.ext hx) (hd'.ext (w' := W) hx) hN hN2)
  unfold RatPost at H1 H2
  obtain ⟨l0, A0, c0, rfl⟩ := h.shape
  obtain ⟨l1, A1, c1, rfl⟩ := hd.shape
  obtain ⟨l2, A2, c2, rfl⟩ := h'.shape
  obtain ⟨l3, A3, c3, rfl⟩ := hd'.shape
  clear h hd h' hd' hN hN2
  go_enter Tryz.func41, Tryz.ntmps41
  go_wp2_with fail
  have hb0 := ((((Blk.new w 26 #[Value.bool b, Value.slice A0 l0 c0, Value.slice A1 l1 c1]).alloc (.cells #[Value.bool b', Value.slice A2 l2 c2, Value.slice A3 l3 c3] 26)).alloc (.cells #[Value.bool false, Value.slice none 0 0, Value.slice none 0 0] 26)).alloc (.cells #[Value.bool false, Value.slice none 0 0, Value.slice none 0 0] 26))
  have hb1 := (((Blk.new (w.alloc (.cells #[Value.bool b, Value.slice A0 l0 c0, Value.slice A1 l1 c1] 26)) 26 #[Value.bool b', Value.slice A2 l2 c2, Value.slice A3 l3 c3]).alloc (.cells #[Value.bool false, Value.slice none 0 0, Value.slice none 0 0] 26)).alloc (.cells #[Value.bool false, Value.slice none 0 0, Value.slice none 0 0] 26))
  have hb2 := ((Blk.new ((w.alloc (.cells #[Value.bool b, Value.slice A0 l0 c0, Value.slice A1 l1 c1] 26)).alloc (.cells #[Value.bool b', Value.slice A2 l2 c2, Value.slice A3 l3 c3] 26)) 26 #[Value.bool false, Value.slice none 0 0, Value.slice none 0 0]).alloc (.cells #[Value.bool false, Value.slice none 0 0, Value.slice none 0 0] 26))
  have hb3 := (Blk.new (((w.alloc (.cells #[Value.bool b, Value.slice A0 l0 c0, Value.slice A1 l1 c1] 26)).alloc (.cells #[Value.bool b', Value.slice A2 l2 c2, Value.slice A3 l3 c3] 26)).alloc (.cells #[Value.bool false, Value.slice none 0 0, Value.slice none 0 0] 26)) 26 #[Value.bool false, Value.slice none 0 0, Value.slice none 0 0])
  have hxo := (((((Ext.refl w).alloc (.cells #[Value.bool b, Value.slice A0 l0 c0, Value.slice A1 l1 c1] 26)).alloc (.cells #[Value.bool b', Value.slice A2 l2 c2, Value.slice A3 l3 c3] 26)).alloc (.cells #[Value.bool false, Value.slice none 0 0, Value.slice none 0 0] 26)).alloc (.cells #[Value.bool false, Value.slice none 0 0, Value.slice none 0 0] 26))
  have hszo : w.heap.size + 1 + 1 + 1 + 1 = ((((w.alloc (.cells #[Value.bool b, Value.slice A0 l0 c0, Value.slice A1 l1 c1] 26)).alloc (.cells #[Value.bool b', Value.slice A2 l2 c2, Value.slice A3 l3 c3] 26)).alloc (.cells #[Value.bool false, Value.slice none 0 0, Value.slice none 0 0] 26)).alloc (.cells #[Value.bool false, Value.slice none 0 0, Value.slice none 0 0] 26)).heap.size := by simp
  simp only [World.size_alloc] at hb1 hb2 hb3
  generalize (((w.alloc (.cells #[Value.bool b, Value.slice A0 l0 c0, Value.slice A1 l1 c1] 26)).alloc (.cells #[Value.bool b', Value.slice A2 l2 c2, Value.slice A3 l3 c3] 26)).alloc (.cells #[Value.bool false, Value.slice none 0 0, Value.slice none 0 0] 26)).alloc (.cells #[Value.bool false, Value.slice none 0 0, Value.slice none 0 0] 26) = wo at *
  have HX := Lib.hid hxo
  have HZ : Hid (w.heap.size + 1 + 1 + 1 + 1 ≤ wo.heap.size) := Lib.hid (by omega)
  have HB0 := Lib.hid hb0
  have HB1 := Lib.hid hb1
  have HB2 := Lib.hid hb2
  have HB3 := Lib.hid hb3
  clear hxo hszo hb0 hb1 hb2 hb3
  have HO := Lib.hid (Ext.refl wo)
  refine (H1.out _ HX.out).mono ?_
  rintro e w11 ⟨r10, ok1, p, q, rfl, hi10, hl1, hx10⟩
  have HX := Lib.hid (HX.out.trans hx10)
  have HO := Lib.hid (HO.out.trans hx10)
  have HB0 := Lib.hid (HB0.out.ext hx10)
  have HB1 := Lib.hid (HB1.out.ext hx10)
  have HB2 := Lib.hid (HB2.out.ext hx10)
  have HB3 := Lib.hid (HB3.out.ext hx10)
  clear hx10
  have QA := Lib.hid hi10
  have HL1 := Lib.hid hl1
  obtain ⟨f10, g10, G10, j10, y10, Y10, z10, rfl⟩ := hi10.shape
  clear hi10 hl1
  obtain ⟨hb0_0, hb0_1, hb0_2, hb0_3, hb0_4, hb0_5, hb0_6⟩ := HB0.out.three
  obtain ⟨hb1_0, hb1_1, hb1_2, hb1_3, hb1_4, hb1_5, hb1_6⟩ := HB1.out.three
  obtain ⟨hb2_0, hb2_1, hb2_2, hb2_3, hb2_4, hb2_5, hb2_6⟩ := HB2.out.three
  obtain ⟨hb3_0, hb3_1, hb3_2, hb3_3, hb3_4, hb3_5, hb3_6⟩ := HB3.out.three
  go_wp2_with fail
  have HOP := HO
  clear hb0_0 hb0_1 hb0_2 hb0_3 hb0_4 hb0_5 hb0_6 hb1_0 hb1_1 hb1_2 hb1_3 hb1_4 hb1_5 hb1_6 hb2_0 hb2_1 hb2_2 hb2_3 hb2_4 hb2_5 hb2_6 hb3_0 hb3_1 hb3_2 hb3_3 hb3_4 hb3_5 hb3_6
  have hb11 := Blk.new w11 26 #[Value.bool f10, Value.slice G10 g10 j10, Value.slice Y10 y10 z10]
  have hx11 := (Ext.refl w11).alloc (.cells #[Value.bool f10, Value.slice G10 g10 j10, Value.slice Y10 y10 z10] 26)
  have HX := Lib.hid (HX.out.trans hx11)
  have HO := Lib.hid (HO.out.trans hx11)
  have QA := Lib.hid (QA.out.ext hx11)
  have HB0 := Lib.hid (HB0.out.ext hx11)
  have HB1 := Lib.hid (HB1.out.ext hx11)
  have HB2 := Lib.hid (HB2.out.ext hx11)
  have HB3 := Lib.hid (HB3.out.ext hx11)
  have hlow11 := Nat.le_trans HZ.out HOP.out.size
  have BX := Lib.hid hb11
  generalize w11.alloc (.cells #[Value.bool f10, Value.slice G10 g10 j10, Value.slice Y10 y10 z10] 26) = w12 at *
  generalize w11.heap.size = a11 at *
  clear hb11 hx11
  clear HOP
  obtain ⟨hb0_0, hb0_1, hb0_2, hb0_3, hb0_4, hb0_5, hb0_6⟩ := HB0.out.three
  obtain ⟨hb1_0, hb1_1, hb1_2, hb1_3, hb1_4, hb1_5, hb1_6⟩ := HB1.out.three
  obtain ⟨hb2_0, hb2_1, hb2_2, hb2_3, hb2_4, hb2_5, hb2_6⟩ := HB2.out.three
  obtain ⟨hb3_0, hb3_1, hb3_2, hb3_3, hb3_4, hb3_5, hb3_6⟩ := HB3.out.three
  obtain ⟨bx_0, bx_1, bx_2, bx_3, bx_4, bx_5, bx_6⟩ := BX.out.three
  have HOQ := HO
  clear hb0_0 hb0_1 hb0_2 hb0_3 hb0_4 hb0_5 hb0_6 hb1_0 hb1_1 hb1_2 hb1_3 hb1_4 hb1_5 hb1_6 hb2_0 hb2_1 hb2_2 hb2_3 hb2_4 hb2_5 hb2_6 hb3_0 hb3_1 hb3_2 hb3_3 hb3_4 hb3_5 hb3_6 bx_0 bx_1 bx_2 bx_3 bx_4 bx_5 bx_6
  refine (H2.out _ HX.out).mono ?_
  rintro e w13 ⟨r12, ok2, r, t, rfl, hi12, hl2, hx12⟩
  have HX := Lib.hid (HX.out.trans hx12)
  have HO := Lib.hid (HO.out.trans hx12)
  have QA := Lib.hid (QA.out.ext hx12)
  have HB0 := Lib.hid (HB0.out.ext hx12)
  have HB1 := Lib.hid (HB1.out.ext hx12)
  have HB2 := Lib.hid (HB2.out.ext hx12)
  have HB3 := Lib.hid (HB3.out.ext hx12)
  have BX := Lib.hid (BX.out.ext hx12)
  clear hx12
  have QB := Lib.hid (hi12.mono HOQ.out.size)
  have HL2 := Lib.hid hl2
  obtain ⟨f12, g12, G12, j12, y12, Y12, z12, rfl⟩ := hi12.shape
  clear hi12 hl2
  obtain ⟨hb0_0, hb0_1, hb0_2, hb0_3, hb0_4, hb0_5, hb0_6⟩ := HB0.out.three
  obtain ⟨hb1_0, hb1_1, hb1_2, hb1_3, hb1_4, hb1_5, hb1_6⟩ := HB1.out.three
  obtain ⟨hb2_0, hb2_1, hb2_2, hb2_3, hb2_4, hb2_5, hb2_6⟩ := HB2.out.three
  obtain ⟨hb3_0, hb3_1, hb3_2, hb3_3, hb3_4, hb3_5, hb3_6⟩ := HB3.out.three
  obtain ⟨bx_0, bx_1, bx_2, bx_3, bx_4, bx_5, bx_6⟩ := BX.out.three
  go_upto_region 3 with fail
  have HOP := HO
  clear hb0_0 hb0_1 hb0_2 hb0_3 hb0_4 hb0_5 hb0_6 hb1_0 hb1_1 hb1_2 hb1_3 hb1_4 hb1_5 hb1_6 hb2_0 hb2_1 hb2_2 hb2_3 hb2_4 hb2_5 hb2_6 hb3_0 hb3_1 hb3_2 hb3_3 hb3_4 hb3_5 hb3_6 bx_0 bx_1 bx_2 bx_3 bx_4 bx_5 bx_6
  have hb13 := Blk.new w13 26 #[Value.bool f12, Value.slice G12 g12 j12, Value.slice Y12 y12 z12]
  have hx13 := (Ext.refl w13).alloc (.cells #[Value.bool f12, Value.slice G12 g12 j12, Value.slice Y12 y12 z12] 26)
  have HX := Lib.hid (HX.out.trans hx13)
  have HO := Lib.hid (HO.out.trans hx13)
  have QA := Lib.hid (QA.out.ext hx13)
  have QB := Lib.hid (QB.out.ext hx13)
  have HB0 := Lib.hid (HB0.out.ext hx13)
  have HB1 := Lib.hid (HB1.out.ext hx13)
  have HB2 := Lib.hid (HB2.out.ext hx13)
  have HB3 := Lib.hid (HB3.out.ext hx13)
  have BX := Lib.hid (BX.out.ext hx13)
  have hlow13 := Nat.le_trans HZ.out HOP.out.size
  have BY := Lib.hid hb13
  generalize w13.alloc (.cells #[Value.bool f12, Value.slice G12 g12 j12, Value.slice Y12 y12 z12] 26) = w14 at *
  generalize w13.heap.size = a13 at *
  clear hb13 hx13
  clear HOP
  obtain ⟨hb0_0, hb0_1, hb0_2, hb0_3, hb0_4, hb0_5, hb0_6⟩ := HB0.out.three
  obtain ⟨hb1_0, hb1_1, hb1_2, hb1_3, hb1_4, hb1_5, hb1_6⟩ := HB1.out.three
  obtain ⟨hb2_0, hb2_1, hb2_2, hb2_3, hb2_4, hb2_5, hb2_6⟩ := HB2.out.three
  obtain ⟨hb3_0, hb3_1, hb3_2, hb3_3, hb3_4, hb3_5, hb3_6⟩ := HB3.out.three
  obtain ⟨bx_0, bx_1, bx_2, bx_3, bx_4, bx_5, bx_6⟩ := BX.out.three
  obtain ⟨by_0, by_1, by_2, by_3, by_4, by_5, by_6⟩ := BY.out.three
  cases ok1 <;> cases ok2
  all_goals go_region
  all_goals go_wp2_with fail
  all_goals have hzz := HZ.out
  all_goals have hB7 := (((HB3.out.far (p := ⟨w.heap.size + 1 + 1, 0, none⟩) (show w.heap.size + 1 + 1 + 1 ≠ _ by (try simp only) <;> omega) (.bool f10)).far (p := ⟨w.heap.size + 1 + 1, 1, none⟩) (show w.heap.size + 1 + 1 + 1 ≠ _ by (try simp only) <;> omega) (.slice G10 g10 j10)).far (p := ⟨w.heap.size + 1 + 1, 2, none⟩) (show w.heap.size + 1 + 1 + 1 ≠ _ by (try simp only) <;> omega) (.slice Y10 y10 z10))
  all_goals obtain ⟨hr0, hr1, hr2⟩ := three_set HB2.out (.bool f10) (.slice G10 g10 j10) (.slice Y10 y10 z10)
  all_goals obtain ⟨hr3, hr4, hr5⟩ := three_set hB7 (.bool f12) (.slice G12 g12 j12) (.slice Y12 y12 z12)
  · refine bodyPost_ret (v := .tuple #[.agg #[.bool f10, .slice G10 g10 j10, .slice Y10 y10 z10], .agg #[.bool f12, .slice G12 g12 j12, .slice Y12 y12 z12], .bool false]) (by simp [results, Tryz.results41, go_sem, hr0, hr1, hr2, hr3, hr4, hr5]) rfl ?_
    exact ⟨_, _, false, p, q, r, t, rfl, (((((((QA.out.far (a := ⟨w.heap.size + 1 + 1, 0, none⟩) (show w.heap.size + 1 + 1 < _ by omega) (.bool f10)).far (a := ⟨w.heap.size + 1 + 1, 1, none⟩) (show w.heap.size + 1 + 1 < _ by omega) (.slice G10 g10 j10)).far (a := ⟨w.heap.size + 1 + 1, 2, none⟩) (show w.heap.size + 1 + 1 < _ by omega) (.slice Y10 y10 z10)).far (a := ⟨w.heap.size + 1 + 1 + 1, 0, none⟩) (show w.heap.size + 1 + 1 + 1 < _ by omega) (.bool f12)).far (a := ⟨w.heap.size + 1 + 1 + 1, 1, none⟩) (show w.heap.size + 1 + 1 + 1 < _ by omega) (.slice G12 g12 j12)).far (a := ⟨w.heap.size + 1 + 1 + 1, 2, none⟩) (show w.heap.size + 1 + 1 + 1 < _ by omega) (.slice Y12 y12 z12)).ext (Ext.refl _).drew).mono (by omega), (((((((QB.out.far (a := ⟨w.heap.size + 1 + 1, 0, none⟩) (show w.heap.size + 1 + 1 < _ by omega) (.bool f10)).far (a := ⟨w.heap.size + 1 + 1, 1, none⟩) (show w.heap.size + 1 + 1 < _ by omega) (.slice G10 g10 j10)).far (a := ⟨w.heap.size + 1 + 1, 2, none⟩) (show w.heap.size + 1 + 1 < _ by omega) (.slice Y10 y10 z10)).far (a := ⟨w.heap.size + 1 + 1 + 1, 0, none⟩) (show w.heap.size + 1 + 1 + 1 < _ by omega) (.bool f12)).far (a := ⟨w.heap.size + 1 + 1 + 1, 1, none⟩) (show w.heap.size + 1 + 1 + 1 < _ by omega) (.slice G12 g12 j12)).far (a := ⟨w.heap.size + 1 + 1 + 1, 2, none⟩) (show w.heap.size + 1 + 1 + 1 < _ by omega) (.slice Y12 y12 z12)).ext (Ext.refl _).drew).mono (by omega), fun e => absurd e (by decide), ((((((HX.out.setCell (p := ⟨w.heap.size + 1 + 1, 0, none⟩) (show w.heap.size ≤ _ by (try simp only) <;> omega) (.bool f10)).setCell (p := ⟨w.heap.size + 1 + 1, 1, none⟩) (show w.heap.size ≤ _ by (try simp only) <;> omega) (.slice G10 g10 j10)).setCell (p := ⟨w.heap.size + 1 + 1, 2, none⟩) (show w.heap.size ≤ _ by (try simp only) <;> omega) (.slice Y10 y10 z10)).setCell (p := ⟨w.heap.size + 1 + 1 + 1, 0, none⟩) (show w.heap.size ≤ _ by (try simp only) <;> omega) (.bool f12)).setCell (p := ⟨w.heap.size + 1 + 1 + 1, 1, none⟩) (show w.heap.size ≤ _ by (try simp only) <;> omega) (.slice G12 g12 j12)).setCell (p := ⟨w.heap.size + 1 + 1 + 1, 2, none⟩) (show w.heap.size ≤ _ by (try simp only) <;> omega) (.slice Y12 y12 z12)).drew⟩
  · refine bodyPost_ret (v := .tuple #[.agg #[.bool f10, .slice G10 g10 j10, .slice Y10 y10 z10], .agg #[.bool f12, .slice G12 g12 j12, .slice Y12 y12 z12], .bool false]) (by simp [results, Tryz.results41, go_sem, hr0, hr1, hr2, hr3, hr4, hr5]) rfl ?_
    exact ⟨_, _, false, p, q, r, t, rfl, (((((((QA.out.far (a := ⟨w.heap.size + 1 + 1, 0, none⟩) (show w.heap.size + 1 + 1 < _ by omega) (.bool f10)).far (a := ⟨w.heap.size + 1 + 1, 1, none⟩) (show w.heap.size + 1 + 1 < _ by omega) (.slice G10 g10 j10)).far (a := ⟨w.heap.size + 1 + 1, 2, none⟩) (show w.heap.size + 1 + 1 < _ by omega) (.slice Y10 y10 z10)).far (a := ⟨w.heap.size + 1 + 1 + 1, 0, none⟩) (show w.heap.size + 1 + 1 + 1 < _ by omega) (.bool f12)).far (a := ⟨w.heap.size + 1 + 1 + 1, 1, none⟩) (show w.heap.size + 1 + 1 + 1 < _ by omega) (.slice G12 g12 j12)).far (a := ⟨w.heap.size + 1 + 1 + 1, 2, none⟩) (show w.heap.size + 1 + 1 + 1 < _ by omega) (.slice Y12 y12 z12)).ext (Ext.refl _).drew).mono (by omega), (((((((QB.out.far (a := ⟨w.heap.size + 1 + 1, 0, none⟩) (show w.heap.size + 1 + 1 < _ by omega) (.bool f10)).far (a := ⟨w.heap.size + 1 + 1, 1, none⟩) (show w.heap.size + 1 + 1 < _ by omega) (.slice G10 g10 j10)).far (a := ⟨w.heap.size + 1 + 1, 2, none⟩) (show w.heap.size + 1 + 1 < _ by omega) (.slice Y10 y10 z10)).far (a := ⟨w.heap.size + 1 + 1 + 1, 0, none⟩) (show w.heap.size + 1 + 1 + 1 < _ by omega) (.bool f12)).far (a := ⟨w.heap.size + 1 + 1 + 1, 1, none⟩) (show w.heap.size + 1 + 1 + 1 < _ by omega) (.slice G12 g12 j12)).far (a := ⟨w.heap.size + 1 + 1 + 1, 2, none⟩) (show w.heap.size + 1 + 1 + 1 < _ by omega) (.slice Y12 y12 z12)).ext (Ext.refl _).drew).mono (by omega), fun e => absurd e (by decide), ((((((HX.out.setCell (p := ⟨w.heap.size + 1 + 1, 0, none⟩) (show w.heap.size ≤ _ by (try simp only) <;> omega) (.bool f10)).setCell (p := ⟨w.heap.size + 1 + 1, 1, none⟩) (show w.heap.size ≤ _ by (try simp only) <;> omega) (.slice G10 g10 j10)).setCell (p := ⟨w.heap.size + 1 + 1, 2, none⟩) (show w.heap.size ≤ _ by (try simp only) <;> omega) (.slice Y10 y10 z10)).setCell (p := ⟨w.heap.size + 1 + 1 + 1, 0, none⟩) (show w.heap.size ≤ _ by (try simp only) <;> omega) (.bool f12)).setCell (p := ⟨w.heap.size + 1 + 1 + 1, 1, none⟩) (show w.heap.size ≤ _ by (try simp only) <;> omega) (.slice G12 g12 j12)).setCell (p := ⟨w.heap.size + 1 + 1 + 1, 2, none⟩) (show w.heap.size ≤ _ by (try simp only) <;> omega) (.slice Y12 y12 z12)).drew⟩
  · refine bodyPost_ret (v := .tuple #[.agg #[.bool f10, .slice G10 g10 j10, .slice Y10 y10 z10], .agg #[.bool f12, .slice G12 g12 j12, .slice Y12 y12 z12], .bool false]) (by simp [results, Tryz.results41, go_sem, hr0, hr1, hr2, hr3, hr4, hr5]) rfl ?_
    exact ⟨_, _, false, p, q, r, t, rfl, (((((((QA.out.far (a := ⟨w.heap.size + 1 + 1, 0, none⟩) (show w.heap.size + 1 + 1 < _ by omega) (.bool f10)).far (a := ⟨w.heap.size + 1 + 1, 1, none⟩) (show w.heap.size + 1 + 1 < _ by omega) (.slice G10 g10 j10)).far (a := ⟨w.heap.size + 1 + 1, 2, none⟩) (show w.heap.size + 1 + 1 < _ by omega) (.slice Y10 y10 z10)).far (a := ⟨w.heap.size + 1 + 1 + 1, 0, none⟩) (show w.heap.size + 1 + 1 + 1 < _ by omega) (.bool f12)).far (a := ⟨w.heap.size + 1 + 1 + 1, 1, none⟩) (show w.heap.size + 1 + 1 + 1 < _ by omega) (.slice G12 g12 j12)).far (a := ⟨w.heap.size + 1 + 1 + 1, 2, none⟩) (show w.heap.size + 1 + 1 + 1 < _ by omega) (.slice Y12 y12 z12)).ext (Ext.refl _).drew).mono (by omega), (((((((QB.out.far (a := ⟨w.heap.size + 1 + 1, 0, none⟩) (show w.heap.size + 1 + 1 < _ by omega) (.bool f10)).far (a := ⟨w.heap.size + 1 + 1, 1, none⟩) (show w.heap.size + 1 + 1 < _ by omega) (.slice G10 g10 j10)).far (a := ⟨w.heap.size + 1 + 1, 2, none⟩) (show w.heap.size + 1 + 1 < _ by omega) (.slice Y10 y10 z10)).far (a := ⟨w.heap.size + 1 + 1 + 1, 0, none⟩) (show w.heap.size + 1 + 1 + 1 < _ by omega) (.bool f12)).far (a := ⟨w.heap.size + 1 + 1 + 1, 1, none⟩) (show w.heap.size + 1 + 1 + 1 < _ by omega) (.slice G12 g12 j12)).far (a := ⟨w.heap.size + 1 + 1 + 1, 2, none⟩) (show w.heap.size + 1 + 1 + 1 < _ by omega) (.slice Y12 y12 z12)).ext (Ext.refl _).drew).mono (by omega), fun e => absurd e (by decide), ((((((HX.out.setCell (p := ⟨w.heap.size + 1 + 1, 0, none⟩) (show w.heap.size ≤ _ by (try simp only) <;> omega) (.bool f10)).setCell (p := ⟨w.heap.size + 1 + 1, 1, none⟩) (show w.heap.size ≤ _ by (try simp only) <;> omega) (.slice G10 g10 j10)).setCell (p := ⟨w.heap.size + 1 + 1, 2, none⟩) (show w.heap.size ≤ _ by (try simp only) <;> omega) (.slice Y10 y10 z10)).setCell (p := ⟨w.heap.size + 1 + 1 + 1, 0, none⟩) (show w.heap.size ≤ _ by (try simp only) <;> omega) (.bool f12)).setCell (p := ⟨w.heap.size + 1 + 1 + 1, 1, none⟩) (show w.heap.size ≤ _ by (try simp only) <;> omega) (.slice G12 g12 j12)).setCell (p := ⟨w.heap.size + 1 + 1 + 1, 2, none⟩) (show w.heap.size ≤ _ by (try simp only) <;> omega) (.slice Y12 y12 z12)).drew⟩
  · refine bodyPost_ret (v := .tuple #[.agg #[.bool f10, .slice G10 g10 j10, .slice Y10 y10 z10], .agg #[.bool f12, .slice G12 g12 j12, .slice Y12 y12 z12], .bool true]) (by simp [results, Tryz.results41, go_sem, hr0, hr1, hr2, hr3, hr4, hr5]) rfl ?_
    exact ⟨_, _, true, p, q, r, t, rfl, (((((((QA.out.far (a := ⟨w.heap.size + 1 + 1, 0, none⟩) (show w.heap.size + 1 + 1 < _ by omega) (.bool f10)).far (a := ⟨w.heap.size + 1 + 1, 1, none⟩) (show w.heap.size + 1 + 1 < _ by omega) (.slice G10 g10 j10)).far (a := ⟨w.heap.size + 1 + 1, 2, none⟩) (show w.heap.size + 1 + 1 < _ by omega) (.slice Y10 y10 z10)).far (a := ⟨w.heap.size + 1 + 1 + 1, 0, none⟩) (show w.heap.size + 1 + 1 + 1 < _ by omega) (.bool f12)).far (a := ⟨w.heap.size + 1 + 1 + 1, 1, none⟩) (show w.heap.size + 1 + 1 + 1 < _ by omega) (.slice G12 g12 j12)).far (a := ⟨w.heap.size + 1 + 1 + 1, 2, none⟩) (show w.heap.size + 1 + 1 + 1 < _ by omega) (.slice Y12 y12 z12)).ext (Ext.refl _).drew).mono (by omega), (((((((QB.out.far (a := ⟨w.heap.size + 1 + 1, 0, none⟩) (show w.heap.size + 1 + 1 < _ by omega) (.bool f10)).far (a := ⟨w.heap.size + 1 + 1, 1, none⟩) (show w.heap.size + 1 + 1 < _ by omega) (.slice G10 g10 j10)).far (a := ⟨w.heap.size + 1 + 1, 2, none⟩) (show w.heap.size + 1 + 1 < _ by omega) (.slice Y10 y10 z10)).far (a := ⟨w.heap.size + 1 + 1 + 1, 0, none⟩) (show w.heap.size + 1 + 1 + 1 < _ by omega) (.bool f12)).far (a := ⟨w.heap.size + 1 + 1 + 1, 1, none⟩) (show w.heap.size + 1 + 1 + 1 < _ by omega) (.slice G12 g12 j12)).far (a := ⟨w.heap.size + 1 + 1 + 1, 2, none⟩) (show w.heap.size + 1 + 1 + 1 < _ by omega) (.slice Y12 y12 z12)).ext (Ext.refl _).drew).mono (by omega), fun _ => ⟨HL1.out trivial, HL2.out trivial⟩, ((((((HX.out.setCell (p := ⟨w.heap.size + 1 + 1, 0, none⟩) (show w.heap.size ≤ _ by (try simp only) <;> omega) (.bool f10)).setCell (p := ⟨w.heap.size + 1 + 1, 1, none⟩) (show w.heap.size ≤ _ by (try simp only) <;> omega) (.slice G10 g10 j10)).setCell (p := ⟨w.heap.size + 1 + 1, 2, none⟩) (show w.heap.size ≤ _ by (try simp only) <;> omega) (.slice Y10 y10 z10)).setCell (p := ⟨w.heap.size + 1 + 1 + 1, 0, none⟩) (show w.heap.size ≤ _ by (try simp only) <;> omega) (.bool f12)).setCell (p := ⟨w.heap.size + 1 + 1 + 1, 1, none⟩) (show w.heap.size ≤ _ by (try simp only) <;> omega) (.slice G12 g12 j12)).setCell (p := ⟨w.heap.size + 1 + 1 + 1, 2, none⟩) (show w.heap.size ≤ _ by (try simp only) <;> omega) (.slice Y12 y12 z12)).drew⟩
end Big
end Go.Proofs.YtplmldkfgeiklaaGreatDoor
/- root.newton at order 2, root.Sqrt, root.Square, rational.Sqrt. Printed by a program. -/
namespace Go.Proofs.YtplmldkfgeiklaaGreatDoor
namespace Big
open Go.RowKit
theorem bitsN_lt (n : Nat) : n < 2 ^ bitsN n := by
  unfold bitsN
  split
  · simp [*]
  · exact Nat.lt_log2_self
theorem bitsN_le {n k : Nat} (h : n < 2 ^ k) : bitsN n ≤ k := by
  unfold bitsN
  split
  · omega
  · rename_i h0
    have := (Nat.log2_lt h0).2 h
    omega
theorem bitsN_limbs_le {n L : Nat} (h : (limbs n).length ≤ L) : bitsN n ≤ 32 * L := by
  refine bitsN_le ?_
  have h1 := val_lt (ok_limbs n)
  rw [val_limbs] at h1
  have h2 := pow_mono h
  rw [Nat.pow_mul]
  exact Nat.lt_of_lt_of_le h1 h2
theorem limbs_pow2_le {b L : Nat} (h : b ≤ 32 * L) : (limbs (2 ^ b)).length ≤ L + 1 := by
  refine length_limbs_le ?_
  have h1 : 2 ^ b ≤ 2 ^ (32 * L) := Nat.pow_le_pow_right (by omega) h
  rw [Nat.pow_mul, show (2 : Nat) ^ 32 = 4294967296 from rfl] at h1
  rw [Nat.pow_succ]
  have : 0 < 4294967296 ^ L := pow_pos' L
  omega
set_option maxHeartbeats 4000000 in
set_option maxRecDepth 100000 in
theorem newton2_any (w : World) (v0 : Value) (xs : List Nat) (h0 : Arr w v0 xs) (hl : xs.length ≤ 10000) (hpos : 0 < val xs) :
    Calls Tryz.prog 160 #[v0, .int .i64 2] w fun e w' => ∃ v' r, e = .returned v' ∧ IsSq (val xs) r ∧ Own w.heap.size w' v' (limbs r) ∧ Ext w w' := by
  have H0 := Lib.hid h0
  have hV : (limbs (val xs)).length ≤ 10000 := Nat.le_trans (length_limbs_val h0.ok) hl
  have HOF := Lib.hid (fun W => of_any W 1 (by decide))
  have HBT := Lib.hid (fun W hx => bits_any W v0 xs (h0.ext hx) (by omega))
  have hB := bitsN_limbs_le hV
  have hlt := bitsN_lt (val xs)
  have HSQ0 := Lib.hid (show val xs < 2 ^ ((bitsN (val xs) + 1) / 2) * 2 ^ ((bitsN (val xs) + 1) / 2) from Nat.lt_of_lt_of_le hlt (half_pow' _))
  obtain ⟨l0, A0, c0, rfl⟩ := h0.shape
  clear h0 hlt
  have HLL := Lib.hid hl
  have HPOS := Lib.hid hpos
  have HVL := Lib.hid hV
  clear hl hpos hV
  generalize bitsN (val xs) = B at *
  obtain ⟨S, hS⟩ : ∃ S, S = (B + 1) / 2 := ⟨_, rfl⟩
  have hq1 : Int.tdiv ((B : Int) + 2 - 1) 2 = (S : Int) := by rw [Int.tdiv_eq_ediv_of_nonneg (by omega)]; omega
  have hq2 : ((B : Int) + 2 - 1) / 2 = (S : Int) := by omega
  have hq3 : Int.tdiv ((B : Int) + 1) 2 = (S : Int) := by rw [Int.tdiv_eq_ediv_of_nonneg (by omega)]; omega
  have hq4 : ((B : Int) + 1) / 2 = (S : Int) := by omega
  have hBi : (B : Int) ≤ 320000 := by omega
  have hB0 : (0 : Int) ≤ (B : Int) := by omega
  rw [← hS] at HSQ0
  have HSH := Lib.hid (fun W m a => shl_any W m (limbs 1) S a (by rw [limbs_one]; simp) (by omega))
  rw [val_limbs, Nat.one_mul] at HSH
  have HSL : Hid ((limbs (2 ^ S)).length ≤ 10001) := Lib.hid (limbs_pow2_le (by omega))
  clear hS hB
  go_enter Tryz.func160, Tryz.ntmps160
  go_wp2_with fail
  refine (HOF.out _).mono ?_
  rintro e w1 ⟨r0, rfl, hi0, hx0⟩
  have R0 := Lib.hid hi0
  have HX1 := Lib.hid hx0
  obtain ⟨g0, G0, j0, rfl⟩ := hi0.shape
  clear hi0 hx0
  go_wp2_with fail
  refine (HBT.out _ HX1.out).mono ?_
  rintro e w2 ⟨rfl, rfl⟩
  go_wp2_with fail
  refine (HSH.out _ _ R0.out.arr).mono ?_
  rintro e w3 ⟨r1, rfl, hi1, hx1⟩
  have R1 := Lib.hid (hi1.mono HX1.out.size)
  have HX3 := Lib.hid (HX1.out.trans hx1)
  obtain ⟨g1, G1, j1, rfl⟩ := hi1.shape
  clear hi1 hx1 hq1 hq2 hq3 hq4 hBi hB0 HOF HBT HSH
  go_wp2_with fail
  go_loopg [5] (2 ^ S) (fun gh s5 wr => ∃ (x g5 c5 : Nat) (A5 : Option Addr), gh = x ∧ s5 = .slice A5 g5 c5 ∧ 0 < x ∧ Own w.heap.size wr s5 (limbs x) ∧ (∀ s, s * s ≤ val xs → s ≤ x) ∧ (limbs x).length ≤ 10001 ∧ Ext w wr)
  case atStart => exact ⟨2 ^ S, g1, j1, G1, rfl, rfl, Nat.pow_pos (by omega), R1.out, newton_start HSQ0.out, HSL.out, HX3.out⟩
  case round =>
    obtain ⟨x, g5, c5, A5, hgg, rfl, hx0, ho, hlow, hxl, hext⟩ := hrel
    have HGG := Lib.hid hgg
    have HO := Lib.hid ho
    have HX := Lib.hid hext
    have HLOW := Lib.hid hlow
    have HXL := Lib.hid hxl
    have HX0 := Lib.hid hx0
    have HP := Lib.hid (fun W m a => ppow_any W m (limbs x) 1 a (by omega) (by omega))
    rw [val_limbs, Nat.pow_one] at HP
    have HD := Lib.hid (fun W m a b => qdivmod_any W (.slice A0 l0 c0) m xs (limbs x) a b (by have := HLL.out; omega) (by omega) (by rw [val_limbs]; omega))
    unfold DivPost at HD
    rw [val_limbs] at HD
    have HSM := Lib.hid (fun W m a => psmall_any W m (limbs x) 1 0 a (by omega) (by decide) (by decide))
    rw [val_limbs, Nat.mul_one, Nat.add_zero] at HSM
    have hql : (limbs (val xs / x)).length ≤ 10000 := Nat.le_trans (limbs_mono (Nat.div_le_self _ _)) HVL.out
    have HA := Lib.hid (fun W m m' a b => add_any W m m' (limbs x) (limbs (val xs / x)) a b (by omega) (by omega))
    rw [val_limbs, val_limbs] at HA
    have hsl : (limbs (x + val xs / x)).length ≤ 20002 := by have := length_limbs_sum hxl hql; omega
    have HQ := Lib.hid (fun W m a => qsmall_any W m (limbs (x + val xs / x)) 2 a (by omega) (by decide) (by decide))
    rw [val_limbs] at HQ
    have hyl : (limbs ((x + val xs / x) / 2)).length ≤ 20002 := Nat.le_trans (limbs_mono (Nat.div_le_self _ _)) hsl
    have HC := Lib.hid (fun W m m' a b => cmp_any W m m' (limbs ((x + val xs / x) / 2)) (limbs x) a b (by omega) (by omega))
    rw [val_limbs, val_limbs] at HC
    have hstop := @newton_stop (val xs) x hx0
    have hnl := fun s => @newton_low (val xs) x s hx0
    clear hgg ho hext hlow hx0 hql hsl hyl hxl
    generalize (x + val xs / x) / 2 = y at *
    have hcn := @cmpI_neg y x
    generalize cmpI y x = cc at *
    have HK := Lib.hid (And.intro hstop (And.intro hnl hcn))
    have hcc : cc < 0 ∨ 0 ≤ cc := by omega
    clear hstop hnl hcn
    go_wp2_with fail
    refine (HP.out _ _ HO.out.arr).mono ?_
    rintro e w4 ⟨r4, rfl, hi4, hx4⟩
    have R4 := Lib.hid hi4
    have HX4 := Lib.hid (HX.out.trans hx4)
    have HO4 := Lib.hid (HO.out.ext hx4)
    obtain ⟨g4, G4, j4, rfl⟩ := hi4.shape
    clear hi4 hx4
    go_wp2_with fail
    refine (HD.out _ _ (H0.out.ext HX4.out) R4.out.arr).mono ?_
    rintro e w5 ⟨r5, r6, rfl, hi5, hi6, hx5⟩
    have R5 := Lib.hid hi5
    have HX5 := Lib.hid (HX4.out.trans hx5)
    have HO5 := Lib.hid (HO4.out.ext hx5)
    obtain ⟨g6, G6, j6, rfl⟩ := hi5.shape
    obtain ⟨g7, G7, j7, rfl⟩ := hi6.shape
    clear hi5 hi6 hx5
    go_wp2_with fail
    refine (HSM.out _ _ HO5.out.arr).mono ?_
    rintro e w6 ⟨r8, rfl, hi8, hx6⟩
    have R8 := Lib.hid hi8
    have HX6 := Lib.hid (HX5.out.trans hx6)
    have HO6 := Lib.hid (HO5.out.ext hx6)
    have R56 := Lib.hid (R5.out.ext hx6)
    obtain ⟨g8, G8, j8, rfl⟩ := hi8.shape
    clear hi8 hx6
    go_wp2_with fail
    refine (HA.out _ _ _ R8.out.arr R56.out.arr).mono ?_
    rintro e w7 ⟨r9, rfl, hi9, hx7⟩
    have R9 := Lib.hid hi9
    have HX7 := Lib.hid (HX6.out.trans hx7)
    have HO7 := Lib.hid (HO6.out.ext hx7)
    obtain ⟨g9, G9, j9, rfl⟩ := hi9.shape
    clear hi9 hx7
    go_wp2_with fail
    refine (HQ.out _ _ R9.out.arr).mono ?_
    rintro e w8 ⟨ra, rfl, hia, hx8⟩
    have HX8 := Lib.hid (HX7.out.trans hx8)
    have HO8 := Lib.hid (HO7.out.ext hx8)
    have RA := Lib.hid (hia.mono HX7.out.size)
    obtain ⟨ga, GA, ja, rfl⟩ := hia.shape
    clear hia hx8
    rcases hcc with hc1 | hc1
    · have hc2 : ¬ (0 : Int) ≤ cc := by omega
      go_wp2_with fail
      refine (HC.out _ _ _ RA.out.arr HO8.out.arr).mono ?_
      rintro e w9 ⟨rfl, hx9⟩
      have HX9 := Lib.hid (HX8.out.trans hx9)
      have RA9 := Lib.hid (RA.out.ext hx9)
      clear hx9
      go_wp2_with fail
      have hyx : y < x := HK.out.2.2.1 hc1
      have hy0 : 0 < y := by
        have h1 := HK.out.2.1 1 (by have := HPOS.out; omega)
        omega
      go_roundg y
      case rel => exact ⟨y, ga, ja, GA, rfl, rfl, hy0, RA9.out, HK.out.2.1, Nat.le_trans (limbs_mono (Nat.le_of_lt hyx)) HXL.out, HX9.out⟩
      case measure => rw [HGG.out]; exact hyx
    · have hc2 : (0 : Int) ≤ cc := hc1
      go_wp2_with fail
      refine (HC.out _ _ _ RA.out.arr HO8.out.arr).mono ?_
      rintro e w9 ⟨rfl, hx9⟩
      have HX9 := Lib.hid (HX8.out.trans hx9)
      have HO9 := Lib.hid (HO8.out.ext hx9)
      clear hx9
      go_wp2_with fail
      go_ret
      have hxy : x ≤ y := by
        rcases Nat.lt_or_ge y x with h | h
        · have := HK.out.2.2.2 h; omega
        · exact h
      exact ⟨_, x, rfl, newton_end HLOW.out (HK.out.1 hxy), HO9.out, HX9.out⟩
set_option maxRecDepth 100000 in
theorem psqrt_zero (w : World) (v0 : Value) (xs : List Nat) (h0 : Arr w v0 xs) (n0 : xs.length ≤ 10000) (hz : val xs = 0) :
    Calls Tryz.prog 134 #[v0] w fun e w' => e = .returned (.tuple #[.slice none 0 0, .slice none 0 0]) ∧ Ext w w' := by
  have H0 := Lib.hid h0
  have HTR := Lib.hid (fun W m a => trim_any W m xs a (by omega))
  have hz0 : (limbs (val xs)).length = 0 := by rw [hz]; rfl
  obtain ⟨l0, A0, c0, rfl⟩ := h0.shape
  clear h0 hz
  go_enter Tryz.func134, Tryz.ntmps134
  go_wp2_with fail
  have hxo := (Ext.refl w)
  have hszo : w.heap.size = w.heap.size := by simp
  have HX := Lib.hid (Ext.refl w)
  clear hxo hszo 
  refine (HTR.out _ _ (H0.out.ext HX.out)).mono ?_
  rintro e w1 ⟨r0, rfl, hi0, hx0⟩
  have HX := Lib.hid (HX.out.trans hx0)
  have HZ0 := Lib.hid hx0.size
  have R0 := Lib.hid hi0
  obtain ⟨g0, G0, j0, rfl⟩ := hi0.shape
  clear hx0 hi0
  have hgl := R0.out.arr.len
  have hgz : g0 = 0 := hgl.trans hz0
  subst hgz
  clear hgl hz0
  go_wp2_with fail
  go_ret2
  exact ⟨rfl, HX.out⟩
set_option maxRecDepth 100000 in
theorem psqrt_pos (w : World) (v0 : Value) (xs : List Nat) (h0 : Arr w v0 xs) (n0 : xs.length ≤ 10000) (hz : 0 < val xs) :
    Calls Tryz.prog 134 #[v0] w fun e w' => ∃ v' u' r, e = .returned (.tuple #[v', u']) ∧ IsSq (val xs) r ∧ Own w.heap.size w' v' (limbs r) ∧ Own w.heap.size w' u' (limbs (val xs - r * r)) ∧ Ext w w' := by
  have H0 := Lib.hid h0
  have HTR := Lib.hid (fun W m a => trim_any W m xs a (by omega))
  have hV : (limbs (val xs)).length ≤ 10000 := Nat.le_trans (length_limbs_val h0.ok) n0
  have HNW := Lib.hid (fun W m a => newton2_any W m (limbs (val xs)) a hV (by rw [val_limbs]; omega))
  rw [val_limbs] at HNW
  have HSU := Lib.hid (fun W m m' (r : Nat) a b (hr : (limbs (r * r)).length ≤ 536870912) (hle : r * r ≤ val xs) => nsub_ge W m m' (limbs (val xs)) (limbs (r * r)) a b (by omega) hr (by rw [val_limbs, val_limbs]; exact hle))
  have HSQ := Lib.hid (fun W m r a hr => square_any W m (limbs r) a hr)
  have hl1 : 0 < (limbs (val xs)).length := by rw [List.length_pos_iff]; intro e; rw [limbs_eq_nil] at e; omega
  have HVL := Lib.hid hV
  obtain ⟨l0, A0, c0, rfl⟩ := h0.shape
  clear h0 hz hV n0
  go_enter Tryz.func134, Tryz.ntmps134
  go_wp2_with fail
  have hxo := (Ext.refl w)
  have hszo : w.heap.size = w.heap.size := by simp
  have HX := Lib.hid (Ext.refl w)
  clear hxo hszo 
  refine (HTR.out _ _ (H0.out.ext HX.out)).mono ?_
  rintro e w1 ⟨r0, rfl, hi0, hx0⟩
  have HX := Lib.hid (HX.out.trans hx0)
  have HZ0 := Lib.hid hx0.size
  have R0 := Lib.hid hi0
  obtain ⟨g0, G0, j0, rfl⟩ := hi0.shape
  clear hx0 hi0
  have hgl := R0.out.arr.len
  have hg1 : 0 < g0 := by omega
  have hg2 : ((g0 : Int) == 0) = false := by rw [beq_eq_false_iff_ne]; omega
  clear hgl hl1 hg1
  go_wp2_with fail
  refine (HNW.out _ _ R0.out.arr).mono ?_
  rintro e w2 ⟨r1, r, rfl, hsq, hi1, hx1⟩
  have HX2 := Lib.hid (HX.out.trans hx1)
  have R1 := Lib.hid (hi1.mono HX.out.size)
  have R02 := Lib.hid (R0.out.ext hx1)
  have hrl : (limbs r).length ≤ 10000 := Nat.le_trans (limbs_mono hsq.le) HVL.out
  have hrr : (limbs (r * r)).length ≤ 10000 := Nat.le_trans (limbs_mono hsq.1) HVL.out
  have HQ := Lib.hid (fun W m a => HSQ.out W m r a (by omega))
  rw [val_limbs] at HQ
  have HU := Lib.hid (fun W m m' a b => HSU.out W m m' r a b (by omega) hsq.1)
  rw [val_limbs, val_limbs] at HU
  have HS := Lib.hid hsq
  obtain ⟨g1, G1, j1, rfl⟩ := hi1.shape
  clear hi1 hx1 hsq hrl hrr
  go_wp2_with fail
  refine (HQ.out _ _ R1.out.arr).mono ?_
  rintro e w3 ⟨r2, rfl, hi2, hx2⟩
  have HX3 := Lib.hid (HX2.out.trans hx2)
  have R13 := Lib.hid (R1.out.ext hx2)
  have R03 := Lib.hid (R02.out.ext hx2)
  have R2 := Lib.hid hi2
  obtain ⟨g2, G2, j2, rfl⟩ := hi2.shape
  clear hi2 hx2
  go_wp2_with fail
  refine (HU.out _ _ _ R03.out.arr R2.out.arr).mono ?_
  rintro e w4 ⟨r3, rfl, hi3, hx3⟩
  have HX4 := Lib.hid (HX3.out.trans hx3)
  have R14 := Lib.hid (R13.out.ext hx3)
  have R3 := Lib.hid (hi3.mono HX3.out.size)
  obtain ⟨g3, G3, j3, rfl⟩ := hi3.shape
  clear hi3 hx3
  go_wp2_with fail
  go_ret2
  exact ⟨_, _, r, rfl, HS.out, R14.out, R3.out, HX4.out⟩
/-- What root.Square returns: ok is whether the number is a square, and then the root is returned. -/
def SqPost (V : Nat) (w : World) (e : Ending) (w' : World) : Prop :=
  ∃ v' r, IsSq V r ∧ e = .returned (.tuple #[v', .bool (decide (V = r * r))]) ∧ (V = r * r → Own w.heap.size w' v' (limbs r)) ∧ (∃ n A c, v' = .slice A n c) ∧ Ext w w'
set_option maxRecDepth 100000 in
theorem psquare_any (w : World) (v0 : Value) (xs : List Nat) (h0 : Arr w v0 xs) (n0 : xs.length ≤ 10000) : Calls Tryz.prog 81 #[v0] w (SqPost (val xs) w) := by
  rcases Nat.eq_zero_or_pos (val xs) with hz | hz
  · have HS := Lib.hid (psqrt_zero w v0 xs h0 n0 hz)
    have HZ := Lib.hid hz
    obtain ⟨l0, A0, c0, rfl⟩ := h0.shape
    clear h0 hz
    go_enter Tryz.func81, Tryz.ntmps81
    go_wp2_with fail
    refine HS.out.mono ?_
    rintro e w1 ⟨rfl, hx⟩
    go_wp2_with fail
    go_ret2
    exact ⟨_, 0, by rw [HZ.out]; exact IsSq.zero, by rw [HZ.out]; rfl, fun _ => Own.none_ _ _, ⟨0, none, 0, rfl⟩, hx⟩
  · have HS := Lib.hid (psqrt_pos w v0 xs h0 n0 hz)
    obtain ⟨l0, A0, c0, rfl⟩ := h0.shape
    clear h0 hz
    go_enter Tryz.func81, Tryz.ntmps81
    go_wp2_with fail
    refine HS.out.mono ?_
    rintro e w1 ⟨v', u', r, rfl, hsq, hi, hi', hx⟩
    have HSQ := Lib.hid hsq
    have HI := Lib.hid hi
    have HX := Lib.hid hx
    have hlen := hi'.arr
    obtain ⟨g1, G1, j1, rfl⟩ := hi.shape
    obtain ⟨g2, G2, j2, rfl⟩ := hi'.shape
    have hl := hi'.arr.len
    by_cases hV : val xs = r * r
    · have hd : decide (val xs = r * r) = true := decide_eq_true hV
      have HD := Lib.hid hd
      rw [hV, Nat.sub_self, limbs_zero, List.length_nil] at hl
      subst hl
      clear hlen hi hi' hx hsq hV hd
      go_wp2_with fail
      go_ret2
      exact ⟨.slice G1 g1 j1, r, HSQ.out, by rw [HD.out]; rfl, fun _ => HI.out, ⟨_, _, _, rfl⟩, HX.out⟩
    · have HD := Lib.hid (decide_eq_false hV)
      have hp : 0 < g2 := by
        rw [hl, List.length_pos_iff]
        intro e
        rw [limbs_eq_nil] at e
        exact hV (hsq.rest.1 e)
      have hne : ((g2 : Int) != 0) = true := by rw [bne_iff_ne]; omega
      have HV := Lib.hid hV
      clear hlen hi hi' hx hsq hV hl hp
      go_wp2_with fail
      go_ret2
      exact ⟨.slice none 0 0, r, HSQ.out, by rw [HD.out]; rfl, fun e => absurd e HV.out, ⟨0, none, 0, rfl⟩, HX.out⟩
end Big
end Go.Proofs.YtplmldkfgeiklaaGreatDoor
