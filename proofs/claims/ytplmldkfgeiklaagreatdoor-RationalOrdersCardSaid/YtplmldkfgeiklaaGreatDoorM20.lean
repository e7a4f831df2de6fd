import Derived.Test.YtplmldkfgeiklaaGreatDoorM10
import Derived.Test.YtplmldkfgeiklaaGreatDoorM4
import Derived.Test.YtplmldkfgeiklaaGreatDoorM19
import Derived.Test.YtplmldkfgeiklaaGreatDoorRows
import Derived.ProofKit
import Derived.LaidMore
import Derived.OpenShut
import Derived.Stop.Joined
import Derived.Lib.LaidTab
import Derived.Carry
import Derived.Handed
import Derived.HandedShaped
import Derived.Deep.Strs
import Derived.ChangeMaps5
import Derived.Lib.SmallJoins
/- ref01.Bit, ref01.Bits. -/
namespace Go.Proofs.YtplmldkfgeiklaaGreatDoor
namespace Big
open Go.RowKit
theorem bit_split {xs : List Nat} {i k s : Nat} (hok : Ok xs) (hi : i = 32 * k + s) (hs : s < 32) : xs.getD k 0 / 2 ^ s % 2 = val xs / 2 ^ i % 2 := by
  have h1 := val_split' xs k
  have h2 := val_take_lt hok k
  have h3 := val_drop' xs k
  have e1 : val xs / 4294967296 ^ k = val (xs.drop k) := by
    rw [h1, Nat.add_mul_div_left _ _ (Nat.pow_pos (by decide)), Nat.div_eq_of_lt h2, Nat.zero_add]
  rw [hi, Nat.pow_add, ← Nat.div_div_eq_div_mul, Nat.pow_mul, show (2 : Nat) ^ 32 = 4294967296 from rfl, e1, h3]
  obtain ⟨t, ht⟩ : ∃ t, 32 = s + (t + 1) := ⟨31 - s, by omega⟩
  have e2 : 4294967296 = 2 ^ s * (2 ^ t * 2) := by
    rw [← Nat.pow_succ, ← Nat.pow_add, ← ht]
  generalize val (xs.drop (k + 1)) = r
  rw [e2, Nat.mul_assoc, Nat.add_mul_div_left _ _ (Nat.pow_pos (by decide)), show 2 ^ t * 2 * r = 2 * (2 ^ t * r) by rw [Nat.mul_comm (2 ^ t) 2, Nat.mul_assoc], Nat.add_mul_mod_self_left]
set_option maxRecDepth 100000 in
theorem rbit_any (w : World) (v : Value) (xs : List Nat) (i : Nat) (h : Arr w v xs) (hi : i < 34359738368) :
    Calls Tryz.prog 147 #[v, .int .i64 (i : Int)] w fun e w' => e = .returned (.bool (decide (val xs / 2 ^ i % 2 = 1))) ∧ w = w' := by
  obtain ⟨k, s, hs, hks⟩ : ∃ k s, s < 32 ∧ i = 32 * k + s := ⟨i / 32, i % 32, by omega, by omega⟩
  have HV := Lib.hid (bit_split h.ok hks hs)
  have hq : (i : Int) / 32 = (k : Int) := by omega
  have hr : (i : Int) % 32 = (s : Int) := by omega
  have HAT := Lib.hid (rat_any w v xs (k : Int) h (by omega))
  rw [Int.toNat_natCast] at HAT
  have hxm := h.ok.get k
  have hPI : (2 : Int) ^ s = ((2 ^ s : Nat) : Int) := by simp
  have hPP : 0 < 2 ^ s := Nat.pow_pos (by omega)
  have hi0 : (0 : Int) ≤ (i : Int) := by omega
  have hk1 : k < 1073741824 := by omega
  rw [← HV.out]
  clear HV hks h hi
  generalize xs.getD k 0 = x at *
  obtain ⟨P, hP⟩ : ∃ P, 2 ^ s = P := ⟨_, rfl⟩
  rw [hP] at hPI hPP ⊢
  clear hP
  have hdv : (x : Int) / (P : Int) = ((x / P : Nat) : Int) := rfl
  obtain ⟨y, hy⟩ : ∃ y, x / P = y := ⟨_, rfl⟩
  rw [hy] at hdv ⊢
  have hyx : y < 4294967296 := by rw [← hy]; exact Nat.lt_of_le_of_lt (Nat.div_le_self _ _) hxm
  clear hy
  have hmd : (y : Int) % 2 = ((y % 2 : Nat) : Int) := rfl
  have hz2 : y % 2 < 2 := by omega
  generalize y % 2 = z at *
  have hzb : ((z : Int) == 1) = decide (z = 1) := by
    rw [Bool.eq_iff_iff, beq_iff_eq, decide_eq_true_iff]
    omega
  generalize decide (z = 1) = bb at *
  go_enter Tryz.func147, Tryz.ntmps147
  go_wp2_with fail
  refine HAT.out.mono ?_
  rintro e w' ⟨rfl, rfl⟩
  go_wp2_with fail
  all_goals go_ret
  exact ⟨rfl, rfl⟩
theorem bitsN_up {V n : Nat} (h : V < 2 ^ n) (h1 : V / 2 ^ (n - 1) % 2 = 1) (hn : 0 < n) : bitsN V = n := by
  obtain ⟨m, rfl⟩ : ∃ m, n = m + 1 := ⟨n - 1, by omega⟩
  rw [Nat.add_sub_cancel] at h1
  refine bitsN_eq ?_ h
  rcases Nat.lt_or_ge V (2 ^ m) with hl | hl
  · rw [Nat.div_eq_of_lt hl] at h1
    omega
  · exact hl
theorem bits_down {V n : Nat} (h : V < 2 ^ (n + 1)) (h1 : ¬ V / 2 ^ n % 2 = 1) : V < 2 ^ n := by
  have h2 : V / 2 ^ n < 2 := by
    rw [Nat.div_lt_iff_lt_mul (Nat.pow_pos (by decide)), Nat.mul_comm, ← Nat.pow_succ]
    exact h
  have h3 : V / 2 ^ n = 0 := by
    generalize V / 2 ^ n = t at *
    omega
  rcases Nat.lt_or_ge V (2 ^ n) with hl | hl
  · exact hl
  · have := Nat.div_pos hl (Nat.pow_pos (by decide)); omega
set_option maxRecDepth 100000 in
theorem rbits_any (w : World) (v : Value) (xs : List Nat) (h : Arr w v xs) (hn : xs.length ≤ 134217728) :
    Calls Tryz.prog 106 #[v] w fun e w' => e = .returned (.int .i64 (bitsN (val xs) : Nat)) ∧ Ext w w' := by
  have HB := Lib.hid (fun W i (hx : Ext w W) => rbit_any W v xs i (h.ext hx))
  have hlt : val xs < 2 ^ (32 * xs.length) := by
    rw [Nat.pow_mul]
    exact val_lt h.ok
  obtain ⟨L, hL⟩ : ∃ L, xs.length = L := ⟨_, rfl⟩
  rw [hL] at hlt hn
  obtain ⟨_, A, c, rfl, _, _, _⟩ := h.open
  rw [hL] at HB ⊢
  clear h hL
  generalize val xs = V at *
  have HLT := Lib.hid hlt
  clear hlt
  go_enter Tryz.func106, Tryz.ntmps106
  go_wp2_with fail
  go_loopw [3] (fun s1 wr => ∃ n : Nat, n ≤ 32 * L ∧ s1 = .int .i64 (n : Int) ∧ V < 2 ^ n ∧ Ext w wr) (fun s1 _ => (intOf s1).toNat)
  case atStart => exact ⟨32 * L, Nat.le_refl _, by go_num, HLT.out, Ext.refl _⟩
  case round =>
    obtain ⟨n, hn2, rfl, hV, hx⟩ := hrel
    have HX := Lib.hid hx
    have HV := Lib.hid hV
    clear hx hV
    rcases Nat.eq_zero_or_pos n with h0 | h0
    · subst h0
      have hz : V = 0 := by have := HV.out; omega
      subst hz
      go_wp2_with fail
      go_ret
      exact ⟨by congr 2, HX.out⟩
    · obtain ⟨m, rfl⟩ : ∃ m, n = m + 1 := ⟨n - 1, by omega⟩
      have hm1 : ((m + 1 : Nat) : Int) - 1 = (m : Int) := by omega
      have hm2 : IntKind.i64.wrap (((m + 1 : Nat) : Int) - 1) = (m : Int) := by rw [hm1]; exact IntWalk.i64_in _ (by omega)
      have hp : (0 : Int) < ((m + 1 : Nat) : Int) := by omega
      by_cases hb : V / 2 ^ m % 2 = 1
      · have hd : decide (V / 2 ^ m % 2 = 1) = true := decide_eq_true hb
        have HE := Lib.hid (bitsN_up HV.out hb (by omega))
        go_wp2_with fail
        refine (HB.out _ m HX.out (by omega)).mono ?_
        rintro e w' ⟨rfl, rfl⟩
        go_wp2_with fail
        go_ret
        refine ⟨?_, HX.out⟩
        rw [HE.out]
        rfl
      · have hd : decide (V / 2 ^ m % 2 = 1) = false := decide_eq_false hb
        have HE := Lib.hid (bits_down HV.out hb)
        go_wp2_with fail
        refine (HB.out _ m HX.out (by omega)).mono ?_
        rintro e w' ⟨rfl, rfl⟩
        go_wp2_with fail
        go_roundw
        case rel => exact ⟨m, by omega, by go_num, HE.out, HX.out⟩
        case measure => simp [intOf]
end Big
end Go.Proofs.YtplmldkfgeiklaaGreatDoor
/- rational.Size, the document's Size; RationalOrders. Printed by a program. -/
namespace Go.Proofs.YtplmldkfgeiklaaGreatDoor
namespace Big
open Go.RowKit
theorem cmpZ_anti (x y : Int) : cmpZ y x = -cmpZ x y := by unfold cmpZ; split <;> split <;> (try split) <;> omega
theorem cmpZ_bd (x y : Int) : -1 ≤ cmpZ x y ∧ cmpZ x y ≤ 1 := by unfold cmpZ; split <;> (try split) <;> omega
theorem sgZ_low (z : Int) {d : Nat} (h : 0 < d) : sgZ (lowN z d) = sgZ z := by
  have h1 := lowN_gcd z d
  have hg : 0 < Nat.gcd z.natAbs d := Nat.gcd_pos_of_pos_right _ h
  generalize Nat.gcd z.natAbs d = g at *
  generalize lowN z d = y at *
  have hg1 : (0 : Int) < (g : Int) := by omega
  rw [← h1]
  unfold sgZ
  rcases Int.lt_trichotomy y 0 with hy | hy | hy
  · rw [if_pos hy, if_pos (Int.mul_neg_of_neg_of_pos hy hg1)]
  · subst hy
    rw [Int.zero_mul]
  · have := Int.mul_pos hy hg1
    rw [if_neg (by omega), if_pos hy, if_neg (by omega), if_pos this]
theorem sg_sub {p r : Int} {q s : Nat} (hq : 0 < q) (hs : 0 < s) : sgZ (addP p q (-r) s) = cmpZ (p * (s : Int)) (r * (q : Int)) := by
  unfold addP addNum
  rw [sgZ_low _ (Nat.mul_pos hq hs), Int.neg_mul, sgZ_sub]
set_option maxRecDepth 100000 in
theorem psize_any (w : World) (v0 : Value) (p : Int) (q : Nat) (h0 : ArrRat w v0 p q) (n0 : (limbs p.natAbs).length ≤ 100000) (m0 : (limbs q).length ≤ 100000) :
    Calls Tryz.prog 50 #[v0] w fun e w' => e = .returned (.int .i64 ((max (bitsN p.natAbs) (bitsN q) : Nat) : Int)) ∧ Ext w w' := by
  have H0 := Lib.hid h0
  have HA := Lib.hid (fun W m (a : Arr W m (limbs p.natAbs)) => ((bits_any W m (limbs p.natAbs) a (by omega)).mono fun _ _ h => ⟨h.1, h.2 ▸ Ext.refl _⟩ : Calls Tryz.prog 60 #[m] W fun e w' => e = .returned (.int .i64 (bitsN (val (limbs p.natAbs)) : Nat)) ∧ Ext W w'))
  have HB := Lib.hid (fun W m (a : Arr W m (limbs q)) => ((bits_any W m (limbs q) a (by omega)).mono fun _ _ h => ⟨h.1, h.2 ▸ Ext.refl _⟩ : Calls Tryz.prog 60 #[m] W fun e w' => e = .returned (.int .i64 (bitsN (val (limbs q)) : Nat)) ∧ Ext W w'))
  rw [val_limbs] at HA HB
  obtain ⟨b0, l0, A0, c0, k0, D0, e0, rfl⟩ := h0.shape
  clear h0 n0 m0
  generalize bitsN p.natAbs = x at *
  generalize bitsN q = y at *
  obtain ⟨z, hz⟩ : ∃ z, max x y = z := ⟨_, rfl⟩
  have hmx : max (x : Int) (y : Int) = (z : Int) := by omega
  have hif1 : (if (x : Int) < (y : Int) then (y : Int) else (x : Int)) = (z : Int) := by split <;> omega
  have hif2 : (if (y : Int) ≤ (x : Int) then (x : Int) else (y : Int)) = (z : Int) := by split <;> omega
  rw [hz]
  clear hz
  go_enter Tryz.func50, Tryz.ntmps50
  go_wp2_with fail
  have hb0 := (Blk.new w 26 #[Value.bool b0, Value.slice A0 l0 c0, Value.slice D0 k0 e0])
  have hxo := ((Ext.refl w).alloc (.cells #[Value.bool b0, Value.slice A0 l0 c0, Value.slice D0 k0 e0] 26))
  have hszo : w.heap.size + 1 = (w.alloc (.cells #[Value.bool b0, Value.slice A0 l0 c0, Value.slice D0 k0 e0] 26)).heap.size := by simp
  generalize w.alloc (.cells #[Value.bool b0, Value.slice A0 l0 c0, Value.slice D0 k0 e0] 26) = wo at *
  obtain ⟨q0_0, q0_1, q0_2, _, _, _, _⟩ := hb0.three
  clear hb0
  go_region_held3 (fun w' => Ext w w' ∧ w'.cell? ⟨w.heap.size, 0, none⟩ = some (Value.bool b0) ∧ w'.cell? ⟨w.heap.size, 1, none⟩ = some (Value.slice A0 l0 c0) ∧ w'.cell? ⟨w.heap.size, 2, none⟩ = some (Value.slice D0 k0 e0))
    (first | (exact ⟨hxo.drew, q0_0, q0_1, q0_2⟩) | (exact keptS3_0 (by assumption) (by assumption)) | (exact keptS3_0 (by assumption) (Ext.refl _)))
    (first
      | (go_at_call 60; have hchk1 := hz0; refine (HB.out _ _ (H0.out.den.ext (And.left (by assumption)))).mono ?_; rintro e w2 ⟨rfl, hx1⟩; have hz1 := hx1.size)
      | (go_at_call 60; refine (HA.out _ _ (H0.out.num.ext (And.left (by assumption)))).mono ?_; rintro e w1 ⟨rfl, hx0⟩; have hz0 := hx0.size))
  all_goals go_wp2_with fail
  rename_i hS
  obtain ⟨hE, _, _, _⟩ := hS
  simp only [World.size_drew] at hz0
  go_ret
  exact ⟨rfl, hE⟩
set_option maxRecDepth 100000 in
theorem rsize_any (w : World) (v0 : Value) (p : Int) (q : Nat) (h0 : ArrRat w v0 p q) (n0 : (limbs p.natAbs).length ≤ 100000) (m0 : (limbs q).length ≤ 100000) :
    Calls Tryz.prog 51 #[v0] w fun e w' => e = .returned (.int .i64 ((max (bitsN p.natAbs) (bitsN q) : Nat) : Int)) ∧ Ext w w' := by
  have H0 := Lib.hid h0
  have HA := Lib.hid (fun W m (a : Arr W m (limbs p.natAbs)) => (rbits_any W m (limbs p.natAbs) a (by omega) : Calls Tryz.prog 106 #[m] W fun e w' => e = .returned (.int .i64 (bitsN (val (limbs p.natAbs)) : Nat)) ∧ Ext W w'))
  have HB := Lib.hid (fun W m (a : Arr W m (limbs q)) => (rbits_any W m (limbs q) a (by omega) : Calls Tryz.prog 106 #[m] W fun e w' => e = .returned (.int .i64 (bitsN (val (limbs q)) : Nat)) ∧ Ext W w'))
  rw [val_limbs] at HA HB
  obtain ⟨b0, l0, A0, c0, k0, D0, e0, rfl⟩ := h0.shape
  clear h0 n0 m0
  generalize bitsN p.natAbs = x at *
  generalize bitsN q = y at *
  obtain ⟨z, hz⟩ : ∃ z, max x y = z := ⟨_, rfl⟩
  have hmx : max (x : Int) (y : Int) = (z : Int) := by omega
  have hif1 : (if (x : Int) < (y : Int) then (y : Int) else (x : Int)) = (z : Int) := by split <;> omega
  have hif2 : (if (y : Int) ≤ (x : Int) then (x : Int) else (y : Int)) = (z : Int) := by split <;> omega
  rw [hz]
  clear hz
  go_enter Tryz.func51, Tryz.ntmps51
  go_wp2_with fail
  have hb0 := (Blk.new w 26 #[Value.bool b0, Value.slice A0 l0 c0, Value.slice D0 k0 e0])
  have hxo := ((Ext.refl w).alloc (.cells #[Value.bool b0, Value.slice A0 l0 c0, Value.slice D0 k0 e0] 26))
  have hszo : w.heap.size + 1 = (w.alloc (.cells #[Value.bool b0, Value.slice A0 l0 c0, Value.slice D0 k0 e0] 26)).heap.size := by simp
  generalize w.alloc (.cells #[Value.bool b0, Value.slice A0 l0 c0, Value.slice D0 k0 e0] 26) = wo at *
  obtain ⟨q0_0, q0_1, q0_2, _, _, _, _⟩ := hb0.three
  clear hb0
  go_region_held3 (fun w' => Ext w w' ∧ w'.cell? ⟨w.heap.size, 0, none⟩ = some (Value.bool b0) ∧ w'.cell? ⟨w.heap.size, 1, none⟩ = some (Value.slice A0 l0 c0) ∧ w'.cell? ⟨w.heap.size, 2, none⟩ = some (Value.slice D0 k0 e0))
    (first | (exact ⟨hxo.drew, q0_0, q0_1, q0_2⟩) | (exact keptS3_0 (by assumption) (by assumption)) | (exact keptS3_0 (by assumption) (Ext.refl _)))
    (first
      | (go_at_call 106; have hchk1 := hz0; refine (HB.out _ _ (H0.out.den.ext (And.left (by assumption)))).mono ?_; rintro e w2 ⟨rfl, hx1⟩; have hz1 := hx1.size)
      | (go_at_call 106; refine (HA.out _ _ (H0.out.num.ext (And.left (by assumption)))).mono ?_; rintro e w1 ⟨rfl, hx0⟩; have hz0 := hx0.size))
  all_goals go_wp2_with fail
  rename_i hS
  obtain ⟨hE, _, _, _⟩ := hS
  simp only [World.size_drew] at hz0
  go_ret
  exact ⟨rfl, hE⟩
end Big
end Go.Proofs.YtplmldkfgeiklaaGreatDoor
/- RationalOrders. Printed by a program. -/
namespace Go.Proofs.YtplmldkfgeiklaaGreatDoor
namespace Big
open Go.RowKit
set_option maxHeartbeats 4000000 in
set_option maxRecDepth 100000 in
theorem rationalOrders_any (w : World) (b0 : Bool) (m0 d0 : Value) (xs0 ys0 : List Nat) (h0 : Arr w m0 xs0) (e0 : Arr w d0 ys0) (b1 : Bool) (m1 d1 : Value) (xs1 ys1 : List Nat) (h1 : Arr w m1 xs1) (e1 : Arr w d1 ys1) (hm : MaxV w) (ht : Tab32 w) :
    Calls Tryz.prog 11 #[.agg #[.bool b0, m0, d0], .agg #[.bool b1, m1, d1]] w fun e w' => e = .returned (.bool true) ∧ Ext w w' := by
  have HAW := Lib.hid (fun W hx => awake07_any W (hm.ext (w' := W) hx) (ht.ext hx))
  have HTW := Lib.hid (fun W (hx : Ext w W) => two_any W b0 m0 d0 xs0 ys0 b1 m1 d1 xs1 ys1 8 (h0.ext hx) (e0.ext hx) (h1.ext hx) (e1.ext hx) (by decide) (by decide))
  rw [show ((8 : Nat) : Int) = 8 from rfl] at HTW
  unfold TwoPost at HTW
  obtain ⟨l0, A0, c0, rfl⟩ := h0.shape
  obtain ⟨k0, D0, t0, rfl⟩ := e0.shape
  obtain ⟨l1, A1, c1, rfl⟩ := h1.shape
  obtain ⟨k1, D1, t1, rfl⟩ := e1.shape
  clear h0 e0 h1 e1 hm ht
  go_enter Tryz.func11, Tryz.ntmps11
  go_wp2_with fail
  have hb0 := ((Blk.new w 26 #[Value.bool b0, Value.slice A0 l0 c0, Value.slice D0 k0 t0]).alloc (.cells #[Value.bool b1, Value.slice A1 l1 c1, Value.slice D1 k1 t1] 26))
  have hb1 := (Blk.new (w.alloc (.cells #[Value.bool b0, Value.slice A0 l0 c0, Value.slice D0 k0 t0] 26)) 26 #[Value.bool b1, Value.slice A1 l1 c1, Value.slice D1 k1 t1])
  have hxo := (((Ext.refl w).alloc (.cells #[Value.bool b0, Value.slice A0 l0 c0, Value.slice D0 k0 t0] 26)).alloc (.cells #[Value.bool b1, Value.slice A1 l1 c1, Value.slice D1 k1 t1] 26))
  have hszo : w.heap.size + 1 + 1 = ((w.alloc (.cells #[Value.bool b0, Value.slice A0 l0 c0, Value.slice D0 k0 t0] 26)).alloc (.cells #[Value.bool b1, Value.slice A1 l1 c1, Value.slice D1 k1 t1] 26)).heap.size := by simp
  simp only [World.size_alloc] at hb1
  generalize (w.alloc (.cells #[Value.bool b0, Value.slice A0 l0 c0, Value.slice D0 k0 t0] 26)).alloc (.cells #[Value.bool b1, Value.slice A1 l1 c1, Value.slice D1 k1 t1] 26) = wo at *
  have HX := Lib.hid hxo
  have HZ : Hid (w.heap.size + 1 + 1 ≤ wo.heap.size) := Lib.hid (by omega)
  have HB0 := Lib.hid hb0
  have HB1 := Lib.hid hb1
  clear hxo hszo hb0 hb1
  refine (HAW.out _ HX.out).mono ?_
  rintro e w11 ⟨rfl, hx10⟩
  have HX := Lib.hid (HX.out.trans hx10)
  have HB0 := Lib.hid (HB0.out.ext hx10)
  have HB1 := Lib.hid (HB1.out.ext hx10)
  clear hx10
  obtain ⟨hb0_0, hb0_1, hb0_2, hb0_3, hb0_4, hb0_5, hb0_6⟩ := HB0.out.three
  obtain ⟨hb1_0, hb1_1, hb1_2, hb1_3, hb1_4, hb1_5, hb1_6⟩ := HB1.out.three
  go_wp2_with fail
  clear hb0_0 hb0_1 hb0_2 hb0_3 hb0_4 hb0_5 hb0_6 hb1_0 hb1_1 hb1_2 hb1_3 hb1_4 hb1_5 hb1_6
  refine (HTW.out _ HX.out).mono ?_
  rintro e w12 ⟨r11, r12, ok, p, q, r, t, rfl, hi11, hi12, hl, hx11⟩
  have HX := Lib.hid (HX.out.trans hx11)
  have HB0 := Lib.hid (HB0.out.ext hx11)
  have HB1 := Lib.hid (HB1.out.ext hx11)
  clear hx11
  have QX := Lib.hid hi11
  have QY := Lib.hid hi12
  have HL := Lib.hid hl
  obtain ⟨f11, g11, G11, j11, y11, Y11, z11, rfl⟩ := hi11.shape
  obtain ⟨f12, g12, G12, j12, y12, Y12, z12, rfl⟩ := hi12.shape
  clear hi11 hi12 hl
  clear HB0 HB1
  cases ok with
  | false =>
    clear HAW HTW HL QX QY
    go_wp2_with fail
    go_ret
    exact ⟨rfl, (HX.out.alloc _).alloc _⟩
  | true =>
  obtain ⟨⟨hlx, hpx, hqx⟩, hly, hpy, hqy⟩ := HL.out rfl
  clear HL HAW HTW
  have b2 := sz_add hpx hqx (sz_neg hpy) hqy
  have HCM := Lib.hid (fun W v u x y => cmpR_any W v p q x (by omega) (by omega) u r t y (by omega) (by omega))
  have HRCM := Lib.hid (fun W v u x y => rcmpR_any W v p q x (by omega) (by omega) u r t y (by omega) (by omega))
  have HCN := Lib.hid (fun W v u x y => cmpR_any W v r t x (by omega) (by omega) u p q y (by omega) (by omega))
  rw [cmpZ_anti (p * (t : Int))] at HCN
  have HSB := Lib.hid (fun W v u x y => subR_any W v p q x (by omega) (by omega) u r t y (by omega) (by omega) hlx.1 hly.1)
  have HSG := Lib.hid (fun W v x => signR_any W v p q x (by omega) (by omega))
  have HRSG := Lib.hid (fun W v x => rsignR_any W v p q x (by omega) (by omega))
  have HSG2 := Lib.hid (fun W v x => signR_any W v (addP p q (-r) t) (addQ p q (-r) t) x (by omega) (by omega))
  rw [sg_sub hlx.1 hly.1] at HSG2
  have HSZ := Lib.hid (fun W v x => psize_any W v p q x (by omega) (by omega))
  have HRSZ := Lib.hid (fun W v x => rsize_any W v p q x (by omega) (by omega))
  obtain ⟨hc1, hc2⟩ := cmpZ_bd (p * (t : Int)) (r * (q : Int))
  clear hlx hpx hqx hly hpy hqy b2
  generalize cmpZ (p * (t : Int)) (r * (q : Int)) = cc at *
  generalize addP p q (-r) t = p2 at *
  generalize addQ p q (-r) t = q2 at *
  generalize sgZ p = sg at *
  generalize max (bitsN p.natAbs) (bitsN q) = sz at *
  have hwn : IntKind.i64.wrap (-cc) = -cc := IntWalk.i64_in _ (by omega)
  have hq1 : (cc == cc) = true := by simp
  have hq2 : (-cc == -cc) = true := by simp
  have hq3 : (sg == sg) = true := by simp
  have hq4 : ((sz : Int) == (sz : Int)) = true := by simp
  go_wp2_with fail
  have hb12_0 := ((Blk.new w12 26 #[Value.bool f11, Value.slice G11 g11 j11, Value.slice Y11 y11 z11]).alloc (.cells #[Value.bool f12, Value.slice G12 g12 j12, Value.slice Y12 y12 z12] 26))
  have hb12_1 := (Blk.new (w12.alloc (.cells #[Value.bool f11, Value.slice G11 g11 j11, Value.slice Y11 y11 z11] 26)) 26 #[Value.bool f12, Value.slice G12 g12 j12, Value.slice Y12 y12 z12])
  have hx12 := (((Ext.refl w12).alloc (.cells #[Value.bool f11, Value.slice G11 g11 j11, Value.slice Y11 y11 z11] 26)).alloc (.cells #[Value.bool f12, Value.slice G12 g12 j12, Value.slice Y12 y12 z12] 26))
  simp only [World.size_alloc] at hb12_1
  have HX := Lib.hid (HX.out.trans hx12)
  have QX := Lib.hid (QX.out.ext hx12)
  have QY := Lib.hid (QY.out.ext hx12)
  have BX := Lib.hid hb12_0
  have BY := Lib.hid hb12_1
  generalize (w12.alloc (.cells #[Value.bool f11, Value.slice G11 g11 j11, Value.slice Y11 y11 z11] 26)).alloc (.cells #[Value.bool f12, Value.slice G12 g12 j12, Value.slice Y12 y12 z12] 26) = w13 at *
  generalize w12.heap.size = a12 at *
  clear hb12_0 hb12_1 hx12
  obtain ⟨bx_0, bx_1, bx_2, bx_3, bx_4, bx_5, bx_6⟩ := BX.out.three
  obtain ⟨by_0, by_1, by_2, by_3, by_4, by_5, by_6⟩ := BY.out.three
  go_region_held3 (fun w' => Ext w13 w' ∧ w'.cell? ⟨a12, 0, none⟩ = some (Value.bool f11) ∧ w'.cell? ⟨a12, 1, none⟩ = some (Value.slice G11 g11 j11) ∧ w'.cell? ⟨a12, 2, none⟩ = some (Value.slice Y11 y11 z11) ∧ w'.cell? ⟨a12 + 1, 0, none⟩ = some (Value.bool f12) ∧ w'.cell? ⟨a12 + 1, 1, none⟩ = some (Value.slice G12 g12 j12) ∧ w'.cell? ⟨a12 + 1, 2, none⟩ = some (Value.slice Y12 y12 z12))
    (first | (exact ⟨(Ext.refl w13).drew, bx_0, bx_1, bx_2, by_0, by_1, by_2⟩) | (exact keptS6_0 (by assumption) (by assumption)))
    (first
      | (go_at_call 51; have hchk23 := hz22; refine (HRSZ.out _ _ (QX.out.arr.ext (And.left (by assumption)))).mono ?_; rintro e w24 ⟨rfl, hx23⟩; clear hz22 hchk23; have hz23 := hx23.size)
      | (go_at_call 50; have hchk22 := hz21; refine (HSZ.out _ _ (QX.out.arr.ext (And.left (by assumption)))).mono ?_; rintro e w23 ⟨rfl, hx22⟩; clear hz21 hchk22; have hz22 := hx22.size)
      | (go_at_call 48; have hchk21 := hz20; refine (HCM.out _ _ _ (QX.out.arr.ext (And.left (by assumption))) (QY.out.arr.ext (And.left (by assumption)))).mono ?_; rintro e w22 ⟨rfl, hx21⟩; clear hz20 hchk21; have hz21 := hx21.size)
      | (go_at_call 27; have hchk20 := hz19; refine (HSG2.out _ _ U0.out.arr).mono ?_; rintro e w21 ⟨rfl, hx20⟩; clear hz19 hchk20; clear U0; have hz20 := hx20.size)
      | (go_at_call 44; have hchk19 := hz18; refine (HSB.out _ _ _ (QX.out.arr.ext (And.left (by assumption))) (QY.out.arr.ext (And.left (by assumption)))).mono ?_; rintro e w20 ⟨r19, rfl, hi19, hx19⟩; clear hz18 hchk19; have hz19 := hx19.size; have U0 := Lib.hid hi19; obtain ⟨f19, g19, G19, j19, y19, Y19, z19, rfl⟩ := hi19.shape; clear hi19)
      | (go_at_call 49; have hchk18 := hz17; refine (HRSG.out _ _ (QX.out.arr.ext (And.left (by assumption)))).mono ?_; rintro e w19 ⟨rfl, hx18⟩; clear hz17 hchk18; have hz18 := hx18.size)
      | (go_at_call 27; have hchk17 := hz16; refine (HSG.out _ _ (QX.out.arr.ext (And.left (by assumption)))).mono ?_; rintro e w18 ⟨rfl, hx17⟩; clear hz16 hchk17; have hz17 := hx17.size)
      | (go_at_call 48; have hchk16 := hz15; refine (HCM.out _ _ _ (QX.out.arr.ext (And.left (by assumption))) (QY.out.arr.ext (And.left (by assumption)))).mono ?_; rintro e w17 ⟨rfl, hx16⟩; clear hz15 hchk16; have hz16 := hx16.size)
      | (go_at_call 48; have hchk15 := hz14; refine (HCN.out _ _ _ (QY.out.arr.ext (And.left (by assumption))) (QX.out.arr.ext (And.left (by assumption)))).mono ?_; rintro e w16 ⟨rfl, hx15⟩; clear hz14 hchk15; have hz15 := hx15.size)
      | (go_at_call 38; have hchk14 := hz13; refine (HRCM.out _ _ _ (QX.out.arr.ext (And.left (by assumption))) (QY.out.arr.ext (And.left (by assumption)))).mono ?_; rintro e w15 ⟨rfl, hx14⟩; clear hz13 hchk14; have hz14 := hx14.size)
      | (go_at_call 48; refine (HCM.out _ _ _ (QX.out.arr.ext (And.left (by assumption))) (QY.out.arr.ext (And.left (by assumption)))).mono ?_; rintro e w14 ⟨rfl, hx13⟩; have hz13 := hx13.size))
  all_goals go_wp2_with fail
  rename_i hS
  have hE := And.left hS
  go_ret
  exact ⟨rfl, HX.out.trans hE⟩
end Big
end Go.Proofs.YtplmldkfgeiklaaGreatDoor
/- The frame round a law's walk: the arguments opened; behind the call they read as they did. -/
namespace Go.Proofs.YtplmldkfgeiklaaGreatDoor
open Go.ChangeShapes Go.WideShapes Go.ChangeAt Go.RowKit

section
variable {H : Type} {enc : TypeId × Value → H} {P : Program}
theorem trodAll_stays (hl : laidOutB P = true) {W W' : World} (hb : Big.Ext W W') : ∀ (ts : List TypeId) (vs : List Value) (ds : List (DataW H)) (ps : List MemPlace),
    (∀ t ∈ ts, P.readableRec t = true ∧ t < P.types.size) → DataW.TrodAll enc P W 0 (fun _ => true) true ts vs ds ps → (∀ x ∈ ps, x.block < W.heap.size) →
    DataW.TrodAll enc P W' 0 (fun b => decide (b < W.heap.size)) true ts vs ds ps
  | [], vs, ds, ps, _, h, _ => by
    obtain ⟨rfl, rfl, rfl⟩ := trodAll_nil h
    exact trodAll_mk0
  | t :: ts, vs, ds, ps, ht, h, hlt => by
    obtain ⟨v, vs', d, ds', p, q, rfl, rfl, rfl, h1, h2⟩ := trodAll_cons h
    exact trodAll_cons_mk (Below.trod hl (ht t (by simp)).1 (ht t (by simp)).2 h1 hb (fun x hx => hlt x (List.mem_append_left _ hx)))
      (trodAll_stays hl hb ts vs' ds' q (fun t' h' => ht t' (by simp [h'])) h2 (fun x hx => hlt x (List.mem_append_right _ hx)))

/-- What the row asks of a law that returned true and left what was there. -/
theorem post_true {f : Func} {s : ChangeSpec} {W W' : World} {args : Array Value} {ds gs : List (DataW H)} {before : List MemPlace} {tb : TypeId} (hl : laidOutB P = true)
    (hts : (f.params.toList.all fun t => P.readableRec t && decide (t < P.types.size)) = true) (hv : s.vars = []) (hr : f.resultTypes = #[tb]) (htb : P.underlying tb = some .bool)
    (hW : DataW.Whole enc P f.params.toList s.vars false W args.toList ds gs before) (hfn : s.fn H ds = { results := [.lit (.bool true)], args := ds }) (hb : Big.Ext W W') :
    s.post enc P f false true false false W args (.bool true) W' := by
  have hlt := hW.lt
  have hW' := hW
  obtain ⟨p, q, hA, hV, rfl, hfz, hnd⟩ := hW
  rw [hv] at hV
  obtain ⟨rfl, rfl⟩ := trodVars_none hV
  have hfn' : s.fn H (ds ++ []) = { results := [.lit (.bool true)], args := ds } := by rw [List.append_nil]; exact hfn
  refine ⟨ds, [], p ++ [], [], p, [], hW', ?_, ?_, ?_, hb.frame _, fun h => by cases h⟩
  · rw [hfn', hr]
    exact trodAll_mk1 (shut_bool htb _)
  · rw [hfn']
    exact trodAll_stays hl hb _ _ _ _ (fun t ht => by
      have := List.all_eq_true.1 hts t ht
      simpa using this) hA (fun x hx => hlt x (by simpa using hx))
  · rw [hfn', hv]
    rfl
end

/-- A law under its row's conditions, with the form of the world at its beginning. -/
theorem handed_and_shaped {H : Type} {enc : TypeId × Value → H} {a : Assume} {C : Checked} {os : Os} {f : FuncId} {fn : Func} {s : ChangeSpec} {conds : List PathCond} {apart fresh handsOn again : Bool} {X : World → Array Value → Prop}
    (hX : ∀ (w w' : World) (args : Array Value), w.heap = w'.heap → X w args → X w' args)
    (own : ownKnob C.prog.godebug = none) (started : os.Started) (noInit : C.prog.inits.idxOf? f = none) (hfn : C.prog.funcs[f]? = some fn)
    (witness : ∃ (w : World) (tape : Tape) (i : Input), w.os = os ∧ (w.forCall tape i).Shaped C.prog ∧ i.vars = [] ∧ Input.okWide C.prog (w.forCall tape i) .any w.heap.size f i ∧
      ((s.pre enc C.prog fn conds apart (w.forCall tape i).memory i.args ∧ X (w.forCall tape i).memory i.args) ∧ sizedMet enc C.prog fn (OpenSpec.ofChange s) apart (w.forCall tape i).memory i.args) ∧ a.holds C.prog (lone (Frame.enter C.prog f i.args .normal) [] (w.forCall tape i)))
    (contract : ∀ (W : World) (base : Nat) (args : Array Value) (ds gs : List (DataW H)) (before : List MemPlace),
      (∀ (j : Nat) t v, fn.params[j]? = some t → args[j]? = some v → Value.okWide C.prog W .any base t v) →
      DataW.Whole enc C.prog fn.params.toList s.vars apart W args.toList ds gs before →
      (DataW.weightsEach C.prog (fn.params.toList ++ s.plain.varTypes C.prog) (ds ++ gs)).all (· ≤ reachBytes) = true → X W args → W.ShapedOpen C.prog →
      Calls C.prog f args W fun e W' => ∃ v, e = .returned v ∧ s.post enc C.prog fn apart fresh handsOn again W args v W') :
    ReturnsInHanded a C os f .any (fun w args => (s.pre enc C.prog fn conds apart w args ∧ X w args) ∧ sizedMet enc C.prog fn (OpenSpec.ofChange s) apart w args) (s.post enc C.prog fn apart fresh handsOn again) := by
  refine returnsInHanded_of_calls own started noInit witness ?_
  intro w tape i _ hsh _ hok hpre hholds
  obtain ⟨_, _, _, fn', hfn', _, _, _, _, hval⟩ := hok
  have e : fn' = fn := Option.some.inj (hfn'.symm.trans hfn)
  subst e
  obtain ⟨⟨⟨ds, gs, before, hw, hc⟩, hx⟩, hz⟩ := hpre
  have hw' := DataW.Whole.of_heap (w' := w.forCall tape i) (by rfl) hw
  refine (contract (w.forCall tape i) w.heap.size i.args ds gs before hval hw' (hz.weights hw) (hX _ _ _ (by rfl) hx) hsh).mono fun e W' ⟨v, he, hp⟩ => ?_
  subst he
  exact ChangeSpec.post_blind hp

theorem laid_out : laidOutB Tryz.prog = true := by kernel_rfl
theorem own : ownKnob Tryz.prog.godebug = none := by kernel_rfl

section
variable {P : Program} {W : World}
/-- One of several variables that a row lists. -/
theorem laidVars_at : ∀ (i : Nat) (l : List (String × DataW Unit)) (ps : List MemPlace) (n : String) (d : DataW Unit), DataW.LaidVars P W l ps → l[i]? = some (n, d) →
    ∃ g t cs f p, P.globalNamed n = some g ∧ (P.globals[g]?).map (·.type) = some t ∧ W.var? P n = some cs ∧ DataW.trod (fun _ => ()) P W 0 (fun _ => true) false f t cs.toList = some (d, p)
  | i, [], ps, n, d, _, hn => by simp at hn
  | 0, x :: l, ps, n, d, h, hn => by
    simp at hn
    subst hn
    obtain ⟨g, t, cs, f, p, q, h1, h2, h3, h4, _, _⟩ := h
    exact ⟨g, t, cs, f, p, h1, h2, h3, h4⟩
  | i + 1, x :: l, ps, n, d, h, hn => by
    obtain ⟨g, t, cs, f, p, q, _, _, _, _, hs, _⟩ := h
    exact laidVars_at i l q n d hs (by simpa using hn)
theorem laid_at (i : Nat) {l : List (String × DataW Unit)} {n : String} {d : DataW Unit} (h : laidMetH P l W) (hp : (l.all fun x => x.2.handleName?.isNone) = true) (hn : l[i]? = some (n, d)) :
    ∃ g t cs f p, P.globalNamed n = some g ∧ (P.globals[g]?).map (·.type) = some t ∧ W.var? P n = some cs ∧ DataW.trod (fun _ => ()) P W 0 (fun _ => true) false f t cs.toList = some (d, p) := by
  rw [MakeChecks.laidMetH_plain _ _ _ hp] at h
  obtain ⟨ps, hv, _⟩ := h
  exact laidVars_at i l ps n d hv hn
end

section
variable {H : Type} {enc : TypeId × Value → H} {W : World} {fuel : Nat} {v : Value} {y : DataW H × List MemPlace}
theorem cellsOf_u32 : Tryz.prog.cellsOf 74 = 1 := by kernel_rfl
/-- A slice of 32-bit digits that came in. -/
theorem arr_of_trod (h : DataW.trod enc Tryz.prog W 0 (fun _ => true) true fuel 22 [v] = some y) : ∃ xs, Big.Arr W v xs := by
  rcases open_ints Tryz.underlying22 Tryz.underlying74 cellsOf_u32 h with ⟨hv, _⟩ | ⟨a, len, cap, zs, hv, _, hl, hm, hz, _, hc, hw⟩
  · injection hv with hv
    subst hv
    exact ⟨[], Big.Arr.none_ W⟩
  · injection hv with hv
    subst hv
    simp only [if_true] at hz
    refine ⟨(zs.take len).map Int.toNat, ?_⟩
    have hlen : ((zs.take len).map Int.toNat).length = len := by simp; omega
    have hok : Big.Ok ((zs.take len).map Int.toNat) := fun x hx => by
      obtain ⟨n, hn, rfl⟩ := List.mem_map.1 hx
      have := bounds_u32 (hw n (List.mem_of_mem_take hn))
      omega
    have key := Big.Arr.mk (w := W) (A := some a) (c := cap) hok (by rw [hlen]; exact hl) hm (fun hp => by
      rw [hlen] at hp ⊢
      obtain ⟨b, off, rfl, hcell⟩ := ints_at hc (by omega)
      have h0 := hcell 0 (by omega)
      refine ⟨b, off, rfl, World.block_lt_of_cell? W _ h0, fun j hj => ?_⟩
      rw [hcell j (by omega)]
      have hj2 : j < zs.length := by omega
      have hb := bounds_u32 (hw zs[j] (List.getElem_mem hj2))
      have e1 : zs.getD j 0 = zs[j] := by rw [List.getD_eq_getElem?_getD, List.getElem?_eq_getElem hj2]; rfl
      have e2 : ((zs.take len).map Int.toNat).getD j 0 = zs[j].toNat := by
        rw [List.getD_eq_getElem?_getD, List.getElem?_map, List.getElem?_take_of_lt hj, List.getElem?_eq_getElem hj2]; rfl
      rw [e1, e2]
      unfold Big.d32
      rw [Int.toNat_of_nonneg hb.1])
    rw [hlen] at key
    exact key
theorem bool_of_trod (h : DataW.trod enc Tryz.prog W 0 (fun _ => true) true fuel 4 [v] = some y) : ∃ b, v = .bool b := by
  obtain ⟨b, hb, _⟩ := DataW.trod_bool Tryz.underlying4 h
  injection hb with hb
  exact ⟨b, hb⟩
end
section
variable {H : Type} {enc : TypeId × Value → H} {W : World} {v : Value} {d : DataW H} {p : List MemPlace} {r : Reach} {b0 : Nat}
set_option maxRecDepth 100000 in
theorem open_u32s (hv : Value.okWide Tryz.prog W r b0 22 v) (h : DataW.Trod enc Tryz.prog W 0 (fun _ => true) true 22 v d p) : ∃ xs, Big.Arr W v xs := by
  obtain ⟨a, len, cap, rfl⟩ := okWide_slice Tryz.underlying22 hv
  obtain ⟨fuel, hf⟩ := h
  obtain ⟨xs, hxs⟩ := arr_of_trod (by simpa [Value.cells] using hf)
  exact ⟨xs, hxs⟩
end
theorem byte_of_wf {z : Int} (w : (Lit.int .u8 z).wf = true) : ∃ d : UInt8, z = (d.toNat : Int) := by
  have h := bounds_u8 w
  refine ⟨UInt8.ofNat z.toNat, ?_⟩
  have e : (UInt8.ofNat z.toNat).toNat = z.toNat % 2 ^ 8 := UInt8.toNat_ofNat'
  rw [e, Nat.mod_eq_of_lt (by omega)]
  omega
theorem u64_of_wf {z : Int} (w : (Lit.int .u64 z).wf = true) : ∃ n : Nat, n < 18446744073709551616 ∧ z = (n : Int) := by
  have h := bounds_u64 w
  exact ⟨z.toNat, by omega, by omega⟩
theorem str_of_bytes {s : ByteArray} (h : s.size ≤ maxLen) : ∃ l : List UInt8, l.length ≤ maxLen ∧ s = ⟨l.toArray⟩ := by
  refine ⟨s.data.toList, by simpa using h, ?_⟩
  apply ByteArray.ext
  simp
end Go.Proofs.YtplmldkfgeiklaaGreatDoor
