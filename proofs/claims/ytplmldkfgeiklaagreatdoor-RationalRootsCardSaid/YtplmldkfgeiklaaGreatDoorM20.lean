import Derived.Test.YtplmldkfgeiklaaGreatDoorM10
import Derived.Test.YtplmldkfgeiklaaGreatDoorM4
import Derived.Test.YtplmldkfgeiklaaGreatDoorM8
import Derived.Test.YtplmldkfgeiklaaGreatDoorM14
import Derived.Test.YtplmldkfgeiklaaGreatDoorM9
/- ref01.Bit, ref01.Bits. -/
namespace Go.Proofs.YtplmldkfgeiklaaGreatDoor
namespace Big
open Go.RowKit
theorem bit_split {xs : List Nat} {i k s : Nat} (hok : Ok xs) (hi : i = 32 * k + s) (hs : s < 32) : xs.getD k 0 / 2 ^ s % 2 = val xs / 2 ^ i % 2 := by
  have h1 := val_split' xs k
  have h2 := val_take_lt hok k
  have h3 := val_drop' xs k
  have e1 : val xs / 4294967296 ^ k = val (xs.drop k) := by
    rw [h1, Nat.add_mul_div_left _ _ (Nat.pow_pos (by decide)), Nat.div_eq_of_lt h2, Nat.zero_add]
  rw [hi, Nat.pow_add, ← Nat.div_div_eq_div_mul, Nat.pow_mul, show (2 : Nat) ^ 32 = 4294967296 from rfl, e1, h3]
  obtain ⟨t, ht⟩ : ∃ t, 32 = s + (t + 1) := ⟨31 - s, by omega⟩
  have e2 : 4294967296 = 2 ^ s * (2 ^ t * 2) := by
    rw [← Nat.pow_succ, ← Nat.pow_add, ← ht]
  generalize val (xs.drop (k + 1)) = r
  rw [e2, Nat.mul_assoc, Nat.add_mul_div_left _ _ (Nat.pow_pos (by decide)), show 2 ^ t * 2 * r = 2 * (2 ^ t * r) by rw [Nat.mul_comm (2 ^ t) 2, Nat.mul_assoc], Nat.add_mul_mod_self_left]
set_option maxRecDepth 100000 in
theorem rbit_any (w : World) (v : Value) (xs : List Nat) (i : Nat) (h : Arr w v xs) (hi : i < 34359738368) :
    Calls Tryz.prog 147 #[v, .int .i64 (i : Int)] w fun e w' => e = .returned (.bool (decide (val xs / 2 ^ i % 2 = 1))) ∧ w = w' := by
  obtain ⟨k, s, hs, hks⟩ : ∃ k s, s < 32 ∧ i = 32 * k + s := ⟨i / 32, i % 32, by omega, by omega⟩
  have HV := Lib.hid (bit_split h.ok hks hs)
  have hq : (i : Int) / 32 = (k : Int) := by omega
  have hr : (i : Int) % 32 = (s : Int) := by omega
  have HAT := Lib.hid (rat_any w v xs (k : Int) h (by omega))
  rw [Int.toNat_natCast] at HAT
  have hxm := h.ok.get k
  have hPI : (2 : Int) ^ s = ((2 ^ s : Nat) : Int) := by simp
  have hPP : 0 < 2 ^ s := Nat.pow_pos (by omega)
  have hi0 : (0 : Int) ≤ (i : Int) := by omega
  have hk1 : k < 1073741824 := by omega
  rw [← HV.out]
  clear HV hks h hi
  generalize xs.getD k 0 = x at *
  obtain ⟨P, hP⟩ : ∃ P, 2 ^ s = P := ⟨_, rfl⟩
  rw [hP] at hPI hPP ⊢
  clear hP
  have hdv : (x : Int) / (P : Int) = ((x / P : Nat) : Int) := rfl
  obtain ⟨y, hy⟩ : ∃ y, x / P = y := ⟨_, rfl⟩
  rw [hy] at hdv ⊢
  have hyx : y < 4294967296 := by rw [← hy]; exact Nat.lt_of_le_of_lt (Nat.div_le_self _ _) hxm
  clear hy
  have hmd : (y : Int) % 2 = ((y % 2 : Nat) : Int) := rfl
  have hz2 : y % 2 < 2 := by omega
  generalize y % 2 = z at *
  have hzb : ((z : Int) == 1) = decide (z = 1) := by
    rw [Bool.eq_iff_iff, beq_iff_eq, decide_eq_true_iff]
    omega
  generalize decide (z = 1) = bb at *
  go_enter Tryz.func147, Tryz.ntmps147
  go_wp2_with fail
  refine HAT.out.mono ?_
  rintro e w' ⟨rfl, rfl⟩
  go_wp2_with fail
  all_goals go_ret
  exact ⟨rfl, rfl⟩
theorem bitsN_up {V n : Nat} (h : V < 2 ^ n) (h1 : V / 2 ^ (n - 1) % 2 = 1) (hn : 0 < n) : bitsN V = n := by
  obtain ⟨m, rfl⟩ : ∃ m, n = m + 1 := ⟨n - 1, by omega⟩
  rw [Nat.add_sub_cancel] at h1
  refine bitsN_eq ?_ h
  rcases Nat.lt_or_ge V (2 ^ m) with hl | hl
  · rw [Nat.div_eq_of_lt hl] at h1
    omega
  · exact hl
theorem bits_down {V n : Nat} (h : V < 2 ^ (n + 1)) (h1 : ¬ V / 2 ^ n % 2 = 1) : V < 2 ^ n := by
  have h2 : V / 2 ^ n < 2 := by
    rw [Nat.div_lt_iff_lt_mul (Nat.pow_pos (by decide)), Nat.mul_comm, ← Nat.pow_succ]
    exact h
  have h3 : V / 2 ^ n = 0 := by
    generalize V / 2 ^ n = t at *
    omega
  rcases Nat.lt_or_ge V (2 ^ n) with hl | hl
  · exact hl
  · have := Nat.div_pos hl (Nat.pow_pos (by decide)); omega
set_option maxRecDepth 100000 in
theorem rbits_any (w : World) (v : Value) (xs : List Nat) (h : Arr w v xs) (hn : xs.length ≤ 134217728) :
    Calls Tryz.prog 106 #[v] w fun e w' => e = .returned (.int .i64 (bitsN (val xs) : Nat)) ∧ Ext w w' := by
  have HB := Lib.hid (fun W i (hx : Ext w W) => rbit_any W v xs i (h.ext hx))
  have hlt : val xs < 2 ^ (32 * xs.length) := by
    rw [Nat.pow_mul]
    exact val_lt h.ok
  obtain ⟨L, hL⟩ : ∃ L, xs.length = L := ⟨_, rfl⟩
  rw [hL] at hlt hn
  obtain ⟨_, A, c, rfl, _, _, _⟩ := h.open
  rw [hL] at HB ⊢
  clear h hL
  generalize val xs = V at *
  have HLT := Lib.hid hlt
  clear hlt
  go_enter Tryz.func106, Tryz.ntmps106
  go_wp2_with fail
  go_loopw [3] (fun s1 wr => ∃ n : Nat, n ≤ 32 * L ∧ s1 = .int .i64 (n : Int) ∧ V < 2 ^ n ∧ Ext w wr) (fun s1 _ => (intOf s1).toNat)
  case atStart => exact ⟨32 * L, Nat.le_refl _, by go_num, HLT.out, Ext.refl _⟩
  case round =>
    obtain ⟨n, hn2, rfl, hV, hx⟩ := hrel
    have HX := Lib.hid hx
    have HV := Lib.hid hV
    clear hx hV
    rcases Nat.eq_zero_or_pos n with h0 | h0
    · subst h0
      have hz : V = 0 := by have := HV.out; omega
      subst hz
      go_wp2_with fail
      go_ret
      exact ⟨by congr 2, HX.out⟩
    · obtain ⟨m, rfl⟩ : ∃ m, n = m + 1 := ⟨n - 1, by omega⟩
      have hm1 : ((m + 1 : Nat) : Int) - 1 = (m : Int) := by omega
      have hm2 : IntKind.i64.wrap (((m + 1 : Nat) : Int) - 1) = (m : Int) := by rw [hm1]; exact IntWalk.i64_in _ (by omega)
      have hp : (0 : Int) < ((m + 1 : Nat) : Int) := by omega
      by_cases hb : V / 2 ^ m % 2 = 1
      · have hd : decide (V / 2 ^ m % 2 = 1) = true := decide_eq_true hb
        have HE := Lib.hid (bitsN_up HV.out hb (by omega))
        go_wp2_with fail
        refine (HB.out _ m HX.out (by omega)).mono ?_
        rintro e w' ⟨rfl, rfl⟩
        go_wp2_with fail
        go_ret
        refine ⟨?_, HX.out⟩
        rw [HE.out]
        rfl
      · have hd : decide (V / 2 ^ m % 2 = 1) = false := decide_eq_false hb
        have HE := Lib.hid (bits_down HV.out hb)
        go_wp2_with fail
        refine (HB.out _ m HX.out (by omega)).mono ?_
        rintro e w' ⟨rfl, rfl⟩
        go_wp2_with fail
        go_roundw
        case rel => exact ⟨m, by omega, by go_num, HE.out, HX.out⟩
        case measure => simp [intOf]
end Big
end Go.Proofs.YtplmldkfgeiklaaGreatDoor
/- ref02.Power. -/
namespace Go.Proofs.YtplmldkfgeiklaaGreatDoor
namespace Big
open Go.RowKit
set_option maxRecDepth 100000 in
theorem rpow_any (w : World) (v0 : Value) (xs : List Nat) (n : Nat) (h0 : Arr w v0 xs) (hl : xs.length ≤ 1000000) (hn : n ≤ 64) :
    Calls Tryz.prog 55 #[v0, .int .i64 (n : Int)] w fun e w' => ∃ v', e = .returned v' ∧ Own w.heap.size w' v' (limbs (val xs ^ n)) ∧ Ext w w' := by
  have H0 := Lib.hid h0
  have hV : (limbs (val xs)).length ≤ 1000000 := Nat.le_trans (length_limbs_val h0.ok) hl
  have HOF := Lib.hid (fun W => rof_any W 1 (by decide))
  rw [show ((1 : Nat) : Int) = 1 from rfl] at HOF
  have HML := Lib.hid (fun W m k (hk : k ≤ 64) a (hx : Ext w W) => rmul2_any W m v0 (limbs (val xs ^ k)) xs a (h0.ext hx) (by have := limbs_pow64 hV hk; omega) (by omega))
  have HML : Hid (∀ W m k, k < n → Arr W m (limbs (val xs ^ k)) → Ext w W → Calls Tryz.prog 108 #[m, v0] W fun e w' => ∃ v', e = .returned v' ∧ Own W.heap.size w' v' (limbs (val xs ^ (k + 1))) ∧ Ext W w') := Lib.hid (fun W m k hk a hx => by
    have := HML.out W m k (by omega) a hx
    rw [val_limbs, ← Nat.pow_succ] at this
    exact this)
  obtain ⟨l0, A0, c0, rfl⟩ := h0.shape
  clear h0 hl hV
  generalize val xs = V at *
  go_enter Tryz.func55, Tryz.ntmps55
  go_wp2_with fail
  refine (HOF.out _).mono ?_
  rintro e w1 ⟨r0, rfl, hi0, hx0⟩
  have R0 := Lib.hid hi0
  have HX1 := Lib.hid hx0
  obtain ⟨g0, G0, j0, rfl⟩ := hi0.shape
  clear hi0 hx0
  go_wp2_with fail
  go_loopw [5, 8] (fun s4 s7 wr => ∃ (k : Nat) (m : Nat) (A : Option Addr) (c : Nat), k ≤ n ∧ s7 = .int .i64 (k : Int) ∧ s4 = .slice A m c ∧ Own w.heap.size wr s4 (limbs (V ^ k)) ∧ Ext w wr) (fun _ s7 _ => n - (intOf s7).toNat)
  case atStart => exact ⟨0, g0, G0, j0, Nat.zero_le _, rfl, rfl, R0.out, HX1.out⟩
  case round =>
    obtain ⟨k, m, A, c, hk, rfl, rfl, ho, hx⟩ := hrel
    have HO := Lib.hid ho
    have HX := Lib.hid hx
    clear ho hx
    by_cases hlt : k < n
    · go_wp2_with fail
      refine (HML.out _ _ k hlt HO.out.arr HX.out).mono ?_
      rintro e w2 ⟨v2, rfl, ho2, hx2⟩
      have HO2 := Lib.hid (ho2.mono HX.out.size)
      have HX2 := Lib.hid (HX.out.trans hx2)
      obtain ⟨n2, A2, c2, rfl⟩ := ho2.shape
      clear ho2 hx2
      go_wp2_with fail
      go_roundw
      case rel => exact ⟨k + 1, n2, A2, c2, by omega, by go_num, rfl, HO2.out, HX2.out⟩
      case measure => simp [intOf]; omega
    · obtain rfl : k = n := by omega
      go_wp2_with fail
      go_ret
      exact ⟨_, rfl, HO.out, HX.out⟩
end Big
end Go.Proofs.YtplmldkfgeiklaaGreatDoor
/- ref01.Shl. -/
namespace Go.Proofs.YtplmldkfgeiklaaGreatDoor
namespace Big
open Go.RowKit
theorem rshl_step {xs zs : List Nat} {s k c : Nat} (hok : Ok xs) (hl : zs.length = k) (_hs : s ≤ 31) (hc : c < 2 ^ s) (hv : val zs + 4294967296 ^ k * c = val (xs.take k) * 2 ^ s) (t : Nat) (ht : t = xs.getD k 0 * 2 ^ s + c) :
    val (zs ++ [t % 4294967296]) + 4294967296 ^ (k + 1) * (t / 4294967296) = val (xs.take (k + 1)) * 2 ^ s ∧ t / 4294967296 < 2 ^ s := by
  have h1 := val_take' xs k
  have hm := Nat.div_add_mod t 4294967296
  constructor
  · rw [val_snoc, hl, h1, Nat.add_mul, ← hv, Nat.pow_succ]
    have e1 : 4294967296 ^ k * 4294967296 * (t / 4294967296) = 4294967296 ^ k * (4294967296 * (t / 4294967296)) := Nat.mul_assoc _ _ _
    have e2 : 4294967296 ^ k * (t % 4294967296) + 4294967296 ^ k * (4294967296 * (t / 4294967296)) = 4294967296 ^ k * t := by rw [← Nat.mul_add, Nat.add_comm, hm]
    have e3 : 4294967296 ^ k * t = 4294967296 ^ k * c + 4294967296 ^ k * xs.getD k 0 * 2 ^ s := by rw [ht, Nat.mul_add, Nat.mul_assoc, Nat.add_comm]
    rw [e1]
    omega
  · refine Nat.div_lt_of_lt_mul ?_
    have := hok.get k
    have h2 : xs.getD k 0 * 2 ^ s + 2 ^ s ≤ 4294967296 * 2 ^ s := by
      rw [← Nat.succ_mul]
      exact Nat.mul_le_mul_right _ this
    omega
set_option maxRecDepth 100000 in
set_option maxHeartbeats 1000000 in
theorem rshl_any (w : World) (v : Value) (xs : List Nat) (n : Nat) (h : Arr w v xs) (hn : xs.length ≤ 268435456) (hn2 : n ≤ 1048576) :
    Calls Tryz.prog 176 #[v, .int .i64 (n : Int)] w fun e w' => ∃ v', e = .returned v' ∧ Own w.heap.size w' v' (limbs (val xs * 2 ^ n)) ∧ Ext w w' := by
  have HA := Lib.hid h
  obtain ⟨hok, A, cap, rfl, hcap, hmx, hcell⟩ := h.open
  obtain ⟨d, s, hd, hs, hnd⟩ : ∃ d s, d ≤ 32768 ∧ s ≤ 31 ∧ n = 32 * d + s := ⟨n / 32, n % 32, by omega, by omega, by omega⟩
  have HND := Lib.hid hnd
  have HOK := Lib.hid hok
  have hq : (n : Int) / 32 = (d : Int) := by omega
  have hr : (n : Int) % 32 = (s : Int) := by omega
  have hmk := run_make32 d (by omega)
  have HPOW := Lib.hid (pow_le32 s hs)
  have HR0 : Hid (∀ W : World, w.heap.size ≤ W.heap.size → Own w.heap.size (W.alloc (.cells (zeros d) 74)) (.slice (some ⟨W.heap.size, 0, none⟩) d d) (List.replicate d 0)) := Lib.hid (fun W hw => by
    have h3 := Own.block (B := w.heap.size) (w := W.alloc (.cells (zeros d) 74)) (g := W.heap.size) (xs := List.replicate d 0) (Ok.zeros d) (by rw [← zeros_cells]; exact Blk.new _ _ _) hw (by simp; omega)
    rwa [List.length_replicate] at h3)
  clear h hcell hmx hcap hnd
  go_enter Tryz.func176, Tryz.ntmps176
  go_wp2_with fail
  clear hmk
  go_loopw [5, 6, 7] (fun out cy i wr => ∃ (k q : Nat) (zs : List Nat), k ≤ xs.length + 1 ∧ q < 2 ^ s ∧ (k = xs.length + 1 → q = 0) ∧ i = .int .i64 k ∧ cy = .int .u64 q ∧ zs.length = k ∧
      val zs + 4294967296 ^ k * q = val (xs.take k) * 2 ^ s ∧ Own w.heap.size wr out (List.replicate d 0 ++ zs) ∧ Ext w wr) (fun _ _ i _ => xs.length + 1 - (intOf i).toNat)
  case atStart => exact ⟨0, 0, [], Nat.zero_le _, Nat.pow_pos (by decide), by omega, rfl, rfl, rfl, by simp [val], by rw [List.append_nil]; exact HR0.out _ (Nat.le_refl _), (Ext.refl w).alloc _⟩
  case round =>
    obtain ⟨k, q, zs, hk, hqs, hq0, rfl, rfl, hl, hv, hown, hext⟩ := hrel
    have HV := Lib.hid hv; clear hv
    have HL := Lib.hid hl; clear hl
    have hwr := hext.size
    by_cases hlt : k ≤ xs.length
    · have hkM : (k : Int) ≤ (xs.length : Int) := by omega
      have HX := Lib.hid (rat_any wr _ xs (k : Int) (HA.out.ext hext) (by omega))
      rw [Int.toNat_natCast] at HX
      have hxm := hok.get k
      have HS := Lib.hid (fun t h => @rshl_step xs zs s k q HOK.out HL.out hs hqs HV.out t h)
      have hlast : k = xs.length → xs.getD k 0 = 0 := fun e => getD_ge xs k (by omega)
      obtain ⟨hp1, hp2, hp3⟩ := shl_parts hxm hs
      have hor : xs.getD k 0 * 2 ^ s ||| q = xs.getD k 0 * 2 ^ s + q := by
        rw [Nat.or_comm, shl_or hqs ⟨xs.getD k 0, Nat.mul_comm _ _⟩, Nat.add_comm]
      have hpow := HPOW.out
      obtain ⟨x, hxe⟩ : ∃ x, xs.getD k 0 = x := ⟨_, rfl⟩
      rw [hxe] at HX HS hxm hlast hp1 hp2 hor
      clear hxe hp3
      have hPI : (2 : Int) ^ s = ((2 ^ s : Nat) : Int) := by simp
      have hroom : x * 2 ^ s + q < 18446744073709551616 := by
        have h2 : x * 2 ^ s + 2 ^ s ≤ 4294967296 * 2 ^ s := by
          rw [← Nat.succ_mul]
          exact Nat.mul_le_mul_right _ hxm
        omega
      obtain ⟨P, hP⟩ : ∃ P, 2 ^ s = P := ⟨_, rfl⟩
      rw [hP] at hPI hp1 hp2 hor hroom hpow HS hqs
      have HPE := Lib.hid hP
      clear hP
      have hpi : (x : Int) * (P : Int) = ((x * P : Nat) : Int) := by simp
      have hy0 : x = 0 → x * P = 0 := fun e => by rw [e, Nat.zero_mul]
      obtain ⟨y, hy⟩ : ∃ y, x * P = y := ⟨_, rfl⟩
      rw [hy] at hpi hp1 hp2 hor hroom HS hy0
      clear hy
      have hbo : bits .or .u64 (y : Int) (q : Int) = ((y + q : Nat) : Int) := by
        rw [bits_or_u64_nat _ _ (by omega) (by omega), hor]
      clear hor
      have hz0 : k + 1 = xs.length + 1 → (y + q) / 4294967296 = 0 := fun e => by have := hy0 (hlast (by omega)); omega
      have HLIM := Lib.hid (show ∀ z : Nat, (List.replicate d 0 ++ zs).length + [z].length ≤ 2147483648 from fun z => by simp [HL.out]; omega)
      have HST := Lib.hid (HS.out _ rfl)
      obtain ⟨t, ht⟩ : ∃ t, y + q = t := ⟨_, rfl⟩
      rw [ht] at hbo hroom HST hz0
      have HZ := Lib.hid (show t % 4294967296 < 4294967296 from Nat.mod_lt _ (by omega))
      have HQ0 := Lib.hid hz0
      clear hlast hz0 hy0 HS ht
      go_wp2_with fail
      refine HX.out.mono ?_; rintro e w' ⟨rfl, rfl⟩
      go_wp2_with (at_builtin; go_must (refine wpList_append32 rfl _ _ rfl rfl (hown.ext ((Ext.refl _).alloc _)) rfl (Arr.fresh1' _ _ (t % 4294967296) (by omega) HZ.out) (HLIM.out _) (by simp; omega) ?_; intro v' w' hown' hgr hb))
      go_roundw
      case rel => exact ⟨k + 1, t / 4294967296, zs ++ [t % 4294967296], by omega, by rw [HPE.out]; exact HST.out.2, HQ0.out, by go_num, by go_num, by simp [HL.out], by rw [HPE.out]; exact HST.out.1, by rw [← List.append_assoc]; exact hown', (hext.alloc _).more hb⟩
      case measure => simp [intOf]; omega
    · obtain rfl : k = xs.length + 1 := by omega
      have hkM : ¬ (((xs.length + 1 : Nat) : Int)) ≤ (xs.length : Int) := by omega
      have hq := hq0 rfl
      subst hq
      have hval := HV.out
      rw [Nat.mul_zero, Nat.add_zero, List.take_of_length_le (by omega)] at hval
      have HT := rtrim_any _ _ _ hown.arr (by simp [HL.out]; omega)
      rw [shl_val d s _ _ hval, ← HND.out] at HT
      have HT := Lib.hid HT
      clear hval
      go_wp2_with fail
      refine HT.out.mono ?_
      rintro e w2 ⟨v2, rfl, ho, hx⟩
      go_wp2_with fail
      go_ret
      exact ⟨_, rfl, ho.mono hext.size, hext.trans hx⟩
end Big
end Go.Proofs.YtplmldkfgeiklaaGreatDoor
/- ref04.root at 2, Sqrt, Square. -/
namespace Go.Proofs.YtplmldkfgeiklaaGreatDoor
namespace Big
open Go.RowKit
/-- What ref04.root holds: the root but for its last digits. -/
def RootRel (w wr : World) (V : Nat) (s5 s6 : Value) : Prop :=
  (∃ (i r : Nat), i ≤ 320000 ∧ s6 = .int .i64 (i : Int) ∧ Own w.heap.size wr s5 (limbs r) ∧ r * r ≤ V ∧ V < (r + 2 ^ (i + 1)) * (r + 2 ^ (i + 1)) ∧ Ext w wr) ∨
  (∃ r : Nat, s6 = .int .i64 (-1) ∧ Own w.heap.size wr s5 (limbs r) ∧ IsSq V r ∧ Ext w wr)
theorem RootRel.next {w wr : World} {V i r : Nat} {s5 : Value} (hi : i ≤ 320000) (ho : Own w.heap.size wr s5 (limbs r)) (h1 : r * r ≤ V) (h2 : V < (r + 2 ^ i) * (r + 2 ^ i)) (hx : Ext w wr) : RootRel w wr V s5 (.int .i64 ((i : Int) - 1)) := by
  rcases Nat.eq_zero_or_pos i with rfl | h
  · exact .inr ⟨r, by simp, ho, ⟨h1, by simpa using h2⟩, hx⟩
  · obtain ⟨j, rfl⟩ : ∃ j, i = j + 1 := ⟨i - 1, by omega⟩
    exact .inl ⟨j, r, by omega, by rw [show ((j + 1 : Nat) : Int) - 1 = (j : Int) by omega], ho, h1, h2, hx⟩
theorem le_sq (r : Nat) : r ≤ r * r := Nat.le_mul_self r
set_option maxHeartbeats 2000000 in
set_option maxRecDepth 100000 in
theorem rroot_any (w : World) (v0 : Value) (xs : List Nat) (h0 : Arr w v0 xs) (hl : xs.length ≤ 10000) :
    Calls Tryz.prog 161 #[v0, .int .i64 2] w fun e w' => ∃ v' r, e = .returned v' ∧ IsSq (val xs) r ∧ Own w.heap.size w' v' (limbs r) ∧ Ext w w' := by
  have H0 := Lib.hid h0
  have hV : (limbs (val xs)).length ≤ 10000 := Nat.le_trans (length_limbs_val h0.ok) hl
  have HOF := Lib.hid (fun W => rof_any W 1 (by decide))
  rw [show ((1 : Nat) : Int) = 1 from rfl] at HOF
  have HBT := Lib.hid (rbits_any w v0 xs h0 (by omega))
  have hB := bitsN_limbs_le hV
  have hlt := bitsN_lt (val xs)
  have HSQ0 := Lib.hid (Nat.lt_of_lt_of_le hlt (half_pow (bitsN (val xs))))
  obtain ⟨l0, A0, c0, rfl⟩ := h0.shape
  clear h0 hlt
  have HLL := Lib.hid hl
  have HVL := Lib.hid hV
  clear hl hV
  generalize bitsN (val xs) = B at *
  obtain ⟨S, hS⟩ : ∃ S, S = B / 2 := ⟨_, rfl⟩
  have hq1 : (B : Int) / 2 = (S : Int) := by omega
  have hS2 : S ≤ 160000 := by omega
  rw [← hS] at HSQ0
  clear hS hB
  go_enter Tryz.func161, Tryz.ntmps161
  go_wp2_with fail
  refine HBT.out.mono ?_
  rintro e w1 ⟨rfl, hx1⟩
  have HX1 := Lib.hid hx1
  clear hx1
  go_wp2_with fail
  clear hq1
  go_loopw [5, 6] (fun s5 s6 wr => RootRel w wr (val xs) s5 s6) (fun _ s6 _ => (intOf s6 + 1).toNat)
  case atStart => exact .inl ⟨S, 0, by omega, rfl, by rw [show limbs 0 = [] by decide +kernel]; exact Own.none_ _ _, by omega, by rw [Nat.zero_add]; exact HSQ0.out, HX1.out⟩
  case round =>
    rcases hrel with ⟨i, r, hi, rfl, ho, h1, h2, hx⟩ | ⟨r, rfl, ho, hsq, hx⟩
    · have hi0 : (0 : Int) ≤ (i : Int) := by omega
      have hi1 : (i : Int) ≤ 320000 := by omega
      have HO := Lib.hid ho
      have HX := Lib.hid hx
      have HK := Lib.hid (And.intro h1 (And.intro h2 hi))
      have hrl : (limbs r).length ≤ 10000 := Nat.le_trans (limbs_mono (Nat.le_trans (le_sq r) h1)) HVL.out
      have HSH := Lib.hid (fun W m a => rshl_any W m (limbs 1) i a (by rw [limbs_one]; simp) (by omega))
      rw [val_limbs, Nat.one_mul] at HSH
      have hpl : (limbs (2 ^ i)).length ≤ 10001 := limbs_pow2_le (by omega)
      have HAD := Lib.hid (fun W m m' a b => radd1_any W m m' (limbs r) (limbs (2 ^ i)) a b (by omega) (by omega))
      rw [val_limbs, val_limbs] at HAD
      have hxl : (limbs (r + 2 ^ i)).length ≤ 20002 := by have := length_limbs_sum hrl hpl; omega
      have HPW := Lib.hid (fun W m a => rpow_any W m (limbs (r + 2 ^ i)) 2 a (by omega) (by decide))
      rw [val_limbs, Nat.pow_two, show ((2 : Nat) : Int) = 2 from rfl] at HPW
      have hyl : (limbs ((r + 2 ^ i) * (r + 2 ^ i))).length ≤ 40004 := by have := length_limbs_prod hxl hxl; omega
      have HCM := Lib.hid (fun W m a (hx : Ext w W) => rcmp_any W m (.slice A0 l0 c0) (limbs ((r + 2 ^ i) * (r + 2 ^ i))) xs a (H0.out.ext hx) (by omega) (by have := HLL.out; omega))
      rw [val_limbs] at HCM
      obtain ⟨g5, A5, c5, rfl⟩ := ho.shape
      have hle : cmpI ((r + 2 ^ i) * (r + 2 ^ i)) (val xs) ≤ 0 ↔ (r + 2 ^ i) * (r + 2 ^ i) ≤ val xs := by unfold cmpI; split <;> (try split) <;> omega
      have HLE := Lib.hid hle
      generalize cmpI ((r + 2 ^ i) * (r + 2 ^ i)) (val xs) = cc at *
      clear ho h1 h2 hx hrl hpl hxl hyl hle hi
      go_wp2_with fail
      refine (HOF.out _).mono ?_
      rintro e w2 ⟨r2, rfl, hi2, hx2⟩
      have R2 := Lib.hid hi2
      have HX2 := Lib.hid (HX.out.trans hx2)
      have HO2 := Lib.hid (HO.out.ext hx2)
      obtain ⟨g2, G2, j2, rfl⟩ := hi2.shape
      clear hi2 hx2
      go_wp2_with fail
      refine (HSH.out _ _ R2.out.arr).mono ?_
      rintro e w3 ⟨r3, rfl, hi3, hx3⟩
      have R3 := Lib.hid hi3
      have HX3 := Lib.hid (HX2.out.trans hx3)
      have HO3 := Lib.hid (HO2.out.ext hx3)
      obtain ⟨g3, G3, j3, rfl⟩ := hi3.shape
      clear hi3 hx3
      go_wp2_with fail
      refine (HAD.out _ _ _ HO3.out.arr R3.out.arr).mono ?_
      rintro e w4 ⟨r4, rfl, hi4, hx4⟩
      have R4 := Lib.hid (hi4.mono HX3.out.size)
      have HX4 := Lib.hid (HX3.out.trans hx4)
      have HO4 := Lib.hid (HO3.out.ext hx4)
      obtain ⟨g4, G4, j4, rfl⟩ := hi4.shape
      clear hi4 hx4
      go_wp2_with fail
      refine (HPW.out _ _ R4.out.arr).mono ?_
      rintro e w5 ⟨r5, rfl, hi5, hx5⟩
      have R5 := Lib.hid hi5
      have R4' := Lib.hid (R4.out.ext hx5)
      have HX5 := Lib.hid (HX4.out.trans hx5)
      have HO5 := Lib.hid (HO4.out.ext hx5)
      obtain ⟨g6, G6, j6, rfl⟩ := hi5.shape
      clear hi5 hx5
      go_wp2_with fail
      refine (HCM.out _ _ R5.out.arr HX5.out).mono ?_
      rintro e w6 ⟨rfl, rfl⟩
      by_cases hc : cc ≤ 0
      · have HC := Lib.hid (HLE.out.1 hc)
        go_wp2_with fail
        go_roundw
        case rel => exact RootRel.next HK.out.2.2 R4'.out HC.out (search_step HK.out.1 HK.out.2.1 HC.out) HX5.out
        case measure => simp [intOf] <;> omega
      · have HC := Lib.hid (fun h => hc (HLE.out.2 h))
        go_wp2_with fail
        go_roundw
        case rel => exact RootRel.next HK.out.2.2 HO5.out HK.out.1 (Nat.lt_of_not_le HC.out) HX5.out
        case measure => simp [intOf] <;> omega
    · obtain ⟨g5, A5, c5, rfl⟩ := ho.shape
      have HO := Lib.hid ho
      have HX := Lib.hid hx
      clear ho hx
      go_wp2_with fail
      go_ret
      exact ⟨_, r, rfl, hsq, HO.out, HX.out⟩
end Big
end Go.Proofs.YtplmldkfgeiklaaGreatDoor
