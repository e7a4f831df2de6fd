import Derived.Test.YtplmldkfgeiklaaGreatDoorM9
import Derived.Test.YtplmldkfgeiklaaGreatDoorM5
import Derived.Test.YtplmldkfgeiklaaGreatDoorShelf
import Derived.Test.YtplmldkfgeiklaaGreatDoorM6
import Derived.Deep.RegionHeld3
import Derived.Deep.LoopGhost
import Derived.Lib.ItoaNum
import Derived.Test.YtplmldkfgeiklaaGreatDoorM7
import Derived.Test.YtplmldkfgeiklaaGreatDoorM8
/- quotient.DivMod. -/
namespace Go.Proofs.YtplmldkfgeiklaaGreatDoor
namespace Big
open Go.RowKit
theorem lead_any (w : World) (x : Nat) (hx : x < 4294967296) : Calls Tryz.prog 162 #[.int .u32 (x : Int)] w fun e w' => ∃ s : Nat, s ≤ 32 ∧ e = .returned (.int .i64 (s : Int)) ∧ w = w' := by
  have h := Tryz.bits_LeadingZeros32 (x : Int) w (by omega) (by omega)
  refine h.mono ?_
  rintro e w' ⟨rfl, rfl⟩
  have h2 := Any.bitLen_le32 (x : Int) (by omega) (by omega)
  refine ⟨32 - Lib.bitLen (x : Int).toNat, by omega, ?_, rfl⟩
  congr 2
  omega
theorem limbs_ge {n : Nat} (h : n ≠ 0) : 4294967296 ^ ((limbs n).length - 1) ≤ n := by
  induction n using Nat.strongRecOn with
  | _ n ih =>
    rw [limbs_pos n h, List.length_cons, Nat.add_sub_cancel]
    by_cases h0 : n / 4294967296 = 0
    · rw [h0, limbs_zero]
      simp
      omega
    · have h1 := ih (n / 4294967296) (by omega) h0
      obtain ⟨m, hm⟩ : ∃ m, (limbs (n / 4294967296)).length = m + 1 := by
        rw [limbs_pos _ h0, List.length_cons]
        exact ⟨_, rfl⟩
      rw [hm] at h1 ⊢
      rw [Nat.add_sub_cancel] at h1
      rw [Nat.pow_succ]
      have := Nat.mul_le_mul_right 4294967296 h1
      omega
theorem limbs_top {n : Nat} (h : n ≠ 0) : 1 ≤ (limbs n).getD ((limbs n).length - 1) 0 := by
  rcases Nat.eq_zero_or_pos ((limbs n).getD ((limbs n).length - 1) 0) with h0 | h0
  · exfalso
    have hl : 0 < (limbs n).length := by
      rw [limbs_pos n h, List.length_cons]; omega
    have h1 := val_take' (limbs n) ((limbs n).length - 1)
    rw [Nat.sub_add_cancel hl, List.take_of_length_le (Nat.le_refl _), val_limbs, h0, Nat.mul_zero, Nat.add_zero] at h1
    have h2 := val_take_lt (ok_limbs n) ((limbs n).length - 1)
    have h3 := limbs_ge h
    omega
  · exact h0

set_option maxRecDepth 100000 in
theorem qdivmod_zero (w : World) (v u : Value) (xs ys : List Nat) (h : Arr w v xs) (h' : Arr w u ys) (hn : xs.length ≤ 134217728) (hn' : ys.length ≤ 134217728) (hy : val ys = 0) :
    Calls Tryz.prog 138 #[v, u] w fun e w' => e = .returned (.tuple #[.slice none 0 0, .slice none 0 0, .bool false]) ∧ Ext w w' := by
  have HA := Lib.hid (trim_any w v xs h (by omega))
  have HB := Lib.hid (fun W hx => trim_any W u ys (h'.ext hx) (by omega))
  rw [hy] at HB
  clear h h' hy
  go_enter Tryz.func138, Tryz.ntmps138
  go_wp2_with fail
  refine HA.out.mono ?_
  rintro e w1 ⟨v1, rfl, ho1, hx1⟩
  have HX1 := Lib.hid hx1
  clear ho1 hx1
  go_wp2_with fail
  refine (HB.out _ HX1.out).mono ?_
  rintro e w2 ⟨v2, rfl, ho2, hx2⟩
  obtain ⟨n2, A2, c2, rfl⟩ := ho2.shape
  have hl := ho2.len
  simp only [limbs_zero, List.length_nil] at hl
  subst hl
  have HX2 := Lib.hid (HX1.out.trans hx2)
  clear ho2 hx2
  go_wp2_with fail
  go_ret3
  exact ⟨rfl, HX2.out⟩
theorem limbs_shl (X : Nat) {s : Nat} (hs : s ≤ 32) : (limbs (X * 2 ^ s)).length ≤ (limbs X).length + 1 := by
  refine length_limbs_le ?_
  have h1 := val_lt (ok_limbs X)
  rw [val_limbs] at h1
  have h2 : 2 ^ s ≤ 4294967296 := Nat.le_trans (Nat.pow_le_pow_right (by omega) hs) (by decide)
  rw [Nat.pow_succ]
  exact Nat.lt_of_lt_of_le (Nat.mul_lt_mul_of_pos_right h1 (Nat.pow_pos (by omega))) (Nat.mul_le_mul_left _ h2)
/-- What quotient.DivMod promises. -/
def DivPost (A V : Nat) (w : World) (e : Ending) (w' : World) : Prop :=
  ∃ v' u', e = .returned (.tuple #[v', u', .bool true]) ∧ Own w.heap.size w' v' (limbs (A / V)) ∧ Own w.heap.size w' u' (limbs (A % V)) ∧ Ext w w'

set_option maxRecDepth 100000 in
theorem qdivmod_lt (w : World) (v u : Value) (xs ys : List Nat) (h : Arr w v xs) (h' : Arr w u ys) (hn : xs.length ≤ 134217728) (hn' : ys.length ≤ 134217728) (hlt : val xs < val ys) :
    Calls Tryz.prog 138 #[v, u] w (DivPost (val xs) (val ys) w) := by
  have HA := Lib.hid (trim_any w v xs h (by omega))
  have HB := Lib.hid (fun W hx => trim_any W u ys (h'.ext hx) (by omega))
  have HCM := Lib.hid (fun W v u a b => cmp_any W v u (limbs (val xs)) (limbs (val ys)) a b (Nat.le_trans (length_limbs_val h.ok) (by omega)) (Nat.le_trans (length_limbs_val h'.ok) (by omega)))
  rw [val_limbs, val_limbs, cmpI_lt hlt] at HCM
  have hl0 : limbs (val ys) ≠ [] := by rw [Ne, limbs_eq_nil]; omega
  have hl1 : 0 < (limbs (val ys)).length := List.length_pos_iff.2 hl0
  have HQ := Lib.hid (Nat.div_eq_of_lt hlt)
  have HR := Lib.hid (Nat.mod_eq_of_lt hlt)
  clear h h' hlt hl0
  go_enter Tryz.func138, Tryz.ntmps138
  go_wp2_with fail
  refine HA.out.mono ?_
  rintro e w1 ⟨v1, rfl, ho1, hx1⟩
  have HX1 := Lib.hid hx1
  have HO1 := Lib.hid ho1
  obtain ⟨n1, A1, c1, rfl⟩ := ho1.shape
  clear ho1 hx1
  go_wp2_with fail
  refine (HB.out _ HX1.out).mono ?_
  rintro e w2 ⟨v2, rfl, ho2, hx2⟩
  have HO2 := Lib.hid ho2
  obtain ⟨n2, A2, c2, rfl⟩ := ho2.shape
  have hl := ho2.len
  rw [← hl] at hl1
  have hlb : ((n2 : Int) == 0) = false := by rw [beq_eq_false_iff_ne]; omega
  have HX2 := Lib.hid (HX1.out.trans hx2)
  have HXX := Lib.hid hx2
  clear ho2 hx2 hl
  go_wp2_with fail
  refine (HCM.out _ _ _ (HO1.out.arr.ext HXX.out) HO2.out.arr).mono ?_
  rintro e w3 ⟨rfl, hx3⟩
  have HX3 := Lib.hid (HX2.out.trans hx3)
  have HR3 := Lib.hid ((HO1.out.ext HXX.out).ext hx3)
  clear hx3
  go_wp2_with fail
  go_ret3
  exact ⟨_, _, rfl, by rw [HQ.out]; exact Own.none_ _ _, by rw [HR.out]; exact HR3.out, HX3.out⟩

set_option maxRecDepth 100000 in
theorem qdivmod_one (w : World) (v u : Value) (xs ys : List Nat) (h : Arr w v xs) (h' : Arr w u ys) (hn : xs.length ≤ 134217728) (hn' : ys.length ≤ 134217728) (hge : val ys ≤ val xs) (h1 : (limbs (val ys)).length = 1) :
    Calls Tryz.prog 138 #[v, u] w (DivPost (val xs) (val ys) w) := by
  have HA := Lib.hid (trim_any w v xs h (by omega))
  have HB := Lib.hid (fun W hx => trim_any W u ys (h'.ext hx) (by omega))
  have HCM := Lib.hid (fun W v u a b => cmp_any W v u (limbs (val xs)) (limbs (val ys)) a b (Nat.le_trans (length_limbs_val h.ok) (by omega)) (Nat.le_trans (length_limbs_val h'.ok) (by omega)))
  have hcm : ¬ cmpI (val xs) (val ys) < 0 := by rw [cmpI_neg]; omega
  rw [val_limbs, val_limbs] at HCM
  obtain ⟨d, hd⟩ : ∃ d, limbs (val ys) = [d] := List.length_eq_one_iff.1 h1
  have hdv : val ys = d := by rw [← val_limbs (val ys), hd]; simp [val]
  have hdm : d < 4294967296 := ok_limbs (val ys) d (by rw [hd]; simp)
  have hd0 : 0 < d := by
    rcases Nat.eq_zero_or_pos d with h0 | h0
    · rw [hdv, h0, limbs_zero] at h1; simp at h1
    · exact h0
  have HSM := Lib.hid (fun W v a => qsmall_any W v (limbs (val xs)) d a (Nat.le_trans (length_limbs_val h.ok) (by omega)) hd0 hdm)
  rw [val_limbs] at HSM
  have HOF := Lib.hid (fun W => of_any W (val xs % d) (by have := Nat.mod_lt (val xs) hd0; omega))
  have hrm := Nat.mod_lt (val xs) hd0
  rw [hd] at HB
  rw [hdv]
  rw [hdv] at hcm HCM
  rw [show limbs d = [d] by rw [hdv] at hd; exact hd] at HCM
  clear h h' hge h1 hd hdv
  generalize cmpI (val xs) d = cc at *
  go_enter Tryz.func138, Tryz.ntmps138
  go_wp2_with fail
  refine HA.out.mono ?_
  rintro e w1 ⟨v1, rfl, ho1, hx1⟩
  have HX1 := Lib.hid hx1
  have HO1 := Lib.hid ho1
  obtain ⟨n1, A1, c1, rfl⟩ := ho1.shape
  clear ho1 hx1
  go_wp2_with fail
  refine (HB.out _ HX1.out).mono ?_
  rintro e w2 ⟨v2, rfl, ho2, hx2⟩
  have HO2 := Lib.hid ho2
  obtain ⟨n2, A2, c2, rfl⟩ := ho2.shape
  have hl := ho2.len
  simp only [List.length_singleton] at hl
  subst hl
  have HX2 := Lib.hid (HX1.out.trans hx2)
  have HXX := Lib.hid hx2
  clear ho2 hx2
  go_wp2_with fail
  refine (HCM.out _ _ _ (HO1.out.arr.ext HXX.out) HO2.out.arr).mono ?_
  rintro e w3 ⟨rfl, hx3⟩
  have HX3 := Lib.hid (HX2.out.trans hx3)
  have HR3 := Lib.hid ((HO1.out.ext HXX.out).ext hx3)
  obtain ⟨hk1, A2', c2', he, hk2, hk3, hcell⟩ := (HO2.out.ext hx3).arr.open
  injection he with e1 e3 e2
  subst e1 e2
  obtain ⟨b2, o2, rfl, hk4, hcell⟩ := hcell (by simp)
  have hx := hcell 0 (by simp)
  simp only [Nat.add_zero, List.getD_cons_zero, d32] at hx
  clear hx3 hcell hk1 hk2 hk3 e3
  go_wp2_with fail
  refine (HSM.out _ _ HR3.out.arr).mono ?_
  rintro e w4 ⟨v4, rfl, ho4, hx4⟩
  have HX4 := Lib.hid (HX3.out.trans hx4)
  have HO4 := Lib.hid (ho4.mono HX3.out.size)
  obtain ⟨n4, A4, c4, rfl⟩ := ho4.shape
  clear ho4 hx4
  obtain ⟨r, hr⟩ : ∃ r, val xs % d = r := ⟨_, rfl⟩
  have HRR := Lib.hid hr
  rw [hr] at HOF hrm
  rw [hr] 
  clear hr
  go_wp2_with fail
  refine (HOF.out _).mono ?_
  rintro e w5 ⟨v5, rfl, ho5, hx5⟩
  have HX5 := Lib.hid (HX4.out.trans hx5)
  have HO5 := Lib.hid (ho5.mono HX4.out.size)
  have HO4' := Lib.hid (HO4.out.ext hx5)
  obtain ⟨n5, A5, c5, rfl⟩ := ho5.shape
  clear ho5 hx5
  go_wp2_with fail
  go_ret3
  exact ⟨_, _, rfl, HO4'.out, by rw [HRR.out]; exact HO5.out, HX5.out⟩
/-- The block of a slice of the call's own. -/
theorem Own.blockR {B : Nat} {w : World} {v : Value} {xs : List Nat} (h : Own B w v xs) (hp : 0 < xs.length) : ∃ g c RX, v = .slice (some ⟨g, 0, none⟩) xs.length c ∧ B ≤ g ∧ xs.length ≤ c ∧ c ≤ maxLen ∧ Blk w g 74 (cells xs ++ RX) ∧ xs.length + RX.size = c := by
  obtain ⟨hok, A, c, rfl, h2, h3, h4⟩ := h
  rw [List.length_map] at h2 h4
  rcases h4 with ⟨h5, _⟩ | ⟨g, cur, rfl, hg, hblk, hs, ht⟩
  · rw [List.map_eq_nil_iff] at h5
    subst h5
    simp at hp
  · refine ⟨g, c, (cur.toList.drop xs.length).toArray, by rw [List.length_map], hg, h2, h3, ?_, by simp; omega⟩
    have e : cells xs ++ (cur.toList.drop xs.length).toArray = cur := by
      apply Array.ext'
      unfold cells
      rw [Array.toList_append]
      show xs.map d32 ++ cur.toList.drop xs.length = cur.toList
      rw [← ht, List.take_append_drop]
    rw [e]
    exact hblk
theorem blkR_arr {w : World} {g c : Nat} {us : List Nat} {RX : Array Value} (h : Blk w g 74 (cells us ++ RX)) (hok : Ok us) (hc : us.length ≤ c) (hm : c ≤ maxLen) : Arr w (.slice (some ⟨g, 0, none⟩) us.length c) us :=
  Arr.mk hok hc hm fun _ => ⟨g, 0, rfl, h.lt, fun j hj => by rw [h.cell, Nat.zero_add, get_cellsR _ _ _ hj]⟩
theorem Arr.put {w : World} {v : Value} {xs : List Nat} {g : Nat} (h : Arr w v xs) (hne : ∀ b o n c, v = .slice (some ⟨b, o, none⟩) n c → b ≠ g) (i : Nat) (u : Value) : Arr (w.setCell ⟨g, i, none⟩ u) v xs :=
  h.kept (grown_set ((Dr.refl w).grown (some g)) i u) hne
theorem Arr.low {w : World} {v : Value} {xs : List Nat} {g : Nat} (h : Arr w v xs) (hp : 0 < xs.length) (hg : w.heap.size ≤ g) : ∀ b o n c, v = .slice (some ⟨b, o, none⟩) n c → b ≠ g := by
  obtain ⟨_, A, c, rfl, _, _, hcell⟩ := h.open
  obtain ⟨b, o, rfl, hb, _⟩ := hcell hp
  intro b' o' n' c' he
  injection he with h1 _ _
  injection h1 with h1
  injection h1 with h1 _ _
  omega
/-- What the loop of quotient.DivMod holds with the digits below K still to come. -/
def DivLoop (w wr : World) (u0 us qs : List Nat) (V gu gq K : Nat) (RX : Array Value) (v : Value) : Prop :=
  LongAt u0 us qs V K ∧ Ok qs ∧ Blk wr gq 74 (cells (List.replicate K 0 ++ qs)) ∧ Blk wr gu 74 (cells us ++ RX) ∧ Arr wr v (limbs V) ∧ Ext w wr

set_option maxHeartbeats 1000000 in
set_option maxRecDepth 100000 in
theorem qdivmod_long (w : World) (v u : Value) (xs ys : List Nat) (h : Arr w v xs) (h' : Arr w u ys) (hn : xs.length ≤ 134217728) (hn' : ys.length ≤ 134217728) (hge : val ys ≤ val xs) (h2 : 2 ≤ (limbs (val ys)).length) :
    Calls Tryz.prog 138 #[v, u] w (DivPost (val xs) (val ys) w) := by
  have HA := Lib.hid (trim_any w v xs h (by omega))
  have HB := Lib.hid (fun W hx => trim_any W u ys (h'.ext hx) (by omega))
  have hla : (limbs (val xs)).length ≤ 134217728 := Nat.le_trans (length_limbs_val h.ok) hn
  have hlb : (limbs (val ys)).length ≤ 134217728 := Nat.le_trans (length_limbs_val h'.ok) hn'
  have HCM := Lib.hid (fun W v u a b => cmp_any W v u (limbs (val xs)) (limbs (val ys)) a b (by omega) (by omega))
  have HSHA := Lib.hid (fun W v s a h => shl_any W v (limbs (val xs)) s a (by omega) h)
  have HSHB := Lib.hid (fun W v s a h => shl_any W v (limbs (val ys)) s a (by omega) h)
  have hcm : ¬ cmpI (val xs) (val ys) < 0 := by rw [cmpI_neg]; omega
  rw [val_limbs, val_limbs] at HCM
  rw [val_limbs] at HSHA HSHB
  have hv0 : val ys ≠ 0 := fun e => by rw [e, limbs_zero] at h2; simp at h2
  obtain ⟨X, hX⟩ : ∃ X, val xs = X := ⟨_, rfl⟩
  obtain ⟨Y, hY⟩ : ∃ Y, val ys = Y := ⟨_, rfl⟩
  rw [hX] at HA HCM hcm HSHA hge hla ⊢
  rw [hY] at HB HCM hcm HSHB hge h2 hv0 hlb ⊢
  clear h h' hX hY hn hn'
  generalize cmpI X Y = cc at *
  go_enter Tryz.func138, Tryz.ntmps138
  go_wp2_with fail
  refine HA.out.mono ?_
  rintro e w1 ⟨v1, rfl, ho1, hx1⟩
  have HX1 := Lib.hid hx1
  have HO1 := Lib.hid ho1
  obtain ⟨n1, A1, c1, rfl⟩ := ho1.shape
  clear ho1 hx1
  go_wp2_with fail
  refine (HB.out _ HX1.out).mono ?_
  rintro e w2 ⟨v2, rfl, ho2, hx2⟩
  have HO2 := Lib.hid ho2
  obtain ⟨m, hm⟩ : ∃ m, (limbs Y).length = m + 2 := ⟨(limbs Y).length - 2, by omega⟩
  obtain ⟨n2, A2, c2, rfl⟩ := ho2.shape
  have hl := ho2.len
  rw [hm] at hl
  subst hl
  have HX2 := Lib.hid (HX1.out.trans hx2)
  have HXX := Lib.hid hx2
  clear ho2 hx2
  go_wp2_with fail
  refine (HCM.out _ _ _ (HO1.out.arr.ext HXX.out) HO2.out.arr).mono ?_
  rintro e w3 ⟨rfl, hx3⟩
  have HX3 := Lib.hid (HX2.out.trans hx3)
  have HA3 := Lib.hid ((HO1.out.ext HXX.out).ext hx3).arr
  have HB3 := Lib.hid (HO2.out.ext hx3).arr
  obtain ⟨_, A2', c2', he, hcc, hmm, hcell⟩ := (HO2.out.ext hx3).arr.open
  rw [hm] at he hcell hcc
  injection he with e1 e3 e2
  subst e1 e2
  clear e3
  obtain ⟨b2, o2, rfl, hk4, hcell⟩ := hcell (by omega)
  have hx := hcell (m + 1) (by omega)
  have hxm := (ok_limbs Y).get (m + 1)
  clear hx3 hcell HXX
  generalize (limbs Y).getD (m + 1) 0 = y at *
  simp only [d32] at hx
  have HLZ := Lib.hid (fun W => lead_any W y hxm)
  have hneq1 : (((m : Int) + 2) == 1) = false := by rw [beq_eq_false_iff_ne]; omega
  have hneq0 : (((m : Int) + 2) == 0) = false := by rw [beq_eq_false_iff_ne]; omega
  go_wp2_with fail
  refine (HLZ.out _).mono ?_
  rintro e w4 ⟨s, hs, rfl, rfl⟩
  go_wp2_with fail
  refine (HSHB.out _ _ s HB3.out (by omega)).mono ?_
  rintro e w4 ⟨v4, rfl, ho4, hx4⟩
  have HX4 := Lib.hid (HX3.out.trans hx4)
  have HA4 := Lib.hid (HA3.out.ext hx4)
  have HO4 := Lib.hid ho4
  obtain ⟨n4, A4, c4, rfl⟩ := ho4.shape
  have HL4 := Lib.hid ho4.len
  clear ho4 hx4
  go_wp2_with fail
  refine (HSHA.out _ _ s HA4.out (by omega)).mono ?_
  rintro e w5 ⟨v5, rfl, ho5, hx5⟩
  have HX5 := Lib.hid (HX4.out.trans hx5)
  have HX45 := Lib.hid hx5
  have HO5 := Lib.hid ho5
  obtain ⟨n5, A5, c5, rfl⟩ := ho5.shape
  have hsz5 := hx5.size
  clear ho5 hx5
  have hB5 := HX4.out.size
  have hl5m := limbs_shl X hs
  have HLIM : Hid ((limbs (X * 2 ^ s)).length + [0].length ≤ 2147483648) := Lib.hid (by simp; omega)
  clear hl5m
  go_wp2_with (at_builtin; go_must (refine wpList_append32 rfl _ _ rfl rfl (HO5.out.ext ((Ext.refl _).alloc _)) rfl (Arr.fresh1' _ _ 0 rfl (by omega)) HLIM.out (by simp; omega) ?_; intro v6 w6 ho6 hgr6 hb6))
  have hsz6 := hb6.size
  simp only [World.size_alloc] at hsz6
  have HX6 := Lib.hid ((HX5.out.alloc (.cells #[.int .u32 0] 74)).more (hb6.mono hB5))
  have HA6 : Hid (Arr w6 (.slice A4 n4 c4) (limbs (Y * 2 ^ s))) := Lib.hid (HO4.out.arr.ext ((HX45.out.alloc _).more hb6))
  have hY2 : Y * 2 ^ s ≠ 0 := Nat.mul_ne_zero hv0 (Nat.ne_of_gt (Nat.pow_pos (by omega)))
  have hYX : Y * 2 ^ s ≤ X * 2 ^ s := Nat.mul_le_mul_right _ hge
  have hYY : Y ≤ Y * 2 ^ s := Nat.le_mul_of_pos_right _ (Nat.pow_pos (by omega))
  have hle1 := limbs_mono hYX
  have hle2 := limbs_mono hYY
  have hle3 := limbs_shl X hs
  have HDQ := Lib.hid (div_shift X Y s)
  have HDM := Lib.hid (mod_shift X Y s)
  have hlow := fun g => HO4.out.arr.low (g := g)
  have hyl := limbs_ge hY2
  have hyt := limbs_top hY2
  have hylt := val_lt (ok_limbs (Y * 2 ^ s))
  rw [val_limbs] at hylt
  obtain ⟨u0, hu0⟩ : ∃ u0, limbs (X * 2 ^ s) ++ [0] = u0 := ⟨_, rfl⟩
  have hu0v : val u0 = X * 2 ^ s := by rw [← hu0, val_snoc, val_limbs, Nat.mul_zero, Nat.add_zero]
  have hu0o : Ok u0 := by rw [← hu0]; exact (ok_limbs _).snoc (by omega)
  have hu0l : u0.length = (limbs (X * 2 ^ s)).length + 1 := by rw [← hu0]; simp
  have hu0z : u0.getD (u0.length - 1) 0 = 0 := by
    rw [hu0l, Nat.add_sub_cancel, ← hu0, List.getD_eq_getElem?_getD, List.getElem?_append_right (Nat.le_refl _), Nat.sub_self]
    rfl
  rw [hu0] at ho6
  have hn4 := HL4.out
  rw [← hn4] at hle1 hle2 hyl hyt hylt hlow
  obtain ⟨m4, hm4⟩ : ∃ m4, n4 = m4 + 2 := ⟨n4 - 2, by omega⟩
  obtain ⟨M, hM⟩ : ∃ M, u0.length = m4 + 2 + (M + 1) := ⟨u0.length - (m4 + 2) - 1, by omega⟩
  have hn4m := hn4
  rw [hm4] at hn4 hle1 hle2 hyl hyt hylt hlow HO4 HA6
  subst hm4
  have HST : Hid (LongAt u0 u0 [] (Y * 2 ^ s) (M + 1)) := Lib.hid (by
    have := LongAt.start (V := Y * 2 ^ s) (n := m4 + 2) hu0o (by omega) (by omega) hu0z hyl
    rwa [show u0.length - (m4 + 2) = M + 1 by omega] at this)
  obtain ⟨gu, cu, RX, rfl, hgu, hcu1, hcu2, hbu, hcu3⟩ := ho6.blockR (by omega)
  have HBU := Lib.hid hbu
  have hne4 := hlow gu (by omega) hgu
  have HNE4 := Lib.hid hne4
  have HN4 := Lib.hid hn4
  have hsub : (u0.length : Int) - ((m4 : Int) + 2) = (M : Int) + 1 := by omega
  have hmk := run_make32_succ M (by omega)
  have HU0V := Lib.hid hu0v
  obtain ⟨Lu, hLu⟩ : ∃ Lu, u0.length = Lu := ⟨_, rfl⟩
  rw [hLu] at hsub hcu1 hM hcu3 ⊢
  have HLU := Lib.hid hLu
  have hLub : Lu ≤ 134217730 := by omega
  have hm4b : m4 ≤ 134217728 := by omega
  unfold maxLen at hcu2
  have HCU3 := Lib.hid hcu3
  clear hcu3
  have HYL := Lib.hid hyl
  have HYT := Lib.hid hyt
  have HYLT := Lib.hid hylt
  have HM := Lib.hid hM
  clear hu0 hLu hn4m hu0v hu0z hn4 hle1 hle2 hle3 hyl hyt hylt hlow ho6 hbu hne4 hb6 hgr6 hYX hYY hu0l hM
  go_wp2_with fail
  go_simp
  go_wp2_with fail
  clear hmk hsub
  have hguw := HBU.out.lt
  have HX0 := Lib.hid (HX6.out.alloc (.cells (zeros (M + 1)) 74))
  have HB0 := Lib.hid (HBU.out.alloc (.cells (zeros (M + 1)) 74))
  have HA0 := Lib.hid (HA6.out.ext ((Ext.refl w6).alloc (.cells (zeros (M + 1)) 74)))
  have HQ0 := Lib.hid (Blk.new w6 74 (zeros (M + 1)))
  have HNE6 := Lib.hid (HA6.out.low (g := w6.heap.size) (by rw [← HL4.out]; omega) (Nat.le_refl _))
  have HBS := Lib.hid HX6.out.size
  generalize w6.heap.size = gq at *
  have hgq : gu ≠ gq := by omega
  go_loopw [15] (fun s15 wr => ∃ (K : Nat) (us qs : List Nat), K ≤ M + 1 ∧ s15 = .int .i64 ((K : Int) - 1) ∧ K + qs.length = M + 1 ∧ DivLoop w wr u0 us qs (Y * 2 ^ s) gu gq K RX (.slice A4 (m4 + 2) c4)) (fun s15 _ => (intOf s15 + 1).toNat)
  case atStart => exact ⟨M + 1, u0, [], Nat.le_refl _, by congr 1; omega, rfl, HST.out, ok_nil, by rw [List.append_nil]; exact HQ0.out, HB0.out, HA0.out, HX0.out⟩
  case round =>
    obtain ⟨K, us, qs, hK, rfl, hql, hlong, hokq, hbq, hbu, hav, hext⟩ := hrel
    rcases Nat.eq_zero_or_pos K with h0 | h0
    · subst h0
      obtain ⟨hq1, hq2⟩ := hlong.done HYLT.out
      rw [HU0V.out, HDQ.out] at hq1
      rw [HU0V.out] at hq2
      have hMM := HM.out
      have hus : us.length = Lu := by rw [hlong.1]; exact HLU.out
      have hqlen : qs.length = M + 1 := by omega
      have haq : Arr wr (.slice (some ⟨gq, 0, none⟩) (M + 1) (M + 1)) qs := by
        have h3 := (Own.block (B := gq) hokq (by simpa using hbq) (Nat.le_refl _) (by omega)).arr
        rwa [hqlen] at h3
      have hau : Arr wr (.slice (some ⟨gu, 0, none⟩) (m4 + 2) cu) (us.take (m4 + 2)) := by
        have h3 := blkR_arr (c := cu) hbu hlong.2.1 (by omega) (by unfold maxLen; omega)
        obtain ⟨A', c', he, h4⟩ := h3.take (m4 + 2) (by omega)
        injection he with h5 _ h6
        subst h5 h6
        exact h4
      have HTQ := Lib.hid (fun W hx => trim_any W _ _ (haq.ext hx) (by omega))
      have hauZ : Arr wr (.slice (some ⟨gu, 0, none⟩) ((m4 : Int) + 2).toNat cu) (us.take (m4 + 2)) := by
        rw [show ((m4 : Int) + 2).toNat = m4 + 2 by omega]
        exact hau
      have HTU := Lib.hid (fun W hx => trim_any W _ _ (hauZ.ext hx) (by rw [List.length_take]; omega))
      rw [hq1] at HTQ
      rw [hq2] at HTU
      have HSH := Lib.hid (fun W v a => shr_any W v (limbs (X * 2 ^ s % (Y * 2 ^ s))) s a (by
        have := limbs_mono (Nat.le_of_lt (Nat.mod_lt (X * 2 ^ s) (Nat.pos_of_ne_zero hY2)))
        rw [← HL4.out] at this
        omega) (by omega))
      rw [val_limbs, HDM.out] at HSH
      have HXT := Lib.hid hext
      have hmle : m4 + 2 ≤ Lu := by omega
      have hmi2 : (0 : Int) ≤ (m4 : Int) + 2 := by omega
      have hmi3 : (m4 : Int) + 2 ≤ (cu : Int) := by omega
      clear hq1 hq2 haq hau hauZ hbq hbu hav hlong hus hMM hqlen hext hql
      go_wp2_with fail
      go_region_held3 (fun w' => Ext wr w')
        (first | exact (Ext.refl wr).drew | assumption | exact Ext.trans (by assumption) (by assumption))
        (first
          | (go_at_call 87; (with_reducible refine (HTQ.out _ (by assumption)).mono ?_); rintro e w9 ⟨v9, rfl, ho9, hx9⟩; have HOQ := Lib.hid (ho9.mono (Nat.le_trans HXT.out.size (Ext.size (w := wr) (by assumption)))); obtain ⟨n9, A9, c9, rfl⟩ := ho9.shape; (try have HOU := Lib.hid (HOU.out.ext hx9)); (try have HOS := Lib.hid (HOS.out.ext hx9)); clear ho9)
          | (go_at_call 87; (with_reducible refine (HTU.out _ (by assumption)).mono ?_); rintro e w8 ⟨v8, rfl, ho8, hx8⟩; have HOU := Lib.hid ho8; obtain ⟨n8, A8, c8, rfl⟩ := ho8.shape; (try have HOQ := Lib.hid (HOQ.out.ext hx8)); clear ho8)
          | (go_at_call 63; (with_reducible refine (HSH.out _ _ HOU.out.arr).mono ?_); rintro e w7 ⟨v7, rfl, ho7, hx7⟩; have HOS := Lib.hid (ho7.mono (Nat.le_trans HXT.out.size (Ext.size (w := wr) (by assumption)))); obtain ⟨n7, A7, c7, rfl⟩ := ho7.shape; (try have HOQ := Lib.hid (HOQ.out.ext hx7)); clear ho7))
      all_goals
        go_wp2_with fail
        go_ret3
        exact ⟨_, _, rfl, HOQ.out, HOS.out, HXT.out.trans (by assumption)⟩
    · obtain ⟨j, rfl⟩ : ∃ j, K = j + 1 := ⟨K - 1, by omega⟩
      have hus : us.length = Lu := by rw [hlong.1]; exact HLU.out
      have hMM := HM.out
      have hnel := HNE4.out
      have HD := Lib.hid (digit_any RX wr gu j (cu - j) m4 us (.slice A4 (m4 + 2) c4) (limbs (Y * 2 ^ s)) hbu hlong.2.1 HL4.out.symm (by omega) (by omega) (by omega) (by unfold maxLen; omega) hav hnel HYT.out
        (by rw [val_limbs]; exact (hlong.seg_lt (by omega) HYLT.out).2))
      rw [val_limbs, show m4 + 3 = j + (m4 + 2) + 1 - j by omega] at HD
      have hjb : j + (m4 + 2) + 1 ≤ Lu := by omega
      have HLS := Lib.hid (fun zs h1 h2 h3 => hlong.step (zs := zs) (n := m4 + 2) (by omega) HYLT.out (Nat.pos_of_ne_zero hY2) (by omega) h1 h2 h3)
      have hdm : val (seg us j (m4 + 2)) / (Y * 2 ^ s) < 4294967296 := by
        rw [Nat.div_lt_iff_lt_mul (Nat.pos_of_ne_zero hY2), Nat.mul_comm]
        exact (hlong.seg_lt (by omega) HYLT.out).2
      have hbql := hbq.lt
      have hbqf := hbq
      have HBQ := Lib.hid hbq
      have HAV := Lib.hid hav
      have HXT := Lib.hid hext
      clear hbq hav hext hbu hlong hnel hbqf hus hMM
      generalize val (seg us j (m4 + 2)) / (Y * 2 ^ s) = D at *
      go_wp2_with fail
      refine HD.out.mono ?_
      rintro e w7 ⟨zs, rfl, hzl, hzo, hzv, hbu7, hgr7⟩
      have HL7 := Lib.hid (HLS.out zs hzo (by rw [hzl]; omega) hzv)
      have hbq7 : Blk w7 gq 74 (cells (List.replicate (j + 1) 0 ++ qs)) := (hgr7.block gq hbql (by simpa using hgq.symm)).trans HBQ.out
      have hst := hbq7.cell j
      have hfz := hbq7.frozen j
      rw [get_cells _ _ (by simp; omega)] at hst
      have hbq8 := hbq7.set_ j (d32 D)
      rw [set_cells, set_back] at hbq8
      have HB8 := Lib.hid hbq8
      have HU8 := Lib.hid (hbu7.far (p := ⟨gq, j, none⟩) hgq (d32 D))
      have HA8 := Lib.hid ((HAV.out.kept hgr7 HNE4.out).put HNE6.out j (d32 D))
      have HX8 := Lib.hid ((HXT.out.grown hgr7 (fun k hk => by simp at hk; omega)).setCell (p := ⟨gq, j, none⟩) HBS.out (d32 D))
      clear hzl hzo hzv hbu7 hgr7 hbq7 hbq8
      generalize (List.replicate (j + 1) 0 ++ qs).getD j 0 = z at hst
      simp only [d32] at hst
      go_wp2_with fail
      go_roundw
      case rel => exact ⟨j, _, D :: qs, by omega, (by first | rfl | (congr 1; omega)), by simp; omega, HL7.out, ok_cons hdm hokq, HB8.out, HU8.out, HA8.out, HX8.out⟩
      case measure => simp [intOf]

theorem qdivmod_any (w : World) (v u : Value) (xs ys : List Nat) (h : Arr w v xs) (h' : Arr w u ys) (hn : xs.length ≤ 134217728) (hn' : ys.length ≤ 134217728) (hy : val ys ≠ 0) :
    Calls Tryz.prog 138 #[v, u] w (DivPost (val xs) (val ys) w) := by
  rcases Nat.lt_or_ge (val xs) (val ys) with h1 | h1
  · exact qdivmod_lt w v u xs ys h h' hn hn' h1
  · have h2 : (limbs (val ys)).length ≠ 0 := fun e => hy (limbs_eq_nil.1 (List.eq_nil_of_length_eq_zero e))
    rcases Nat.lt_or_ge (limbs (val ys)).length 2 with h3 | h3
    · exact qdivmod_one w v u xs ys h h' hn hn' h1 (by omega)
    · exact qdivmod_long w v u xs ys h h' hn hn' h1 h3
end Big
end Go.Proofs.YtplmldkfgeiklaaGreatDoor
/- nat.Bits, root.Gcd, root.Lowest. -/
namespace Go.Proofs.YtplmldkfgeiklaaGreatDoor
namespace Big
open Go.RowKit
/-- The number of binary digits. -/
def bitsN (n : Nat) : Nat := if n = 0 then 0 else n.log2 + 1
theorem bitsN_zero {n : Nat} : bitsN n = 0 ↔ n = 0 := by
  unfold bitsN
  split
  · simp [*]
  · simp [*]
theorem bitsN_eq {n b : Nat} (h1 : 2 ^ b ≤ n) (h2 : n < 2 ^ (b + 1)) : bitsN n = b + 1 := by
  have h0 : n ≠ 0 := by
    have : 0 < 2 ^ b := Nat.pow_pos (by omega)
    omega
  unfold bitsN
  rw [if_neg h0]
  have h3 := (Nat.le_log2 h0).2 h1
  have h4 := (Nat.log2_lt h0).2 h2
  omega
theorem bitsN_limbs {xs : List Nat} {n : Nat} (hok : Ok xs) (_hl : n + 1 ≤ xs.length) (hz : val (xs.drop (n + 1)) = 0) (ht : xs.getD n 0 ≠ 0) : 32 * n + Lib.bitLen (xs.getD n 0) = bitsN (val xs) := by
  have hx := hok.get n
  obtain ⟨b1, b2, b3⟩ := Lib.bitLenAux_bounds 64 (xs.getD n 0) (by omega) ht
  have h1 := val_split' xs (n + 1)
  rw [hz, Nat.mul_zero, Nat.add_zero, val_take'] at h1
  have h2 := val_take_lt hok n
  obtain ⟨c, hc⟩ : ∃ c, Lib.bitLenAux 64 (xs.getD n 0) = c + 1 := ⟨Lib.bitLenAux 64 (xs.getD n 0) - 1, by omega⟩
  unfold Lib.bitLen
  rw [hc] at b2 b3 ⊢
  rw [Nat.add_sub_cancel] at b2
  generalize xs.getD n 0 = y at *
  rw [h1]
  refine (bitsN_eq (b := 32 * n + c) ?_ ?_).symm
  · rw [Nat.pow_add, Nat.pow_mul]
    exact Nat.le_trans (Nat.mul_le_mul_left _ b2) (Nat.le_add_left _ _)
  · rw [Nat.add_assoc, Nat.pow_add, Nat.pow_mul, show (2 : Nat) ^ 32 = 4294967296 from rfl]
    have h3 := Nat.mul_le_mul_left (4294967296 ^ n) (show y + 1 ≤ 2 ^ (c + 1) from b3)
    rw [Nat.mul_add, Nat.mul_one] at h3
    omega
theorem bits_any (w : World) (v : Value) (xs : List Nat) (h : Arr w v xs) (hn : xs.length ≤ 134217728) :
    Calls Tryz.prog 60 #[v] w fun e w' => e = .returned (.int .i64 (bitsN (val xs) : Nat)) ∧ w = w' := by
  have HS := Lib.hid (size_any w v xs h)
  have hle := size_le xs
  have hzd := val_drop_size h.ok
  obtain ⟨hok, A, c, rfl, hc, hm, hcell⟩ := h.open
  rcases Nat.eq_zero_or_pos (size xs) with h0 | h0
  · have HZ := Lib.hid (bitsN_zero.2 (size_zero h0))
    rw [HZ.out]
    rw [h0] at HS
    clear hm hcell h0 hle hc
    go_enter Tryz.func60, Tryz.ntmps60
    go_wp2_with fail
    refine HS.out.mono ?_
    rintro e w' ⟨rfl, rfl⟩
    go_wp2_with fail
    go_ret
    exact ⟨rfl, rfl⟩
  · obtain ⟨n, hn1⟩ : ∃ n, size xs = n + 1 := ⟨size xs - 1, by omega⟩
    rw [hn1] at HS hle hzd
    have ht : xs.getD n 0 ≠ 0 := by
      intro e
      have h1 := val_split' xs n
      rw [val_drop', e, hzd] at h1
      simp only [Nat.mul_zero, Nat.add_zero] at h1
      have h2 := length_limbs_le (n := val xs) (k := n) (by rw [h1]; exact val_take_lt hok n)
      rw [← size_eq hok] at h2
      omega
    have HB := Lib.hid (bitsN_limbs hok hle hzd ht)
    obtain ⟨b, o, rfl, hb, hcell⟩ := hcell (by omega)
    have hx := hcell n (by omega)
    have hxm := hok.get n
    clear hcell h0 hzd hn1 hc ht
    obtain ⟨y, hy⟩ : ∃ y, xs.getD n 0 = y := ⟨_, rfl⟩
    rw [hy] at hx hxm HB
    clear hy
    have HL := Lib.hid (Tryz.bits_Len32 (y : Int) w (by omega) (by omega))
    have hbl := Any.bitLen_le32 (y : Int) (by omega) (by omega)
    rw [Int.toNat_natCast] at HL hbl
    unfold maxLen at hm
    simp only [d32] at hx
    have hn0 : (((n : Int) + 1) == 0) = false := by rw [beq_eq_false_iff_ne]; omega
    generalize Lib.bitLen y = bl at *
    go_enter Tryz.func60, Tryz.ntmps60
    go_wp2_with fail
    refine HS.out.mono ?_
    rintro e w' ⟨rfl, rfl⟩
    go_wp2_with fail
    refine HL.out.mono ?_
    rintro e w' ⟨rfl, rfl⟩
    go_wp2_with fail
    go_ret
    exact ⟨congrArg (fun z => Ending.returned (.int .i64 z)) (by rw [← HB.out]; simp), rfl⟩

/-- A list of digits of the call's own, that stands for n. -/
theorem gcd_any (w : World) (v u : Value) (xs ys : List Nat) (h : Arr w v xs) (h' : Arr w u ys) (hn : xs.length ≤ 134217728) (hn' : ys.length ≤ 134217728) :
    Calls Tryz.prog 91 #[v, u] w fun e w' => ∃ v', e = .returned v' ∧ Own w.heap.size w' v' (limbs (Nat.gcd (val xs) (val ys))) ∧ Ext w w' := by
  have HA := Lib.hid (trim_any w v xs h (by omega))
  have HB := Lib.hid (fun W hx => trim_any W u ys (h'.ext hx) (by omega))
  have hla : (limbs (val xs)).length ≤ 134217728 := Nat.le_trans (length_limbs_val h.ok) hn
  have hlb : (limbs (val ys)).length ≤ 134217728 := Nat.le_trans (length_limbs_val h'.ok) hn'
  clear h h' hn hn'
  generalize val xs = X at *
  generalize val ys = Y at *
  go_enter Tryz.func91, Tryz.ntmps91
  go_wp2_with fail
  refine HA.out.mono ?_
  rintro e w1 ⟨v1, rfl, ho1, hx1⟩
  have HX1 := Lib.hid hx1
  have HO1 := Lib.hid ho1
  obtain ⟨n1, A1, c1, rfl⟩ := ho1.shape
  clear ho1 hx1
  go_wp2_with fail
  refine (HB.out _ HX1.out).mono ?_
  rintro e w2 ⟨v2, rfl, ho2, hx2⟩
  have HO2 := Lib.hid (ho2.mono HX1.out.size)
  have HO1' := Lib.hid (HO1.out.ext hx2)
  have HX2 := Lib.hid (HX1.out.trans hx2)
  obtain ⟨n2, A2, c2, rfl⟩ := ho2.shape
  clear ho2 hx2
  go_wp2_with fail
  go_loopg [0, 1] Y (fun gh s0 s1 wr => ∃ (g x : Nat) (na : Nat) (Aa : Option Addr) (ca nb : Nat) (Ab : Option Addr) (cb : Nat), gh = g ∧ s0 = .slice Aa na ca ∧ s1 = .slice Ab nb cb ∧ Own w.heap.size wr s0 (limbs x) ∧ Own w.heap.size wr s1 (limbs g) ∧ Nat.gcd x g = Nat.gcd X Y ∧ (limbs x).length ≤ 134217728 ∧ (limbs g).length ≤ 134217728 ∧ Ext w wr)
  case atStart => exact ⟨Y, X, n1, A1, c1, n2, A2, c2, rfl, rfl, rfl, HO1'.out, HO2.out, rfl, hla, hlb, HX2.out⟩
  case round =>
    obtain ⟨g, x, na, Aa, ca, nb, Ab, cb, hgg, rfl, rfl, hoa, hob, hg, hlx, hlg, hext⟩ := hrel
    have HGG := Lib.hid hgg
    clear hgg
    have HG := Lib.hid hg
    have HXT := Lib.hid hext
    have HOA := Lib.hid hoa
    have HOB := Lib.hid hob
    have hnb := hob.len
    have hna := hoa.len
    clear hg hext HA HB HO1 HX1 HO1' HO2 HX2
    rcases Nat.eq_zero_or_pos g with h0 | h0
    · subst h0
      rw [limbs_zero, List.length_nil] at hnb
      subst hnb
      have HV : Hid (Own w.heap.size wr (.slice Aa na ca) (limbs (Nat.gcd X Y))) := Lib.hid (by
        have h1 := HG.out
        rw [Nat.gcd_zero_right] at h1
        rw [← h1]
        exact hoa)
      clear hoa hob hna
      go_wp2_with fail
      go_ret
      exact ⟨_, rfl, HV.out, HXT.out⟩
    · have hl1 : 0 < nb := by
        rw [hnb]
        exact List.length_pos_iff.2 (fun e => by rw [limbs_eq_nil] at e; omega)
      have HD := Lib.hid (qdivmod_any wr _ _ _ _ hoa.arr hob.arr hlx hlg (by rw [val_limbs]; omega))
      rw [val_limbs, val_limbs] at HD
      have hmod := Nat.mod_lt x h0
      have hlm := Nat.le_trans (limbs_mono (Nat.le_of_lt hmod)) hlg
      have HG2 := Lib.hid (show Nat.gcd g (x % g) = Nat.gcd X Y by rw [← gcd_step, HG.out])
      have hb0 : ((nb : Int) != 0) = true := by rw [bne_iff_ne]; omega
      have hb1 : ((nb : Int) == 0) = false := by rw [beq_eq_false_iff_ne]; omega
      clear hoa hob hna hnb
      go_wp2_with fail
      refine HD.out.mono ?_
      rintro e w3 ⟨v3, u3, rfl, hq3, hr3, hx3⟩
      have HB3 := Lib.hid (HOB.out.ext hx3)
      have HR3 := Lib.hid (hr3.mono HXT.out.size)
      have HX3 := Lib.hid (HXT.out.trans hx3)
      obtain ⟨n3, A3, c3, rfl⟩ := hq3.shape
      obtain ⟨n4, A4, c4, rfl⟩ := hr3.shape
      clear hq3 hr3 hx3
      go_wp2_with fail
      go_roundg (x % g)
      case rel => exact ⟨x % g, g, nb, Ab, cb, n4, A4, c4, rfl, rfl, rfl, HB3.out, HR3.out, HG2.out, hlg, hlm, HX3.out⟩
      case measure => rw [HGG.out]; exact hmod
end Big
end Go.Proofs.YtplmldkfgeiklaaGreatDoor
/- Integers, both sides: Sign, Neg, Add, Sub, Mul, Cmp. Printed by a program. -/
namespace Go.Proofs.YtplmldkfgeiklaaGreatDoor
namespace Big
open Go.RowKit
/-- The sign of an integer. -/
def sgZ (x : Int) : Int := if x < 0 then -1 else if 0 < x then 1 else 0
/-- How two integers compare. -/
def cmpZ (x y : Int) : Int := if x < y then -1 else if y < x then 1 else 0
theorem sgZ_sub (x y : Int) : sgZ (x + -y) = cmpZ x y := by unfold sgZ cmpZ; split <;> split <;> (try split) <;> (try split) <;> omega
theorem neg_sgn (x : Int) : sgn (!decide (x < 0)) x.natAbs = -x := by unfold sgn; by_cases h : x < 0 <;> simp [h] <;> omega
theorem add_same_sgn {x y : Int} (h : decide (x < 0) = decide (y < 0)) : sgn (decide (x < 0)) (x.natAbs + y.natAbs) = x + y := by
  unfold sgn
  by_cases hx : x < 0
  · have hy : y < 0 := by rw [decide_eq_decide] at h; exact h.1 hx
    simp [hx]; omega
  · have hy : ¬ y < 0 := by rw [decide_eq_decide] at h; exact fun e => hx (h.2 e)
    simp [hx]; omega
theorem add_diff_ge {x y : Int} (h : decide (x < 0) ≠ decide (y < 0)) (hle : y.natAbs ≤ x.natAbs) : sgn (decide (x < 0)) (x.natAbs - y.natAbs) = x + y := by
  unfold sgn
  rw [Ne, decide_eq_decide] at h
  by_cases hx : x < 0
  · have hy : ¬ y < 0 := fun e => h ⟨fun _ => e, fun _ => hx⟩
    simp [hx]; omega
  · have hy : y < 0 := by
      by_cases e : y < 0
      · exact e
      · exact absurd ⟨fun e' => absurd e' hx, fun e' => absurd e' e⟩ h
    simp [hx]; omega
theorem add_diff_lt {x y : Int} (h : decide (x < 0) ≠ decide (y < 0)) (hlt : x.natAbs < y.natAbs) : sgn (decide (y < 0)) (y.natAbs - x.natAbs) = x + y := by
  rw [add_diff_ge (fun e => h e.symm) (by omega), Int.add_comm]
theorem limbs_add_le {x y : Int} {k : Nat} (hx : (limbs x.natAbs).length ≤ k) (hy : (limbs y.natAbs).length ≤ k) : (limbs (x + y).natAbs).length ≤ k + k + 1 :=
  Nat.le_trans (limbs_mono (Int.natAbs_add_le x y)) (length_limbs_sum hx hy)
theorem limbs_mul_le {x y : Int} {j k : Nat} (hx : (limbs x.natAbs).length ≤ j) (hy : (limbs y.natAbs).length ≤ k) : (limbs (x * y).natAbs).length ≤ j + k := by
  rw [Int.natAbs_mul]; exact length_limbs_prod hx hy
set_option maxRecDepth 100000 in
theorem isign_neg (w : World) (v0 : Value) (x : Int) (h0 : ArrInt w v0 x) (n0 : (limbs x.natAbs).length ≤ 100000000) (hx : x < 0) :
    Calls Tryz.prog 85 #[v0] w fun e w' => e = .returned (.int .i64 (-1)) ∧ Ext w w' := by
  have H0 := Lib.hid h0
  have HBT := Lib.hid (fun W m a => bits_any W m (limbs x.natAbs) a (by omega))
  rw [val_limbs] at HBT
  have hbz := @bitsN_zero x.natAbs
  obtain ⟨b0, l0, A0, c0, rfl⟩ := h0.shape
  have hs := h0.sign
  rw [decide_eq_true hx] at hs
  subst hs
  have hq : (((bitsN x.natAbs : Nat) : Int) == 0) = false := by rw [beq_eq_false_iff_ne]; omega
  generalize bitsN x.natAbs = bn at *
  clear h0 hbz hx
  go_enter Tryz.func85, Tryz.ntmps85
  go_wp2_with fail
  have hb0 := (Blk.new w 24 #[Value.bool true, Value.slice A0 l0 c0])
  have hxo := ((Ext.refl w).alloc (.cells #[Value.bool true, Value.slice A0 l0 c0] 24))
  have hszo : w.heap.size + 1 = (w.alloc (.cells #[Value.bool true, Value.slice A0 l0 c0] 24)).heap.size := by simp
  generalize w.alloc (.cells #[Value.bool true, Value.slice A0 l0 c0] 24) = wo at *
  have HB0 := Lib.hid hb0
  have HX := Lib.hid hxo
  have HZ : Hid (w.heap.size + 1 ≤ wo.heap.size) := Lib.hid (by omega)
  clear hxo hszo hb0
  refine (HBT.out _ _ (H0.out.mag.ext HX.out)).mono ?_
  rintro e w1 ⟨rfl, rfl⟩
  obtain ⟨u0_0_0, u0_0_1, u0_0_2, u0_0_3, u0_0_4⟩ := HB0.out.two
  go_wp2_with fail
  go_ret
  exact ⟨rfl, HX.out⟩
set_option maxRecDepth 100000 in
theorem rsign5_neg (w : World) (v0 : Value) (x : Int) (h0 : ArrInt w v0 x) (_n0 : (limbs x.natAbs).length ≤ 100000000) (hx : x < 0) :
    Calls Tryz.prog 105 #[v0] w fun e w' => e = .returned (.int .i64 (-1)) ∧ Ext w w' := by
  have H0 := Lib.hid h0
  obtain ⟨b0, l0, A0, c0, rfl⟩ := h0.shape
  have hs := h0.sign
  rw [decide_eq_true hx] at hs
  subst hs
  have hl := h0.mag.len
  have hq : ((l0 : Int) == 0) = false := by rw [beq_eq_false_iff_ne, hl]; intro e; have := limbs_eq_nil.1 (List.eq_nil_of_length_eq_zero (show (limbs x.natAbs).length = 0 by omega)); omega
  clear h0 hx hl
  go_enter Tryz.func105, Tryz.ntmps105
  go_wp2_with fail
  go_ret
  exact ⟨rfl, (Ext.refl w).alloc _⟩
set_option maxRecDepth 100000 in
theorem isign_zero (w : World) (v0 : Value) (x : Int) (h0 : ArrInt w v0 x) (n0 : (limbs x.natAbs).length ≤ 100000000) (hx : x = 0) :
    Calls Tryz.prog 85 #[v0] w fun e w' => e = .returned (.int .i64 (0)) ∧ Ext w w' := by
  have H0 := Lib.hid h0
  have HBT := Lib.hid (fun W m a => bits_any W m (limbs x.natAbs) a (by omega))
  rw [val_limbs] at HBT
  have hbz := @bitsN_zero x.natAbs
  obtain ⟨b0, l0, A0, c0, rfl⟩ := h0.shape
  have hs := h0.sign
  rw [decide_eq_false (by omega)] at hs
  subst hs
  have hq : (((bitsN x.natAbs : Nat) : Int) == 0) = true := by rw [beq_iff_eq]; omega
  generalize bitsN x.natAbs = bn at *
  clear h0 hbz hx
  go_enter Tryz.func85, Tryz.ntmps85
  go_wp2_with fail
  have hb0 := (Blk.new w 24 #[Value.bool false, Value.slice A0 l0 c0])
  have hxo := ((Ext.refl w).alloc (.cells #[Value.bool false, Value.slice A0 l0 c0] 24))
  have hszo : w.heap.size + 1 = (w.alloc (.cells #[Value.bool false, Value.slice A0 l0 c0] 24)).heap.size := by simp
  generalize w.alloc (.cells #[Value.bool false, Value.slice A0 l0 c0] 24) = wo at *
  have HB0 := Lib.hid hb0
  have HX := Lib.hid hxo
  have HZ : Hid (w.heap.size + 1 ≤ wo.heap.size) := Lib.hid (by omega)
  clear hxo hszo hb0
  refine (HBT.out _ _ (H0.out.mag.ext HX.out)).mono ?_
  rintro e w1 ⟨rfl, rfl⟩
  obtain ⟨u0_0_0, u0_0_1, u0_0_2, u0_0_3, u0_0_4⟩ := HB0.out.two
  go_wp2_with fail
  go_ret
  exact ⟨rfl, HX.out⟩
set_option maxRecDepth 100000 in
theorem rsign5_zero (w : World) (v0 : Value) (x : Int) (h0 : ArrInt w v0 x) (_n0 : (limbs x.natAbs).length ≤ 100000000) (hx : x = 0) :
    Calls Tryz.prog 105 #[v0] w fun e w' => e = .returned (.int .i64 (0)) ∧ Ext w w' := by
  have H0 := Lib.hid h0
  obtain ⟨b0, l0, A0, c0, rfl⟩ := h0.shape
  have hs := h0.sign
  rw [decide_eq_false (by omega)] at hs
  subst hs
  have hl := h0.mag.len
  have hq : ((l0 : Int) == 0) = true := by rw [beq_iff_eq, hl, hx]; rfl
  clear h0 hx hl
  go_enter Tryz.func105, Tryz.ntmps105
  go_wp2_with fail
  go_ret
  exact ⟨rfl, (Ext.refl w).alloc _⟩
set_option maxRecDepth 100000 in
theorem isign_pos (w : World) (v0 : Value) (x : Int) (h0 : ArrInt w v0 x) (n0 : (limbs x.natAbs).length ≤ 100000000) (hx : 0 < x) :
    Calls Tryz.prog 85 #[v0] w fun e w' => e = .returned (.int .i64 (1)) ∧ Ext w w' := by
  have H0 := Lib.hid h0
  have HBT := Lib.hid (fun W m a => bits_any W m (limbs x.natAbs) a (by omega))
  rw [val_limbs] at HBT
  have hbz := @bitsN_zero x.natAbs
  obtain ⟨b0, l0, A0, c0, rfl⟩ := h0.shape
  have hs := h0.sign
  rw [decide_eq_false (by omega)] at hs
  subst hs
  have hq : (((bitsN x.natAbs : Nat) : Int) == 0) = false := by rw [beq_eq_false_iff_ne]; omega
  generalize bitsN x.natAbs = bn at *
  clear h0 hbz hx
  go_enter Tryz.func85, Tryz.ntmps85
  go_wp2_with fail
  have hb0 := (Blk.new w 24 #[Value.bool false, Value.slice A0 l0 c0])
  have hxo := ((Ext.refl w).alloc (.cells #[Value.bool false, Value.slice A0 l0 c0] 24))
  have hszo : w.heap.size + 1 = (w.alloc (.cells #[Value.bool false, Value.slice A0 l0 c0] 24)).heap.size := by simp
  generalize w.alloc (.cells #[Value.bool false, Value.slice A0 l0 c0] 24) = wo at *
  have HB0 := Lib.hid hb0
  have HX := Lib.hid hxo
  have HZ : Hid (w.heap.size + 1 ≤ wo.heap.size) := Lib.hid (by omega)
  clear hxo hszo hb0
  refine (HBT.out _ _ (H0.out.mag.ext HX.out)).mono ?_
  rintro e w1 ⟨rfl, rfl⟩
  obtain ⟨u0_0_0, u0_0_1, u0_0_2, u0_0_3, u0_0_4⟩ := HB0.out.two
  go_wp2_with fail
  go_ret
  exact ⟨rfl, HX.out⟩
set_option maxRecDepth 100000 in
theorem rsign5_pos (w : World) (v0 : Value) (x : Int) (h0 : ArrInt w v0 x) (_n0 : (limbs x.natAbs).length ≤ 100000000) (hx : 0 < x) :
    Calls Tryz.prog 105 #[v0] w fun e w' => e = .returned (.int .i64 (1)) ∧ Ext w w' := by
  have H0 := Lib.hid h0
  obtain ⟨b0, l0, A0, c0, rfl⟩ := h0.shape
  have hs := h0.sign
  rw [decide_eq_false (by omega)] at hs
  subst hs
  have hl := h0.mag.len
  have hq : ((l0 : Int) == 0) = false := by rw [beq_eq_false_iff_ne, hl]; intro e; have := limbs_eq_nil.1 (List.eq_nil_of_length_eq_zero (show (limbs x.natAbs).length = 0 by omega)); omega
  clear h0 hx hl
  go_enter Tryz.func105, Tryz.ntmps105
  go_wp2_with fail
  go_ret
  exact ⟨rfl, (Ext.refl w).alloc _⟩
theorem isign_any (w : World) (v : Value) (x : Int) (h : ArrInt w v x) (hn : (limbs x.natAbs).length ≤ 100000000) :
    Calls Tryz.prog 85 #[v] w fun e w' => e = .returned (.int .i64 (sgZ x)) ∧ Ext w w' := by
  rcases Int.lt_trichotomy x 0 with hx | hx | hx
  · rw [show sgZ x = -1 from if_pos hx]; exact isign_neg w v x h hn hx
  · rw [show sgZ x = 0 by unfold sgZ; rw [if_neg (by omega), if_neg (by omega)]]; exact isign_zero w v x h hn hx
  · rw [show sgZ x = 1 by unfold sgZ; rw [if_neg (by omega), if_pos hx]]; exact isign_pos w v x h hn hx
theorem rsign5_any (w : World) (v : Value) (x : Int) (h : ArrInt w v x) (hn : (limbs x.natAbs).length ≤ 100000000) :
    Calls Tryz.prog 105 #[v] w fun e w' => e = .returned (.int .i64 (sgZ x)) ∧ Ext w w' := by
  rcases Int.lt_trichotomy x 0 with hx | hx | hx
  · rw [show sgZ x = -1 from if_pos hx]; exact rsign5_neg w v x h hn hx
  · rw [show sgZ x = 0 by unfold sgZ; rw [if_neg (by omega), if_neg (by omega)]]; exact rsign5_zero w v x h hn hx
  · rw [show sgZ x = 1 by unfold sgZ; rw [if_neg (by omega), if_pos hx]]; exact rsign5_pos w v x h hn hx
set_option maxRecDepth 100000 in
theorem ineg_any (w : World) (v0 : Value) (x : Int) (h0 : ArrInt w v0 x) (n0 : (limbs x.natAbs).length ≤ 100000000) :
    Calls Tryz.prog 86 #[v0] w fun e w' => ∃ v', e = .returned v' ∧ IsInt w.heap.size w' v' (-x) ∧ Ext w w' := by
  have H0 := Lib.hid h0
  have HI := Lib.hid (fun W m a => inat_any W (!decide (x < 0)) m (limbs x.natAbs) a (by omega))
  rw [val_limbs, neg_sgn] at HI
  obtain ⟨b0, l0, A0, c0, rfl⟩ := h0.shape
  have hs := h0.sign
  rw [← hs] at HI
  clear h0 hs
  go_enter Tryz.func86, Tryz.ntmps86
  go_wp2_with fail
  have hb0 := ((Blk.new w 24 #[Value.bool b0, Value.slice A0 l0 c0]).alloc (.cells #[Value.bool false, Value.slice none 0 0] 24))
  have hb1 := (Blk.new (w.alloc (.cells #[Value.bool b0, Value.slice A0 l0 c0] 24)) 24 #[Value.bool false, Value.slice none 0 0])
  have hxo := (((Ext.refl w).alloc (.cells #[Value.bool b0, Value.slice A0 l0 c0] 24)).alloc (.cells #[Value.bool false, Value.slice none 0 0] 24))
  have hszo : w.heap.size + 1 + 1 = ((w.alloc (.cells #[Value.bool b0, Value.slice A0 l0 c0] 24)).alloc (.cells #[Value.bool false, Value.slice none 0 0] 24)).heap.size := by simp
  simp only [World.size_alloc] at hb1
  generalize (w.alloc (.cells #[Value.bool b0, Value.slice A0 l0 c0] 24)).alloc (.cells #[Value.bool false, Value.slice none 0 0] 24) = wo at *
  have HB0 := Lib.hid hb0
  have HB1 := Lib.hid hb1
  have HX := Lib.hid hxo
  have HZ : Hid (w.heap.size + 1 + 1 ≤ wo.heap.size) := Lib.hid (by omega)
  clear hxo hszo hb0 hb1
  refine (HI.out _ _ (H0.out.mag.ext HX.out)).mono ?_
  rintro e w1 ⟨r0, rfl, hi0, hx0⟩
  have HX := Lib.hid (HX.out.trans hx0)
  have HZ0 := Lib.hid hx0.size
  have HB0 := Lib.hid (HB0.out.ext hx0)
  have HB1 := Lib.hid (HB1.out.ext hx0)
  have R0 := Lib.hid hi0
  obtain ⟨f0, g0, G0, j0, rfl⟩ := hi0.shape
  clear hx0 hi0
  obtain ⟨u0_0_0, u0_0_1, u0_0_2, u0_0_3, u0_0_4⟩ := HB0.out.two
  obtain ⟨u0_1_0, u0_1_1, u0_1_2, u0_1_3, u0_1_4⟩ := HB1.out.two
  go_wp2_with fail
  obtain ⟨hr0, hr1⟩ := two_set' HB1.out (.bool f0) (.slice G0 g0 j0)
  refine bodyPost_ret (v := .agg #[.bool f0, .slice G0 g0 j0]) (by simp [results, Tryz.results86, go_sem, hr0, hr1]) rfl ?_
  exact ⟨_, rfl, R0.out.put (by have := HZ.out; omega) (by have := HZ.out; omega), (HX.out.setCell (Nat.le_succ _) _).setCell (Nat.le_succ _) _⟩
set_option maxRecDepth 100000 in
theorem rneg5_any (w : World) (v0 : Value) (x : Int) (h0 : ArrInt w v0 x) (n0 : (limbs x.natAbs).length ≤ 100000000) :
    Calls Tryz.prog 103 #[v0] w fun e w' => ∃ v', e = .returned v' ∧ IsInt w.heap.size w' v' (-x) ∧ Ext w w' := by
  have H0 := Lib.hid h0
  have HI := Lib.hid (fun W m a => rnat_any W (!decide (x < 0)) m (limbs x.natAbs) a (by omega))
  rw [val_limbs, neg_sgn] at HI
  obtain ⟨b0, l0, A0, c0, rfl⟩ := h0.shape
  have hs := h0.sign
  rw [← hs] at HI
  clear h0 hs
  go_enter Tryz.func103, Tryz.ntmps103
  go_wp2_with fail
  have hb0 := ((Blk.new w 24 #[Value.bool b0, Value.slice A0 l0 c0]).alloc (.cells #[Value.bool false, Value.slice none 0 0] 24))
  have hb1 := (Blk.new (w.alloc (.cells #[Value.bool b0, Value.slice A0 l0 c0] 24)) 24 #[Value.bool false, Value.slice none 0 0])
  have hxo := (((Ext.refl w).alloc (.cells #[Value.bool b0, Value.slice A0 l0 c0] 24)).alloc (.cells #[Value.bool false, Value.slice none 0 0] 24))
  have hszo : w.heap.size + 1 + 1 = ((w.alloc (.cells #[Value.bool b0, Value.slice A0 l0 c0] 24)).alloc (.cells #[Value.bool false, Value.slice none 0 0] 24)).heap.size := by simp
  simp only [World.size_alloc] at hb1
  generalize (w.alloc (.cells #[Value.bool b0, Value.slice A0 l0 c0] 24)).alloc (.cells #[Value.bool false, Value.slice none 0 0] 24) = wo at *
  have HB0 := Lib.hid hb0
  have HB1 := Lib.hid hb1
  have HX := Lib.hid hxo
  have HZ : Hid (w.heap.size + 1 + 1 ≤ wo.heap.size) := Lib.hid (by omega)
  clear hxo hszo hb0 hb1
  refine (HI.out _ _ (H0.out.mag.ext HX.out)).mono ?_
  rintro e w1 ⟨r0, rfl, hi0, hx0⟩
  have HX := Lib.hid (HX.out.trans hx0)
  have HZ0 := Lib.hid hx0.size
  have HB0 := Lib.hid (HB0.out.ext hx0)
  have HB1 := Lib.hid (HB1.out.ext hx0)
  have R0 := Lib.hid hi0
  obtain ⟨f0, g0, G0, j0, rfl⟩ := hi0.shape
  clear hx0 hi0
  obtain ⟨u0_0_0, u0_0_1, u0_0_2, u0_0_3, u0_0_4⟩ := HB0.out.two
  obtain ⟨u0_1_0, u0_1_1, u0_1_2, u0_1_3, u0_1_4⟩ := HB1.out.two
  go_wp2_with fail
  obtain ⟨hr0, hr1⟩ := two_set' HB1.out (.bool f0) (.slice G0 g0 j0)
  refine bodyPost_ret (v := .agg #[.bool f0, .slice G0 g0 j0]) (by simp [results, Tryz.results103, go_sem, hr0, hr1]) rfl ?_
  exact ⟨_, rfl, R0.out.put (by have := HZ.out; omega) (by have := HZ.out; omega), (HX.out.setCell (Nat.le_succ _) _).setCell (Nat.le_succ _) _⟩
set_option maxRecDepth 100000 in
theorem iadd_ge (w : World) (v0 : Value) (x : Int) (h0 : ArrInt w v0 x) (n0 : (limbs x.natAbs).length ≤ 100000000) (v1 : Value) (y : Int) (h1 : ArrInt w v1 y) (n1 : (limbs y.natAbs).length ≤ 100000000) (hd : decide (x < 0) ≠ decide (y < 0)) (hle : y.natAbs ≤ x.natAbs) :
    Calls Tryz.prog 102 #[v0, v1] w fun e w' => ∃ v', e = .returned v' ∧ IsInt w.heap.size w' v' (x + y) ∧ Ext w w' := by
  have H0 := Lib.hid h0
  have H1 := Lib.hid h1
  have HM := Lib.hid (fun W m m' a b => nsub_ge W m m' (limbs x.natAbs) (limbs y.natAbs) a b (by omega) (by omega) (by rw [val_limbs, val_limbs]; exact hle))
  rw [val_limbs, val_limbs] at HM
  have HI := Lib.hid (fun W m a => inat_any W (decide (x < 0)) m (limbs (x.natAbs - y.natAbs)) a (Nat.le_trans (limbs_mono (Nat.sub_le _ _)) (by omega)))
  rw [val_limbs, add_diff_ge hd hle] at HI
  obtain ⟨b0, l0, A0, c0, rfl⟩ := h0.shape
  obtain ⟨b1, l1, A1, c1, rfl⟩ := h1.shape
  have hs0 := h0.sign
  have hs1 := h1.sign
  have hbq : (b0 == b1) = false := by rw [beq_eq_false_iff_ne, hs0, hs1]; exact hd
  have hbq2 : ¬ b0 = b1 := by rw [hs0, hs1]; exact hd
  have hbq3 : decide (b0 = b1) = false := decide_eq_false hbq2
  rw [← hs0] at HI
  clear h0 h1 hd hle hs0 hs1
  go_enter Tryz.func102, Tryz.ntmps102
  go_wp2_with fail
  have hb0 := (((Blk.new w 24 #[Value.bool b0, Value.slice A0 l0 c0]).alloc (.cells #[Value.bool b1, Value.slice A1 l1 c1] 24)).alloc (.cells #[Value.bool false, Value.slice none 0 0] 24))
  have hb1 := ((Blk.new (w.alloc (.cells #[Value.bool b0, Value.slice A0 l0 c0] 24)) 24 #[Value.bool b1, Value.slice A1 l1 c1]).alloc (.cells #[Value.bool false, Value.slice none 0 0] 24))
  have hb2 := (Blk.new ((w.alloc (.cells #[Value.bool b0, Value.slice A0 l0 c0] 24)).alloc (.cells #[Value.bool b1, Value.slice A1 l1 c1] 24)) 24 #[Value.bool false, Value.slice none 0 0])
  have hxo := ((((Ext.refl w).alloc (.cells #[Value.bool b0, Value.slice A0 l0 c0] 24)).alloc (.cells #[Value.bool b1, Value.slice A1 l1 c1] 24)).alloc (.cells #[Value.bool false, Value.slice none 0 0] 24))
  have hszo : w.heap.size + 1 + 1 + 1 = (((w.alloc (.cells #[Value.bool b0, Value.slice A0 l0 c0] 24)).alloc (.cells #[Value.bool b1, Value.slice A1 l1 c1] 24)).alloc (.cells #[Value.bool false, Value.slice none 0 0] 24)).heap.size := by simp
  simp only [World.size_alloc] at hb1 hb2
  generalize ((w.alloc (.cells #[Value.bool b0, Value.slice A0 l0 c0] 24)).alloc (.cells #[Value.bool b1, Value.slice A1 l1 c1] 24)).alloc (.cells #[Value.bool false, Value.slice none 0 0] 24) = wo at *
  have HB0 := Lib.hid hb0
  have HB1 := Lib.hid hb1
  have HB2 := Lib.hid hb2
  have HX := Lib.hid hxo
  have HZ : Hid (w.heap.size + 1 + 1 + 1 ≤ wo.heap.size) := Lib.hid (by omega)
  clear hxo hszo hb0 hb1 hb2
  refine (HM.out _ _ _ (H0.out.mag.ext HX.out) (H1.out.mag.ext HX.out)).mono ?_
  rintro e w1 ⟨r0, rfl, hi0, hx0⟩
  have HX := Lib.hid (HX.out.trans hx0)
  have HZ0 := Lib.hid hx0.size
  have HB0 := Lib.hid (HB0.out.ext hx0)
  have HB1 := Lib.hid (HB1.out.ext hx0)
  have HB2 := Lib.hid (HB2.out.ext hx0)
  have R0 := Lib.hid hi0
  obtain ⟨g0, G0, j0, rfl⟩ := hi0.shape
  clear hx0 hi0
  obtain ⟨u0_0_0, u0_0_1, u0_0_2, u0_0_3, u0_0_4⟩ := HB0.out.two
  obtain ⟨u0_1_0, u0_1_1, u0_1_2, u0_1_3, u0_1_4⟩ := HB1.out.two
  obtain ⟨u0_2_0, u0_2_1, u0_2_2, u0_2_3, u0_2_4⟩ := HB2.out.two
  go_wp2_with fail
  refine (HI.out _ _ R0.out.arr).mono ?_
  rintro e w2 ⟨r1, rfl, hi1, hx1⟩
  have HX := Lib.hid (HX.out.trans hx1)
  have HZ1 := Lib.hid hx1.size
  have HB0 := Lib.hid (HB0.out.ext hx1)
  have HB1 := Lib.hid (HB1.out.ext hx1)
  have HB2 := Lib.hid (HB2.out.ext hx1)
  have R0 := Lib.hid (R0.out.ext hx1)
  have R1 := Lib.hid hi1
  obtain ⟨f1, g1, G1, j1, rfl⟩ := hi1.shape
  clear hx1 hi1
  obtain ⟨u1_0_0, u1_0_1, u1_0_2, u1_0_3, u1_0_4⟩ := HB0.out.two
  obtain ⟨u1_1_0, u1_1_1, u1_1_2, u1_1_3, u1_1_4⟩ := HB1.out.two
  obtain ⟨u1_2_0, u1_2_1, u1_2_2, u1_2_3, u1_2_4⟩ := HB2.out.two
  go_wp2_with fail
  obtain ⟨hr0, hr1⟩ := two_set' HB2.out (.bool f1) (.slice G1 g1 j1)
  refine bodyPost_ret (v := .agg #[.bool f1, .slice G1 g1 j1]) (by simp [results, Tryz.results102, go_sem, hr0, hr1]) rfl ?_
  exact ⟨_, rfl, R1.out.put (by have := HZ.out; have := HZ0.out; omega) (by have := HZ.out; have := HZ0.out; omega), (HX.out.setCell (Nat.le_trans (Nat.le_succ _) (Nat.le_succ _)) _).setCell (Nat.le_trans (Nat.le_succ _) (Nat.le_succ _)) _⟩
set_option maxRecDepth 100000 in
theorem iadd_lt (w : World) (v0 : Value) (x : Int) (h0 : ArrInt w v0 x) (n0 : (limbs x.natAbs).length ≤ 100000000) (v1 : Value) (y : Int) (h1 : ArrInt w v1 y) (n1 : (limbs y.natAbs).length ≤ 100000000) (hd : decide (x < 0) ≠ decide (y < 0)) (hle : x.natAbs < y.natAbs) :
    Calls Tryz.prog 102 #[v0, v1] w fun e w' => ∃ v', e = .returned v' ∧ IsInt w.heap.size w' v' (x + y) ∧ Ext w w' := by
  have H0 := Lib.hid h0
  have H1 := Lib.hid h1
  have HL := Lib.hid (fun W m m' a b => nsub_lt W m m' (limbs x.natAbs) (limbs y.natAbs) a b (by omega) (by omega) (by rw [val_limbs, val_limbs]; exact hle))
  have HM := Lib.hid (fun W m m' a b => nsub_ge W m m' (limbs y.natAbs) (limbs x.natAbs) a b (by omega) (by omega) (by rw [val_limbs, val_limbs]; omega))
  rw [val_limbs, val_limbs] at HM
  have HI := Lib.hid (fun W m a => inat_any W (decide (y < 0)) m (limbs (y.natAbs - x.natAbs)) a (Nat.le_trans (limbs_mono (Nat.sub_le _ _)) (by omega)))
  rw [val_limbs, add_diff_lt hd hle] at HI
  obtain ⟨b0, l0, A0, c0, rfl⟩ := h0.shape
  obtain ⟨b1, l1, A1, c1, rfl⟩ := h1.shape
  have hs0 := h0.sign
  have hs1 := h1.sign
  have hbq : (b0 == b1) = false := by rw [beq_eq_false_iff_ne, hs0, hs1]; exact hd
  have hbq2 : ¬ b0 = b1 := by rw [hs0, hs1]; exact hd
  have hbq3 : decide (b0 = b1) = false := decide_eq_false hbq2
  rw [← hs1] at HI
  clear h0 h1 hd hle hs0 hs1
  go_enter Tryz.func102, Tryz.ntmps102
  go_wp2_with fail
  have hb0 := (((Blk.new w 24 #[Value.bool b0, Value.slice A0 l0 c0]).alloc (.cells #[Value.bool b1, Value.slice A1 l1 c1] 24)).alloc (.cells #[Value.bool false, Value.slice none 0 0] 24))
  have hb1 := ((Blk.new (w.alloc (.cells #[Value.bool b0, Value.slice A0 l0 c0] 24)) 24 #[Value.bool b1, Value.slice A1 l1 c1]).alloc (.cells #[Value.bool false, Value.slice none 0 0] 24))
  have hb2 := (Blk.new ((w.alloc (.cells #[Value.bool b0, Value.slice A0 l0 c0] 24)).alloc (.cells #[Value.bool b1, Value.slice A1 l1 c1] 24)) 24 #[Value.bool false, Value.slice none 0 0])
  have hxo := ((((Ext.refl w).alloc (.cells #[Value.bool b0, Value.slice A0 l0 c0] 24)).alloc (.cells #[Value.bool b1, Value.slice A1 l1 c1] 24)).alloc (.cells #[Value.bool false, Value.slice none 0 0] 24))
  have hszo : w.heap.size + 1 + 1 + 1 = (((w.alloc (.cells #[Value.bool b0, Value.slice A0 l0 c0] 24)).alloc (.cells #[Value.bool b1, Value.slice A1 l1 c1] 24)).alloc (.cells #[Value.bool false, Value.slice none 0 0] 24)).heap.size := by simp
  simp only [World.size_alloc] at hb1 hb2
  generalize ((w.alloc (.cells #[Value.bool b0, Value.slice A0 l0 c0] 24)).alloc (.cells #[Value.bool b1, Value.slice A1 l1 c1] 24)).alloc (.cells #[Value.bool false, Value.slice none 0 0] 24) = wo at *
  have HB0 := Lib.hid hb0
  have HB1 := Lib.hid hb1
  have HB2 := Lib.hid hb2
  have HX := Lib.hid hxo
  have HZ : Hid (w.heap.size + 1 + 1 + 1 ≤ wo.heap.size) := Lib.hid (by omega)
  clear hxo hszo hb0 hb1 hb2
  refine (HL.out _ _ _ (H0.out.mag.ext HX.out) (H1.out.mag.ext HX.out)).mono ?_
  rintro e w1 ⟨rfl, hx0⟩
  have HX := Lib.hid (HX.out.trans hx0)
  have HZ0 := Lib.hid hx0.size
  have HB0 := Lib.hid (HB0.out.ext hx0)
  have HB1 := Lib.hid (HB1.out.ext hx0)
  have HB2 := Lib.hid (HB2.out.ext hx0)
  clear hx0
  obtain ⟨u0_0_0, u0_0_1, u0_0_2, u0_0_3, u0_0_4⟩ := HB0.out.two
  obtain ⟨u0_1_0, u0_1_1, u0_1_2, u0_1_3, u0_1_4⟩ := HB1.out.two
  obtain ⟨u0_2_0, u0_2_1, u0_2_2, u0_2_3, u0_2_4⟩ := HB2.out.two
  go_wp2_with fail
  refine (HM.out _ _ _ (H1.out.mag.ext HX.out) (H0.out.mag.ext HX.out)).mono ?_
  rintro e w2 ⟨r1, rfl, hi1, hx1⟩
  have HX := Lib.hid (HX.out.trans hx1)
  have HZ1 := Lib.hid hx1.size
  have HB0 := Lib.hid (HB0.out.ext hx1)
  have HB1 := Lib.hid (HB1.out.ext hx1)
  have HB2 := Lib.hid (HB2.out.ext hx1)
  have R1 := Lib.hid hi1
  obtain ⟨g1, G1, j1, rfl⟩ := hi1.shape
  clear hx1 hi1
  obtain ⟨u1_0_0, u1_0_1, u1_0_2, u1_0_3, u1_0_4⟩ := HB0.out.two
  obtain ⟨u1_1_0, u1_1_1, u1_1_2, u1_1_3, u1_1_4⟩ := HB1.out.two
  obtain ⟨u1_2_0, u1_2_1, u1_2_2, u1_2_3, u1_2_4⟩ := HB2.out.two
  go_wp2_with fail
  refine (HI.out _ _ R1.out.arr).mono ?_
  rintro e w3 ⟨r2, rfl, hi2, hx2⟩
  have HX := Lib.hid (HX.out.trans hx2)
  have HZ2 := Lib.hid hx2.size
  have HB0 := Lib.hid (HB0.out.ext hx2)
  have HB1 := Lib.hid (HB1.out.ext hx2)
  have HB2 := Lib.hid (HB2.out.ext hx2)
  have R1 := Lib.hid (R1.out.ext hx2)
  have R2 := Lib.hid hi2
  obtain ⟨f2, g2, G2, j2, rfl⟩ := hi2.shape
  clear hx2 hi2
  obtain ⟨u2_0_0, u2_0_1, u2_0_2, u2_0_3, u2_0_4⟩ := HB0.out.two
  obtain ⟨u2_1_0, u2_1_1, u2_1_2, u2_1_3, u2_1_4⟩ := HB1.out.two
  obtain ⟨u2_2_0, u2_2_1, u2_2_2, u2_2_3, u2_2_4⟩ := HB2.out.two
  go_wp2_with fail
  obtain ⟨hr0, hr1⟩ := two_set' HB2.out (.bool f2) (.slice G2 g2 j2)
  refine bodyPost_ret (v := .agg #[.bool f2, .slice G2 g2 j2]) (by simp [results, Tryz.results102, go_sem, hr0, hr1]) rfl ?_
  exact ⟨_, rfl, R2.out.put (by have := HZ.out; have := HZ0.out; have := HZ1.out; omega) (by have := HZ.out; have := HZ0.out; have := HZ1.out; omega), (HX.out.setCell (Nat.le_trans (Nat.le_succ _) (Nat.le_succ _)) _).setCell (Nat.le_trans (Nat.le_succ _) (Nat.le_succ _)) _⟩
theorem iadd_any (w : World) (v u : Value) (x y : Int) (h : ArrInt w v x) (h' : ArrInt w u y) (hn : (limbs x.natAbs).length ≤ 100000000) (hn' : (limbs y.natAbs).length ≤ 100000000) :
    Calls Tryz.prog 102 #[v, u] w fun e w' => ∃ v', e = .returned v' ∧ IsInt w.heap.size w' v' (x + y) ∧ Ext w w' := by
  by_cases hd : decide (x < 0) = decide (y < 0)
  · exact iadd_same w v u x y h h' (by omega) (by omega) hd
  · rcases Nat.lt_or_ge x.natAbs y.natAbs with hl | hl
    · exact iadd_lt w v x h hn u y h' hn' hd hl
    · exact iadd_ge w v x h hn u y h' hn' hd hl
set_option maxRecDepth 100000 in
theorem radd5_same (w : World) (v0 : Value) (x : Int) (h0 : ArrInt w v0 x) (n0 : (limbs x.natAbs).length ≤ 100000000) (v1 : Value) (y : Int) (h1 : ArrInt w v1 y) (n1 : (limbs y.natAbs).length ≤ 100000000) (hd : decide (x < 0) = decide (y < 0)) :
    Calls Tryz.prog 98 #[v0, v1] w fun e w' => ∃ v', e = .returned v' ∧ IsInt w.heap.size w' v' (x + y) ∧ Ext w w' := by
  have H0 := Lib.hid h0
  have H1 := Lib.hid h1
  have HM := Lib.hid (fun W m m' a b => radd1_any W m m' (limbs x.natAbs) (limbs y.natAbs) a b (by omega) (by omega))
  rw [val_limbs, val_limbs] at HM
  have HI := Lib.hid (fun W m a => rnat_any W (decide (x < 0)) m (limbs (x.natAbs + y.natAbs)) a (by have := length_limbs_sum n0 n1; omega))
  rw [val_limbs, add_same_sgn hd] at HI
  obtain ⟨b0, l0, A0, c0, rfl⟩ := h0.shape
  obtain ⟨b1, l1, A1, c1, rfl⟩ := h1.shape
  have hs0 := h0.sign
  have hs1 := h1.sign
  have hbq : (b0 == b1) = true := by rw [beq_iff_eq, hs0, hs1]; exact hd
  rw [← hs0] at HI
  clear h0 h1 hd hs0 hs1
  go_enter Tryz.func98, Tryz.ntmps98
  go_wp2_with fail
  have hb0 := (((Blk.new w 24 #[Value.bool b0, Value.slice A0 l0 c0]).alloc (.cells #[Value.bool b1, Value.slice A1 l1 c1] 24)).alloc (.cells #[Value.bool false, Value.slice none 0 0] 24))
  have hb1 := ((Blk.new (w.alloc (.cells #[Value.bool b0, Value.slice A0 l0 c0] 24)) 24 #[Value.bool b1, Value.slice A1 l1 c1]).alloc (.cells #[Value.bool false, Value.slice none 0 0] 24))
  have hb2 := (Blk.new ((w.alloc (.cells #[Value.bool b0, Value.slice A0 l0 c0] 24)).alloc (.cells #[Value.bool b1, Value.slice A1 l1 c1] 24)) 24 #[Value.bool false, Value.slice none 0 0])
  have hxo := ((((Ext.refl w).alloc (.cells #[Value.bool b0, Value.slice A0 l0 c0] 24)).alloc (.cells #[Value.bool b1, Value.slice A1 l1 c1] 24)).alloc (.cells #[Value.bool false, Value.slice none 0 0] 24))
  have hszo : w.heap.size + 1 + 1 + 1 = (((w.alloc (.cells #[Value.bool b0, Value.slice A0 l0 c0] 24)).alloc (.cells #[Value.bool b1, Value.slice A1 l1 c1] 24)).alloc (.cells #[Value.bool false, Value.slice none 0 0] 24)).heap.size := by simp
  simp only [World.size_alloc] at hb1 hb2
  generalize ((w.alloc (.cells #[Value.bool b0, Value.slice A0 l0 c0] 24)).alloc (.cells #[Value.bool b1, Value.slice A1 l1 c1] 24)).alloc (.cells #[Value.bool false, Value.slice none 0 0] 24) = wo at *
  obtain ⟨q0_0, q0_1, _, _, _⟩ := hb0.two
  obtain ⟨q1_0, q1_1, _, _, _⟩ := hb1.two
  obtain ⟨t0, t1, s0, s1, hgz⟩ := hb2.two
  clear hb0 hb1 hb2
  go_region_held3 (fun w' => Ext w w' ∧ w'.cell? ⟨w.heap.size, 0, none⟩ = some (Value.bool b0) ∧ w'.cell? ⟨w.heap.size, 1, none⟩ = some (Value.slice A0 l0 c0) ∧ w'.cell? ⟨w.heap.size + 1, 0, none⟩ = some (Value.bool b1) ∧ w'.cell? ⟨w.heap.size + 1, 1, none⟩ = some (Value.slice A1 l1 c1) ∧ w'.cell? ⟨w.heap.size + 1 + 1, 0, none⟩ = some (was w' (w.heap.size + 1 + 1) 0) ∧ w'.cell? ⟨w.heap.size + 1 + 1, 1, none⟩ = some (was w' (w.heap.size + 1 + 1) 1) ∧ w'.frozen? ⟨w.heap.size + 1 + 1, 0, none⟩ = false ∧ w'.frozen? ⟨w.heap.size + 1 + 1, 1, none⟩ = false)
    (first | (exact ⟨hxo.drew, q0_0, q0_1, q1_0, q1_1, was_some (w := wo.drew) t0, was_some (w := wo.drew) t1, s0, s1⟩) | (exact keptS4_2 (by assumption) (by assumption)) | (exact keptS4_2_set (by assumption) (by omega) (by omega) (by omega) (by omega) (by omega)))
    (first
      | (go_at_call 54; have hchk1 := hz0; refine (HI.out _ _ R0.out.arr).mono ?_; rintro e w2 ⟨r1, rfl, hi1, hx1⟩; have hz1 := hx1.size; have R0 := Lib.hid (R0.out.ext hx1); have R1 := Lib.hid hi1; obtain ⟨f1, g1, G1, j1, rfl⟩ := hi1.shape)
      | (go_at_call 143; refine (HM.out _ _ _ (H0.out.mag.ext (And.left (by assumption))) (H1.out.mag.ext (And.left (by assumption)))).mono ?_; rintro e w1 ⟨r0, rfl, hi0, hx0⟩; have hz0 := hx0.size; have R0 := Lib.hid hi0; obtain ⟨g0, G0, j0, rfl⟩ := hi0.shape))
  all_goals go_wp2_with fail
  rename_i hS
  obtain ⟨hE, _, _, _, _, hc0, hc1, _, _⟩ := hS
  simp only [World.size_drew] at hz0
  obtain ⟨hr0, hr1⟩ := final2 hc0 hc1
  refine bodyPost_ret (v := .agg #[.bool f1, .slice G1 g1 j1]) (by simp [results, Tryz.results98, go_sem, hr0, hr1]) rfl ?_
  exact ⟨_, rfl, R1.out.put (by omega) (by omega), hE⟩
set_option maxRecDepth 100000 in
theorem radd5_ge (w : World) (v0 : Value) (x : Int) (h0 : ArrInt w v0 x) (n0 : (limbs x.natAbs).length ≤ 100000000) (v1 : Value) (y : Int) (h1 : ArrInt w v1 y) (n1 : (limbs y.natAbs).length ≤ 100000000) (hd : decide (x < 0) ≠ decide (y < 0)) (hle : y.natAbs ≤ x.natAbs) :
    Calls Tryz.prog 98 #[v0, v1] w fun e w' => ∃ v', e = .returned v' ∧ IsInt w.heap.size w' v' (x + y) ∧ Ext w w' := by
  have H0 := Lib.hid h0
  have H1 := Lib.hid h1
  have HM := Lib.hid (fun W m m' a b => rless_any W m m' (limbs x.natAbs) (limbs y.natAbs) a b (by omega) (by omega))
  rw [val_limbs, val_limbs] at HM
  have HI := Lib.hid (fun W m a => rnat_any W (decide (x < 0)) m (limbs (x.natAbs - y.natAbs)) a (Nat.le_trans (limbs_mono (Nat.sub_le _ _)) (by omega)))
  rw [val_limbs, add_diff_ge hd hle] at HI
  obtain ⟨b0, l0, A0, c0, rfl⟩ := h0.shape
  obtain ⟨b1, l1, A1, c1, rfl⟩ := h1.shape
  have HCM := Lib.hid (fun W hx => rcmp_any W (.slice A0 l0 c0) (.slice A1 l1 c1) (limbs x.natAbs) (limbs y.natAbs) (h0.mag.ext (w' := W) hx) (h1.mag.ext hx) (by omega) (by omega))
  rw [val_limbs, val_limbs] at HCM
  have hcm : ¬ cmpI x.natAbs y.natAbs < 0 := by rw [cmpI_neg]; omega
  generalize cmpI x.natAbs y.natAbs = cc at *
  have hs0 := h0.sign
  have hs1 := h1.sign
  have hbq : (b0 == b1) = false := by rw [beq_eq_false_iff_ne, hs0, hs1]; exact hd
  have hbq2 : ¬ b0 = b1 := by rw [hs0, hs1]; exact hd
  have hbq3 : decide (b0 = b1) = false := decide_eq_false hbq2
  rw [← hs0] at HI
  clear h0 h1 hd hle hs0 hs1
  go_enter Tryz.func98, Tryz.ntmps98
  go_wp2_with fail
  have hb0 := (((Blk.new w 24 #[Value.bool b0, Value.slice A0 l0 c0]).alloc (.cells #[Value.bool b1, Value.slice A1 l1 c1] 24)).alloc (.cells #[Value.bool false, Value.slice none 0 0] 24))
  have hb1 := ((Blk.new (w.alloc (.cells #[Value.bool b0, Value.slice A0 l0 c0] 24)) 24 #[Value.bool b1, Value.slice A1 l1 c1]).alloc (.cells #[Value.bool false, Value.slice none 0 0] 24))
  have hb2 := (Blk.new ((w.alloc (.cells #[Value.bool b0, Value.slice A0 l0 c0] 24)).alloc (.cells #[Value.bool b1, Value.slice A1 l1 c1] 24)) 24 #[Value.bool false, Value.slice none 0 0])
  have hxo := ((((Ext.refl w).alloc (.cells #[Value.bool b0, Value.slice A0 l0 c0] 24)).alloc (.cells #[Value.bool b1, Value.slice A1 l1 c1] 24)).alloc (.cells #[Value.bool false, Value.slice none 0 0] 24))
  have hszo : w.heap.size + 1 + 1 + 1 = (((w.alloc (.cells #[Value.bool b0, Value.slice A0 l0 c0] 24)).alloc (.cells #[Value.bool b1, Value.slice A1 l1 c1] 24)).alloc (.cells #[Value.bool false, Value.slice none 0 0] 24)).heap.size := by simp
  simp only [World.size_alloc] at hb1 hb2
  generalize ((w.alloc (.cells #[Value.bool b0, Value.slice A0 l0 c0] 24)).alloc (.cells #[Value.bool b1, Value.slice A1 l1 c1] 24)).alloc (.cells #[Value.bool false, Value.slice none 0 0] 24) = wo at *
  obtain ⟨q0_0, q0_1, _, _, _⟩ := hb0.two
  obtain ⟨q1_0, q1_1, _, _, _⟩ := hb1.two
  obtain ⟨t0, t1, s0, s1, hgz⟩ := hb2.two
  clear hb0 hb1 hb2
  refine (HCM.out _ hxo).mono ?_
  rintro e wc ⟨rfl, rfl⟩
  go_wp2_with fail
  go_region_held3 (fun w' => Ext w w' ∧ w'.cell? ⟨w.heap.size, 0, none⟩ = some (Value.bool b0) ∧ w'.cell? ⟨w.heap.size, 1, none⟩ = some (Value.slice A0 l0 c0) ∧ w'.cell? ⟨w.heap.size + 1, 0, none⟩ = some (Value.bool b1) ∧ w'.cell? ⟨w.heap.size + 1, 1, none⟩ = some (Value.slice A1 l1 c1) ∧ w'.cell? ⟨w.heap.size + 1 + 1, 0, none⟩ = some (was w' (w.heap.size + 1 + 1) 0) ∧ w'.cell? ⟨w.heap.size + 1 + 1, 1, none⟩ = some (was w' (w.heap.size + 1 + 1) 1) ∧ w'.frozen? ⟨w.heap.size + 1 + 1, 0, none⟩ = false ∧ w'.frozen? ⟨w.heap.size + 1 + 1, 1, none⟩ = false)
    (first | (exact ⟨hxo.drew, q0_0, q0_1, q1_0, q1_1, was_some (w := wo.drew) t0, was_some (w := wo.drew) t1, s0, s1⟩) | (exact keptS4_2 (by assumption) (by assumption)) | (exact keptS4_2_set (by assumption) (by omega) (by omega) (by omega) (by omega) (by omega)))
    (first
      | (go_at_call 54; have hchk1 := hz0; refine (HI.out _ _ R0.out.arr).mono ?_; rintro e w2 ⟨r1, rfl, hi1, hx1⟩; have hz1 := hx1.size; have R0 := Lib.hid (R0.out.ext hx1); have R1 := Lib.hid hi1; obtain ⟨f1, g1, G1, j1, rfl⟩ := hi1.shape)
      | (go_at_call 144; refine (HM.out _ _ _ (H0.out.mag.ext (And.left (by assumption))) (H1.out.mag.ext (And.left (by assumption)))).mono ?_; rintro e w1 ⟨r0, rfl, hi0, hx0⟩; have hz0 := hx0.size; have R0 := Lib.hid hi0; obtain ⟨g0, G0, j0, rfl⟩ := hi0.shape))
  all_goals go_wp2_with fail
  rename_i hS
  obtain ⟨hE, _, _, _, _, hc0, hc1, _, _⟩ := hS
  simp only [World.size_drew] at hz0
  obtain ⟨hr0, hr1⟩ := final2 hc0 hc1
  refine bodyPost_ret (v := .agg #[.bool f1, .slice G1 g1 j1]) (by simp [results, Tryz.results98, go_sem, hr0, hr1]) rfl ?_
  exact ⟨_, rfl, R1.out.put (by omega) (by omega), hE⟩
set_option maxRecDepth 100000 in
theorem radd5_lt (w : World) (v0 : Value) (x : Int) (h0 : ArrInt w v0 x) (n0 : (limbs x.natAbs).length ≤ 100000000) (v1 : Value) (y : Int) (h1 : ArrInt w v1 y) (n1 : (limbs y.natAbs).length ≤ 100000000) (hd : decide (x < 0) ≠ decide (y < 0)) (hle : x.natAbs < y.natAbs) :
    Calls Tryz.prog 98 #[v0, v1] w fun e w' => ∃ v', e = .returned v' ∧ IsInt w.heap.size w' v' (x + y) ∧ Ext w w' := by
  have H0 := Lib.hid h0
  have H1 := Lib.hid h1
  have HM := Lib.hid (fun W m m' a b => rless_any W m m' (limbs y.natAbs) (limbs x.natAbs) a b (by omega) (by omega))
  rw [val_limbs, val_limbs] at HM
  have HI := Lib.hid (fun W m a => rnat_any W (decide (y < 0)) m (limbs (y.natAbs - x.natAbs)) a (Nat.le_trans (limbs_mono (Nat.sub_le _ _)) (by omega)))
  rw [val_limbs, add_diff_lt hd hle] at HI
  obtain ⟨b0, l0, A0, c0, rfl⟩ := h0.shape
  obtain ⟨b1, l1, A1, c1, rfl⟩ := h1.shape
  have HCM := Lib.hid (fun W hx => rcmp_any W (.slice A0 l0 c0) (.slice A1 l1 c1) (limbs x.natAbs) (limbs y.natAbs) (h0.mag.ext (w' := W) hx) (h1.mag.ext hx) (by omega) (by omega))
  rw [val_limbs, val_limbs] at HCM
  have hcm :  cmpI x.natAbs y.natAbs < 0 := by rw [cmpI_neg]; omega
  generalize cmpI x.natAbs y.natAbs = cc at *
  have hs0 := h0.sign
  have hs1 := h1.sign
  have hbq : (b0 == b1) = false := by rw [beq_eq_false_iff_ne, hs0, hs1]; exact hd
  have hbq2 : ¬ b0 = b1 := by rw [hs0, hs1]; exact hd
  have hbq3 : decide (b0 = b1) = false := decide_eq_false hbq2
  rw [← hs1] at HI
  clear h0 h1 hd hle hs0 hs1
  go_enter Tryz.func98, Tryz.ntmps98
  go_wp2_with fail
  have hb0 := (((Blk.new w 24 #[Value.bool b0, Value.slice A0 l0 c0]).alloc (.cells #[Value.bool b1, Value.slice A1 l1 c1] 24)).alloc (.cells #[Value.bool false, Value.slice none 0 0] 24))
  have hb1 := ((Blk.new (w.alloc (.cells #[Value.bool b0, Value.slice A0 l0 c0] 24)) 24 #[Value.bool b1, Value.slice A1 l1 c1]).alloc (.cells #[Value.bool false, Value.slice none 0 0] 24))
  have hb2 := (Blk.new ((w.alloc (.cells #[Value.bool b0, Value.slice A0 l0 c0] 24)).alloc (.cells #[Value.bool b1, Value.slice A1 l1 c1] 24)) 24 #[Value.bool false, Value.slice none 0 0])
  have hxo := ((((Ext.refl w).alloc (.cells #[Value.bool b0, Value.slice A0 l0 c0] 24)).alloc (.cells #[Value.bool b1, Value.slice A1 l1 c1] 24)).alloc (.cells #[Value.bool false, Value.slice none 0 0] 24))
  have hszo : w.heap.size + 1 + 1 + 1 = (((w.alloc (.cells #[Value.bool b0, Value.slice A0 l0 c0] 24)).alloc (.cells #[Value.bool b1, Value.slice A1 l1 c1] 24)).alloc (.cells #[Value.bool false, Value.slice none 0 0] 24)).heap.size := by simp
  simp only [World.size_alloc] at hb1 hb2
  generalize ((w.alloc (.cells #[Value.bool b0, Value.slice A0 l0 c0] 24)).alloc (.cells #[Value.bool b1, Value.slice A1 l1 c1] 24)).alloc (.cells #[Value.bool false, Value.slice none 0 0] 24) = wo at *
  obtain ⟨q0_0, q0_1, _, _, _⟩ := hb0.two
  obtain ⟨q1_0, q1_1, _, _, _⟩ := hb1.two
  obtain ⟨t0, t1, s0, s1, hgz⟩ := hb2.two
  clear hb0 hb1 hb2
  refine (HCM.out _ hxo).mono ?_
  rintro e wc ⟨rfl, rfl⟩
  go_wp2_with fail
  go_region_held3 (fun w' => Ext w w' ∧ w'.cell? ⟨w.heap.size, 0, none⟩ = some (Value.bool b0) ∧ w'.cell? ⟨w.heap.size, 1, none⟩ = some (Value.slice A0 l0 c0) ∧ w'.cell? ⟨w.heap.size + 1, 0, none⟩ = some (Value.bool b1) ∧ w'.cell? ⟨w.heap.size + 1, 1, none⟩ = some (Value.slice A1 l1 c1) ∧ w'.cell? ⟨w.heap.size + 1 + 1, 0, none⟩ = some (was w' (w.heap.size + 1 + 1) 0) ∧ w'.cell? ⟨w.heap.size + 1 + 1, 1, none⟩ = some (was w' (w.heap.size + 1 + 1) 1) ∧ w'.frozen? ⟨w.heap.size + 1 + 1, 0, none⟩ = false ∧ w'.frozen? ⟨w.heap.size + 1 + 1, 1, none⟩ = false)
    (first | (exact ⟨hxo.drew, q0_0, q0_1, q1_0, q1_1, was_some (w := wo.drew) t0, was_some (w := wo.drew) t1, s0, s1⟩) | (exact keptS4_2 (by assumption) (by assumption)) | (exact keptS4_2_set (by assumption) (by omega) (by omega) (by omega) (by omega) (by omega)))
    (first
      | (go_at_call 54; have hchk1 := hz0; refine (HI.out _ _ R0.out.arr).mono ?_; rintro e w2 ⟨r1, rfl, hi1, hx1⟩; have hz1 := hx1.size; have R0 := Lib.hid (R0.out.ext hx1); have R1 := Lib.hid hi1; obtain ⟨f1, g1, G1, j1, rfl⟩ := hi1.shape)
      | (go_at_call 144; refine (HM.out _ _ _ (H1.out.mag.ext (And.left (by assumption))) (H0.out.mag.ext (And.left (by assumption)))).mono ?_; rintro e w1 ⟨r0, rfl, hi0, hx0⟩; have hz0 := hx0.size; have R0 := Lib.hid hi0; obtain ⟨g0, G0, j0, rfl⟩ := hi0.shape))
  all_goals go_wp2_with fail
  rename_i hS
  obtain ⟨hE, _, _, _, _, hc0, hc1, _, _⟩ := hS
  simp only [World.size_drew] at hz0
  obtain ⟨hr0, hr1⟩ := final2 hc0 hc1
  refine bodyPost_ret (v := .agg #[.bool f1, .slice G1 g1 j1]) (by simp [results, Tryz.results98, go_sem, hr0, hr1]) rfl ?_
  exact ⟨_, rfl, R1.out.put (by omega) (by omega), hE⟩
theorem radd5_any (w : World) (v u : Value) (x y : Int) (h : ArrInt w v x) (h' : ArrInt w u y) (hn : (limbs x.natAbs).length ≤ 100000000) (hn' : (limbs y.natAbs).length ≤ 100000000) :
    Calls Tryz.prog 98 #[v, u] w fun e w' => ∃ v', e = .returned v' ∧ IsInt w.heap.size w' v' (x + y) ∧ Ext w w' := by
  by_cases hd : decide (x < 0) = decide (y < 0)
  · exact radd5_same w v x h hn u y h' hn' hd
  · rcases Nat.lt_or_ge x.natAbs y.natAbs with hl | hl
    · exact radd5_lt w v x h hn u y h' hn' hd hl
    · exact radd5_ge w v x h hn u y h' hn' hd hl
set_option maxRecDepth 100000 in
theorem rsub5_any (w : World) (v0 : Value) (x : Int) (h0 : ArrInt w v0 x) (n0 : (limbs x.natAbs).length ≤ 40000000) (v1 : Value) (y : Int) (h1 : ArrInt w v1 y) (n1 : (limbs y.natAbs).length ≤ 40000000) :
    Calls Tryz.prog 142 #[v0, v1] w fun e w' => ∃ v', e = .returned v' ∧ IsInt w.heap.size w' v' (x + -y) ∧ Ext w w' := by
  have H0 := Lib.hid h0
  have H1 := Lib.hid h1
  have HNG := Lib.hid (fun W v a => rneg5_any W v y a (by omega))
  have HAD := Lib.hid (fun W v u a b => radd5_any W v u x (-y) a b (by omega) (by rw [Int.natAbs_neg]; omega))
  obtain ⟨b0, l0, A0, c0, rfl⟩ := h0.shape
  obtain ⟨b1, l1, A1, c1, rfl⟩ := h1.shape
  clear h0 h1
  go_enter Tryz.func142, Tryz.ntmps142
  go_wp2_with fail
  have hb0 := (((Blk.new w 24 #[Value.bool b0, Value.slice A0 l0 c0]).alloc (.cells #[Value.bool b1, Value.slice A1 l1 c1] 24)).alloc (.cells #[Value.bool false, Value.slice none 0 0] 24))
  have hb1 := ((Blk.new (w.alloc (.cells #[Value.bool b0, Value.slice A0 l0 c0] 24)) 24 #[Value.bool b1, Value.slice A1 l1 c1]).alloc (.cells #[Value.bool false, Value.slice none 0 0] 24))
  have hb2 := (Blk.new ((w.alloc (.cells #[Value.bool b0, Value.slice A0 l0 c0] 24)).alloc (.cells #[Value.bool b1, Value.slice A1 l1 c1] 24)) 24 #[Value.bool false, Value.slice none 0 0])
  have hxo := ((((Ext.refl w).alloc (.cells #[Value.bool b0, Value.slice A0 l0 c0] 24)).alloc (.cells #[Value.bool b1, Value.slice A1 l1 c1] 24)).alloc (.cells #[Value.bool false, Value.slice none 0 0] 24))
  have hszo : w.heap.size + 1 + 1 + 1 = (((w.alloc (.cells #[Value.bool b0, Value.slice A0 l0 c0] 24)).alloc (.cells #[Value.bool b1, Value.slice A1 l1 c1] 24)).alloc (.cells #[Value.bool false, Value.slice none 0 0] 24)).heap.size := by simp
  simp only [World.size_alloc] at hb1 hb2
  generalize ((w.alloc (.cells #[Value.bool b0, Value.slice A0 l0 c0] 24)).alloc (.cells #[Value.bool b1, Value.slice A1 l1 c1] 24)).alloc (.cells #[Value.bool false, Value.slice none 0 0] 24) = wo at *
  obtain ⟨q0_0, q0_1, _, _, _⟩ := hb0.two
  obtain ⟨q1_0, q1_1, _, _, _⟩ := hb1.two
  obtain ⟨t0, t1, s0, s1, hgz⟩ := hb2.two
  clear hb0 hb1 hb2
  go_region_held3 (fun w' => Ext w w' ∧ w'.cell? ⟨w.heap.size, 0, none⟩ = some (Value.bool b0) ∧ w'.cell? ⟨w.heap.size, 1, none⟩ = some (Value.slice A0 l0 c0) ∧ w'.cell? ⟨w.heap.size + 1, 0, none⟩ = some (Value.bool b1) ∧ w'.cell? ⟨w.heap.size + 1, 1, none⟩ = some (Value.slice A1 l1 c1) ∧ w'.cell? ⟨w.heap.size + 1 + 1, 0, none⟩ = some (was w' (w.heap.size + 1 + 1) 0) ∧ w'.cell? ⟨w.heap.size + 1 + 1, 1, none⟩ = some (was w' (w.heap.size + 1 + 1) 1) ∧ w'.frozen? ⟨w.heap.size + 1 + 1, 0, none⟩ = false ∧ w'.frozen? ⟨w.heap.size + 1 + 1, 1, none⟩ = false)
    (first | (exact ⟨hxo.drew, q0_0, q0_1, q1_0, q1_1, was_some (w := wo.drew) t0, was_some (w := wo.drew) t1, s0, s1⟩) | (exact keptS4_2 (by assumption) (by assumption)) | (exact keptS4_2_set (by assumption) (by omega) (by omega) (by omega) (by omega) (by omega)))
    (first
      | (go_at_call 98; have hchk1 := hz0; refine (HAD.out _ _ _ (H0.out.ext (And.left (by assumption))) R0.out.arr).mono ?_; rintro e w2 ⟨r1, rfl, hi1, hx1⟩; have hz1 := hx1.size; have R0 := Lib.hid (R0.out.ext hx1); have R1 := Lib.hid hi1; obtain ⟨f1, g1, G1, j1, rfl⟩ := hi1.shape)
      | (go_at_call 103; refine (HNG.out _ _ (H1.out.ext (And.left (by assumption)))).mono ?_; rintro e w1 ⟨r0, rfl, hi0, hx0⟩; have hz0 := hx0.size; have R0 := Lib.hid hi0; obtain ⟨f0, g0, G0, j0, rfl⟩ := hi0.shape))
  all_goals go_wp2_with fail
  rename_i hS
  obtain ⟨hE, _, _, _, _, hc0, hc1, _, _⟩ := hS
  simp only [World.size_drew] at hz0
  obtain ⟨hr0, hr1⟩ := final2 hc0 hc1
  refine bodyPost_ret (v := .agg #[.bool f1, .slice G1 g1 j1]) (by simp [results, Tryz.results142, go_sem, hr0, hr1]) rfl ?_
  exact ⟨_, rfl, R1.out.put (by omega) (by omega), hE⟩
set_option maxRecDepth 100000 in
theorem rmul5_any (w : World) (v0 : Value) (x : Int) (h0 : ArrInt w v0 x) (n0 : (limbs x.natAbs).length ≤ 40000000) (v1 : Value) (y : Int) (h1 : ArrInt w v1 y) (n1 : (limbs y.natAbs).length ≤ 40000000) :
    Calls Tryz.prog 58 #[v0, v1] w fun e w' => ∃ v', e = .returned v' ∧ IsInt w.heap.size w' v' (x * y) ∧ Ext w w' := by
  have H0 := Lib.hid h0
  have H1 := Lib.hid h1
  have HM := Lib.hid (fun W m m' a b => rmul2_any W m m' (limbs x.natAbs) (limbs y.natAbs) a b (by omega) (by omega))
  rw [val_limbs, val_limbs] at HM
  have HI := Lib.hid (fun W m a => rnat_any W (decide (x < 0) != decide (y < 0)) m (limbs (x.natAbs * y.natAbs)) a (by have := length_limbs_prod n0 n1; omega))
  rw [val_limbs, sgn_mul] at HI
  obtain ⟨b0, l0, A0, c0, rfl⟩ := h0.shape
  obtain ⟨b1, l1, A1, c1, rfl⟩ := h1.shape
  have hs0 := h0.sign
  have hs1 := h1.sign
  rw [← hs0, ← hs1] at HI
  clear h0 h1 hs0 hs1
  go_enter Tryz.func58, Tryz.ntmps58
  go_wp2_with fail
  have hb0 := (((Blk.new w 24 #[Value.bool b0, Value.slice A0 l0 c0]).alloc (.cells #[Value.bool b1, Value.slice A1 l1 c1] 24)).alloc (.cells #[Value.bool false, Value.slice none 0 0] 24))
  have hb1 := ((Blk.new (w.alloc (.cells #[Value.bool b0, Value.slice A0 l0 c0] 24)) 24 #[Value.bool b1, Value.slice A1 l1 c1]).alloc (.cells #[Value.bool false, Value.slice none 0 0] 24))
  have hb2 := (Blk.new ((w.alloc (.cells #[Value.bool b0, Value.slice A0 l0 c0] 24)).alloc (.cells #[Value.bool b1, Value.slice A1 l1 c1] 24)) 24 #[Value.bool false, Value.slice none 0 0])
  have hxo := ((((Ext.refl w).alloc (.cells #[Value.bool b0, Value.slice A0 l0 c0] 24)).alloc (.cells #[Value.bool b1, Value.slice A1 l1 c1] 24)).alloc (.cells #[Value.bool false, Value.slice none 0 0] 24))
  have hszo : w.heap.size + 1 + 1 + 1 = (((w.alloc (.cells #[Value.bool b0, Value.slice A0 l0 c0] 24)).alloc (.cells #[Value.bool b1, Value.slice A1 l1 c1] 24)).alloc (.cells #[Value.bool false, Value.slice none 0 0] 24)).heap.size := by simp
  simp only [World.size_alloc] at hb1 hb2
  generalize ((w.alloc (.cells #[Value.bool b0, Value.slice A0 l0 c0] 24)).alloc (.cells #[Value.bool b1, Value.slice A1 l1 c1] 24)).alloc (.cells #[Value.bool false, Value.slice none 0 0] 24) = wo at *
  obtain ⟨q0_0, q0_1, _, _, _⟩ := hb0.two
  obtain ⟨q1_0, q1_1, _, _, _⟩ := hb1.two
  obtain ⟨t0, t1, s0, s1, hgz⟩ := hb2.two
  clear hb0 hb1 hb2
  go_region_held3 (fun w' => Ext w w' ∧ w'.cell? ⟨w.heap.size, 0, none⟩ = some (Value.bool b0) ∧ w'.cell? ⟨w.heap.size, 1, none⟩ = some (Value.slice A0 l0 c0) ∧ w'.cell? ⟨w.heap.size + 1, 0, none⟩ = some (Value.bool b1) ∧ w'.cell? ⟨w.heap.size + 1, 1, none⟩ = some (Value.slice A1 l1 c1) ∧ w'.cell? ⟨w.heap.size + 1 + 1, 0, none⟩ = some (was w' (w.heap.size + 1 + 1) 0) ∧ w'.cell? ⟨w.heap.size + 1 + 1, 1, none⟩ = some (was w' (w.heap.size + 1 + 1) 1) ∧ w'.frozen? ⟨w.heap.size + 1 + 1, 0, none⟩ = false ∧ w'.frozen? ⟨w.heap.size + 1 + 1, 1, none⟩ = false)
    (first | (exact ⟨hxo.drew, q0_0, q0_1, q1_0, q1_1, was_some (w := wo.drew) t0, was_some (w := wo.drew) t1, s0, s1⟩) | (exact keptS4_2 (by assumption) (by assumption)) | (exact keptS4_2_set (by assumption) (by omega) (by omega) (by omega) (by omega) (by omega)))
    (first
      | (go_at_call 54; have hchk1 := hz0; refine (HI.out _ _ R0.out.arr).mono ?_; rintro e w2 ⟨r1, rfl, hi1, hx1⟩; have hz1 := hx1.size; have R0 := Lib.hid (R0.out.ext hx1); have R1 := Lib.hid hi1; obtain ⟨f1, g1, G1, j1, rfl⟩ := hi1.shape)
      | (go_at_call 108; refine (HM.out _ _ _ (H0.out.mag.ext (And.left (by assumption))) (H1.out.mag.ext (And.left (by assumption)))).mono ?_; rintro e w1 ⟨r0, rfl, hi0, hx0⟩; have hz0 := hx0.size; have R0 := Lib.hid hi0; obtain ⟨g0, G0, j0, rfl⟩ := hi0.shape))
  all_goals go_wp2_with fail
  rename_i hS
  obtain ⟨hE, _, _, _, _, hc0, hc1, _, _⟩ := hS
  simp only [World.size_drew] at hz0
  obtain ⟨hr0, hr1⟩ := final2 hc0 hc1
  refine bodyPost_ret (v := .agg #[.bool f1, .slice G1 g1 j1]) (by simp [results, Tryz.results58, go_sem, hr0, hr1]) rfl ?_
  exact ⟨_, rfl, R1.out.put (by omega) (by omega), hE⟩
set_option maxRecDepth 100000 in
theorem rcmp5_any (w : World) (v0 : Value) (x : Int) (h0 : ArrInt w v0 x) (n0 : (limbs x.natAbs).length ≤ 40000000) (v1 : Value) (y : Int) (h1 : ArrInt w v1 y) (n1 : (limbs y.natAbs).length ≤ 40000000) :
    Calls Tryz.prog 97 #[v0, v1] w fun e w' => e = .returned (.int .i64 (cmpZ x y)) ∧ Ext w w' := by
  have H0 := Lib.hid h0
  have H1 := Lib.hid h1
  have HSB := Lib.hid (fun W v u a b => rsub5_any W v x a (by omega) u y b (by omega))
  have HSG := Lib.hid (fun W v a => rsign5_any W v (x + -y) a (by have := limbs_add_le (y := -y) n0 (by rw [Int.natAbs_neg]; exact n1); omega))
  rw [sgZ_sub] at HSG
  obtain ⟨b0, l0, A0, c0, rfl⟩ := h0.shape
  obtain ⟨b1, l1, A1, c1, rfl⟩ := h1.shape
  clear h0 h1
  go_enter Tryz.func97, Tryz.ntmps97
  go_wp2_with fail
  have hb0 := ((Blk.new w 24 #[Value.bool b0, Value.slice A0 l0 c0]).alloc (.cells #[Value.bool b1, Value.slice A1 l1 c1] 24))
  have hb1 := (Blk.new (w.alloc (.cells #[Value.bool b0, Value.slice A0 l0 c0] 24)) 24 #[Value.bool b1, Value.slice A1 l1 c1])
  have hxo := (((Ext.refl w).alloc (.cells #[Value.bool b0, Value.slice A0 l0 c0] 24)).alloc (.cells #[Value.bool b1, Value.slice A1 l1 c1] 24))
  have hszo : w.heap.size + 1 + 1 = ((w.alloc (.cells #[Value.bool b0, Value.slice A0 l0 c0] 24)).alloc (.cells #[Value.bool b1, Value.slice A1 l1 c1] 24)).heap.size := by simp
  simp only [World.size_alloc] at hb1
  generalize (w.alloc (.cells #[Value.bool b0, Value.slice A0 l0 c0] 24)).alloc (.cells #[Value.bool b1, Value.slice A1 l1 c1] 24) = wo at *
  have HB0 := Lib.hid hb0
  have HB1 := Lib.hid hb1
  have HX := Lib.hid hxo
  have HZ : Hid (w.heap.size + 1 + 1 ≤ wo.heap.size) := Lib.hid (by omega)
  clear hxo hszo hb0 hb1
  refine (HSB.out _ _ _ (H0.out.ext HX.out) (H1.out.ext HX.out)).mono ?_
  rintro e w1 ⟨r0, rfl, hi0, hx0⟩
  have HX := Lib.hid (HX.out.trans hx0)
  have HZ0 := Lib.hid hx0.size
  have HB0 := Lib.hid (HB0.out.ext hx0)
  have HB1 := Lib.hid (HB1.out.ext hx0)
  have R0 := Lib.hid hi0
  obtain ⟨f0, g0, G0, j0, rfl⟩ := hi0.shape
  clear hx0 hi0
  obtain ⟨u0_0_0, u0_0_1, u0_0_2, u0_0_3, u0_0_4⟩ := HB0.out.two
  obtain ⟨u0_1_0, u0_1_1, u0_1_2, u0_1_3, u0_1_4⟩ := HB1.out.two
  go_wp2_with fail
  refine (HSG.out _ _ R0.out.arr).mono ?_
  rintro e w2 ⟨rfl, hx1⟩
  have HX := Lib.hid (HX.out.trans hx1)
  have HZ1 := Lib.hid hx1.size
  have HB0 := Lib.hid (HB0.out.ext hx1)
  have HB1 := Lib.hid (HB1.out.ext hx1)
  have R0 := Lib.hid (R0.out.ext hx1)
  clear hx1
  obtain ⟨u1_0_0, u1_0_1, u1_0_2, u1_0_3, u1_0_4⟩ := HB0.out.two
  obtain ⟨u1_1_0, u1_1_1, u1_1_2, u1_1_3, u1_1_4⟩ := HB1.out.two
  go_wp2_with fail
  go_ret
  exact ⟨rfl, HX.out⟩
set_option maxRecDepth 100000 in
theorem icmp_nn (w : World) (v0 : Value) (x : Int) (h0 : ArrInt w v0 x) (n0 : (limbs x.natAbs).length ≤ 100000000) (v1 : Value) (y : Int) (h1 : ArrInt w v1 y) (n1 : (limbs y.natAbs).length ≤ 100000000) (hx : decide (x < 0) = true) (hy : decide (y < 0) = true) :
    Calls Tryz.prog 104 #[v0, v1] w fun e w' => e = .returned (.int .i64 (cmpI y.natAbs x.natAbs)) ∧ Ext w w' := by
  have H0 := Lib.hid h0
  have H1 := Lib.hid h1
  have HCM := Lib.hid (fun W m m' a b => cmp_any W m m' (limbs y.natAbs) (limbs x.natAbs) a b (by omega) (by omega))
  rw [val_limbs, val_limbs] at HCM
  obtain ⟨b0, l0, A0, c0, rfl⟩ := h0.shape
  obtain ⟨b1, l1, A1, c1, rfl⟩ := h1.shape
  have hs0 := h0.sign
  have hs1 := h1.sign
  rw [hx] at hs0
  rw [hy] at hs1
  subst hs0
  subst hs1
  clear h0 h1 hx hy
  go_enter Tryz.func104, Tryz.ntmps104
  go_wp2_with fail
  have hb0 := ((Blk.new w 24 #[Value.bool true, Value.slice A0 l0 c0]).alloc (.cells #[Value.bool true, Value.slice A1 l1 c1] 24))
  have hb1 := (Blk.new (w.alloc (.cells #[Value.bool true, Value.slice A0 l0 c0] 24)) 24 #[Value.bool true, Value.slice A1 l1 c1])
  have hxo := (((Ext.refl w).alloc (.cells #[Value.bool true, Value.slice A0 l0 c0] 24)).alloc (.cells #[Value.bool true, Value.slice A1 l1 c1] 24))
  have hszo : w.heap.size + 1 + 1 = ((w.alloc (.cells #[Value.bool true, Value.slice A0 l0 c0] 24)).alloc (.cells #[Value.bool true, Value.slice A1 l1 c1] 24)).heap.size := by simp
  simp only [World.size_alloc] at hb1
  generalize (w.alloc (.cells #[Value.bool true, Value.slice A0 l0 c0] 24)).alloc (.cells #[Value.bool true, Value.slice A1 l1 c1] 24) = wo at *
  have HB0 := Lib.hid hb0
  have HB1 := Lib.hid hb1
  have HX := Lib.hid hxo
  have HZ : Hid (w.heap.size + 1 + 1 ≤ wo.heap.size) := Lib.hid (by omega)
  clear hxo hszo hb0 hb1
  refine (HCM.out _ _ _ (H1.out.mag.ext HX.out) (H0.out.mag.ext HX.out)).mono ?_
  rintro e w1 ⟨rfl, hx0⟩
  have HX := Lib.hid (HX.out.trans hx0)
  have HZ0 := Lib.hid hx0.size
  have HB0 := Lib.hid (HB0.out.ext hx0)
  have HB1 := Lib.hid (HB1.out.ext hx0)
  clear hx0
  obtain ⟨u0_0_0, u0_0_1, u0_0_2, u0_0_3, u0_0_4⟩ := HB0.out.two
  obtain ⟨u0_1_0, u0_1_1, u0_1_2, u0_1_3, u0_1_4⟩ := HB1.out.two
  go_wp2_with fail
  go_ret
  exact ⟨rfl, HX.out⟩
set_option maxRecDepth 100000 in
theorem icmp_np (w : World) (v0 : Value) (x : Int) (h0 : ArrInt w v0 x) (_n0 : (limbs x.natAbs).length ≤ 100000000) (v1 : Value) (y : Int) (h1 : ArrInt w v1 y) (_n1 : (limbs y.natAbs).length ≤ 100000000) (hx : decide (x < 0) = true) (hy : decide (y < 0) = false) :
    Calls Tryz.prog 104 #[v0, v1] w fun e w' => e = .returned (.int .i64 (-1)) ∧ Ext w w' := by
  have H0 := Lib.hid h0
  have H1 := Lib.hid h1
  obtain ⟨b0, l0, A0, c0, rfl⟩ := h0.shape
  obtain ⟨b1, l1, A1, c1, rfl⟩ := h1.shape
  have hs0 := h0.sign
  have hs1 := h1.sign
  rw [hx] at hs0
  rw [hy] at hs1
  subst hs0
  subst hs1
  clear h0 h1 hx hy
  go_enter Tryz.func104, Tryz.ntmps104
  go_wp2_with fail
  go_ret
  exact ⟨rfl, ((Ext.refl w).alloc _).alloc _⟩
set_option maxRecDepth 100000 in
theorem icmp_pn (w : World) (v0 : Value) (x : Int) (h0 : ArrInt w v0 x) (_n0 : (limbs x.natAbs).length ≤ 100000000) (v1 : Value) (y : Int) (h1 : ArrInt w v1 y) (_n1 : (limbs y.natAbs).length ≤ 100000000) (hx : decide (x < 0) = false) (hy : decide (y < 0) = true) :
    Calls Tryz.prog 104 #[v0, v1] w fun e w' => e = .returned (.int .i64 (1)) ∧ Ext w w' := by
  have H0 := Lib.hid h0
  have H1 := Lib.hid h1
  obtain ⟨b0, l0, A0, c0, rfl⟩ := h0.shape
  obtain ⟨b1, l1, A1, c1, rfl⟩ := h1.shape
  have hs0 := h0.sign
  have hs1 := h1.sign
  rw [hx] at hs0
  rw [hy] at hs1
  subst hs0
  subst hs1
  clear h0 h1 hx hy
  go_enter Tryz.func104, Tryz.ntmps104
  go_wp2_with fail
  go_ret
  exact ⟨rfl, ((Ext.refl w).alloc _).alloc _⟩
set_option maxRecDepth 100000 in
theorem icmp_pp (w : World) (v0 : Value) (x : Int) (h0 : ArrInt w v0 x) (n0 : (limbs x.natAbs).length ≤ 100000000) (v1 : Value) (y : Int) (h1 : ArrInt w v1 y) (n1 : (limbs y.natAbs).length ≤ 100000000) (hx : decide (x < 0) = false) (hy : decide (y < 0) = false) :
    Calls Tryz.prog 104 #[v0, v1] w fun e w' => e = .returned (.int .i64 (cmpI x.natAbs y.natAbs)) ∧ Ext w w' := by
  have H0 := Lib.hid h0
  have H1 := Lib.hid h1
  have HCM := Lib.hid (fun W m m' a b => cmp_any W m m' (limbs x.natAbs) (limbs y.natAbs) a b (by omega) (by omega))
  rw [val_limbs, val_limbs] at HCM
  obtain ⟨b0, l0, A0, c0, rfl⟩ := h0.shape
  obtain ⟨b1, l1, A1, c1, rfl⟩ := h1.shape
  have hs0 := h0.sign
  have hs1 := h1.sign
  rw [hx] at hs0
  rw [hy] at hs1
  subst hs0
  subst hs1
  clear h0 h1 hx hy
  go_enter Tryz.func104, Tryz.ntmps104
  go_wp2_with fail
  have hb0 := ((Blk.new w 24 #[Value.bool false, Value.slice A0 l0 c0]).alloc (.cells #[Value.bool false, Value.slice A1 l1 c1] 24))
  have hb1 := (Blk.new (w.alloc (.cells #[Value.bool false, Value.slice A0 l0 c0] 24)) 24 #[Value.bool false, Value.slice A1 l1 c1])
  have hxo := (((Ext.refl w).alloc (.cells #[Value.bool false, Value.slice A0 l0 c0] 24)).alloc (.cells #[Value.bool false, Value.slice A1 l1 c1] 24))
  have hszo : w.heap.size + 1 + 1 = ((w.alloc (.cells #[Value.bool false, Value.slice A0 l0 c0] 24)).alloc (.cells #[Value.bool false, Value.slice A1 l1 c1] 24)).heap.size := by simp
  simp only [World.size_alloc] at hb1
  generalize (w.alloc (.cells #[Value.bool false, Value.slice A0 l0 c0] 24)).alloc (.cells #[Value.bool false, Value.slice A1 l1 c1] 24) = wo at *
  have HB0 := Lib.hid hb0
  have HB1 := Lib.hid hb1
  have HX := Lib.hid hxo
  have HZ : Hid (w.heap.size + 1 + 1 ≤ wo.heap.size) := Lib.hid (by omega)
  clear hxo hszo hb0 hb1
  refine (HCM.out _ _ _ (H0.out.mag.ext HX.out) (H1.out.mag.ext HX.out)).mono ?_
  rintro e w1 ⟨rfl, hx0⟩
  have HX := Lib.hid (HX.out.trans hx0)
  have HZ0 := Lib.hid hx0.size
  have HB0 := Lib.hid (HB0.out.ext hx0)
  have HB1 := Lib.hid (HB1.out.ext hx0)
  clear hx0
  obtain ⟨u0_0_0, u0_0_1, u0_0_2, u0_0_3, u0_0_4⟩ := HB0.out.two
  obtain ⟨u0_1_0, u0_1_1, u0_1_2, u0_1_3, u0_1_4⟩ := HB1.out.two
  go_wp2_with fail
  go_ret
  exact ⟨rfl, HX.out⟩
theorem icmp_any (w : World) (v u : Value) (x y : Int) (h : ArrInt w v x) (h' : ArrInt w u y) (hn : (limbs x.natAbs).length ≤ 100000000) (hn' : (limbs y.natAbs).length ≤ 100000000) :
    Calls Tryz.prog 104 #[v, u] w fun e w' => e = .returned (.int .i64 (cmpZ x y)) ∧ Ext w w' := by
  by_cases hx : x < 0 <;> by_cases hy : y < 0
  · rw [show cmpZ x y = cmpI y.natAbs x.natAbs by unfold cmpZ cmpI; split <;> split <;> (try split) <;> (try split) <;> omega]
    exact icmp_nn w v x h hn u y h' hn' (decide_eq_true hx) (decide_eq_true hy)
  · rw [show cmpZ x y = -1 by unfold cmpZ; rw [if_pos (by omega)]]
    exact icmp_np w v x h hn u y h' hn' (decide_eq_true hx) (decide_eq_false hy)
  · rw [show cmpZ x y = 1 by unfold cmpZ; rw [if_neg (by omega), if_pos (by omega)]]
    exact icmp_pn w v x h hn u y h' hn' (decide_eq_false hx) (decide_eq_true hy)
  · rw [show cmpZ x y = cmpI x.natAbs y.natAbs by unfold cmpZ cmpI; split <;> split <;> (try split) <;> (try split) <;> omega]
    exact icmp_pp w v x h hn u y h' hn' (decide_eq_false hx) (decide_eq_false hy)
end Big
end Go.Proofs.YtplmldkfgeiklaaGreatDoor
namespace Go.Proofs.YtplmldkfgeiklaaGreatDoor
namespace Big
open Go.RowKit

theorem fits_any (w : World) (v u : Value) (xs ys : List Nat) (h : Arr w v xs) (h' : Arr w u ys) (hn : xs.length ≤ 268435456) (hn' : ys.length ≤ 268435456) (hlt : val xs < val ys * 4294967296) :
    Calls Tryz.prog 164 #[v, u] w fun e w' => e = .returned (.int .u32 ((val xs / val ys : Nat) : Int)) ∧ Ext w w' := by
  have HA := Lib.hid h
  have HB := Lib.hid h'
  have HLT := Lib.hid hlt
  have hok := h.ok
  have hok' := h'.ok
  clear h h' hlt
  go_enter Tryz.func164, Tryz.ntmps164
  go_wp2_with fail
  go_loopw [5, 6] (fun lo hi wr => ∃ l k : Nat, l ≤ k ∧ k ≤ 4294967295 ∧ lo = .int .u64 l ∧ hi = .int .u64 k ∧ val ys * l ≤ val xs ∧ val xs < val ys * (k + 1) ∧ Ext w wr) (fun lo hi _ => (intOf hi - intOf lo).toNat)
  case atStart => exact ⟨0, 4294967295, by omega, by omega, rfl, rfl, by omega, HLT.out, Ext.refl w⟩
  case round =>
    obtain ⟨l, k, hlk, hk, rfl, rfl, h1, h2, hext⟩ := hrel
    have H1 := Lib.hid h1; clear h1
    have H2 := Lib.hid h2; clear h2
    by_cases hlt : l < k
    · obtain ⟨m, hm⟩ : ∃ m, (l + k + 1) / 2 = m := ⟨_, rfl⟩
      have hm1 : l < m := by omega
      have hm2 : m ≤ k := by omega
      have hm3 : m < 4294967296 := by omega
      have HM := Lib.hid (show ((l : Int) + (k : Int) + 1) / 2 = (m : Int) by omega)
      have hM := HM.out
      clear hm
      have HS := Lib.hid (rsmall_any wr u ys m 0 (HB.out.ext hext) (by omega) hm3 (by omega))
      have hlen := length_limbs_mul hok' hm3 (show 0 < 4294967296 by omega)
      have HLEN := Lib.hid (show (limbs (val ys * m + 0)).length ≤ 1073741824 by omega)
      clear hlen
      rw [show ((0 : Nat) : Int) = 0 from rfl] at HS
      go_wp2_with fail
      refine HS.out.mono ?_
      rintro e w1 ⟨v1, rfl, ho, hx1⟩
      go_wp2_with fail
      have HCM := rcmp_any w1 v1 v _ xs ho.arr (HA.out.ext (hext.trans hx1)) HLEN.out (by omega)
      rw [val_limbs, Nat.add_zero] at HCM
      by_cases hc : val ys * m ≤ val xs
      · have hcm : cmpI (val ys * m) (val xs) ≤ 0 := by unfold cmpI; split <;> (try split) <;> omega
        have HC := Lib.hid hc; clear hc
        have HCM := Lib.hid HCM
        generalize cmpI (val ys * m) (val xs) = cc at HCM hcm
        refine HCM.out.mono ?_
        rintro e w2 ⟨rfl, rfl⟩
        go_wp2_with fail
        go_roundw
        case rel => exact ⟨m, k, hm2, hk, by first | rfl | exact congrArg (Value.int .u64) HM.out, rfl, HC.out, H2.out, hext.trans hx1⟩
        case measure => simp [intOf]; have := HM.out; omega
      · have hcm : ¬ cmpI (val ys * m) (val xs) ≤ 0 := by unfold cmpI; split <;> (try split) <;> omega
        have hc2 : val xs < val ys * (m - 1 + 1) := by rw [Nat.sub_add_cancel (by omega)]; omega
        have HC := Lib.hid hc2; clear hc hc2
        have HCM := Lib.hid HCM
        generalize cmpI (val ys * m) (val xs) = cc at HCM hcm
        refine HCM.out.mono ?_
        rintro e w2 ⟨rfl, rfl⟩
        go_wp2_with fail
        go_roundw
        case rel => exact ⟨l, m - 1, by omega, by omega, rfl, congrArg (Value.int .u64) (by have := HM.out; omega), H1.out, HC.out, hext.trans hx1⟩
        case measure => simp [intOf]; have := HM.out; omega
    · obtain rfl : k = l := by omega
      have he := bisect_end H1.out H2.out
      have HE := Lib.hid he; clear he
      go_wp2_with fail
      go_ret
      exact ⟨congrArg (fun z : Nat => Ending.returned (.int .u32 (z : Int))) HE.out, hext⟩
end Big
end Go.Proofs.YtplmldkfgeiklaaGreatDoor
