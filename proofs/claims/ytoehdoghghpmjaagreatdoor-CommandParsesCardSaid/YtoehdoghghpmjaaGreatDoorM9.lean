import Derived.Test.YtoehdoghghpmjaaGreatDoorM8
import Derived.Test.YtoehdoghghpmjaaGreatDoorM2
import Derived.Test.YtoehdoghghpmjaaGreatDoorM7
import Derived.Test.YtoehdoghghpmjaaGreatDoorM4
import Derived.Test.YtoehdoghghpmjaaGreatDoorShelf
import Derived.Deep.RegionHeld3
/- nat.Shr. -/
namespace Go.Proofs.YtoehdoghghpmjaaGreatDoor
namespace Big
open Go.RowKit
/-- What nat.Shr holds after k digits. -/
def ShrAt (w0 wr : World) (N M k : Nat) (zs : List Nat) : Prop :=
  zs.length = k ∧ Ok zs ∧ val zs = N % 4294967296 ^ k ∧ Blk wr w0.heap.size 97 (cells (zs ++ List.replicate (M - k) 0)) ∧ Ext w0 wr
theorem ShrAt.step {w0 wr : World} {xs zs : List Nat} {d s M N k y : Nat} (h : ShrAt w0 wr N M k zs) (hk : k < M) (hs : s ≤ 31) (hok : Ok xs) (hN : N = val (xs.drop d) / 2 ^ s) (hy : y = xs.getD (k + d) 0 + 4294967296 * xs.getD (k + d + 1) 0) :
    ShrAt w0 (wr.setCell ⟨w0.heap.size, k, none⟩ (d32 (y / 2 ^ s % 4294967296))) N M (k + 1) (zs ++ [y / 2 ^ s % 4294967296]) := by
  obtain ⟨hl, hoz, hv, hb, he⟩ := h
  have h0 := shr_step (hok.drop d) hN hs hl hv
  rw [getD_drop, getD_drop, show d + k = k + d by omega, show d + (k + 1) = k + d + 1 by omega, ← hy] at h0
  refine ⟨by simp [hl], hoz.snoc (Nat.mod_lt _ (by omega)), h0, ?_, he.setCell (Nat.le_refl _) _⟩
  have h1 := hb.set_ k (d32 (y / 2 ^ s % 4294967296))
  rw [set_cells, show M - k = (M - (k + 1)) + 1 by omega] at h1
  have h2 := set_front zs (M - (k + 1)) (y / 2 ^ s % 4294967296)
  rw [hl] at h2
  rwa [h2] at h1

end Big
end Go.Proofs.YtoehdoghghpmjaaGreatDoor
namespace Go.Proofs.YtoehdoghghpmjaaGreatDoor
namespace Big
open Go.RowKit

theorem rsmall_any (w : World) (v : Value) (xs : List Nat) (m c : Nat) (h : Arr w v xs) (hn : xs.length ≤ 536870912) (hm : m < 4294967296) (hc : c < 4294967296) :
    Calls Tryz.prog 78 #[v, .int .u32 (m : Int), .int .u32 (c : Int)] w fun e w' => ∃ v', e = .returned v' ∧ Own w.heap.size w' v' (limbs (val xs * m + c)) ∧ Ext w w' := by
  have HA := Lib.hid h
  obtain ⟨hok, A, cap, rfl, hcap, hmx, hcell⟩ := h.open
  have HC := Lib.hid hcell
  clear h hcell hmx hcap
  go_enter Tryz.func78, Tryz.ntmps78
  go_wp2_with fail
  go_loopw [7, 8, 15] (fun out cy i wr => ∃ (k q : Nat) (ys : List Nat), k ≤ xs.length ∧ q < 4294967296 ∧ i = .int .i64 k ∧ cy = .int .u64 q ∧ ys.length = k ∧
      val ys + 4294967296 ^ k * q = val (xs.take k) * m + c ∧ Own w.heap.size wr out ys ∧ Ext w wr) (fun _ _ i _ => xs.length - (intOf i).toNat)
  case atStart => exact ⟨0, c, [], Nat.zero_le _, hc, rfl, rfl, rfl, by simp [val], Own.none_ _ _, Ext.refl w⟩
  case round =>
    obtain ⟨k, q, ys, hk, hq, rfl, rfl, hl, hv, hown, hext⟩ := hrel
    have HV := Lib.hid hv; clear hv
    have HL := Lib.hid hl; clear hl
    have hwr := hext.size
    by_cases hlt : k < xs.length
    · obtain ⟨b, o, rfl, hb, hcell⟩ := HC.out (by omega)
      have hx := (hext.cell hb).trans (hcell k hlt)
      clear hcell
      have hxm := hok.get k
      have HS := Lib.hid (small_step xs ys k m c q hlt HL.out HV.out)
      have hp := prod_le hxm hm
      obtain ⟨x, hxe⟩ : ∃ x, xs.getD k 0 = x := ⟨_, rfl⟩
      rw [hxe] at hx hxm hp HS
      clear hxe
      have hp' : (x : Int) * (m : Int) ≤ 18446744065119617025 := by rw [← Int.natCast_mul]; omega
      have hp0 : 0 ≤ (x : Int) * (m : Int) := by rw [← Int.natCast_mul]; omega
      have hy : (q + x * m) % 4294967296 < 4294967296 := Nat.mod_lt _ (by omega)
      have HY := Lib.hid hy; clear hy
      have HLIM := Lib.hid (show ys.length + [(q + x * m) % 4294967296].length ≤ 2147483648 by simp [HL.out]; omega)
      simp only [d32] at hx
      go_wp2_with (at_builtin; go_must (refine wpList_append32 rfl _ _ rfl rfl (hown.ext ((Ext.refl _).alloc _)) rfl (Arr.fresh1 _ ((q + x * m) % 4294967296) HY.out) HLIM.out (by simp; omega) ?_; intro v' w' hown' hgr hb))
      go_roundw
      case rel =>
        refine ⟨k + 1, (q + x * m) / 4294967296, _, by omega, Nat.div_lt_of_lt_mul (by omega), by go_num, by go_num, by simp [HL.out], HS.out, hown', (hext.alloc _).more hb⟩
      case measure => simp [intOf]; omega
    · obtain rfl : k = xs.length := by omega
      have HLIM := Lib.hid (show ys.length + [q].length ≤ 2147483648 by simp [HL.out]; omega)
      have hval : val (ys ++ [q]) = val xs * m + c := by
        rw [val_snoc, HL.out, HV.out, List.take_of_length_le (Nat.le_refl _)]
      have HVL := Lib.hid hval
      clear hval
      go_wp2_with (at_builtin; go_must (refine wpList_append32 rfl _ _ rfl rfl (hown.ext ((Ext.refl _).alloc _)) rfl (Arr.fresh1 _ q hq) HLIM.out (by simp; omega) ?_; intro v' w' hown' hgr hb))
      have HT := Lib.hid (rtrim_any _ _ _ hown'.arr (by simp [HL.out]; omega))
      rw [HVL.out] at HT
      refine HT.out.mono ?_
      rintro e w2 ⟨v2, rfl, ho, hx⟩
      go_wp2_with fail
      go_ret
      have he : Ext w w' := (hext.alloc _).more hb
      exact ⟨_, rfl, ho.mono he.size, he.trans hx⟩

theorem rof_any (w : World) (n : Nat) (h : n < 18446744073709551616) :
    Calls Tryz.prog 44 #[.int .u64 (n : Int)] w fun e w' => ∃ v', e = .returned v' ∧ Own w.heap.size w' v' (limbs n) ∧ Ext w w' := by
  have HN := Lib.hid h; clear h
  go_enter Tryz.func44, Tryz.ntmps44
  go_wp2_with fail
  have h1 : n % 4294967296 < 4294967296 := by omega
  have h2 : n / 4294967296 < 4294967296 := by have := HN.out; omega
  have HT := rtrim_any _ _ _ (Own.fresh2 w (n % 4294967296) (n / 4294967296) h1 h2).arr (by simp)
  have hv : val [n % 4294967296, n / 4294967296] = n := by simp [val]; omega
  rw [hv] at HT
  have e1 : Value.int .u32 ((n : Int) % 4294967296) = d32 (n % 4294967296) := rfl
  have e2 : Value.int .u32 ((n : Int) / 4294967296 % 4294967296) = d32 (n / 4294967296) := congrArg (Value.int .u32) (by have := HN.out; omega)
  rw [e1, e2]
  clear e1 e2 hv
  refine HT.mono ?_
  rintro e w2 ⟨v2, rfl, ho, hx⟩
  go_wp2_with fail
  go_ret
  have he : Ext w (w.alloc (.cells #[d32 (n % 4294967296), d32 (n / 4294967296)] 97)) := (Ext.refl w).alloc _
  exact ⟨_, rfl, ho.mono he.size, he.trans hx⟩

end Big
end Go.Proofs.YtoehdoghghpmjaaGreatDoor
namespace Go.Proofs.YtoehdoghghpmjaaGreatDoor
namespace Big
open Go.RowKit

/-- What quotient.Small holds with the digits below k still to come. -/
def QuoAt (w0 wr : World) (xs : List Nat) (d k r : Nat) : Prop :=
  ∃ qs : List Nat, k + qs.length = xs.length ∧ Ok qs ∧ val qs * d + r = val (xs.drop k) ∧
    Blk wr w0.heap.size 97 (cells (List.replicate k 0 ++ qs)) ∧ Ext w0 wr

theorem QuoAt.step {w0 wr : World} {xs qs : List Nat} {d k r y : Nat} (hl : k + 1 + qs.length = xs.length) (hok : Ok qs) (hy : y < 4294967296)
    (hv : val (y :: qs) * d + r = val (xs.drop k))
    (hb : Blk wr w0.heap.size 97 (cells (List.replicate (k + 1) 0 ++ qs))) (he : Ext w0 wr) :
    QuoAt w0 (wr.setCell ⟨w0.heap.size, k, none⟩ (d32 y)) xs d k r := by
  refine ⟨y :: qs, by simp; omega, ok_cons hy hok, hv, ?_, he.setCell (Nat.le_refl _) _⟩
  have h1 := hb.set_ k (d32 y)
  rw [set_cells, set_back] at h1
  exact h1

end Big
end Go.Proofs.YtoehdoghghpmjaaGreatDoor
/- quotient.DivMod. -/
namespace Go.Proofs.YtoehdoghghpmjaaGreatDoor
namespace Big
open Go.RowKit
theorem limbs_ge {n : Nat} (h : n ≠ 0) : 4294967296 ^ ((limbs n).length - 1) ≤ n := by
  induction n using Nat.strongRecOn with
  | _ n ih =>
    rw [limbs_pos n h, List.length_cons, Nat.add_sub_cancel]
    by_cases h0 : n / 4294967296 = 0
    · rw [h0, limbs_zero]
      simp
      omega
    · have h1 := ih (n / 4294967296) (by omega) h0
      obtain ⟨m, hm⟩ : ∃ m, (limbs (n / 4294967296)).length = m + 1 := by
        rw [limbs_pos _ h0, List.length_cons]
        exact ⟨_, rfl⟩
      rw [hm] at h1 ⊢
      rw [Nat.add_sub_cancel] at h1
      rw [Nat.pow_succ]
      have := Nat.mul_le_mul_right 4294967296 h1
      omega
theorem limbs_top {n : Nat} (h : n ≠ 0) : 1 ≤ (limbs n).getD ((limbs n).length - 1) 0 := by
  rcases Nat.eq_zero_or_pos ((limbs n).getD ((limbs n).length - 1) 0) with h0 | h0
  · exfalso
    have hl : 0 < (limbs n).length := by
      rw [limbs_pos n h, List.length_cons]; omega
    have h1 := val_take' (limbs n) ((limbs n).length - 1)
    rw [Nat.sub_add_cancel hl, List.take_of_length_le (Nat.le_refl _), val_limbs, h0, Nat.mul_zero, Nat.add_zero] at h1
    have h2 := val_take_lt (ok_limbs n) ((limbs n).length - 1)
    have h3 := limbs_ge h
    omega
  · exact h0

theorem limbs_shl (X : Nat) {s : Nat} (hs : s ≤ 32) : (limbs (X * 2 ^ s)).length ≤ (limbs X).length + 1 := by
  refine length_limbs_le ?_
  have h1 := val_lt (ok_limbs X)
  rw [val_limbs] at h1
  have h2 : 2 ^ s ≤ 4294967296 := Nat.le_trans (Nat.pow_le_pow_right (by omega) hs) (by decide)
  rw [Nat.pow_succ]
  exact Nat.lt_of_lt_of_le (Nat.mul_lt_mul_of_pos_right h1 (Nat.pow_pos (by omega))) (Nat.mul_le_mul_left _ h2)
/-- What quotient.DivMod promises. -/
def DivPost (A V : Nat) (w : World) (e : Ending) (w' : World) : Prop :=
  ∃ v' u', e = .returned (.tuple #[v', u', .bool true]) ∧ Own w.heap.size w' v' (limbs (A / V)) ∧ Own w.heap.size w' u' (limbs (A % V)) ∧ Ext w w'

/-- The block of a slice of the call's own. -/
theorem Own.blockR {B : Nat} {w : World} {v : Value} {xs : List Nat} (h : Own B w v xs) (hp : 0 < xs.length) : ∃ g c RX, v = .slice (some ⟨g, 0, none⟩) xs.length c ∧ B ≤ g ∧ xs.length ≤ c ∧ c ≤ maxLen ∧ Blk w g 97 (cells xs ++ RX) ∧ xs.length + RX.size = c := by
  obtain ⟨hok, A, c, rfl, h2, h3, h4⟩ := h
  rw [List.length_map] at h2 h4
  rcases h4 with ⟨h5, _⟩ | ⟨g, cur, rfl, hg, hblk, hs, ht⟩
  · rw [List.map_eq_nil_iff] at h5
    subst h5
    simp at hp
  · refine ⟨g, c, (cur.toList.drop xs.length).toArray, by rw [List.length_map], hg, h2, h3, ?_, by simp; omega⟩
    have e : cells xs ++ (cur.toList.drop xs.length).toArray = cur := by
      apply Array.ext'
      unfold cells
      rw [Array.toList_append]
      show xs.map d32 ++ cur.toList.drop xs.length = cur.toList
      rw [← ht, List.take_append_drop]
    rw [e]
    exact hblk
theorem blkR_arr {w : World} {g c : Nat} {us : List Nat} {RX : Array Value} (h : Blk w g 97 (cells us ++ RX)) (hok : Ok us) (hc : us.length ≤ c) (hm : c ≤ maxLen) : Arr w (.slice (some ⟨g, 0, none⟩) us.length c) us :=
  Arr.mk hok hc hm fun _ => ⟨g, 0, rfl, h.lt, fun j hj => by rw [h.cell, Nat.zero_add, get_cellsR _ _ _ hj]⟩
theorem Arr.put {w : World} {v : Value} {xs : List Nat} {g : Nat} (h : Arr w v xs) (hne : ∀ b o n c, v = .slice (some ⟨b, o, none⟩) n c → b ≠ g) (i : Nat) (u : Value) : Arr (w.setCell ⟨g, i, none⟩ u) v xs :=
  h.kept (grown_set ((Dr.refl w).grown (some g)) i u) hne
theorem Arr.low {w : World} {v : Value} {xs : List Nat} {g : Nat} (h : Arr w v xs) (hp : 0 < xs.length) (hg : w.heap.size ≤ g) : ∀ b o n c, v = .slice (some ⟨b, o, none⟩) n c → b ≠ g := by
  obtain ⟨_, A, c, rfl, _, _, hcell⟩ := h.open
  obtain ⟨b, o, rfl, hb, _⟩ := hcell hp
  intro b' o' n' c' he
  injection he with h1 _ _
  injection h1 with h1
  injection h1 with h1 _ _
  omega
/-- What the loop of quotient.DivMod holds with the digits below K still to come. -/
def DivLoop (w wr : World) (u0 us qs : List Nat) (V gu gq K : Nat) (RX : Array Value) (v : Value) : Prop :=
  LongAt u0 us qs V K ∧ Ok qs ∧ Blk wr gq 97 (cells (List.replicate K 0 ++ qs)) ∧ Blk wr gu 97 (cells us ++ RX) ∧ Arr wr v (limbs V) ∧ Ext w wr

end Big
end Go.Proofs.YtoehdoghghpmjaaGreatDoor
