import Derived.Test.YtelgknpdiaafaaaGreatDoorM3
import Derived.RegionTactic
import Derived.ChangeAlike
import Derived.Test.YtelgknpdiaafaaaGreatDoorM8
import Derived.Test.YtelgknpdiaafaaaGreatDoorM1
import Derived.Test.YtelgknpdiaafaaaGreatDoorM15
import Derived.Test.YtelgknpdiaafaaaGreatDoorM4
import Derived.Test.YtelgknpdiaafaaaGreatDoorM19
namespace Go.Proofs.YtelgknpdiaafaaaGreatDoor
namespace Big
open Go.RowKit

/-- What slices.Reverse holds after k exchanges. -/
def RevAt (w0 wr : World) (B g : Nat) (bs : List UInt8) (c k : Nat) : Prop :=
  ∃ cur : Array Value, Blk wr g 5 cur ∧ cur.size = c ∧ Below B w0 wr ∧
    (∀ p, p < bs.length → cur[p]? = some (d8 (if p < k ∨ bs.length - k ≤ p then bs.getD (bs.length - 1 - p) 0 else bs.getD p 0)))

theorem RevAt.step {w0 wr : World} {B g : Nat} {bs : List UInt8} {c k : Nat} (h : RevAt w0 wr B g bs c k) (hB : B ≤ g) (hc : bs.length ≤ c) (hk : k < bs.length - 1 - k) :
    RevAt w0 (((wr.setCell ⟨g, k, none⟩ (d8 (bs.getD (bs.length - 1 - k) 0))).setCell ⟨g, bs.length - 1 - k, none⟩ (d8 (bs.getD k 0)))).drew B g bs c (k + 1) := by
  obtain ⟨cur, h1, h2, h3, h4⟩ := h
  refine ⟨_, ((h1.set_ k _).set_ (bs.length - 1 - k) _).drew, by simp [h2], ((h3.setCell hB _).setCell hB _).drew, fun p hp => ?_⟩
  rw [Array.getElem?_setIfInBounds, Array.getElem?_setIfInBounds]
  by_cases e1 : bs.length - 1 - k = p
  · subst e1
    rw [if_pos rfl, if_pos (by simp; omega)]
    rw [if_pos (by omega)]
    congr 3
    omega
  · rw [if_neg e1]
    by_cases e2 : k = p
    · subst e2
      rw [if_pos rfl, if_pos (by omega), if_pos (by omega)]
    · rw [if_neg e2, h4 p hp]
      by_cases e3 : p < k ∨ bs.length - k ≤ p
      · rw [if_pos e3, if_pos (by omega)]
      · rw [if_neg e3, if_neg (by omega)]

end Big
end Go.Proofs.YtelgknpdiaafaaaGreatDoor
namespace Go.Proofs.YtelgknpdiaafaaaGreatDoor
namespace Big
open Go.RowKit

theorem low_split_len {l a b : List UInt8} {n : Nat} (h : l = a ++ b) (hn : l.length ≤ n) : a.length ≤ n := by
  rw [h, List.length_append] at hn; omega
theorem d8_ofNat (r : Nat) : (((48 + (r : Int) % 10 % 256) % 256 : Int)) = ((UInt8.ofNat (48 + r % 10)).toNat : Int) := by
  rw [UInt8.toNat_ofNat']; omega

/-- What decimal.Digits holds in a group, with k digits of it taken. -/
def DigAt (w0 wr : World) (out : Value) (N q k r : Nat) : Prop :=
  ∃ bs : List UInt8, Own8 w0.heap.size wr out bs ∧ low N = bs ++ low (q * 10 ^ (9 - k) + r) ∧ r < 10 ^ (9 - k) ∧ Ext w0 wr

theorem DigAt.step {w0 wr' : World} {out' : Value} {N q k r : Nat} {bs : List UInt8} (hl : low N = bs ++ low (q * 10 ^ (9 - k) + r)) (hr : r < 10 ^ (9 - k)) (hk : k < 9) (h0 : q ≠ 0 ∨ r ≠ 0)
    (ho : Own8 w0.heap.size wr' out' (bs ++ [UInt8.ofNat (48 + r % 10)])) (he : Ext w0 wr') : DigAt w0 wr' out' N q (k + 1) (r / 10) := by
  obtain ⟨h1, h2⟩ := low_group q r k hk hr h0
  exact ⟨_, ho, by rw [hl, h1, List.append_assoc]; rfl, h2, he⟩
theorem DigAt.done {w0 wr : World} {out : Value} {N q k r : Nat} (h : DigAt w0 wr out N q k r) (hk : k = 9 ∨ q = 0 ∧ r = 0) : ∃ bs, Own8 w0.heap.size wr out bs ∧ low N = bs ++ low q ∧ Ext w0 wr := by
  obtain ⟨bs, h1, h2, h3, h4⟩ := h
  refine ⟨bs, h1, ?_, h4⟩
  rcases hk with rfl | ⟨rfl, rfl⟩
  · rw [h2, group_end q r h3]
  · rw [h2, Nat.zero_mul]

end Big
end Go.Proofs.YtelgknpdiaafaaaGreatDoor
namespace Go.Proofs.YtelgknpdiaafaaaGreatDoor
namespace Big
open Go.RowKit

theorem rdigits_any (w : World) (v : Value) (N : Nat) (h : Arr w v (limbs N)) (hn : (limbs N).length ≤ 67108864) :
    Calls Tryz.prog 64 #[v] w fun e w' => e = .returned (str (dec N)) ∧ Ext w w' := by
  have HLEN := Lib.hid (fun m (hm : m ≤ N) => length_limbs_lt (ok_limbs N) (n := m) (by rw [val_limbs]; exact hm))
  have HN := Lib.hid hn
  have HA := Lib.hid h
  have HLN := Lib.hid (show (low N).length ≤ 1073741823 by
    have := length_low_val (ok_limbs N)
    rw [val_limbs] at this
    omega)
  clear h
  go_enter Tryz.func64, Tryz.ntmps64
  go_wp2_with fail
  go_loopg [0, 3] N (fun g a s wr => ∃ t : List UInt8, g ≤ N ∧ Arr wr a (limbs g) ∧ s = str t ∧ (low N).reverse = (low g).reverse ++ t ∧ Ext w wr)
  case atStart => exact ⟨[], Nat.le_refl _, HA.out, rfl, by simp, Ext.refl _⟩
  case round =>
    obtain ⟨t, hg, har, rfl, hlow, hext⟩ := hrel
    have HLOW := Lib.hid hlow; clear hlow
    have HAR := Lib.hid har
    obtain ⟨_, A, c, rfl, hc, hm, _⟩ := har.open
    have HM := Lib.hid hm; clear hm
    rcases Nat.eq_zero_or_pos gk with h0 | h0
    · subst h0
      clear hc har
      simp only [limbs_zero, List.length_nil, low_zero, List.reverse_nil, List.nil_append] at HLOW ⊢
      rcases t with _ | ⟨b, t⟩
      · have HD := Lib.hid (show dec N = [48] by rw [low_nil (List.reverse_eq_nil_iff.1 HLOW.out)]; rfl)
        simp only [str]
        go_wp2_with fail
        go_ret
        exact ⟨congrArg (fun l => Ending.returned (str l)) HD.out.symm, hext⟩
      · have HD := Lib.hid (show dec N = b :: t by rw [dec_pos N (by rintro rfl; simp [low_zero] at HLOW; exact absurd HLOW.out (by simp)), HLOW.out])
        simp only [str]
        go_wp2_with fail
        go_ret
        exact ⟨congrArg (fun l => Ending.returned (str l)) HD.out.symm, hext⟩
    · have hlp : 0 < (limbs gk).length := by rw [limbs_pos gk (by omega)]; simp
      have hll := Nat.le_trans (HLEN.out gk hg) HN.out
      clear har hc
      go_wp2_with fail
      have HOF := rof_any wr 10 (by omega)
      rw [show ((10 : Nat) : Int) = 10 from rfl] at HOF
      refine HOF.mono ?_
      rintro e w1 ⟨v1, rfl, ho1, hx1⟩
      go_wp2_with fail
      have HD := rdivmod_any w1 _ v1 (limbs gk) (limbs 10) (HAR.out.ext hx1) ho1.arr (by omega) (by decide) (by rw [val_limbs]; omega)
      rw [val_limbs, val_limbs] at HD
      refine HD.mono ?_
      rintro e w2 ⟨v2, v3, rfl, ho2, har3, hx2⟩
      have HA2 := Lib.hid ho2.arr
      clear ho2 ho1
      have hr10 := Nat.mod_lt gk (show 0 < 10 by omega)
      have hq10 : gk / 10 < gk := by omega
      have HAH := Lib.hid (low_ahead gk (by omega) t)
      obtain ⟨q, hq⟩ : ∃ q, gk / 10 = q := ⟨_, rfl⟩
      obtain ⟨r, hr⟩ : ∃ r, gk % 10 = r := ⟨_, rfl⟩
      rw [hq] at HA2 hq10 HAH
      rw [hr] at har3 hr10 HAH
      clear hq hr
      have HAR3 := Lib.hid har3
      have htl : t.length ≤ 1073741824 := by
        have h1 := congrArg List.length HLOW.out
        rw [List.length_reverse, List.length_append] at h1
        have := HLN.out
        omega
      have hadd := run_add_digit r hr10 t htl
      obtain ⟨dg, hdg⟩ : ∃ dg, UInt8.ofNat (48 + r) = dg := ⟨_, rfl⟩
      rw [hdg] at hadd HAH
      clear hdg
      obtain ⟨_, A3, c3, rfl, hc3, hm3, hcell⟩ := har3.open
      have HM3 := Lib.hid hm3; clear hm3 har3
      rcases Nat.eq_zero_or_pos r with hr0 | hr0
      · subst hr0
        simp only [limbs_zero, List.length_nil]
        clear hcell hc3
        simp only [Nat.zero_add] at hadd
        go_wp2_with fail
        go_roundg q
        case measure => omega
        case rel => exact ⟨_, by omega, HA2.out, rfl, by rw [HLOW.out]; exact HAH.out, hext.trans (hx1.trans hx2)⟩
      · have hlr : limbs r = [r] := by rw [limbs_pos r (by omega), Nat.mod_eq_of_lt (by omega), Nat.div_eq_of_lt (by omega)]; rfl
        rw [hlr] at hcell hc3 ⊢
        obtain ⟨b, o, rfl, hb, hcell⟩ := hcell (by simp)
        have hx := hcell 0 (by simp)
        simp only [List.length_cons, List.length_nil, d32, List.getD_cons_zero, Nat.add_zero] at hx hc3 ⊢
        clear hcell hlr
        go_wp2_with fail
        go_roundg q
        case measure => omega
        case rel => exact ⟨_, by omega, HA2.out, rfl, by rw [HLOW.out]; exact HAH.out, hext.trans (hx1.trans hx2)⟩
end Big
end Go.Proofs.YtelgknpdiaafaaaGreatDoor
namespace Go.Proofs.YtelgknpdiaafaaaGreatDoor
namespace Big
open Go.RowKit

/-- The text of an integer. -/
def fmtI (z : Int) : List UInt8 := if z < 0 then 45 :: dec z.natAbs else dec z.natAbs
theorem length_dec_le {n k : Nat} (hk : 1 ≤ k) (h : (low n).length ≤ k) : (dec n).length ≤ k := by
  unfold dec
  split
  · simpa using hk
  · simpa using h
theorem dec_len (N : Nat) (h : (limbs N).length ≤ 67108864) : (dec N).length ≤ 1073741823 := by
  refine length_dec_le (by omega) ?_
  have := length_low_val (ok_limbs N)
  rw [val_limbs] at this
  omega

theorem rformat_any (w : World) (v : Value) (z : Int) (h : ArrInt w v z) (hn : (limbs z.natAbs).length ≤ 67108864) :
    Calls Tryz.prog 49 #[v] w fun e w' => e = .returned (str (fmtI z)) ∧ Ext w w' := by
  obtain ⟨m, rfl, ha⟩ := h
  have hl := dec_len z.natAbs hn
  have HD := Lib.hid (fun W hx => rdigits_any W m z.natAbs (ha.ext hx) hn)
  obtain ⟨_, A, c, rfl, _⟩ := ha.open
  clear ha
  have hF : fmtI z = if z < 0 then [45] ++ dec z.natAbs else dec z.natAbs := rfl
  have HF := Lib.hid hF; clear hF
  have hadd := run_add_str [45] (dec z.natAbs) (by simp; omega)
  rcases Int.lt_or_le z 0 with hz | hz
  · rw [decide_eq_true hz]
    have HZ := Lib.hid (show (if z < 0 then [45] ++ dec z.natAbs else dec z.natAbs) = [45] ++ dec z.natAbs from if_pos hz)
    clear hz
    generalize dec z.natAbs = dz at *
    generalize (limbs z.natAbs).length = ln at *
    go_enter Tryz.func49, Tryz.ntmps49
    go_wp2_with fail
    refine (HD.out _ ((Ext.refl w).alloc _)).mono ?_
    rintro e w1 ⟨rfl, hx⟩
    simp only [str, List.cons_append, List.nil_append] at hadd ⊢
    go_wp2_with fail
    go_ret
    exact ⟨congrArg (fun l => Ending.returned (str l)) (HF.out.trans HZ.out).symm, ((Ext.refl w).alloc _).trans hx⟩
  · rw [decide_eq_false (by omega)]
    have HZ := Lib.hid (show (if z < 0 then [45] ++ dec z.natAbs else dec z.natAbs) = dec z.natAbs from if_neg (show ¬ z < 0 by omega))
    clear hz
    generalize dec z.natAbs = dz at *
    generalize (limbs z.natAbs).length = ln at *
    go_enter Tryz.func49, Tryz.ntmps49
    go_wp2_with fail
    refine (HD.out _ ((Ext.refl w).alloc _)).mono ?_
    rintro e w1 ⟨rfl, hx⟩
    go_wp2_with fail
    go_ret
    exact ⟨congrArg (fun l => Ending.returned (str l)) (HF.out.trans HZ.out).symm, ((Ext.refl w).alloc _).trans hx⟩
end Big
end Go.Proofs.YtelgknpdiaafaaaGreatDoor
