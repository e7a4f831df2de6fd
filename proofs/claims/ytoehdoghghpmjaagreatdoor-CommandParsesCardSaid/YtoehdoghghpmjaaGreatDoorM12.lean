import Derived.Test.YtoehdoghghpmjaaGreatDoorM9
import Derived.Test.YtoehdoghghpmjaaGreatDoorM11
import Derived.Test.YtoehdoghghpmjaaGreatDoorM5
import Derived.Test.YtoehdoghghpmjaaGreatDoorM1
import Derived.Test.YtoehdoghghpmjaaGreatDoorM10
import Derived.Test.YtoehdoghghpmjaaGreatDoorHex
import Derived.Test.YtoehdoghghpmjaaGreatDoorM4
namespace Go.Proofs.YtoehdoghghpmjaaGreatDoor
namespace Big
open Go.RowKit

theorem rdigits_any (w : World) (v : Value) (N : Nat) (h : Arr w v (limbs N)) (hn : (limbs N).length ≤ 67108864) :
    Calls Tryz.prog 42 #[v] w fun e w' => e = .returned (str (dec N)) ∧ Ext w w' := by
  have HLEN := Lib.hid (fun m (hm : m ≤ N) => length_limbs_lt (ok_limbs N) (n := m) (by rw [val_limbs]; exact hm))
  have HN := Lib.hid hn
  have HA := Lib.hid h
  have HLN := Lib.hid (show (low N).length ≤ 1073741823 by
    have := length_low_val (ok_limbs N)
    rw [val_limbs] at this
    omega)
  clear h
  go_enter Tryz.func42, Tryz.ntmps42
  go_wp2_with fail
  go_loopg [0, 3] N (fun g a s wr => ∃ t : List UInt8, g ≤ N ∧ Arr wr a (limbs g) ∧ s = str t ∧ (low N).reverse = (low g).reverse ++ t ∧ Ext w wr)
  case atStart => exact ⟨[], Nat.le_refl _, HA.out, rfl, by simp, Ext.refl _⟩
  case round =>
    obtain ⟨t, hg, har, rfl, hlow, hext⟩ := hrel
    have HLOW := Lib.hid hlow; clear hlow
    have HAR := Lib.hid har
    obtain ⟨_, A, c, rfl, hc, hm, _⟩ := har.open
    have HM := Lib.hid hm; clear hm
    rcases Nat.eq_zero_or_pos gk with h0 | h0
    · subst h0
      clear hc har
      simp only [limbs_zero, List.length_nil, low_zero, List.reverse_nil, List.nil_append] at HLOW ⊢
      rcases t with _ | ⟨b, t⟩
      · have HD := Lib.hid (show dec N = [48] by rw [low_nil (List.reverse_eq_nil_iff.1 HLOW.out)]; rfl)
        simp only [str]
        go_wp2_with fail
        go_ret
        exact ⟨congrArg (fun l => Ending.returned (str l)) HD.out.symm, hext⟩
      · have HD := Lib.hid (show dec N = b :: t by rw [dec_pos N (by rintro rfl; simp [low_zero] at HLOW; exact absurd HLOW.out (by simp)), HLOW.out])
        simp only [str]
        go_wp2_with fail
        go_ret
        exact ⟨congrArg (fun l => Ending.returned (str l)) HD.out.symm, hext⟩
    · have hlp : 0 < (limbs gk).length := by rw [limbs_pos gk (by omega)]; simp
      have hll := Nat.le_trans (HLEN.out gk hg) HN.out
      clear har hc
      go_wp2_with fail
      have HOF := rof_any wr 10 (by omega)
      rw [show ((10 : Nat) : Int) = 10 from rfl] at HOF
      refine HOF.mono ?_
      rintro e w1 ⟨v1, rfl, ho1, hx1⟩
      go_wp2_with fail
      have HD := rdivmod_any w1 _ v1 (limbs gk) (limbs 10) (HAR.out.ext hx1) ho1.arr (by omega) (by decide) (by rw [val_limbs]; omega)
      rw [val_limbs, val_limbs] at HD
      refine HD.mono ?_
      rintro e w2 ⟨v2, v3, rfl, ho2, har3, hx2⟩
      have HA2 := Lib.hid ho2.arr
      clear ho2 ho1
      have hr10 := Nat.mod_lt gk (show 0 < 10 by omega)
      have hq10 : gk / 10 < gk := by omega
      have HAH := Lib.hid (low_ahead gk (by omega) t)
      obtain ⟨q, hq⟩ : ∃ q, gk / 10 = q := ⟨_, rfl⟩
      obtain ⟨r, hr⟩ : ∃ r, gk % 10 = r := ⟨_, rfl⟩
      rw [hq] at HA2 hq10 HAH
      rw [hr] at har3 hr10 HAH
      clear hq hr
      have HAR3 := Lib.hid har3
      have htl : t.length ≤ 1073741824 := by
        have h1 := congrArg List.length HLOW.out
        rw [List.length_reverse, List.length_append] at h1
        have := HLN.out
        omega
      have hadd := run_add_digit r hr10 t htl
      obtain ⟨dg, hdg⟩ : ∃ dg, UInt8.ofNat (48 + r) = dg := ⟨_, rfl⟩
      rw [hdg] at hadd HAH
      clear hdg
      obtain ⟨_, A3, c3, rfl, hc3, hm3, hcell⟩ := har3.open
      have HM3 := Lib.hid hm3; clear hm3 har3
      rcases Nat.eq_zero_or_pos r with hr0 | hr0
      · subst hr0
        simp only [limbs_zero, List.length_nil]
        clear hcell hc3
        simp only [Nat.zero_add] at hadd
        go_wp2_with fail
        go_roundg q
        case measure => omega
        case rel => exact ⟨_, by omega, HA2.out, rfl, by rw [HLOW.out]; exact HAH.out, hext.trans (hx1.trans hx2)⟩
      · have hlr : limbs r = [r] := by rw [limbs_pos r (by omega), Nat.mod_eq_of_lt (by omega), Nat.div_eq_of_lt (by omega)]; rfl
        rw [hlr] at hcell hc3 ⊢
        obtain ⟨b, o, rfl, hb, hcell⟩ := hcell (by simp)
        have hx := hcell 0 (by simp)
        simp only [List.length_cons, List.length_nil, d32, List.getD_cons_zero, Nat.add_zero] at hx hc3 ⊢
        clear hcell hlr
        go_wp2_with fail
        go_roundg q
        case measure => omega
        case rel => exact ⟨_, by omega, HA2.out, rfl, by rw [HLOW.out]; exact HAH.out, hext.trans (hx1.trans hx2)⟩
end Big
end Go.Proofs.YtoehdoghghpmjaaGreatDoor
namespace Go.Proofs.YtoehdoghghpmjaaGreatDoor
namespace Big
open Go.RowKit

/-- The text of an integer. -/
def fmtI (z : Int) : List UInt8 := if z < 0 then 45 :: dec z.natAbs else dec z.natAbs
theorem length_dec_le {n k : Nat} (hk : 1 ≤ k) (h : (low n).length ≤ k) : (dec n).length ≤ k := by
  unfold dec
  split
  · simpa using hk
  · simpa using h
theorem dec_len (N : Nat) (h : (limbs N).length ≤ 67108864) : (dec N).length ≤ 1073741823 := by
  refine length_dec_le (by omega) ?_
  have := length_low_val (ok_limbs N)
  rw [val_limbs] at this
  omega

theorem rformat_any (w : World) (v : Value) (z : Int) (h : ArrInt w v z) (hn : (limbs z.natAbs).length ≤ 67108864) :
    Calls Tryz.prog 19 #[v] w fun e w' => e = .returned (str (fmtI z)) ∧ Ext w w' := by
  obtain ⟨m, rfl, ha⟩ := h
  have hl := dec_len z.natAbs hn
  have HD := Lib.hid (fun W hx => rdigits_any W m z.natAbs (ha.ext hx) hn)
  obtain ⟨_, A, c, rfl, _⟩ := ha.open
  clear ha
  have hF : fmtI z = if z < 0 then [45] ++ dec z.natAbs else dec z.natAbs := rfl
  have HF := Lib.hid hF; clear hF
  have hadd := run_add_str [45] (dec z.natAbs) (by simp; omega)
  rcases Int.lt_or_le z 0 with hz | hz
  · rw [decide_eq_true hz]
    have HZ := Lib.hid (show (if z < 0 then [45] ++ dec z.natAbs else dec z.natAbs) = [45] ++ dec z.natAbs from if_pos hz)
    clear hz
    generalize dec z.natAbs = dz at *
    generalize (limbs z.natAbs).length = ln at *
    go_enter Tryz.func19, Tryz.ntmps19
    go_wp2_with fail
    refine (HD.out _ ((Ext.refl w).alloc _)).mono ?_
    rintro e w1 ⟨rfl, hx⟩
    simp only [str, List.cons_append, List.nil_append] at hadd ⊢
    go_wp2_with fail
    go_ret
    exact ⟨congrArg (fun l => Ending.returned (str l)) (HF.out.trans HZ.out).symm, ((Ext.refl w).alloc _).trans hx⟩
  · rw [decide_eq_false (by omega)]
    have HZ := Lib.hid (show (if z < 0 then [45] ++ dec z.natAbs else dec z.natAbs) = dec z.natAbs from if_neg (show ¬ z < 0 by omega))
    clear hz
    generalize dec z.natAbs = dz at *
    generalize (limbs z.natAbs).length = ln at *
    go_enter Tryz.func19, Tryz.ntmps19
    go_wp2_with fail
    refine (HD.out _ ((Ext.refl w).alloc _)).mono ?_
    rintro e w1 ⟨rfl, hx⟩
    go_wp2_with fail
    go_ret
    exact ⟨congrArg (fun l => Ending.returned (str l)) (HF.out.trans HZ.out).symm, ((Ext.refl w).alloc _).trans hx⟩
end Big
end Go.Proofs.YtoehdoghghpmjaaGreatDoor
namespace Go.Proofs.YtoehdoghghpmjaaGreatDoor
namespace Big
open Go.RowKit

theorem pow2_16 (w : World) : Calls Tryz.prog 115 #[.int .i64 16] w fun e w' => e = .returned (.bool true) ∧ w = w' := by
  go_enter Tryz.func115, Tryz.ntmps115
  go_wp2_with fail
  go_ret
  exact ⟨rfl, rfl⟩

/-- The table by which the place of the lowest bit is found, as far as base 16 asks. -/
def Tab16 (w : World) : Prop := w.cell? ⟨7, 15, none⟩ = some (.int .u8 4) ∧ 7 < w.heap.size
theorem Tab16.ext {w w' : World} (h : Tab16 w) (he : Ext w w') : Tab16 w' := ⟨(he.cell h.2).trans h.1, Nat.lt_of_lt_of_le h.2 he.size⟩

theorem tz64_16 (w : World) (h : Tab16 w) : Calls Tryz.prog 127 #[.int .u64 16] w fun e w' => e = .returned (.int .i64 4) ∧ w = w' := by
  have hc := h.1
  have e0 : bits .and .u64 16 (IntKind.u64.wrap (-16)) = 16 := by kernel_rfl
  have e1 : IntKind.u64.wrap 4573923408821661840 = 4573923408821661840 := by kernel_rfl
  go_enter Tryz.func127, Tryz.ntmps127
  go_wp2_with fail
  go_ret
  exact ⟨rfl, rfl⟩
theorem tz_16 (w : World) (h : Tab16 w) : Calls Tryz.prog 116 #[.int .u64 16] w fun e w' => e = .returned (.int .i64 4) ∧ w = w' := by
  have H := Lib.hid (tz64_16 w h)
  go_enter Tryz.func116, Tryz.ntmps116
  go_wp2_with fail
  refine H.out.mono ?_
  rintro e w' ⟨rfl, rfl⟩
  go_wp2_with fail
  go_ret
  exact ⟨rfl, rfl⟩

theorem run_digit36 (d : Nat) (h : d < 16) (W : World) :
    (Instr.index 9 (.string ⟨#[48, 49, 50, 51, 52, 53, 54, 55, 56, 57, 97, 98, 99, 100, 101, 102, 103, 104, 105, 106, 107, 108, 109, 110, 111, 112, 113, 114, 115, 116, 117, 118, 119, 120, 121, 122]⟩) (.int .u64 (d : Int))).run Tryz.prog W = .ok (d8 (hexd d)) W := by
  have : d = 0 ∨ d = 1 ∨ d = 2 ∨ d = 3 ∨ d = 4 ∨ d = 5 ∨ d = 6 ∨ d = 7 ∨ d = 8 ∨ d = 9 ∨ d = 10 ∨ d = 11 ∨ d = 12 ∨ d = 13 ∨ d = 14 ∨ d = 15 := by omega
  rcases this with rfl | rfl | rfl | rfl | rfl | rfl | rfl | rfl | rfl | rfl | rfl | rfl | rfl | rfl | rfl | rfl <;> (show _ = _; kernel_rfl)
theorem and15 (m : Nat) (h : m < 18446744073709551616) : bits .and .u64 (m : Int) 15 = ((m % 16 : Nat) : Int) := by
  have h1 := u64_and_nat m 15 h (by decide)
  have h2 := Nat.and_two_pow_sub_one_eq_mod m 4
  rw [show (2 : Nat) ^ 4 - 1 = 15 from rfl, show (2 : Nat) ^ 4 = 16 from rfl] at h2
  rw [h2] at h1
  exact h1

/-- What formatBits holds after k digits. -/
def HexAt (w0 wr : World) (n m k : Nat) : Prop :=
  ∃ (cur : Array Value) (t : List UInt8), Blk wr w0.heap.size 149 cur ∧ cur.size = 65 ∧ t.length = k ∧ cur.toList.drop (65 - k) = t.map d8 ∧ hexS n = hexS m ++ t ∧ m < 16 ^ (16 - k) ∧ Ext w0 wr
theorem drop_set_at {α : Type} (l : List α) (p : Nat) (x : α) (t : List α) (h : l.drop (p + 1) = t) (hp : p < l.length) : (l.set p x).drop p = x :: t := by
  apply List.ext_getElem?
  intro j
  rw [List.getElem?_drop]
  cases j with
  | zero => simp [hp]
  | succ j =>
    rw [List.getElem?_set_ne (by omega), ← h, List.getElem?_cons_succ, List.getElem?_drop]
    congr 1
    omega
/-- The block behind one more digit. -/
theorem hex_put {w0 wr : World} {cur : Array Value} {t : List UInt8} {p k : Nat} (hp : p + k = 64) (hblk : Blk wr w0.heap.size 149 cur) (hsz : cur.size = 65) (hd : cur.toList.drop (65 - k) = t.map d8) (b : UInt8) :
    Blk (wr.setCell ⟨w0.heap.size, p, none⟩ (d8 b)) w0.heap.size 149 (cur.setIfInBounds p (d8 b)) ∧ (cur.setIfInBounds p (d8 b)).toList.drop p = (b :: t).map d8 := by
  refine ⟨hblk.set_ p _, ?_⟩
  rw [Array.toList_setIfInBounds, List.map_cons]
  exact drop_set_at _ _ _ _ (by rw [show p + 1 = 65 - k by omega]; exact hd) (by simp [hsz]; omega)
theorem HexAt.step {w0 wr : World} {cur : Array Value} {t : List UInt8} {n m p k : Nat} (hp : p + k = 64) (hk : k ≤ 15) (hblk : Blk wr w0.heap.size 149 cur) (hsz : cur.size = 65) (htl : t.length = k) (hd : cur.toList.drop (65 - k) = t.map d8)
    (hh : hexS n = hexS m ++ t) (hm : m < 16 ^ (16 - k)) (hext : Ext w0 wr) (hge : 16 ≤ m) {dg : UInt8} (hs : hexS m = hexS (m / 16) ++ [dg]) :
    k + 1 ≤ 15 ∧ HexAt w0 (wr.setCell ⟨w0.heap.size, p, none⟩ (d8 dg)) n (m / 16) (k + 1) := by
  have hk15 : k ≠ 15 := by
    rintro rfl
    simp at hm
    omega
  obtain ⟨h1, h2⟩ := hex_put (w0 := w0) hp hblk hsz hd dg
  refine ⟨by omega, _, dg :: t, h1, by simp [hsz], by simp [htl], ?_, ?_, ?_, hext.setCell (Nat.le_refl _) _⟩
  · rw [show 65 - (k + 1) = p by omega]; exact h2
  · rw [hh, hs, List.append_assoc]; rfl
  · refine Nat.div_lt_of_lt_mul ?_
    rw [show 16 - k = (16 - (k + 1)) + 1 by omega, Nat.pow_succ, Nat.mul_comm] at hm
    exact hm
/-- The text at the end. -/
theorem hex_text {w0 wr : World} {cur : Array Value} {t : List UInt8} {p k : Nat} (hp : p + k = 64) (hblk : Blk wr w0.heap.size 149 cur) (hsz : cur.size = 65) (htl : t.length = k) (hd : cur.toList.drop (65 - k) = t.map d8) (b : UInt8) :
    Arr8 (wr.setCell ⟨w0.heap.size, p, none⟩ (d8 b)) (.slice (some ⟨w0.heap.size, p, none⟩) (k + 1) (k + 1)) (b :: t) := by
  obtain ⟨h1, h2⟩ := hex_put (w0 := w0) hp hblk hsz hd b
  refine ⟨_, k + 1, by simp [htl], by simp [htl], by unfold maxLen; omega, fun _ => ⟨w0.heap.size, p, rfl, h1.lt, fun j u hj => ?_⟩⟩
  rw [h1.cell, ← h2, List.getElem?_drop, Array.getElem?_toList] at *
  exact hj

theorem run_slice65 (g p k : Nat) (hp : p + k = 64) (W : World) :
    (Instr.sliceAt 149 (.pointer (some ⟨g, 0, none⟩)) (some (.int .i64 (p : Int))) none none).run Tryz.prog W = .ok (.slice (some ⟨g, p, none⟩) (k + 1) (k + 1)) W := by
  have hal : Tryz.prog.arrayLen 149 = 65 := by kernel_rfl
  have hsz : (sizeOf (Tryz.prog.elem 149)).run Tryz.prog W = .ok 1 W := by kernel_rfl
  have ht : Tryz.prog.underlying 149 = some (.array (Tryz.prog.arrayLen 149) (Tryz.prog.elem 149)) := by kernel_rfl
  have h := run_sliceAt_array_l (P := Tryz.prog) W 149 ⟨g, 0, none⟩ ht .i64 (p : Int) (by omega) (by rw [hal]; omega)
  rw [hsz, hal] at h
  have ha : (⟨g, 0, none⟩ : Addr).add p = ⟨g, p, none⟩ := by
    unfold Addr.add
    split
    · rename_i h0; subst h0; rfl
    · simp
  have hs : slicedAt ⟨g, 0, none⟩ (p : Int).toNat 65 65 1 = .slice (some ⟨g, p, none⟩) (k + 1) (k + 1) := by
    unfold slicedAt
    rw [Int.toNat_natCast, Nat.mul_one, if_neg (by omega), ha, show 65 - p = k + 1 by omega]
  rw [h, ← hs]
  rfl

set_option maxRecDepth 100000 in
theorem fbits_any (w : World) (n : Nat) (hn : n < 18446744073709551616) (h : Tab16 w) :
    Calls Tryz.prog 96 #[.slice none 0 0, .int .u64 (n : Int), .int .i64 16, .bool false, .bool false] w fun e w' => e = .returned (.tuple #[.slice none 0 0, str (hexS n)]) ∧ Ext w w' := by
  have HP := Lib.hid pow2_16
  have HZ := Lib.hid (fun W hx => tz_16 W (h.ext hx))
  have HN := Lib.hid hn
  clear h hn
  go_enter Tryz.func96, Tryz.ntmps96
  go_wp2_with fail
  refine (HP.out _).mono ?_
  rintro e w' ⟨rfl, rfl⟩
  go_wp2_with fail
  refine (HZ.out _ ((Ext.refl w).alloc _)).mono ?_
  rintro e w' ⟨rfl, rfl⟩
  go_wp2_with fail
  have hz65 : (Tryz.zeroCells149).size = 65 := by kernel_rfl
  have HZ65 := Lib.hid hz65; clear hz65
  go_loopw [1, 13] (fun u i wr => ∃ k m : Nat, k ≤ 15 ∧ u = .int .u64 m ∧ i = .int .i64 (65 - (k : Int)) ∧ HexAt w wr n m k) (fun _ i _ => (intOf i).toNat)
  case atStart => exact ⟨0, n, by omega, rfl, rfl, _, [], Blk.new _ _ _, HZ65.out, rfl, by rw [List.drop_of_length_le (by simp [HZ65.out])]; rfl, by simp, HN.out, (Ext.refl w).alloc _⟩
  case round =>
    obtain ⟨k, m, hk, rfl, rfl, cur, t, hblk, hsz, htl, hdrop, hhex, hm, hext⟩ := hrel
    have hsz' : k ≤ 65 := by omega
    have HM := Lib.hid hm; clear hm
    have HH := Lib.hid hhex; clear hhex
    have HDR := Lib.hid hdrop; clear hdrop
    have HT := Lib.hid htl; clear htl
    have HSZ := Lib.hid hsz; clear hsz
    have HB := Lib.hid hblk; clear hblk
    have hm64 : m < 18446744073709551616 := Nat.lt_of_lt_of_le HM.out (Nat.pow_le_pow_right (by omega) (show 16 - k ≤ 16 by omega))
    obtain ⟨p, hp⟩ : ∃ p, p + k = 64 := ⟨64 - k, by omega⟩
    have HP2 := Lib.hid hp
    have hpi : (65 : Int) - (k : Int) - 1 = (p : Int) := by omega
    have hpi2 : (65 : Int) - (k : Int) = (p : Int) + 1 := by omega
    have hp65 : p < 65 := by omega
    clear hp
    rw [hpi2]
    have HPI := Lib.hid hpi2
    clear hpi hpi2
    have hex : ∃ x, cur[p]? = some x := ⟨_, Array.getElem?_eq_getElem (by rw [HSZ.out]; exact hp65)⟩
    obtain ⟨x, hx⟩ := hex
    have hst := (HB.out.cell p).trans hx
    have hfz := HB.out.frozen p
    clear hx
    by_cases hlt : m < 16
    · have hix := run_digit36 m hlt
      have HLT := Lib.hid (hexS_lt hlt)
      obtain ⟨dg, hdg⟩ : ∃ dg, hexd m = dg := ⟨_, rfl⟩
      rw [hdg] at hix HLT
      clear hdg
      have hcv := run_string8 (hex_text HP2.out HB.out HSZ.out HT.out HDR.out dg)
      have hsl := run_slice65 w.heap.size p k HP2.out
      simp only [d8] at hix hcv
      go_wp2_with fail
      go_ret2
      have hfin : hexS n = dg :: t := by rw [HH.out, HLT.out]; rfl
      exact ⟨congrArg (fun l => Ending.returned (.tuple #[.slice none 0 0, str l])) hfin.symm, hext.setCell (Nat.le_refl _) _⟩
    · have hand := and15 m hm64
      have hix := run_digit36 (m % 16) (Nat.mod_lt _ (by omega))
      have HGE := Lib.hid (hexS_ge (show 16 ≤ m by omega))
      obtain ⟨y, hy⟩ : ∃ y, m % 16 = y := ⟨_, rfl⟩
      rw [hy] at hand hix HGE
      clear hy
      obtain ⟨dg, hdg⟩ : ∃ dg, hexd y = dg := ⟨_, rfl⟩
      rw [hdg] at hix HGE
      clear hdg
      simp only [d8] at hix
      go_wp2_with fail
      obtain ⟨hk1, hS⟩ := HexAt.step HP2.out hk HB.out HSZ.out HT.out HDR.out HH.out HM.out hext (by omega) HGE.out
      go_roundw
      case rel => exact ⟨k + 1, m / 16, hk1, by go_num, congrArg (Value.int .i64) (by have := HP2.out; omega), hS⟩
      case measure => simp [intOf]

/-- Sixteen hexadecimal digits. -/
def hex16 (n : Nat) : List UInt8 := List.replicate (16 - (hexS n).length) 48 ++ hexS n
theorem length_hexS {n k : Nat} (hk : 1 ≤ k) (h : n < 16 ^ k) : (hexS n).length ≤ k := by
  induction k generalizing n with
  | zero => omega
  | succ k ih =>
    by_cases h0 : n < 16
    · rw [hexS_lt h0]; simp
    · rw [hexS_ge (by omega), List.length_append]
      have h1 : n / 16 < 16 ^ k := by
        rw [Nat.pow_succ, Nat.mul_comm] at h
        exact Nat.div_lt_of_lt_mul h
      have hk1 : 1 ≤ k := by
        rcases Nat.eq_zero_or_pos k with h2 | h2
        · subst h2; simp at h1; omega
        · exact h2
      have := ih hk1 h1
      simp; omega
theorem zeros_ext (l : Nat) (h : l ≤ 16) : (⟨#[48, 48, 48, 48, 48, 48, 48, 48, 48, 48, 48, 48, 48, 48, 48, 48]⟩ : ByteArray).extract l 16 = ⟨(List.replicate (16 - l) (48 : UInt8)).toArray⟩ := by
  have : l = 0 ∨ l = 1 ∨ l = 2 ∨ l = 3 ∨ l = 4 ∨ l = 5 ∨ l = 6 ∨ l = 7 ∨ l = 8 ∨ l = 9 ∨ l = 10 ∨ l = 11 ∨ l = 12 ∨ l = 13 ∨ l = 14 ∨ l = 15 ∨ l = 16 := by omega
  rcases this with rfl | rfl | rfl | rfl | rfl | rfl | rfl | rfl | rfl | rfl | rfl | rfl | rfl | rfl | rfl | rfl | rfl <;> rfl
end Big
end Go.Proofs.YtoehdoghghpmjaaGreatDoor
namespace Go.Proofs.YtoehdoghghpmjaaGreatDoor
namespace Big
open Go.RowKit

/-- What product.Small holds after k digits. -/
def SmallAt (w0 wr : World) (xs : List Nat) (m c k cy : Nat) : Prop :=
  ∃ ys : List Nat, ys.length = k ∧ Ok ys ∧ val ys + 4294967296 ^ k * cy = val (xs.take k) * m + c ∧
    Blk wr w0.heap.size 97 (cells (ys ++ List.replicate (xs.length + 1 - k) 0)) ∧ Ext w0 wr

theorem SmallAt.step {w0 wr : World} {xs ys : List Nat} {m c k q x : Nat} (hk : k < xs.length) (hl : ys.length = k) (hok : Ok ys)
    (hv : val (ys ++ [(q + x * m) % 4294967296]) + 4294967296 ^ (k + 1) * ((q + x * m) / 4294967296) = val (xs.take (k + 1)) * m + c)
    (hb : Blk wr w0.heap.size 97 (cells (ys ++ List.replicate (xs.length + 1 - k) 0))) (he : Ext w0 wr) :
    SmallAt w0 (wr.setCell ⟨w0.heap.size, k, none⟩ (d32 ((q + x * m) % 4294967296))) xs m c (k + 1) ((q + x * m) / 4294967296) := by
  refine ⟨ys ++ [(q + x * m) % 4294967296], by simp [hl], hok.snoc (Nat.mod_lt _ (by omega)), hv, ?_, he.setCell (Nat.le_refl _) _⟩
  have h1 := hb.set_ k (d32 ((q + x * m) % 4294967296))
  rw [set_cells, show xs.length + 1 - k = (xs.length - k) + 1 by omega] at h1
  have h2 := set_front ys (xs.length - k) ((q + x * m) % 4294967296)
  rw [hl] at h2
  rw [h2] at h1
  rw [show xs.length + 1 - (k + 1) = xs.length - k by omega]
  exact h1

end Big
end Go.Proofs.YtoehdoghghpmjaaGreatDoor
