import Derived.Test.YtbmmnpggadakdaaDoorW46
import Derived.Test.YtbmmnpggadakdaaDoorW37
import Derived.Test.YtbmmnpggadakdaaDoorMod
import Derived.Test.YtbmmnpggadakdaaDoorSet8
import Derived.Deep.RegionHeld3
/- RecordOpens. -/
namespace Go.Proofs.YtbmmnpggadakdaaDoor
namespace Big
open Go.RowKit
@[go_sem high] theorem cells_match_str2 (l : List UInt8) : Value.cells.match_1 (fun _ => Array Value) (str l) (fun cs => cs) (fun v => #[v]) = #[str l] := rfl
theorem sealS_length (l : List UInt8) : (sealS l).length = l.length + 21 := by
  unfold sealS
  have : (hex16 (fnv l)).length = 16 := by rw [hex16_fix (fnv_lt l), length_hexFix]
  simp only [List.length_append, List.length_cons, List.length_nil, this]
theorem openS_length (l : List UInt8) (h : l.length ≤ 33554432) : (openS l).1.length ≤ l.length := by
  by_cases hne : l = []
  · subst hne
    exact Nat.le_refl _
  · obtain ⟨t, x, wh, dg, en, pf, u1, u2, hs, hwl, hxl, htl, hts, hhs, htp, hhp, hdg, hu, hq⟩ := open_parts l h hne
    rw [hq]
    split
    · split
      · exact Nat.le_trans htl hwl
      · exact Nat.zero_le _
    · exact Nat.zero_le _
theorem recOpens_long (w : World) (l : List UInt8) (a c : Int) (d : UInt8) (hT : Tab16 w) (hm : MaxVar w) (hl : 1000 < l.length) :
    Calls Tryd.prog 7 #[str l, .int .i64 a, .int .u8 (d.toNat : Int), .int .i64 c] w fun e w' => e = .returned (.bool true) ∧ Ext w w' := by
  have HT := Lib.hid hT
  have HM := Lib.hid hm
  have h' : (1000 : Int) < (l.length : Int) := by omega
  clear hT hm hl
  go_enter Tryd.func7, Tryd.ntmps7
  go_wp2_with fail
  refine (awake34_any _ HT.out HM.out).mono ?_
  rintro e1 w1 ⟨rfl, hx1⟩
  have HX1 := Lib.hid hx1; clear hx1
  go_wp2_with fail
  go_ret
  exact ⟨rfl, HX1.out⟩
set_option maxHeartbeats 300000 in
set_option maxRecDepth 100000 in
theorem recOpens_short (w : World) (l : List UInt8) (a c : Int) (d : UInt8) (ha : -9223372036854775808 ≤ a ∧ a ≤ 9223372036854775807) (hc : -9223372036854775808 ≤ c ∧ c ≤ 9223372036854775807)
    (hT : Tab16 w) (hm : MaxVar w) (hE : ErrVars w) (hl : l.length ≤ 1000) :
    Calls Tryd.prog 7 #[str l, .int .i64 a, .int .u8 (d.toNat : Int), .int .i64 c] w fun e w' => e = .returned (.bool true) ∧ Ext w w' := by
  have HT := Lib.hid hT
  have HM := Lib.hid hm
  have HE := Lib.hid hE
  have h' : ¬ (1000 : Int) < (l.length : Int) := by omega
  have hadd : ∀ W, (binOp .add 9 (str l) (.string ⟨#[10]⟩)).run Tryd.prog W = .ok (str (l ++ [10])) W := fun W => run_add_str l [10] (by simp; omega) W
  have HS1 := Lib.hid (fun W => rseal_any W (l ++ [10]) (by simp; omega))
  have HS2 := Lib.hid (fun W => rseal_any W l (by omega))
  have hn := sealS_length (l ++ [10])
  have hn2 := sealS_length l
  rw [List.length_append, List.length_singleton] at hn
  generalize sealS (l ++ [10]) = sl at *
  generalize sealS l = sm at *
  generalize l ++ [10] = l0 at *
  have hi1 := Int.emod_nonneg a (show (sl.length : Int) ≠ 0 by omega)
  have hi2 := Int.emod_lt_of_pos a (show (0 : Int) < (sl.length : Int) by omega)
  have hj1 := Int.emod_nonneg c (show (sl.length : Int) + 1 ≠ 0 by omega)
  have hj2 := Int.emod_lt_of_pos c (show (0 : Int) < (sl.length : Int) + 1 by omega)
  have HM1 := Lib.hid (fun W => mod_any W a sl.length ha.1 ha.2 (by omega) (by omega))
  have HM2 := Lib.hid (fun W => mod_any W c ((sl.length : Int) + 1) hc.1 hc.2 (by omega) (by omega))
  generalize a % (sl.length : Int) = ai at *
  generalize c % ((sl.length : Int) + 1) = cj at *
  obtain ⟨i, rfl⟩ := Int.eq_ofNat_of_zero_le hi1
  obtain ⟨j, rfl⟩ := Int.eq_ofNat_of_zero_le hj1
  clear hi1 hj1
  have hi2 : i < sl.length := by omega
  have hj2 : j ≤ sl.length := by omega
  have hadd2 := fun W => run_add_str sl l (by omega) W
  have hadd3 : ∀ W, (binOp .add 9 (str l) (.string ⟨#[10, 115, 117, 109, 32, 48, 49, 50, 51, 52, 53, 54, 55, 56, 57, 97, 98, 99, 100, 101, 102, 10]⟩)).run Tryd.prog W = .ok (str (l ++ [10, 115, 117, 109, 32, 48, 49, 50, 51, 52, 53, 54, 55, 56, 57, 97, 98, 99, 100, 101, 102, 10])) W := fun W => run_add_str l [10, 115, 117, 109, 32, 48, 49, 50, 51, 52, 53, 54, 55, 56, 57, 97, 98, 99, 100, 101, 102, 10] (by simp; omega) W
  have HL4 := Lib.hid (show (sl ++ l).length ≤ 3000 by simp; omega)
  have HL5 := Lib.hid (show (l ++ [10, 115, 117, 109, 32, 48, 49, 50, 51, 52, 53, 54, 55, 56, 57, 97, 98, 99, 100, 101, 102, 10]).length ≤ 3000 by simp; omega)
  have hsl : sl.length ≤ 1022 := by omega
  generalize sl ++ l = l4 at *
  generalize l ++ [10, 115, 117, 109, 32, 48, 49, 50, 51, 52, 53, 54, 55, 56, 57, 97, 98, 99, 100, 101, 102, 10] = l5 at *
  have HN := Lib.hid hn
  have HN2 := Lib.hid hn2
  clear hT hm hE ha hc hn hn2
  go_enter Tryd.func7, Tryd.ntmps7
  go_wp2_with fail
  refine (awake34_any _ HT.out HM.out).mono ?_
  rintro e1 w1 ⟨rfl, hx1⟩
  have HX1 := Lib.hid hx1; clear hx1
  go_wp2_with fail
  refine (HS1.out _).mono ?_
  rintro e2 w2 ⟨rfl, rfl⟩
  obtain ⟨cb, hcv, harr⟩ := run_bytesAt2 w1 sl (by omega)
  have hci := bytesAt_cell w1 sl i hi2
  have hfi := bytesAt_frozen w1 sl i hi2
  have hxb := bytesAt_ext w1 sl
  generalize bytesAt w1 sl = wb at *
  have HARR := Lib.hid (Arr8.set (b := d) harr hi2)
  have HXB := Lib.hid (HX1.out.trans hxb)
  have hgw := HX1.out.size
  clear harr hxb
  go_wp2_with fail
  refine (HM1.out _).mono ?_
  rintro e3 w3 ⟨rfl, rfl⟩
  have HX5 := Lib.hid (HXB.out.setCell (p := ⟨w1.heap.size, i, none⟩) hgw (.int .u8 (d.toNat : Int)))
  have HSL := Lib.hid (show (sl.set i d).length ≤ 1022 by simpa using hsl)
  simp only [d8] at HARR
  go_wp2_with fail
  generalize wb.setCell ⟨w1.heap.size, i, none⟩ (.int .u8 (d.toNat : Int)) = wc at *
  generalize sl.set i d = sb at *
  have hst : ∀ w', Ext wc w' → (convert 37 9 (.slice (some ⟨w1.heap.size, 0, none⟩) sl.length cb)).run Tryd.prog w' = .ok (str sb) w' := fun w' h => run_string8 (HARR.out.ext h)
  have hw1 : IntKind.i64.wrap ((sl.length : Int) + 1) = (sl.length : Int) + 1 := IntWalk.i64_in _ (by omega)
  have hj3 : (0 : Int) ≤ (j : Int) := by omega
  have hj4 : (j : Int) ≤ (sl.length : Int) := by omega
  go_region_held3 (fun w' => Ext wc w')
    (first | exact (Ext.refl wc).drew | assumption | exact Ext.alloc (by assumption) _)
    (first
      | (go_at_call 22; refine (HM2.out _).mono ?_; intro e w' h; obtain ⟨h1, h2⟩ := h; subst h1; subst h2)
      | (go_at_call 12; refine (HS2.out _).mono ?_; intro e w' h; obtain ⟨h1, h2⟩ := h; subst h1; subst h2))
  rename_i hHeld
  clear hHeld hst
  obtain ⟨sv, hsv⟩ : ∃ sv, sv = [l, sl, sb, sl.take j, l4, sm, l5] := ⟨_, rfl⟩
  have HLS : Hid (∀ x ∈ sv, x.length ≤ 3000) := Lib.hid (fun x hx => by
    have h1 := HL4.out
    have h2 := HL5.out
    have h3 := HSL.out
    have h4 := HN2.out
    subst hsv
    simp only [List.mem_cons, List.not_mem_nil, or_false] at hx
    rcases hx with rfl | rfl | rfl | rfl | rfl | rfl | rfl
    · omega
    · omega
    · omega
    · rw [List.length_take]; omega
    · exact h1
    · omega
    · exact h2)
  have hn7 : sv.length = 7 := by rw [hsv]; rfl
  have harr : ArrS (wc.alloc (.cells (sv.map str).toArray 9)).drew (.slice (some ⟨wc.heap.size, 0, none⟩) sv.length sv.length) sv :=
    (OwnS.block (B := wc.heap.size) (ls := sv) (Blk.new wc 9 _) (Nat.le_refl _) (by omega)).arr.ext (Ext.refl _).drew
  have hcs : (sv.map str).toArray = #[str l, str sl, str sb, str (sl.take j), str l4, str sm, str l5] := by rw [hsv]; rfl
  rw [hcs, hn7] at harr
  have HXZ := Lib.hid ((HX5.out.alloc (.cells #[str l, str sl, str sb, str (sl.take j), str l4, str sm, str l5] 9)).drew)
  clear hsv hcs
  generalize (wc.alloc (.cells #[str l, str sl, str sb, str (sl.take j), str l4, str sm, str l5] 9)).drew = wz at *
  generalize wc.heap.size = g at *
  have HARR2 := Lib.hid harr
  clear harr
  go_wp2_with fail
  go_loopw [56] (fun i wr => ∃ k : Nat, k ≤ 7 ∧ i = .int .i64 k ∧ ArrS wr (.slice (some ⟨g, 0, none⟩) 7 7) sv ∧ Ext w wr) (fun i _ => 7 - (intOf i).toNat)
  case atStart => exact ⟨0, by omega, rfl, HARR2.out, HXZ.out⟩
  case round =>
    obtain ⟨k, hk, rfl, harr, hext⟩ := hrel
    have HA := Lib.hid harr
    have HX2 := Lib.hid hext
    by_cases hlt : k < 7
    · obtain ⟨A', c', hv, _, _, hcell⟩ := harr.open
      injection hv with hv hv1 hv2
      clear hv1 hv2
      subst hv
      obtain ⟨b, o, hbo, _, hcell⟩ := hcell (by rw [hn7]; omega)
      injection hbo with hbo
      injection hbo with h1 h2 _
      subst h1
      subst h2
      have hx := hcell k (by rw [hn7]; exact hlt)
      rw [Nat.zero_add] at hx
      have hyl : (sv[k]'(by rw [hn7]; exact hlt)).length ≤ 3000 := HLS.out _ (List.getElem_mem _)
      clear hcell harr hext
      have hki : (k : Int) < 7 := by omega
      generalize sv[k] = y at *
      have HO1 := Lib.hid (fun W hx => open_any W y (by omega) (HT.out.ext hx) (HM.out.ext hx) (HE.out.ext hx))
      have HO2 := Lib.hid (fun W => ropen_any W y (by omega))
      have hql := openS_length y (by omega)
      have HSAME := Lib.hid (fun W v u h h' => sameTexts_any W v u (openS y).1 (openS y).1 h h' (by omega) (by omega))
      clear hql
      generalize openS y = q at *
      obtain ⟨q1, q2, q3⟩ := q
      go_wp2_with fail
      refine (HO1.out _ HX2.out).mono ?_
      rintro e2 w2 ⟨v2, rfl, ho2, hx2⟩
      have HY2 := Lib.hid hx2; clear hx2
      have HQ2 := Lib.hid ho2.arr
      obtain ⟨n2, A2, c2, rfl⟩ := ho2.arr.shape
      clear ho2
      go_wp2_with fail
      refine (HO2.out _).mono ?_
      rintro e3 w3 ⟨v3, rfl, ho3, hx3⟩
      have HY3 := Lib.hid (HY2.out.trans hx3)
      have HQ23 := Lib.hid (HQ2.out.ext hx3); clear hx3
      have HQ3 := Lib.hid ho3.arr
      obtain ⟨n3, A3, c3, rfl⟩ := ho3.arr.shape
      clear ho3
      go_wp2_with fail
      refine (HSAME.out _ _ _ HQ23.out HQ3.out).mono ?_
      rintro e4 w4 ⟨rfl, hx4⟩
      have HY4 := Lib.hid (HY3.out.trans hx4); clear hx4
      simp only [decide_true]
      go_wp2_with fail
      go_roundw
      case rel => exact ⟨k + 1, by omega, by go_num, HA.out.ext HY4.out, HX2.out.trans HY4.out⟩
      case measure => simp [intOf]; omega
    · obtain rfl : k = 7 := by omega
      clear harr hext hlt hk
      go_wp2_with fail
      go_ret
      exact ⟨rfl, HX2.out⟩
theorem recOpens_any (w : World) (l : List UInt8) (a c : Int) (d : UInt8) (ha : -9223372036854775808 ≤ a ∧ a ≤ 9223372036854775807) (hc : -9223372036854775808 ≤ c ∧ c ≤ 9223372036854775807)
    (hT : Tab16 w) (hm : MaxVar w) (hE : ErrVars w) :
    Calls Tryd.prog 7 #[str l, .int .i64 a, .int .u8 (d.toNat : Int), .int .i64 c] w fun e w' => e = .returned (.bool true) ∧ Ext w w' := by
  rcases Nat.lt_or_ge 1000 l.length with hl | hl
  · exact recOpens_long w l a c d hT hm hl
  · exact recOpens_short w l a c d ha hc hT hm hE hl
end Big
end Go.Proofs.YtbmmnpggadakdaaDoor
