import Derived.Test.YtdijknnlldjgmaaDoorW21
import Derived.Test.YtdijknnlldjgmaaDoorW32
import Derived.Test.YtdijknnlldjgmaaDoorW33
import Derived.Test.YtdijknnlldjgmaaDoorMod
/- DecimalHex. -/
namespace Go.Proofs.YtdijknnlldjgmaaDoor
namespace Big
open Go.RowKit

theorem bytesAt_frozen (w : World) (l : List UInt8) (j : Nat) (h : j < l.length) : (bytesAt w l).frozen? ⟨w.heap.size, j, none⟩ = false := by
  have hs : l.length ≤ (Lib.bytesCells w 5 ⟨l.toArray⟩).size := by
    unfold Lib.bytesCells
    simp
  unfold bytesAt World.frozen?
  rw [Lib.bytesWorld_at_new]
  simp
  omega
theorem RArr.set {w : World} {g o n c i : Nat} {vs : List Value} {u : Value} (h : RArr w (.slice (some ⟨g, o, none⟩) n c) vs) (hi : i < vs.length) :
    RArr (w.setCell ⟨g, o + i, none⟩ u) (.slice (some ⟨g, o, none⟩) n c) (vs.set i u) := by
  obtain ⟨A, c', he, h2, h3, h4⟩ := h
  injection he with he1 he2 he3
  subst he1
  subst he3
  subst he2
  refine ⟨_, c, by rw [List.length_set], by rw [List.length_set]; exact h2, h3, fun hp => ?_⟩
  obtain ⟨b, o', ha, hlt, hc⟩ := h4 (by omega)
  injection ha with ha
  injection ha with ha1 ha2 _
  subst ha1
  subst ha2
  refine ⟨g, o, rfl, by simpa [World.setCell] using hlt, fun j v hj => ?_⟩
  rw [List.getElem?_set] at hj
  by_cases hij : i = j
  · subst hij
    rw [if_pos rfl, if_pos hi] at hj
    injection hj with hj
    subst hj
    exact World.cell?_setCell_same _ _ _ (hc i _ (List.getElem?_eq_getElem hi))
  · rw [if_neg hij] at hj
    rw [World.cell?_setCell_other _ _ _ _ (fun e => hij (by injection e with _ e _; omega))]
    exact hc j v hj
theorem bytesAt_arr (w : World) (l : List UInt8) (c : Nat) (hl : l.length ≤ 1073741824) (hc : l.length ≤ c) (hm : c ≤ maxLen) : Arr8 (bytesAt w l) (.slice (some ⟨w.heap.size, 0, none⟩) l.length c) l := by
  refine ⟨_, c, by rw [List.length_map], by rw [List.length_map]; exact hc, hm, fun _ => ⟨w.heap.size, 0, rfl, bytesAt_lt w l, fun j u hj => ?_⟩⟩
  have hjl : j < l.length := by
    rcases Nat.lt_or_ge j l.length with h | h
    · exact h
    · rw [List.getElem?_eq_none (by simpa using h)] at hj; cases hj
  rw [map_d8_get hjl] at hj
  injection hj with hj
  subst hj
  rw [Nat.zero_add, bytesAt_cell w l j hjl, byteAt_eq l j hjl]
  rfl
theorem run_bytesAt2 (w : World) (l : List UInt8) (hl : l.length ≤ 1073741824) : ∃ c, (convert 9 40 (str l)).run Tryd.prog w = .ok (.slice (some ⟨w.heap.size, 0, none⟩) l.length c) (bytesAt w l) ∧
    Arr8 (bytesAt w l) (.slice (some ⟨w.heap.size, 0, none⟩) l.length c) l := by
  have := Lib.run_convert_string_bytes (P := Tryd.prog) w 9 40 5 ⟨l.toArray⟩ Tryd.underlying9 Tryd.underlying40 Tryd.underlying5
  rw [size_str] at this
  exact ⟨_, this, bytesAt_arr w l _ hl (grownCap_ge w l.length 0 _) (grownCap_le_maxLen w l.length 0 _ (by unfold maxLen; omega))⟩
theorem Arr8.set {w : World} {g n c i : Nat} {l : List UInt8} {b : UInt8} (h : Arr8 w (.slice (some ⟨g, 0, none⟩) n c) l) (hi : i < l.length) :
    Arr8 (w.setCell ⟨g, i, none⟩ (d8 b)) (.slice (some ⟨g, 0, none⟩) n c) (l.set i b) := by
  have h1 := RArr.set (u := d8 b) h (i := i) (by simpa using hi)
  rw [Nat.zero_add] at h1
  unfold Arr8
  rw [List.map_set]
  exact h1

theorem hexes_long (w : World) (h : Nat) (l : List UInt8) (a : Int) (d : UInt8) (hl : 100 < l.length) (hT : Tab16 w) :
    Calls Tryd.prog 8 #[.int .u64 (h : Int), str l, .int .i64 a, .int .u8 (d.toNat : Int)] w fun e w' => e = .returned (.bool true) ∧ Ext w w' := by
  have HT := Lib.hid hT
  have h' : (100 : Int) < (l.length : Int) := by omega
  clear hl hT
  go_enter Tryd.func8, Tryd.ntmps8
  go_wp2_with fail
  refine (awake_any _ HT.out).mono ?_
  rintro e1 w1 ⟨rfl, hx1⟩
  have HX1 := Lib.hid hx1; clear hx1
  go_wp2_with fail
  go_ret
  exact ⟨rfl, HX1.out⟩

set_option maxRecDepth 100000 in
theorem hexes_short (w : World) (h : Nat) (l : List UInt8) (a : Int) (d : UInt8) (hh : h < 18446744073709551616) (hl : l.length ≤ 100) (hb : -9223372036854775808 ≤ a ∧ a ≤ 9223372036854775807) (hT : Tab16 w) (hE : ErrVars w) :
    Calls Tryd.prog 8 #[.int .u64 (h : Int), str l, .int .i64 a, .int .u8 (d.toNat : Int)] w fun e w' => e = .returned (.bool true) ∧ Ext w w' := by
  have HT := Lib.hid hT
  have h' : ¬ (100 : Int) < (l.length : Int) := by omega
  have hlen : (hex16 h).length = 16 := by rw [hex16_fix hh, length_hexFix]
  have HH := Lib.hid (fun W hx => hex_any W h hh (hT.ext hx))
  have HRH := Lib.hid (fun W => rhex_any W h hh)
  have HU1 := Lib.hid (fun W hx => unhex_any W (hex16 h) (by omega) (hT.ext hx) (hE.ext hx))
  rw [unhex_hex hh] at HU1
  have HU2 := Lib.hid (fun W hx => unhex_any W l (by omega) (hT.ext hx) (hE.ext hx))
  have HR2 := Lib.hid (fun W => runhex_any W l (by omega))
  obtain ⟨i, hi, hi16⟩ : ∃ i : Nat, a % 16 = (i : Int) ∧ i < 16 := ⟨(a % 16).toNat, by omega, by omega⟩
  have HMOD := Lib.hid (fun W => mod_any W a 16 hb.1 hb.2 (by omega) (by omega))
  rw [hi] at HMOD
  have HU3 := Lib.hid (fun W hx => unhex_any W ((hex16 h).set i d) (by simp; omega) (hT.ext hx) (hE.ext hx))
  have HR3 := Lib.hid (fun W => runhex_any W ((hex16 h).set i d) (by simp; omega))
  generalize hex16 h = t at *
  clear hT hE hb hi hl
  generalize unhexS l = q2 at *
  generalize unhexS (t.set i d) = q3 at *
  go_enter Tryd.func8, Tryd.ntmps8
  go_wp2_with fail
  refine (awake_any _ HT.out).mono ?_
  rintro e1 w1 ⟨rfl, hx1⟩
  have HX1 := Lib.hid hx1; clear hx1
  go_wp2_with fail
  refine (HH.out _ HX1.out).mono ?_
  rintro e2 w2 ⟨rfl, hx2⟩
  have HX2 := Lib.hid (HX1.out.trans hx2); clear hx2
  go_wp2_with fail
  refine (HU1.out _ HX2.out).mono ?_
  rintro e3 w3 ⟨rfl, hx3⟩
  have HX3 := Lib.hid (HX2.out.trans hx3); clear hx3
  go_wp2_with fail
  refine (HU2.out _ HX3.out).mono ?_
  rintro e4 w4 ⟨rfl, hx4⟩
  have HX4 := Lib.hid (HX3.out.trans hx4); clear hx4
  go_wp2_with fail
  refine (HR2.out _).mono ?_
  rintro e5 w5 ⟨rfl, rfl⟩
  go_wp2_with fail
  refine (HRH.out _).mono ?_
  rintro e6 w6 ⟨rfl, rfl⟩
  obtain ⟨c, hcv, harr⟩ := run_bytesAt2 w4 t (by omega)
  rw [hlen] at hcv harr
  have hci := bytesAt_cell w4 t i (by omega)
  have hfi := bytesAt_frozen w4 t i (by omega)
  have hxb := bytesAt_ext w4 t
  generalize bytesAt w4 t = wb at *
  have HARR := Lib.hid (Arr8.set (b := d) harr (by omega : i < t.length))
  have HXB := Lib.hid (HX4.out.trans hxb)
  have hgw := HX4.out.size
  clear harr hxb
  go_wp2_with fail
  refine (HMOD.out _).mono ?_
  rintro e7 w7 ⟨rfl, rfl⟩
  have hst := run_string8 HARR.out
  simp only [d8] at hst
  have HX5 := Lib.hid (HXB.out.setCell (p := ⟨w4.heap.size, i, none⟩) hgw (.int .u8 (d.toNat : Int)))
  go_wp2_with fail
  refine (HU3.out _ HX5.out).mono ?_
  rintro e8 w8 ⟨rfl, hx8⟩
  have hst2 := run_string8 (HARR.out.ext hx8)
  have HX8 := Lib.hid (HX5.out.trans hx8); clear hx8
  go_wp2_with fail
  refine (HR3.out _).mono ?_
  rintro e9 w9 ⟨rfl, rfl⟩
  go_wp2_with fail
  go_ret
  exact ⟨rfl, HX8.out⟩

theorem hexes_any (w : World) (h : Nat) (l : List UInt8) (a : Int) (d : UInt8) (hh : h < 18446744073709551616) (hb : -9223372036854775808 ≤ a ∧ a ≤ 9223372036854775807) (hT : Tab16 w) (hE : ErrVars w) :
    Calls Tryd.prog 8 #[.int .u64 (h : Int), str l, .int .i64 a, .int .u8 (d.toNat : Int)] w fun e w' => e = .returned (.bool true) ∧ Ext w w' := by
  rcases Nat.lt_or_ge 100 l.length with hl | hl
  · exact hexes_long w h l a d hl hT
  · exact hexes_short w h l a d hh hl hb hT hE
end Big
end Go.Proofs.YtdijknnlldjgmaaDoor
