import Derived.Test.YtdijknnlldjgmaaDoorW12
import Derived.Test.YtdijknnlldjgmaaDoorW6
namespace Go.Proofs.YtdijknnlldjgmaaDoor
namespace Big
open Go.RowKit

theorem inat_any (w : World) (neg : Bool) (v : Value) (xs : List Nat) (h : Arr w v xs) (hn : xs.length ≤ 1073741824) :
    Calls Tryd.prog 25 #[.bool neg, v] w fun e w' => ∃ v', e = .returned v' ∧ IsInt w.heap.size w' v' (sgn neg (val xs)) ∧ Ext w w' := by
  have HT := Lib.hid (fun W hx => trim_any W v xs (h.ext hx) hn)
  have HS1 := Lib.hid (sgn_true (val xs))
  have HS2 := Lib.hid (sgn_false (val xs))
  clear h
  cases neg
  · go_enter Tryd.func25, Tryd.ntmps25
    go_wp2_with fail
    refine (HT.out _ ((Ext.refl w).alloc _)).mono ?_
    rintro e w' ⟨v', rfl, ho, hx⟩
    have HO := Lib.hid ho
    obtain ⟨A, c, hv, _⟩ := ho.2
    rw [List.length_map] at hv
    subst hv
    clear ho
    have hbk := (Blk.new w 24 #[Value.bool false, Value.slice none 0 0]).ext hx
    have hc0 : w'.cell? ⟨w.heap.size, 0, none⟩ = some (.bool false) := hbk.cell 0
    have hc1 : w'.cell? ⟨w.heap.size, 1, none⟩ = some (.slice none 0 0) := hbk.cell 1
    have hf0 := hbk.frozen 0
    have hf1 := hbk.frozen 1
    have hz := hbk.lt
    have HX := Lib.hid hx
    have HB := Lib.hid hbk
    clear hx hbk
    go_wp2_with fail
    obtain ⟨hr0, hr1⟩ := two_set' HB.out (.bool false) (.slice A (limbs (val xs)).length c)
    refine bodyPost_ret (v := .agg #[.bool false, .slice A (limbs (val xs)).length c]) (by simp [results, Tryd.results25, go_sem, hr0, hr1]) rfl ?_
    exact ⟨_, rfl, IsInt.laid HB.out HO.out (by simp) HS2.out (((Ext.refl w).alloc _).trans HX.out) (Nat.le_refl _)⟩
  · go_enter Tryd.func25, Tryd.ntmps25
    go_wp2_with fail
    refine (HT.out _ ((Ext.refl w).alloc _)).mono ?_
    rintro e w' ⟨v', rfl, ho, hx⟩
    have HO := Lib.hid ho
    obtain ⟨A, c, hv, _⟩ := ho.2
    rw [List.length_map] at hv
    subst hv
    clear ho
    have hbk := (Blk.new w 24 #[Value.bool false, Value.slice none 0 0]).ext hx
    have hc0 : w'.cell? ⟨w.heap.size, 0, none⟩ = some (.bool false) := hbk.cell 0
    have hc1 : w'.cell? ⟨w.heap.size, 1, none⟩ = some (.slice none 0 0) := hbk.cell 1
    have hf0 := hbk.frozen 0
    have hf1 := hbk.frozen 1
    have hz := hbk.lt
    have HX := Lib.hid hx
    have HB := Lib.hid hbk
    clear hx hbk
    go_wp2_with fail
    obtain ⟨hr0, hr1⟩ := two_set' HB.out (.bool (decide (0 < (limbs (val xs)).length))) (.slice A (limbs (val xs)).length c)
    refine bodyPost_ret (v := .agg #[.bool (decide (0 < (limbs (val xs)).length)), .slice A (limbs (val xs)).length c]) (by simp [results, Tryd.results25, go_sem, hr0, hr1]) rfl ?_
    exact ⟨_, rfl, IsInt.laid HB.out HO.out (by simp) HS1.out (((Ext.refl w).alloc _).trans HX.out) (Nat.le_refl _)⟩

theorem iof_neg (w : World) (z : Int) (hz : z < 0) (hlo : -9223372036854775808 ≤ z) :
    Calls Tryd.prog 26 #[.int .i64 z] w fun e w' => ∃ v', e = .returned v' ∧ IsInt w.heap.size w' v' z ∧ Ext w w' := by
  obtain ⟨n, hn⟩ : ∃ n : Nat, z = -((n : Int) + 1) := ⟨(-(z + 1)).toNat, by omega⟩
  subst hn
  have hn64 : n + 1 < 18446744073709551616 := by omega
  have HT := Lib.hid (fun W => of_any W (n + 1) hn64)
  have HS1 := Lib.hid (show true = decide (sgn true (n + 1) < 0) by rw [sgn_neg]; simp)
  have HSG := Lib.hid (show sgn true (n + 1) = -((n : Int) + 1) by unfold sgn; simp)
  have hn63 : (n : Int) ≤ 9223372036854775807 := by omega
  have e1 : -((n : Int) + 1) + 1 = -(n : Int) := by omega
  clear hn64
  go_enter Tryd.func26, Tryd.ntmps26
  go_wp2_with fail
  have hx0 := (Ext.refl w).alloc (.cells #[Value.bool false, Value.slice none 0 0] 24)
  refine (HT.out _).mono ?_
  rintro e w1 ⟨v1, rfl, ho, hx⟩
  have HO := Lib.hid ho
  obtain ⟨A1, c1, hv1, _⟩ := ho.2
  rw [List.length_map] at hv1
  subst hv1
  clear ho
  have hbk := (Blk.new w 24 #[Value.bool false, Value.slice none 0 0]).ext hx
  have hc0 : w1.cell? ⟨w.heap.size, 0, none⟩ = some (.bool false) := hbk.cell 0
  have hc1 : w1.cell? ⟨w.heap.size, 1, none⟩ = some (.slice none 0 0) := hbk.cell 1
  have hf0 := hbk.frozen 0
  have hf1 := hbk.frozen 1
  have hz2 := hbk.lt
  have HX := Lib.hid (hx0.trans hx)
  have HB := Lib.hid hbk
  clear hx hbk hx0
  go_wp2_with fail
  obtain ⟨hr0, hr1⟩ := two_set' HB.out (.bool true) (.slice A1 (limbs (n + 1)).length c1)
  refine bodyPost_ret (v := .agg #[.bool true, .slice A1 (limbs (n + 1)).length c1]) (by simp [results, Tryd.results26, go_sem, hr0, hr1]) rfl ?_
  have hfin := IsInt.laid HB.out HO.out (by simp) HS1.out HX.out (Nat.le_refl _)
  rw [HSG.out] at hfin
  exact ⟨_, rfl, hfin⟩

theorem iof_pos (w : World) (n : Nat) (hn : n < 9223372036854775808) :
    Calls Tryd.prog 26 #[.int .i64 (n : Int)] w fun e w' => ∃ v', e = .returned v' ∧ IsInt w.heap.size w' v' (n : Int) ∧ Ext w w' := by
  have HT := Lib.hid (fun W => of_any W n (by omega))
  have HS1 := Lib.hid (show false = decide (sgn false n < 0) by rw [sgn_neg]; simp)
  have HSG := Lib.hid (show sgn false n = (n : Int) by unfold sgn; simp)
  have hn63 : (n : Int) ≤ 9223372036854775807 := by omega
  clear hn
  go_enter Tryd.func26, Tryd.ntmps26
  go_wp2_with fail
  have hx0 := (Ext.refl w).alloc (.cells #[Value.bool false, Value.slice none 0 0] 24)
  refine (HT.out _).mono ?_
  rintro e w1 ⟨v1, rfl, ho, hx⟩
  have HO := Lib.hid ho
  obtain ⟨A1, c1, hv1, _⟩ := ho.2
  rw [List.length_map] at hv1
  subst hv1
  clear ho
  have hbk := (Blk.new w 24 #[Value.bool false, Value.slice none 0 0]).ext hx
  have hc0 : w1.cell? ⟨w.heap.size, 0, none⟩ = some (.bool false) := hbk.cell 0
  have hc1 : w1.cell? ⟨w.heap.size, 1, none⟩ = some (.slice none 0 0) := hbk.cell 1
  have hf0 := hbk.frozen 0
  have hf1 := hbk.frozen 1
  have hz2 := hbk.lt
  have HX := Lib.hid (hx0.trans hx)
  have HB := Lib.hid hbk
  clear hx hbk hx0
  go_wp2_with fail
  obtain ⟨hr0, hr1⟩ := two_set' HB.out (.bool false) (.slice A1 (limbs n).length c1)
  refine bodyPost_ret (v := .agg #[.bool false, .slice A1 (limbs n).length c1]) (by simp [results, Tryd.results26, go_sem, hr0, hr1]) rfl ?_
  have hfin := IsInt.laid HB.out HO.out (by simp) HS1.out HX.out (Nat.le_refl _)
  rw [HSG.out] at hfin
  exact ⟨_, rfl, hfin⟩

end Big
end Go.Proofs.YtdijknnlldjgmaaDoor
