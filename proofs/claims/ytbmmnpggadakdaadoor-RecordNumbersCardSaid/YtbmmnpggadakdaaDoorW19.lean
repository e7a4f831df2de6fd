import Derived.Test.YtbmmnpggadakdaaDoorW12
import Derived.Test.YtbmmnpggadakdaaDoorW6
namespace Go.Proofs.YtbmmnpggadakdaaDoor
namespace Big
open Go.RowKit

theorem inat_any (w : World) (neg : Bool) (v : Value) (xs : List Nat) (h : Arr w v xs) (hn : xs.length ≤ 1073741824) :
    Calls Tryd.prog 43 #[.bool neg, v] w fun e w' => ∃ v', e = .returned v' ∧ IsInt w.heap.size w' v' (sgn neg (val xs)) ∧ Ext w w' := by
  have HT := Lib.hid (fun W hx => trim_any W v xs (h.ext hx) hn)
  have HS1 := Lib.hid (sgn_true (val xs))
  have HS2 := Lib.hid (sgn_false (val xs))
  clear h
  cases neg
  · go_enter Tryd.func43, Tryd.ntmps43
    go_wp2_with fail
    refine (HT.out _ ((Ext.refl w).alloc _)).mono ?_
    rintro e w' ⟨v', rfl, ho, hx⟩
    have HO := Lib.hid ho
    obtain ⟨A, c, hv, _⟩ := ho.2
    rw [List.length_map] at hv
    subst hv
    clear ho
    have hbk := (Blk.new w 49 #[Value.bool false, Value.slice none 0 0]).ext hx
    have hc0 : w'.cell? ⟨w.heap.size, 0, none⟩ = some (.bool false) := hbk.cell 0
    have hc1 : w'.cell? ⟨w.heap.size, 1, none⟩ = some (.slice none 0 0) := hbk.cell 1
    have hf0 := hbk.frozen 0
    have hf1 := hbk.frozen 1
    have hz := hbk.lt
    have HX := Lib.hid hx
    have HB := Lib.hid hbk
    clear hx hbk
    go_wp2_with fail
    obtain ⟨hr0, hr1⟩ := two_set' HB.out (.bool false) (.slice A (limbs (val xs)).length c)
    refine bodyPost_ret (v := .agg #[.bool false, .slice A (limbs (val xs)).length c]) (by simp [results, Tryd.results43, go_sem, hr0, hr1]) rfl ?_
    exact ⟨_, rfl, IsInt.laid HB.out HO.out (by simp) HS2.out (((Ext.refl w).alloc _).trans HX.out) (Nat.le_refl _)⟩
  · go_enter Tryd.func43, Tryd.ntmps43
    go_wp2_with fail
    refine (HT.out _ ((Ext.refl w).alloc _)).mono ?_
    rintro e w' ⟨v', rfl, ho, hx⟩
    have HO := Lib.hid ho
    obtain ⟨A, c, hv, _⟩ := ho.2
    rw [List.length_map] at hv
    subst hv
    clear ho
    have hbk := (Blk.new w 49 #[Value.bool false, Value.slice none 0 0]).ext hx
    have hc0 : w'.cell? ⟨w.heap.size, 0, none⟩ = some (.bool false) := hbk.cell 0
    have hc1 : w'.cell? ⟨w.heap.size, 1, none⟩ = some (.slice none 0 0) := hbk.cell 1
    have hf0 := hbk.frozen 0
    have hf1 := hbk.frozen 1
    have hz := hbk.lt
    have HX := Lib.hid hx
    have HB := Lib.hid hbk
    clear hx hbk
    go_wp2_with fail
    obtain ⟨hr0, hr1⟩ := two_set' HB.out (.bool (decide (0 < (limbs (val xs)).length))) (.slice A (limbs (val xs)).length c)
    refine bodyPost_ret (v := .agg #[.bool (decide (0 < (limbs (val xs)).length)), .slice A (limbs (val xs)).length c]) (by simp [results, Tryd.results43, go_sem, hr0, hr1]) rfl ?_
    exact ⟨_, rfl, IsInt.laid HB.out HO.out (by simp) HS1.out (((Ext.refl w).alloc _).trans HX.out) (Nat.le_refl _)⟩

end Big
end Go.Proofs.YtbmmnpggadakdaaDoor
