import Derived.Test.YtbmmnpggadakdaaDoorW7
import Derived.Test.YtbmmnpggadakdaaDoorWords2
namespace Go.Proofs.YtbmmnpggadakdaaDoor
namespace Big
open Go.RowKit

/-- v is the integer z, its digits none of them zero at the top, in memory from B on. -/
def IsInt (B : Nat) (w : World) (v : Value) (z : Int) : Prop := ∃ m, v = .agg #[.bool (decide (z < 0)), m] ∧ Own B w m (limbs z.natAbs)
/-- v reads as the integer z. -/
def ArrInt (w : World) (v : Value) (z : Int) : Prop := ∃ m, v = .agg #[.bool (decide (z < 0)), m] ∧ Arr w m (limbs z.natAbs)
section
variable {w w' : World} {v : Value} {z : Int} {B B' : Nat}
theorem IsInt.ext (h : IsInt B w v z) (hb : Ext w w') : IsInt B w' v z := by
  obtain ⟨m, h1, h2⟩ := h
  exact ⟨m, h1, h2.ext hb⟩
theorem IsInt.mono (h : IsInt B w v z) (hB : B' ≤ B) : IsInt B' w v z := by
  obtain ⟨m, h1, h2⟩ := h
  exact ⟨m, h1, h2.mono hB⟩
theorem IsInt.far (h : IsInt B w v z) {p : Addr} (hp : p.block < B) (u : Value) : IsInt B (w.setCell p u) v z := by
  obtain ⟨m, h1, h2⟩ := h
  exact ⟨m, h1, h2.far hp u⟩
theorem IsInt.arr (h : IsInt B w v z) : ArrInt w v z := by
  obtain ⟨m, h1, h2⟩ := h
  exact ⟨m, h1, h2.arr⟩
theorem ArrInt.ext (h : ArrInt w v z) (hb : Ext w w') : ArrInt w' v z := by
  obtain ⟨m, h1, h2⟩ := h
  exact ⟨m, h1, h2.ext hb⟩
end
def sgn (neg : Bool) (n : Nat) : Int := if neg then -(n : Int) else n
theorem natAbs_sgn (neg : Bool) (n : Nat) : (sgn neg n).natAbs = n := by unfold sgn; split <;> omega
theorem sgn_neg (neg : Bool) (n : Nat) : decide (sgn neg n < 0) = (neg && decide (0 < n)) := by
  unfold sgn
  cases neg <;> simp

theorem len_pos (n : Nat) : decide (0 < (limbs n).length) = decide (0 < n) := by
  rcases Nat.eq_zero_or_pos n with h | h
  · subst h; rfl
  · have : 0 < (limbs n).length := by rw [limbs_pos n (by omega)]; simp
    simp [h, this]
theorem sgn_true (n : Nat) : decide (0 < (limbs n).length) = decide (sgn true n < 0) := by rw [len_pos, sgn_neg]; rfl
theorem sgn_false (n : Nat) : false = decide (sgn false n < 0) := by rw [sgn_neg]; rfl

/-- A struct of a sign and digits that has been laid in a block of the call's own. -/
theorem IsInt.laid {w w1 : World} {g : Nat} {t : TypeId} {a b m : Value} {bb neg : Bool} {n B : Nat} (_hb : Blk w1 g t #[a, b]) (ho : Own B w1 m (limbs n)) (hg : g < B) (hs : bb = decide (sgn neg n < 0)) (he : Ext w w1) (hw : w.heap.size ≤ g) :
    IsInt w.heap.size ((w1.setCell ⟨g, 0, none⟩ (.bool bb)).setCell ⟨g, 1, none⟩ m) (.agg #[.bool bb, m]) (sgn neg n) ∧ Ext w ((w1.setCell ⟨g, 0, none⟩ (.bool bb)).setCell ⟨g, 1, none⟩ m) := by
  refine ⟨⟨m, by rw [hs], ?_⟩, (he.setCell hw _).setCell hw _⟩
  rw [natAbs_sgn]
  exact ((ho.far (p := ⟨g, 0, none⟩) hg _).far (p := ⟨g, 1, none⟩) hg _).mono (by omega)
/-- An integer that has been stored in a block of the call's own. -/
theorem IsInt.stored {w w1 : World} {g B : Nat} {t : TypeId} {a b : Value} {bb : Bool} {m : Value} {z : Int} (_hb : Blk w1 g t #[a, b]) (hi : IsInt B w1 (.agg #[.bool bb, m]) z) (hg : g < B) (he : Ext w w1) (hw : w.heap.size ≤ g) :
    IsInt w.heap.size ((w1.setCell ⟨g, 0, none⟩ (.bool bb)).setCell ⟨g, 1, none⟩ m) (.agg #[.bool bb, m]) z ∧ Ext w ((w1.setCell ⟨g, 0, none⟩ (.bool bb)).setCell ⟨g, 1, none⟩ m) :=
  ⟨((hi.far (p := ⟨g, 0, none⟩) hg _).far (p := ⟨g, 1, none⟩) hg _).mono (by omega), (he.setCell hw _).setCell hw _⟩

theorem rnat_any (w : World) (neg : Bool) (v : Value) (xs : List Nat) (h : Arr w v xs) (hn : xs.length ≤ 1073741824) :
    Calls Tryd.prog 46 #[.bool neg, v] w fun e w' => ∃ v', e = .returned v' ∧ IsInt w.heap.size w' v' (sgn neg (val xs)) ∧ Ext w w' := by
  have HT := Lib.hid (fun W hx => rtrim_any W v xs (h.ext hx) hn)
  have HS1 := Lib.hid (sgn_true (val xs))
  have HS2 := Lib.hid (sgn_false (val xs))
  clear h
  cases neg
  · go_enter Tryd.func46, Tryd.ntmps46
    go_wp2_with fail
    refine (HT.out _ ((Ext.refl w).alloc _)).mono ?_
    rintro e w' ⟨v', rfl, ho, hx⟩
    have HO := Lib.hid ho
    obtain ⟨A, c, hv, _⟩ := ho.2
    rw [List.length_map] at hv
    subst hv
    clear ho
    have hbk := (Blk.new w 49 #[Value.bool false, Value.slice none 0 0]).ext hx
    have hc0 : w'.cell? ⟨w.heap.size, 0, none⟩ = some (.bool false) := hbk.cell 0
    have hc1 : w'.cell? ⟨w.heap.size, 1, none⟩ = some (.slice none 0 0) := hbk.cell 1
    have hf0 := hbk.frozen 0
    have hf1 := hbk.frozen 1
    have hz := hbk.lt
    have HX := Lib.hid hx
    have HB := Lib.hid hbk
    clear hx hbk
    go_wp2_with fail
    obtain ⟨hr0, hr1⟩ := two_set' HB.out (.bool false) (.slice A (limbs (val xs)).length c)
    refine bodyPost_ret (v := .agg #[.bool false, .slice A (limbs (val xs)).length c]) (by simp [results, Tryd.results46, go_sem, hr0, hr1]) rfl ?_
    exact ⟨_, rfl, IsInt.laid HB.out HO.out (by simp) HS2.out (((Ext.refl w).alloc _).trans HX.out) (Nat.le_refl _)⟩
  · go_enter Tryd.func46, Tryd.ntmps46
    go_wp2_with fail
    refine (HT.out _ ((Ext.refl w).alloc _)).mono ?_
    rintro e w' ⟨v', rfl, ho, hx⟩
    have HO := Lib.hid ho
    obtain ⟨A, c, hv, _⟩ := ho.2
    rw [List.length_map] at hv
    subst hv
    clear ho
    have hbk := (Blk.new w 49 #[Value.bool false, Value.slice none 0 0]).ext hx
    have hc0 : w'.cell? ⟨w.heap.size, 0, none⟩ = some (.bool false) := hbk.cell 0
    have hc1 : w'.cell? ⟨w.heap.size, 1, none⟩ = some (.slice none 0 0) := hbk.cell 1
    have hf0 := hbk.frozen 0
    have hf1 := hbk.frozen 1
    have hz := hbk.lt
    have HX := Lib.hid hx
    have HB := Lib.hid hbk
    clear hx hbk
    go_wp2_with fail
    obtain ⟨hr0, hr1⟩ := two_set' HB.out (.bool (decide (0 < (limbs (val xs)).length))) (.slice A (limbs (val xs)).length c)
    refine bodyPost_ret (v := .agg #[.bool (decide (0 < (limbs (val xs)).length)), .slice A (limbs (val xs)).length c]) (by simp [results, Tryd.results46, go_sem, hr0, hr1]) rfl ?_
    exact ⟨_, rfl, IsInt.laid HB.out HO.out (by simp) HS1.out (((Ext.refl w).alloc _).trans HX.out) (Nat.le_refl _)⟩
end Big
end Go.Proofs.YtbmmnpggadakdaaDoor
