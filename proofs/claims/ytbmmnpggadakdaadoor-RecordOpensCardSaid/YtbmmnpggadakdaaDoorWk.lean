import Derived.Test.YtbmmnpggadakdaaDoorW12
/- Words for a walk: what a block known whole gives it. -/
namespace Go.Proofs.YtbmmnpggadakdaaDoor
namespace Big
open Go.RowKit
section
variable {w : World} {g : Nat} {t : TypeId} {a b c d e : Value}
theorem Blk.two (h : Blk w g t #[a, b]) : w.cell? ⟨g, 0, none⟩ = some a ∧ w.cell? ⟨g, 1, none⟩ = some b ∧ w.frozen? ⟨g, 0, none⟩ = false ∧ w.frozen? ⟨g, 1, none⟩ = false ∧ g < w.heap.size :=
  ⟨h.cell 0, h.cell 1, h.frozen 0, h.frozen 1, h.lt⟩
theorem Blk.three (h : Blk w g t #[a, b, c]) : w.cell? ⟨g, 0, none⟩ = some a ∧ w.cell? ⟨g, 1, none⟩ = some b ∧ w.cell? ⟨g, 2, none⟩ = some c ∧ w.frozen? ⟨g, 0, none⟩ = false ∧ w.frozen? ⟨g, 1, none⟩ = false ∧ w.frozen? ⟨g, 2, none⟩ = false ∧ g < w.heap.size :=
  ⟨h.cell 0, h.cell 1, h.cell 2, h.frozen 0, h.frozen 1, h.frozen 2, h.lt⟩
theorem ROwn.at_ {T : TypeId} {B i : Nat} {vs : List Value} (h : ROwn T B w a vs) (hi : i < vs.length) : ∃ g c, a = .slice (some ⟨g, 0, none⟩) vs.length c ∧ B ≤ g ∧ g < w.heap.size ∧ w.cell? ⟨g, i, none⟩ = vs[i]? ∧ w.frozen? ⟨g, i, none⟩ = false ∧
    ∀ u, ROwn T B (w.setCell ⟨g, i, none⟩ u) a (vs.set i u) := by
  obtain ⟨A, c, rfl, h2, h3, h4⟩ := h
  rcases h4 with ⟨rfl, _⟩ | ⟨g, cur, rfl, hg, hblk, hs, ht⟩
  · simp at hi
  · refine ⟨g, c, rfl, hg, hblk.lt, ?_, hblk.frozen i, fun u => ⟨_, c, by rw [List.length_set], by rw [List.length_set]; exact h2, h3, .inr ⟨g, _, rfl, hg, hblk.set_ i u, by simpa using hs, ?_⟩⟩⟩
    · rw [hblk.cell, List.getElem?_eq_getElem hi]
      exact take_at ht (List.getElem?_eq_getElem hi)
    · rw [List.length_set]
      conv => rhs; rw [← ht]
      apply List.ext_getElem?
      intro j
      simp only [Array.toList_setIfInBounds, List.getElem?_take, List.getElem?_set, List.length_take]
      have hcs : vs.length ≤ cur.toList.length := by simp; omega
      by_cases hj : j < vs.length
      · rw [if_pos hj, if_pos hj]
        by_cases hij : i = j
        · subst hij
          rw [if_pos rfl, if_pos rfl, if_pos (by omega), if_pos (by omega)]
        · rw [if_neg hij, if_neg hij]
      · rw [if_neg hj]
        by_cases hij : i = j
        · omega
        · rw [if_neg hij, if_neg hj]
theorem RArr.shape {vs : List Value} (h : RArr w a vs) : ∃ n A c, a = .slice A n c := by
  obtain ⟨A, c, rfl, _⟩ := h
  exact ⟨_, A, c, rfl⟩
theorem Own.shape {B : Nat} {xs : List Nat} (h : Own B w a xs) : ∃ n A c, a = .slice A n c := h.arr.2.shape
theorem Arr.shape {xs : List Nat} (h : Arr w a xs) : ∃ n A c, a = .slice A n c := h.2.shape
theorem Arr.len {xs : List Nat} {n c : Nat} {A : Option Addr} (h : Arr w (.slice A n c) xs) : n = xs.length := by
  obtain ⟨_, A', c', he, _⟩ := h
  injection he with _ h2 _
  rw [h2, List.length_map]
theorem Own.len {B : Nat} {xs : List Nat} {n c : Nat} {A : Option Addr} (h : Own B w (.slice A n c) xs) : n = xs.length := h.arr.len
theorem IsInt.shape {B : Nat} {z : Int} (h : IsInt B w a z) : ∃ b n A c, a = .agg #[.bool b, .slice A n c] := by
  obtain ⟨m, rfl, h⟩ := h
  obtain ⟨n, A, c, rfl⟩ := h.shape
  exact ⟨_, n, A, c, rfl⟩
theorem ArrInt.shape {z : Int} (h : ArrInt w a z) : ∃ b n A c, a = .agg #[.bool b, .slice A n c] := by
  obtain ⟨m, rfl, h⟩ := h
  obtain ⟨n, A, c, rfl⟩ := h.shape
  exact ⟨_, n, A, c, rfl⟩
theorem IsInt.mag {B : Nat} {z : Int} {bb : Bool} {m : Value} (h : IsInt B w (.agg #[.bool bb, m]) z) : Own B w m (limbs z.natAbs) := by
  obtain ⟨m', he, h⟩ := h
  injection he with he
  injection he with he
  injection he with _ he
  injection he with he
  subst he
  exact h
theorem IsInt.sign {B : Nat} {z : Int} {bb : Bool} {m : Value} (h : IsInt B w (.agg #[.bool bb, m]) z) : bb = decide (z < 0) := by
  obtain ⟨m', he, h⟩ := h
  injection he with he
  injection he with he
  injection he with he _
  injection he
theorem ArrInt.mag {z : Int} {bb : Bool} {m : Value} (h : ArrInt w (.agg #[.bool bb, m]) z) : Arr w m (limbs z.natAbs) := by
  obtain ⟨m', he, h⟩ := h
  injection he with he
  injection he with he
  injection he with _ he
  injection he with he
  subst he
  exact h
theorem ArrInt.sign {z : Int} {bb : Bool} {m : Value} (h : ArrInt w (.agg #[.bool bb, m]) z) : bb = decide (z < 0) := by
  obtain ⟨m', he, h⟩ := h
  injection he with he
  injection he with he
  injection he with he _
  injection he
end
section
theorem Ext.keep {w w' : World} {b o : Nat} {u : Value} (hx : Ext w w') (h : w.cell? ⟨b, o, none⟩ = some u) : w'.cell? ⟨b, o, none⟩ = some u := (hx.cell (World.block_lt_of_cell? w _ h)).trans h
theorem kept1 {wo w1 w2 : World} {b0 o0 : Nat} {u0 : Value} (h : Ext wo w1 ∧ w1.cell? ⟨b0, o0, none⟩ = some u0) (hx : Ext w1 w2) : Ext wo w2 ∧ w2.cell? ⟨b0, o0, none⟩ = some u0 :=
  ⟨h.1.trans hx, hx.keep h.2⟩
theorem kept1_drew {wo : World} {b0 o0 : Nat} {u0 : Value} (h : wo.cell? ⟨b0, o0, none⟩ = some u0) : Ext wo wo.drew ∧ wo.drew.cell? ⟨b0, o0, none⟩ = some u0 := ⟨(Ext.refl wo).drew, h⟩
theorem kept2 {wo w1 w2 : World} {b0 o0 b1 o1 : Nat} {u0 u1 : Value} (h : Ext wo w1 ∧ w1.cell? ⟨b0, o0, none⟩ = some u0 ∧ w1.cell? ⟨b1, o1, none⟩ = some u1) (hx : Ext w1 w2) : Ext wo w2 ∧ w2.cell? ⟨b0, o0, none⟩ = some u0 ∧ w2.cell? ⟨b1, o1, none⟩ = some u1 :=
  ⟨h.1.trans hx, hx.keep h.2.1, hx.keep h.2.2⟩
theorem kept2_drew {wo : World} {b0 o0 b1 o1 : Nat} {u0 u1 : Value} (h : wo.cell? ⟨b0, o0, none⟩ = some u0 ∧ wo.cell? ⟨b1, o1, none⟩ = some u1) : Ext wo wo.drew ∧ wo.drew.cell? ⟨b0, o0, none⟩ = some u0 ∧ wo.drew.cell? ⟨b1, o1, none⟩ = some u1 := ⟨(Ext.refl wo).drew, h⟩
theorem kept3 {wo w1 w2 : World} {b0 o0 b1 o1 b2 o2 : Nat} {u0 u1 u2 : Value} (h : Ext wo w1 ∧ w1.cell? ⟨b0, o0, none⟩ = some u0 ∧ w1.cell? ⟨b1, o1, none⟩ = some u1 ∧ w1.cell? ⟨b2, o2, none⟩ = some u2) (hx : Ext w1 w2) : Ext wo w2 ∧ w2.cell? ⟨b0, o0, none⟩ = some u0 ∧ w2.cell? ⟨b1, o1, none⟩ = some u1 ∧ w2.cell? ⟨b2, o2, none⟩ = some u2 :=
  ⟨h.1.trans hx, hx.keep h.2.1, hx.keep h.2.2.1, hx.keep h.2.2.2⟩
theorem kept3_drew {wo : World} {b0 o0 b1 o1 b2 o2 : Nat} {u0 u1 u2 : Value} (h : wo.cell? ⟨b0, o0, none⟩ = some u0 ∧ wo.cell? ⟨b1, o1, none⟩ = some u1 ∧ wo.cell? ⟨b2, o2, none⟩ = some u2) : Ext wo wo.drew ∧ wo.drew.cell? ⟨b0, o0, none⟩ = some u0 ∧ wo.drew.cell? ⟨b1, o1, none⟩ = some u1 ∧ wo.drew.cell? ⟨b2, o2, none⟩ = some u2 := ⟨(Ext.refl wo).drew, h⟩
theorem kept4 {wo w1 w2 : World} {b0 o0 b1 o1 b2 o2 b3 o3 : Nat} {u0 u1 u2 u3 : Value} (h : Ext wo w1 ∧ w1.cell? ⟨b0, o0, none⟩ = some u0 ∧ w1.cell? ⟨b1, o1, none⟩ = some u1 ∧ w1.cell? ⟨b2, o2, none⟩ = some u2 ∧ w1.cell? ⟨b3, o3, none⟩ = some u3) (hx : Ext w1 w2) : Ext wo w2 ∧ w2.cell? ⟨b0, o0, none⟩ = some u0 ∧ w2.cell? ⟨b1, o1, none⟩ = some u1 ∧ w2.cell? ⟨b2, o2, none⟩ = some u2 ∧ w2.cell? ⟨b3, o3, none⟩ = some u3 :=
  ⟨h.1.trans hx, hx.keep h.2.1, hx.keep h.2.2.1, hx.keep h.2.2.2.1, hx.keep h.2.2.2.2⟩
theorem kept4_drew {wo : World} {b0 o0 b1 o1 b2 o2 b3 o3 : Nat} {u0 u1 u2 u3 : Value} (h : wo.cell? ⟨b0, o0, none⟩ = some u0 ∧ wo.cell? ⟨b1, o1, none⟩ = some u1 ∧ wo.cell? ⟨b2, o2, none⟩ = some u2 ∧ wo.cell? ⟨b3, o3, none⟩ = some u3) : Ext wo wo.drew ∧ wo.drew.cell? ⟨b0, o0, none⟩ = some u0 ∧ wo.drew.cell? ⟨b1, o1, none⟩ = some u1 ∧ wo.drew.cell? ⟨b2, o2, none⟩ = some u2 ∧ wo.drew.cell? ⟨b3, o3, none⟩ = some u3 := ⟨(Ext.refl wo).drew, h⟩
theorem kept5 {wo w1 w2 : World} {b0 o0 b1 o1 b2 o2 b3 o3 b4 o4 : Nat} {u0 u1 u2 u3 u4 : Value} (h : Ext wo w1 ∧ w1.cell? ⟨b0, o0, none⟩ = some u0 ∧ w1.cell? ⟨b1, o1, none⟩ = some u1 ∧ w1.cell? ⟨b2, o2, none⟩ = some u2 ∧ w1.cell? ⟨b3, o3, none⟩ = some u3 ∧ w1.cell? ⟨b4, o4, none⟩ = some u4) (hx : Ext w1 w2) : Ext wo w2 ∧ w2.cell? ⟨b0, o0, none⟩ = some u0 ∧ w2.cell? ⟨b1, o1, none⟩ = some u1 ∧ w2.cell? ⟨b2, o2, none⟩ = some u2 ∧ w2.cell? ⟨b3, o3, none⟩ = some u3 ∧ w2.cell? ⟨b4, o4, none⟩ = some u4 :=
  ⟨h.1.trans hx, hx.keep h.2.1, hx.keep h.2.2.1, hx.keep h.2.2.2.1, hx.keep h.2.2.2.2.1, hx.keep h.2.2.2.2.2⟩
theorem kept5_drew {wo : World} {b0 o0 b1 o1 b2 o2 b3 o3 b4 o4 : Nat} {u0 u1 u2 u3 u4 : Value} (h : wo.cell? ⟨b0, o0, none⟩ = some u0 ∧ wo.cell? ⟨b1, o1, none⟩ = some u1 ∧ wo.cell? ⟨b2, o2, none⟩ = some u2 ∧ wo.cell? ⟨b3, o3, none⟩ = some u3 ∧ wo.cell? ⟨b4, o4, none⟩ = some u4) : Ext wo wo.drew ∧ wo.drew.cell? ⟨b0, o0, none⟩ = some u0 ∧ wo.drew.cell? ⟨b1, o1, none⟩ = some u1 ∧ wo.drew.cell? ⟨b2, o2, none⟩ = some u2 ∧ wo.drew.cell? ⟨b3, o3, none⟩ = some u3 ∧ wo.drew.cell? ⟨b4, o4, none⟩ = some u4 := ⟨(Ext.refl wo).drew, h⟩
theorem kept6 {wo w1 w2 : World} {b0 o0 b1 o1 b2 o2 b3 o3 b4 o4 b5 o5 : Nat} {u0 u1 u2 u3 u4 u5 : Value} (h : Ext wo w1 ∧ w1.cell? ⟨b0, o0, none⟩ = some u0 ∧ w1.cell? ⟨b1, o1, none⟩ = some u1 ∧ w1.cell? ⟨b2, o2, none⟩ = some u2 ∧ w1.cell? ⟨b3, o3, none⟩ = some u3 ∧ w1.cell? ⟨b4, o4, none⟩ = some u4 ∧ w1.cell? ⟨b5, o5, none⟩ = some u5) (hx : Ext w1 w2) : Ext wo w2 ∧ w2.cell? ⟨b0, o0, none⟩ = some u0 ∧ w2.cell? ⟨b1, o1, none⟩ = some u1 ∧ w2.cell? ⟨b2, o2, none⟩ = some u2 ∧ w2.cell? ⟨b3, o3, none⟩ = some u3 ∧ w2.cell? ⟨b4, o4, none⟩ = some u4 ∧ w2.cell? ⟨b5, o5, none⟩ = some u5 :=
  ⟨h.1.trans hx, hx.keep h.2.1, hx.keep h.2.2.1, hx.keep h.2.2.2.1, hx.keep h.2.2.2.2.1, hx.keep h.2.2.2.2.2.1, hx.keep h.2.2.2.2.2.2⟩
theorem kept6_drew {wo : World} {b0 o0 b1 o1 b2 o2 b3 o3 b4 o4 b5 o5 : Nat} {u0 u1 u2 u3 u4 u5 : Value} (h : wo.cell? ⟨b0, o0, none⟩ = some u0 ∧ wo.cell? ⟨b1, o1, none⟩ = some u1 ∧ wo.cell? ⟨b2, o2, none⟩ = some u2 ∧ wo.cell? ⟨b3, o3, none⟩ = some u3 ∧ wo.cell? ⟨b4, o4, none⟩ = some u4 ∧ wo.cell? ⟨b5, o5, none⟩ = some u5) : Ext wo wo.drew ∧ wo.drew.cell? ⟨b0, o0, none⟩ = some u0 ∧ wo.drew.cell? ⟨b1, o1, none⟩ = some u1 ∧ wo.drew.cell? ⟨b2, o2, none⟩ = some u2 ∧ wo.drew.cell? ⟨b3, o3, none⟩ = some u3 ∧ wo.drew.cell? ⟨b4, o4, none⟩ = some u4 ∧ wo.drew.cell? ⟨b5, o5, none⟩ = some u5 := ⟨(Ext.refl wo).drew, h⟩
theorem kept7 {wo w1 w2 : World} {b0 o0 b1 o1 b2 o2 b3 o3 b4 o4 b5 o5 b6 o6 : Nat} {u0 u1 u2 u3 u4 u5 u6 : Value} (h : Ext wo w1 ∧ w1.cell? ⟨b0, o0, none⟩ = some u0 ∧ w1.cell? ⟨b1, o1, none⟩ = some u1 ∧ w1.cell? ⟨b2, o2, none⟩ = some u2 ∧ w1.cell? ⟨b3, o3, none⟩ = some u3 ∧ w1.cell? ⟨b4, o4, none⟩ = some u4 ∧ w1.cell? ⟨b5, o5, none⟩ = some u5 ∧ w1.cell? ⟨b6, o6, none⟩ = some u6) (hx : Ext w1 w2) : Ext wo w2 ∧ w2.cell? ⟨b0, o0, none⟩ = some u0 ∧ w2.cell? ⟨b1, o1, none⟩ = some u1 ∧ w2.cell? ⟨b2, o2, none⟩ = some u2 ∧ w2.cell? ⟨b3, o3, none⟩ = some u3 ∧ w2.cell? ⟨b4, o4, none⟩ = some u4 ∧ w2.cell? ⟨b5, o5, none⟩ = some u5 ∧ w2.cell? ⟨b6, o6, none⟩ = some u6 :=
  ⟨h.1.trans hx, hx.keep h.2.1, hx.keep h.2.2.1, hx.keep h.2.2.2.1, hx.keep h.2.2.2.2.1, hx.keep h.2.2.2.2.2.1, hx.keep h.2.2.2.2.2.2.1, hx.keep h.2.2.2.2.2.2.2⟩
theorem kept7_drew {wo : World} {b0 o0 b1 o1 b2 o2 b3 o3 b4 o4 b5 o5 b6 o6 : Nat} {u0 u1 u2 u3 u4 u5 u6 : Value} (h : wo.cell? ⟨b0, o0, none⟩ = some u0 ∧ wo.cell? ⟨b1, o1, none⟩ = some u1 ∧ wo.cell? ⟨b2, o2, none⟩ = some u2 ∧ wo.cell? ⟨b3, o3, none⟩ = some u3 ∧ wo.cell? ⟨b4, o4, none⟩ = some u4 ∧ wo.cell? ⟨b5, o5, none⟩ = some u5 ∧ wo.cell? ⟨b6, o6, none⟩ = some u6) : Ext wo wo.drew ∧ wo.drew.cell? ⟨b0, o0, none⟩ = some u0 ∧ wo.drew.cell? ⟨b1, o1, none⟩ = some u1 ∧ wo.drew.cell? ⟨b2, o2, none⟩ = some u2 ∧ wo.drew.cell? ⟨b3, o3, none⟩ = some u3 ∧ wo.drew.cell? ⟨b4, o4, none⟩ = some u4 ∧ wo.drew.cell? ⟨b5, o5, none⟩ = some u5 ∧ wo.drew.cell? ⟨b6, o6, none⟩ = some u6 := ⟨(Ext.refl wo).drew, h⟩
theorem kept8 {wo w1 w2 : World} {b0 o0 b1 o1 b2 o2 b3 o3 b4 o4 b5 o5 b6 o6 b7 o7 : Nat} {u0 u1 u2 u3 u4 u5 u6 u7 : Value} (h : Ext wo w1 ∧ w1.cell? ⟨b0, o0, none⟩ = some u0 ∧ w1.cell? ⟨b1, o1, none⟩ = some u1 ∧ w1.cell? ⟨b2, o2, none⟩ = some u2 ∧ w1.cell? ⟨b3, o3, none⟩ = some u3 ∧ w1.cell? ⟨b4, o4, none⟩ = some u4 ∧ w1.cell? ⟨b5, o5, none⟩ = some u5 ∧ w1.cell? ⟨b6, o6, none⟩ = some u6 ∧ w1.cell? ⟨b7, o7, none⟩ = some u7) (hx : Ext w1 w2) : Ext wo w2 ∧ w2.cell? ⟨b0, o0, none⟩ = some u0 ∧ w2.cell? ⟨b1, o1, none⟩ = some u1 ∧ w2.cell? ⟨b2, o2, none⟩ = some u2 ∧ w2.cell? ⟨b3, o3, none⟩ = some u3 ∧ w2.cell? ⟨b4, o4, none⟩ = some u4 ∧ w2.cell? ⟨b5, o5, none⟩ = some u5 ∧ w2.cell? ⟨b6, o6, none⟩ = some u6 ∧ w2.cell? ⟨b7, o7, none⟩ = some u7 :=
  ⟨h.1.trans hx, hx.keep h.2.1, hx.keep h.2.2.1, hx.keep h.2.2.2.1, hx.keep h.2.2.2.2.1, hx.keep h.2.2.2.2.2.1, hx.keep h.2.2.2.2.2.2.1, hx.keep h.2.2.2.2.2.2.2.1, hx.keep h.2.2.2.2.2.2.2.2⟩
theorem kept8_drew {wo : World} {b0 o0 b1 o1 b2 o2 b3 o3 b4 o4 b5 o5 b6 o6 b7 o7 : Nat} {u0 u1 u2 u3 u4 u5 u6 u7 : Value} (h : wo.cell? ⟨b0, o0, none⟩ = some u0 ∧ wo.cell? ⟨b1, o1, none⟩ = some u1 ∧ wo.cell? ⟨b2, o2, none⟩ = some u2 ∧ wo.cell? ⟨b3, o3, none⟩ = some u3 ∧ wo.cell? ⟨b4, o4, none⟩ = some u4 ∧ wo.cell? ⟨b5, o5, none⟩ = some u5 ∧ wo.cell? ⟨b6, o6, none⟩ = some u6 ∧ wo.cell? ⟨b7, o7, none⟩ = some u7) : Ext wo wo.drew ∧ wo.drew.cell? ⟨b0, o0, none⟩ = some u0 ∧ wo.drew.cell? ⟨b1, o1, none⟩ = some u1 ∧ wo.drew.cell? ⟨b2, o2, none⟩ = some u2 ∧ wo.drew.cell? ⟨b3, o3, none⟩ = some u3 ∧ wo.drew.cell? ⟨b4, o4, none⟩ = some u4 ∧ wo.drew.cell? ⟨b5, o5, none⟩ = some u5 ∧ wo.drew.cell? ⟨b6, o6, none⟩ = some u6 ∧ wo.drew.cell? ⟨b7, o7, none⟩ = some u7 := ⟨(Ext.refl wo).drew, h⟩
end
end Big
end Go.Proofs.YtbmmnpggadakdaaDoor
