import Derived.Test.YtplmldkfgeiklaaGreatDoorM5
namespace Go.Proofs.YtplmldkfgeiklaaGreatDoor
namespace Big
open Go.RowKit

theorem inat_any (w : World) (neg : Bool) (v : Value) (xs : List Nat) (h : Arr w v xs) (hn : xs.length ≤ 1073741824) :
    Calls Tryz.prog 77 #[.bool neg, v] w fun e w' => ∃ v', e = .returned v' ∧ IsInt w.heap.size w' v' (sgn neg (val xs)) ∧ Ext w w' := by
  have HT := Lib.hid (fun W hx => trim_any W v xs (h.ext hx) hn)
  have HS1 := Lib.hid (sgn_true (val xs))
  have HS2 := Lib.hid (sgn_false (val xs))
  clear h
  cases neg
  · go_enter Tryz.func77, Tryz.ntmps77
    go_wp2_with fail
    refine (HT.out _ ((Ext.refl w).alloc _)).mono ?_
    rintro e w' ⟨v', rfl, ho, hx⟩
    have HO := Lib.hid ho
    obtain ⟨A, c, hv, _⟩ := ho.2
    rw [List.length_map] at hv
    subst hv
    clear ho
    have hbk := (Blk.new w 24 #[Value.bool false, Value.slice none 0 0]).ext hx
    have hc0 : w'.cell? ⟨w.heap.size, 0, none⟩ = some (.bool false) := hbk.cell 0
    have hc1 : w'.cell? ⟨w.heap.size, 1, none⟩ = some (.slice none 0 0) := hbk.cell 1
    have hf0 := hbk.frozen 0
    have hf1 := hbk.frozen 1
    have hz := hbk.lt
    have HX := Lib.hid hx
    have HB := Lib.hid hbk
    clear hx hbk
    go_wp2_with fail
    obtain ⟨hr0, hr1⟩ := two_set' HB.out (.bool false) (.slice A (limbs (val xs)).length c)
    refine bodyPost_ret (v := .agg #[.bool false, .slice A (limbs (val xs)).length c]) (by simp [results, Tryz.results77, go_sem, hr0, hr1]) rfl ?_
    exact ⟨_, rfl, IsInt.laid HB.out HO.out (by simp) HS2.out (((Ext.refl w).alloc _).trans HX.out) (Nat.le_refl _)⟩
  · go_enter Tryz.func77, Tryz.ntmps77
    go_wp2_with fail
    refine (HT.out _ ((Ext.refl w).alloc _)).mono ?_
    rintro e w' ⟨v', rfl, ho, hx⟩
    have HO := Lib.hid ho
    obtain ⟨A, c, hv, _⟩ := ho.2
    rw [List.length_map] at hv
    subst hv
    clear ho
    have hbk := (Blk.new w 24 #[Value.bool false, Value.slice none 0 0]).ext hx
    have hc0 : w'.cell? ⟨w.heap.size, 0, none⟩ = some (.bool false) := hbk.cell 0
    have hc1 : w'.cell? ⟨w.heap.size, 1, none⟩ = some (.slice none 0 0) := hbk.cell 1
    have hf0 := hbk.frozen 0
    have hf1 := hbk.frozen 1
    have hz := hbk.lt
    have HX := Lib.hid hx
    have HB := Lib.hid hbk
    clear hx hbk
    go_wp2_with fail
    obtain ⟨hr0, hr1⟩ := two_set' HB.out (.bool (decide (0 < (limbs (val xs)).length))) (.slice A (limbs (val xs)).length c)
    refine bodyPost_ret (v := .agg #[.bool (decide (0 < (limbs (val xs)).length)), .slice A (limbs (val xs)).length c]) (by simp [results, Tryz.results77, go_sem, hr0, hr1]) rfl ?_
    exact ⟨_, rfl, IsInt.laid HB.out HO.out (by simp) HS1.out (((Ext.refl w).alloc _).trans HX.out) (Nat.le_refl _)⟩

theorem iof_neg (w : World) (z : Int) (hz : z < 0) (hlo : -9223372036854775808 ≤ z) :
    Calls Tryz.prog 35 #[.int .i64 z] w fun e w' => ∃ v', e = .returned v' ∧ IsInt w.heap.size w' v' z ∧ Ext w w' := by
  obtain ⟨n, hn⟩ : ∃ n : Nat, z = -((n : Int) + 1) := ⟨(-(z + 1)).toNat, by omega⟩
  subst hn
  have hn64 : n + 1 < 18446744073709551616 := by omega
  have HT := Lib.hid (fun W => of_any W (n + 1) hn64)
  have HS1 := Lib.hid (show true = decide (sgn true (n + 1) < 0) by rw [sgn_neg]; simp)
  have HSG := Lib.hid (show sgn true (n + 1) = -((n : Int) + 1) by unfold sgn; simp)
  have hn63 : (n : Int) ≤ 9223372036854775807 := by omega
  have e1 : -((n : Int) + 1) + 1 = -(n : Int) := by omega
  clear hn64
  go_enter Tryz.func35, Tryz.ntmps35
  go_wp2_with fail
  have hx0 := (Ext.refl w).alloc (.cells #[Value.bool false, Value.slice none 0 0] 24)
  refine (HT.out _).mono ?_
  rintro e w1 ⟨v1, rfl, ho, hx⟩
  have HO := Lib.hid ho
  obtain ⟨A1, c1, hv1, _⟩ := ho.2
  rw [List.length_map] at hv1
  subst hv1
  clear ho
  have hbk := (Blk.new w 24 #[Value.bool false, Value.slice none 0 0]).ext hx
  have hc0 : w1.cell? ⟨w.heap.size, 0, none⟩ = some (.bool false) := hbk.cell 0
  have hc1 : w1.cell? ⟨w.heap.size, 1, none⟩ = some (.slice none 0 0) := hbk.cell 1
  have hf0 := hbk.frozen 0
  have hf1 := hbk.frozen 1
  have hz2 := hbk.lt
  have HX := Lib.hid (hx0.trans hx)
  have HB := Lib.hid hbk
  clear hx hbk hx0
  go_wp2_with fail
  obtain ⟨hr0, hr1⟩ := two_set' HB.out (.bool true) (.slice A1 (limbs (n + 1)).length c1)
  refine bodyPost_ret (v := .agg #[.bool true, .slice A1 (limbs (n + 1)).length c1]) (by simp [results, Tryz.results35, go_sem, hr0, hr1]) rfl ?_
  have hfin := IsInt.laid HB.out HO.out (by simp) HS1.out HX.out (Nat.le_refl _)
  rw [HSG.out] at hfin
  exact ⟨_, rfl, hfin⟩

theorem iof_pos (w : World) (n : Nat) (hn : n < 9223372036854775808) :
    Calls Tryz.prog 35 #[.int .i64 (n : Int)] w fun e w' => ∃ v', e = .returned v' ∧ IsInt w.heap.size w' v' (n : Int) ∧ Ext w w' := by
  have HT := Lib.hid (fun W => of_any W n (by omega))
  have HS1 := Lib.hid (show false = decide (sgn false n < 0) by rw [sgn_neg]; simp)
  have HSG := Lib.hid (show sgn false n = (n : Int) by unfold sgn; simp)
  have hn63 : (n : Int) ≤ 9223372036854775807 := by omega
  clear hn
  go_enter Tryz.func35, Tryz.ntmps35
  go_wp2_with fail
  have hx0 := (Ext.refl w).alloc (.cells #[Value.bool false, Value.slice none 0 0] 24)
  refine (HT.out _).mono ?_
  rintro e w1 ⟨v1, rfl, ho, hx⟩
  have HO := Lib.hid ho
  obtain ⟨A1, c1, hv1, _⟩ := ho.2
  rw [List.length_map] at hv1
  subst hv1
  clear ho
  have hbk := (Blk.new w 24 #[Value.bool false, Value.slice none 0 0]).ext hx
  have hc0 : w1.cell? ⟨w.heap.size, 0, none⟩ = some (.bool false) := hbk.cell 0
  have hc1 : w1.cell? ⟨w.heap.size, 1, none⟩ = some (.slice none 0 0) := hbk.cell 1
  have hf0 := hbk.frozen 0
  have hf1 := hbk.frozen 1
  have hz2 := hbk.lt
  have HX := Lib.hid (hx0.trans hx)
  have HB := Lib.hid hbk
  clear hx hbk hx0
  go_wp2_with fail
  obtain ⟨hr0, hr1⟩ := two_set' HB.out (.bool false) (.slice A1 (limbs n).length c1)
  refine bodyPost_ret (v := .agg #[.bool false, .slice A1 (limbs n).length c1]) (by simp [results, Tryz.results35, go_sem, hr0, hr1]) rfl ?_
  have hfin := IsInt.laid HB.out HO.out (by simp) HS1.out HX.out (Nat.le_refl _)
  rw [HSG.out] at hfin
  exact ⟨_, rfl, hfin⟩

end Big
end Go.Proofs.YtplmldkfgeiklaaGreatDoor
/- Words for a walk: what a block known whole gives it. -/
namespace Go.Proofs.YtplmldkfgeiklaaGreatDoor
namespace Big
open Go.RowKit
section
variable {w : World} {g : Nat} {t : TypeId} {a b c d e : Value}
theorem Blk.two (h : Blk w g t #[a, b]) : w.cell? ⟨g, 0, none⟩ = some a ∧ w.cell? ⟨g, 1, none⟩ = some b ∧ w.frozen? ⟨g, 0, none⟩ = false ∧ w.frozen? ⟨g, 1, none⟩ = false ∧ g < w.heap.size :=
  ⟨h.cell 0, h.cell 1, h.frozen 0, h.frozen 1, h.lt⟩
theorem Blk.three (h : Blk w g t #[a, b, c]) : w.cell? ⟨g, 0, none⟩ = some a ∧ w.cell? ⟨g, 1, none⟩ = some b ∧ w.cell? ⟨g, 2, none⟩ = some c ∧ w.frozen? ⟨g, 0, none⟩ = false ∧ w.frozen? ⟨g, 1, none⟩ = false ∧ w.frozen? ⟨g, 2, none⟩ = false ∧ g < w.heap.size :=
  ⟨h.cell 0, h.cell 1, h.cell 2, h.frozen 0, h.frozen 1, h.frozen 2, h.lt⟩
theorem ROwn.at_ {T : TypeId} {B i : Nat} {vs : List Value} (h : ROwn T B w a vs) (hi : i < vs.length) : ∃ g c, a = .slice (some ⟨g, 0, none⟩) vs.length c ∧ B ≤ g ∧ g < w.heap.size ∧ w.cell? ⟨g, i, none⟩ = vs[i]? ∧ w.frozen? ⟨g, i, none⟩ = false ∧
    ∀ u, ROwn T B (w.setCell ⟨g, i, none⟩ u) a (vs.set i u) := by
  obtain ⟨A, c, rfl, h2, h3, h4⟩ := h
  rcases h4 with ⟨rfl, _⟩ | ⟨g, cur, rfl, hg, hblk, hs, ht⟩
  · simp at hi
  · refine ⟨g, c, rfl, hg, hblk.lt, ?_, hblk.frozen i, fun u => ⟨_, c, by rw [List.length_set], by rw [List.length_set]; exact h2, h3, .inr ⟨g, _, rfl, hg, hblk.set_ i u, by simpa using hs, ?_⟩⟩⟩
    · rw [hblk.cell, List.getElem?_eq_getElem hi]
      exact take_at ht (List.getElem?_eq_getElem hi)
    · rw [List.length_set]
      conv => rhs; rw [← ht]
      apply List.ext_getElem?
      intro j
      simp only [Array.toList_setIfInBounds, List.getElem?_take, List.getElem?_set, List.length_take]
      have hcs : vs.length ≤ cur.toList.length := by simp; omega
      by_cases hj : j < vs.length
      · rw [if_pos hj, if_pos hj]
        by_cases hij : i = j
        · subst hij
          rw [if_pos rfl, if_pos rfl, if_pos (by omega), if_pos (by omega)]
        · rw [if_neg hij, if_neg hij]
      · rw [if_neg hj]
        by_cases hij : i = j
        · omega
        · rw [if_neg hij, if_neg hj]
theorem RArr.shape {vs : List Value} (h : RArr w a vs) : ∃ n A c, a = .slice A n c := by
  obtain ⟨A, c, rfl, _⟩ := h
  exact ⟨_, A, c, rfl⟩
theorem Own.shape {B : Nat} {xs : List Nat} (h : Own B w a xs) : ∃ n A c, a = .slice A n c := h.arr.2.shape
theorem Arr.shape {xs : List Nat} (h : Arr w a xs) : ∃ n A c, a = .slice A n c := h.2.shape
theorem Arr.len {xs : List Nat} {n c : Nat} {A : Option Addr} (h : Arr w (.slice A n c) xs) : n = xs.length := by
  obtain ⟨_, A', c', he, _⟩ := h
  injection he with _ h2 _
  rw [h2, List.length_map]
theorem Own.len {B : Nat} {xs : List Nat} {n c : Nat} {A : Option Addr} (h : Own B w (.slice A n c) xs) : n = xs.length := h.arr.len
theorem IsInt.shape {B : Nat} {z : Int} (h : IsInt B w a z) : ∃ b n A c, a = .agg #[.bool b, .slice A n c] := by
  obtain ⟨m, rfl, h⟩ := h
  obtain ⟨n, A, c, rfl⟩ := h.shape
  exact ⟨_, n, A, c, rfl⟩
theorem ArrInt.shape {z : Int} (h : ArrInt w a z) : ∃ b n A c, a = .agg #[.bool b, .slice A n c] := by
  obtain ⟨m, rfl, h⟩ := h
  obtain ⟨n, A, c, rfl⟩ := h.shape
  exact ⟨_, n, A, c, rfl⟩
theorem IsInt.mag {B : Nat} {z : Int} {bb : Bool} {m : Value} (h : IsInt B w (.agg #[.bool bb, m]) z) : Own B w m (limbs z.natAbs) := by
  obtain ⟨m', he, h⟩ := h
  injection he with he
  injection he with he
  injection he with _ he
  injection he with he
  subst he
  exact h
theorem IsInt.sign {B : Nat} {z : Int} {bb : Bool} {m : Value} (h : IsInt B w (.agg #[.bool bb, m]) z) : bb = decide (z < 0) := by
  obtain ⟨m', he, h⟩ := h
  injection he with he
  injection he with he
  injection he with he _
  injection he
theorem ArrInt.mag {z : Int} {bb : Bool} {m : Value} (h : ArrInt w (.agg #[.bool bb, m]) z) : Arr w m (limbs z.natAbs) := by
  obtain ⟨m', he, h⟩ := h
  injection he with he
  injection he with he
  injection he with _ he
  injection he with he
  subst he
  exact h
theorem ArrInt.sign {z : Int} {bb : Bool} {m : Value} (h : ArrInt w (.agg #[.bool bb, m]) z) : bb = decide (z < 0) := by
  obtain ⟨m', he, h⟩ := h
  injection he with he
  injection he with he
  injection he with he _
  injection he
end
section
theorem Ext.keep {w w' : World} {b o : Nat} {u : Value} (hx : Ext w w') (h : w.cell? ⟨b, o, none⟩ = some u) : w'.cell? ⟨b, o, none⟩ = some u := (hx.cell (World.block_lt_of_cell? w _ h)).trans h
theorem kept1 {wo w1 w2 : World} {b0 o0 : Nat} {u0 : Value} (h : Ext wo w1 ∧ w1.cell? ⟨b0, o0, none⟩ = some u0) (hx : Ext w1 w2) : Ext wo w2 ∧ w2.cell? ⟨b0, o0, none⟩ = some u0 :=
  ⟨h.1.trans hx, hx.keep h.2⟩
theorem kept1_drew {wo : World} {b0 o0 : Nat} {u0 : Value} (h : wo.cell? ⟨b0, o0, none⟩ = some u0) : Ext wo wo.drew ∧ wo.drew.cell? ⟨b0, o0, none⟩ = some u0 := ⟨(Ext.refl wo).drew, h⟩
theorem kept2 {wo w1 w2 : World} {b0 o0 b1 o1 : Nat} {u0 u1 : Value} (h : Ext wo w1 ∧ w1.cell? ⟨b0, o0, none⟩ = some u0 ∧ w1.cell? ⟨b1, o1, none⟩ = some u1) (hx : Ext w1 w2) : Ext wo w2 ∧ w2.cell? ⟨b0, o0, none⟩ = some u0 ∧ w2.cell? ⟨b1, o1, none⟩ = some u1 :=
  ⟨h.1.trans hx, hx.keep h.2.1, hx.keep h.2.2⟩
theorem kept2_drew {wo : World} {b0 o0 b1 o1 : Nat} {u0 u1 : Value} (h : wo.cell? ⟨b0, o0, none⟩ = some u0 ∧ wo.cell? ⟨b1, o1, none⟩ = some u1) : Ext wo wo.drew ∧ wo.drew.cell? ⟨b0, o0, none⟩ = some u0 ∧ wo.drew.cell? ⟨b1, o1, none⟩ = some u1 := ⟨(Ext.refl wo).drew, h⟩
theorem kept3 {wo w1 w2 : World} {b0 o0 b1 o1 b2 o2 : Nat} {u0 u1 u2 : Value} (h : Ext wo w1 ∧ w1.cell? ⟨b0, o0, none⟩ = some u0 ∧ w1.cell? ⟨b1, o1, none⟩ = some u1 ∧ w1.cell? ⟨b2, o2, none⟩ = some u2) (hx : Ext w1 w2) : Ext wo w2 ∧ w2.cell? ⟨b0, o0, none⟩ = some u0 ∧ w2.cell? ⟨b1, o1, none⟩ = some u1 ∧ w2.cell? ⟨b2, o2, none⟩ = some u2 :=
  ⟨h.1.trans hx, hx.keep h.2.1, hx.keep h.2.2.1, hx.keep h.2.2.2⟩
theorem kept3_drew {wo : World} {b0 o0 b1 o1 b2 o2 : Nat} {u0 u1 u2 : Value} (h : wo.cell? ⟨b0, o0, none⟩ = some u0 ∧ wo.cell? ⟨b1, o1, none⟩ = some u1 ∧ wo.cell? ⟨b2, o2, none⟩ = some u2) : Ext wo wo.drew ∧ wo.drew.cell? ⟨b0, o0, none⟩ = some u0 ∧ wo.drew.cell? ⟨b1, o1, none⟩ = some u1 ∧ wo.drew.cell? ⟨b2, o2, none⟩ = some u2 := ⟨(Ext.refl wo).drew, h⟩
theorem kept4 {wo w1 w2 : World} {b0 o0 b1 o1 b2 o2 b3 o3 : Nat} {u0 u1 u2 u3 : Value} (h : Ext wo w1 ∧ w1.cell? ⟨b0, o0, none⟩ = some u0 ∧ w1.cell? ⟨b1, o1, none⟩ = some u1 ∧ w1.cell? ⟨b2, o2, none⟩ = some u2 ∧ w1.cell? ⟨b3, o3, none⟩ = some u3) (hx : Ext w1 w2) : Ext wo w2 ∧ w2.cell? ⟨b0, o0, none⟩ = some u0 ∧ w2.cell? ⟨b1, o1, none⟩ = some u1 ∧ w2.cell? ⟨b2, o2, none⟩ = some u2 ∧ w2.cell? ⟨b3, o3, none⟩ = some u3 :=
  ⟨h.1.trans hx, hx.keep h.2.1, hx.keep h.2.2.1, hx.keep h.2.2.2.1, hx.keep h.2.2.2.2⟩
theorem kept4_drew {wo : World} {b0 o0 b1 o1 b2 o2 b3 o3 : Nat} {u0 u1 u2 u3 : Value} (h : wo.cell? ⟨b0, o0, none⟩ = some u0 ∧ wo.cell? ⟨b1, o1, none⟩ = some u1 ∧ wo.cell? ⟨b2, o2, none⟩ = some u2 ∧ wo.cell? ⟨b3, o3, none⟩ = some u3) : Ext wo wo.drew ∧ wo.drew.cell? ⟨b0, o0, none⟩ = some u0 ∧ wo.drew.cell? ⟨b1, o1, none⟩ = some u1 ∧ wo.drew.cell? ⟨b2, o2, none⟩ = some u2 ∧ wo.drew.cell? ⟨b3, o3, none⟩ = some u3 := ⟨(Ext.refl wo).drew, h⟩
theorem kept5 {wo w1 w2 : World} {b0 o0 b1 o1 b2 o2 b3 o3 b4 o4 : Nat} {u0 u1 u2 u3 u4 : Value} (h : Ext wo w1 ∧ w1.cell? ⟨b0, o0, none⟩ = some u0 ∧ w1.cell? ⟨b1, o1, none⟩ = some u1 ∧ w1.cell? ⟨b2, o2, none⟩ = some u2 ∧ w1.cell? ⟨b3, o3, none⟩ = some u3 ∧ w1.cell? ⟨b4, o4, none⟩ = some u4) (hx : Ext w1 w2) : Ext wo w2 ∧ w2.cell? ⟨b0, o0, none⟩ = some u0 ∧ w2.cell? ⟨b1, o1, none⟩ = some u1 ∧ w2.cell? ⟨b2, o2, none⟩ = some u2 ∧ w2.cell? ⟨b3, o3, none⟩ = some u3 ∧ w2.cell? ⟨b4, o4, none⟩ = some u4 :=
  ⟨h.1.trans hx, hx.keep h.2.1, hx.keep h.2.2.1, hx.keep h.2.2.2.1, hx.keep h.2.2.2.2.1, hx.keep h.2.2.2.2.2⟩
theorem kept5_drew {wo : World} {b0 o0 b1 o1 b2 o2 b3 o3 b4 o4 : Nat} {u0 u1 u2 u3 u4 : Value} (h : wo.cell? ⟨b0, o0, none⟩ = some u0 ∧ wo.cell? ⟨b1, o1, none⟩ = some u1 ∧ wo.cell? ⟨b2, o2, none⟩ = some u2 ∧ wo.cell? ⟨b3, o3, none⟩ = some u3 ∧ wo.cell? ⟨b4, o4, none⟩ = some u4) : Ext wo wo.drew ∧ wo.drew.cell? ⟨b0, o0, none⟩ = some u0 ∧ wo.drew.cell? ⟨b1, o1, none⟩ = some u1 ∧ wo.drew.cell? ⟨b2, o2, none⟩ = some u2 ∧ wo.drew.cell? ⟨b3, o3, none⟩ = some u3 ∧ wo.drew.cell? ⟨b4, o4, none⟩ = some u4 := ⟨(Ext.refl wo).drew, h⟩
theorem kept6 {wo w1 w2 : World} {b0 o0 b1 o1 b2 o2 b3 o3 b4 o4 b5 o5 : Nat} {u0 u1 u2 u3 u4 u5 : Value} (h : Ext wo w1 ∧ w1.cell? ⟨b0, o0, none⟩ = some u0 ∧ w1.cell? ⟨b1, o1, none⟩ = some u1 ∧ w1.cell? ⟨b2, o2, none⟩ = some u2 ∧ w1.cell? ⟨b3, o3, none⟩ = some u3 ∧ w1.cell? ⟨b4, o4, none⟩ = some u4 ∧ w1.cell? ⟨b5, o5, none⟩ = some u5) (hx : Ext w1 w2) : Ext wo w2 ∧ w2.cell? ⟨b0, o0, none⟩ = some u0 ∧ w2.cell? ⟨b1, o1, none⟩ = some u1 ∧ w2.cell? ⟨b2, o2, none⟩ = some u2 ∧ w2.cell? ⟨b3, o3, none⟩ = some u3 ∧ w2.cell? ⟨b4, o4, none⟩ = some u4 ∧ w2.cell? ⟨b5, o5, none⟩ = some u5 :=
  ⟨h.1.trans hx, hx.keep h.2.1, hx.keep h.2.2.1, hx.keep h.2.2.2.1, hx.keep h.2.2.2.2.1, hx.keep h.2.2.2.2.2.1, hx.keep h.2.2.2.2.2.2⟩
theorem kept6_drew {wo : World} {b0 o0 b1 o1 b2 o2 b3 o3 b4 o4 b5 o5 : Nat} {u0 u1 u2 u3 u4 u5 : Value} (h : wo.cell? ⟨b0, o0, none⟩ = some u0 ∧ wo.cell? ⟨b1, o1, none⟩ = some u1 ∧ wo.cell? ⟨b2, o2, none⟩ = some u2 ∧ wo.cell? ⟨b3, o3, none⟩ = some u3 ∧ wo.cell? ⟨b4, o4, none⟩ = some u4 ∧ wo.cell? ⟨b5, o5, none⟩ = some u5) : Ext wo wo.drew ∧ wo.drew.cell? ⟨b0, o0, none⟩ = some u0 ∧ wo.drew.cell? ⟨b1, o1, none⟩ = some u1 ∧ wo.drew.cell? ⟨b2, o2, none⟩ = some u2 ∧ wo.drew.cell? ⟨b3, o3, none⟩ = some u3 ∧ wo.drew.cell? ⟨b4, o4, none⟩ = some u4 ∧ wo.drew.cell? ⟨b5, o5, none⟩ = some u5 := ⟨(Ext.refl wo).drew, h⟩
theorem kept7 {wo w1 w2 : World} {b0 o0 b1 o1 b2 o2 b3 o3 b4 o4 b5 o5 b6 o6 : Nat} {u0 u1 u2 u3 u4 u5 u6 : Value} (h : Ext wo w1 ∧ w1.cell? ⟨b0, o0, none⟩ = some u0 ∧ w1.cell? ⟨b1, o1, none⟩ = some u1 ∧ w1.cell? ⟨b2, o2, none⟩ = some u2 ∧ w1.cell? ⟨b3, o3, none⟩ = some u3 ∧ w1.cell? ⟨b4, o4, none⟩ = some u4 ∧ w1.cell? ⟨b5, o5, none⟩ = some u5 ∧ w1.cell? ⟨b6, o6, none⟩ = some u6) (hx : Ext w1 w2) : Ext wo w2 ∧ w2.cell? ⟨b0, o0, none⟩ = some u0 ∧ w2.cell? ⟨b1, o1, none⟩ = some u1 ∧ w2.cell? ⟨b2, o2, none⟩ = some u2 ∧ w2.cell? ⟨b3, o3, none⟩ = some u3 ∧ w2.cell? ⟨b4, o4, none⟩ = some u4 ∧ w2.cell? ⟨b5, o5, none⟩ = some u5 ∧ w2.cell? ⟨b6, o6, none⟩ = some u6 :=
  ⟨h.1.trans hx, hx.keep h.2.1, hx.keep h.2.2.1, hx.keep h.2.2.2.1, hx.keep h.2.2.2.2.1, hx.keep h.2.2.2.2.2.1, hx.keep h.2.2.2.2.2.2.1, hx.keep h.2.2.2.2.2.2.2⟩
theorem kept7_drew {wo : World} {b0 o0 b1 o1 b2 o2 b3 o3 b4 o4 b5 o5 b6 o6 : Nat} {u0 u1 u2 u3 u4 u5 u6 : Value} (h : wo.cell? ⟨b0, o0, none⟩ = some u0 ∧ wo.cell? ⟨b1, o1, none⟩ = some u1 ∧ wo.cell? ⟨b2, o2, none⟩ = some u2 ∧ wo.cell? ⟨b3, o3, none⟩ = some u3 ∧ wo.cell? ⟨b4, o4, none⟩ = some u4 ∧ wo.cell? ⟨b5, o5, none⟩ = some u5 ∧ wo.cell? ⟨b6, o6, none⟩ = some u6) : Ext wo wo.drew ∧ wo.drew.cell? ⟨b0, o0, none⟩ = some u0 ∧ wo.drew.cell? ⟨b1, o1, none⟩ = some u1 ∧ wo.drew.cell? ⟨b2, o2, none⟩ = some u2 ∧ wo.drew.cell? ⟨b3, o3, none⟩ = some u3 ∧ wo.drew.cell? ⟨b4, o4, none⟩ = some u4 ∧ wo.drew.cell? ⟨b5, o5, none⟩ = some u5 ∧ wo.drew.cell? ⟨b6, o6, none⟩ = some u6 := ⟨(Ext.refl wo).drew, h⟩
theorem kept8 {wo w1 w2 : World} {b0 o0 b1 o1 b2 o2 b3 o3 b4 o4 b5 o5 b6 o6 b7 o7 : Nat} {u0 u1 u2 u3 u4 u5 u6 u7 : Value} (h : Ext wo w1 ∧ w1.cell? ⟨b0, o0, none⟩ = some u0 ∧ w1.cell? ⟨b1, o1, none⟩ = some u1 ∧ w1.cell? ⟨b2, o2, none⟩ = some u2 ∧ w1.cell? ⟨b3, o3, none⟩ = some u3 ∧ w1.cell? ⟨b4, o4, none⟩ = some u4 ∧ w1.cell? ⟨b5, o5, none⟩ = some u5 ∧ w1.cell? ⟨b6, o6, none⟩ = some u6 ∧ w1.cell? ⟨b7, o7, none⟩ = some u7) (hx : Ext w1 w2) : Ext wo w2 ∧ w2.cell? ⟨b0, o0, none⟩ = some u0 ∧ w2.cell? ⟨b1, o1, none⟩ = some u1 ∧ w2.cell? ⟨b2, o2, none⟩ = some u2 ∧ w2.cell? ⟨b3, o3, none⟩ = some u3 ∧ w2.cell? ⟨b4, o4, none⟩ = some u4 ∧ w2.cell? ⟨b5, o5, none⟩ = some u5 ∧ w2.cell? ⟨b6, o6, none⟩ = some u6 ∧ w2.cell? ⟨b7, o7, none⟩ = some u7 :=
  ⟨h.1.trans hx, hx.keep h.2.1, hx.keep h.2.2.1, hx.keep h.2.2.2.1, hx.keep h.2.2.2.2.1, hx.keep h.2.2.2.2.2.1, hx.keep h.2.2.2.2.2.2.1, hx.keep h.2.2.2.2.2.2.2.1, hx.keep h.2.2.2.2.2.2.2.2⟩
theorem kept8_drew {wo : World} {b0 o0 b1 o1 b2 o2 b3 o3 b4 o4 b5 o5 b6 o6 b7 o7 : Nat} {u0 u1 u2 u3 u4 u5 u6 u7 : Value} (h : wo.cell? ⟨b0, o0, none⟩ = some u0 ∧ wo.cell? ⟨b1, o1, none⟩ = some u1 ∧ wo.cell? ⟨b2, o2, none⟩ = some u2 ∧ wo.cell? ⟨b3, o3, none⟩ = some u3 ∧ wo.cell? ⟨b4, o4, none⟩ = some u4 ∧ wo.cell? ⟨b5, o5, none⟩ = some u5 ∧ wo.cell? ⟨b6, o6, none⟩ = some u6 ∧ wo.cell? ⟨b7, o7, none⟩ = some u7) : Ext wo wo.drew ∧ wo.drew.cell? ⟨b0, o0, none⟩ = some u0 ∧ wo.drew.cell? ⟨b1, o1, none⟩ = some u1 ∧ wo.drew.cell? ⟨b2, o2, none⟩ = some u2 ∧ wo.drew.cell? ⟨b3, o3, none⟩ = some u3 ∧ wo.drew.cell? ⟨b4, o4, none⟩ = some u4 ∧ wo.drew.cell? ⟨b5, o5, none⟩ = some u5 ∧ wo.drew.cell? ⟨b6, o6, none⟩ = some u6 ∧ wo.drew.cell? ⟨b7, o7, none⟩ = some u7 := ⟨(Ext.refl wo).drew, h⟩
end
end Big
end Go.Proofs.YtplmldkfgeiklaaGreatDoor
/- nat.Add. -/
namespace Go.Proofs.YtplmldkfgeiklaaGreatDoor
namespace Big
open Go.RowKit

/-- What nat.Add holds after k digits. -/
def AddAt (w0 wr : World) (xs ys : List Nat) (k cy : Nat) : Prop :=
  ∃ zs : List Nat, zs.length = k ∧ Ok zs ∧ val zs + 4294967296 ^ k * cy = val (xs.take k) + val (ys.take k) ∧
    Blk wr w0.heap.size 74 (cells (zs ++ List.replicate (xs.length + 1 - k) 0)) ∧ Ext w0 wr
theorem AddAt.step {w0 wr : World} {xs ys zs : List Nat} {k q t : Nat} (hk : k < xs.length) (hl : zs.length = k) (hok : Ok zs)
    (h : val zs + 4294967296 ^ k * q = val (xs.take k) + val (ys.take k)) (ht : t = q + xs.getD k 0 + ys.getD k 0)
    (hb : Blk wr w0.heap.size 74 (cells (zs ++ List.replicate (xs.length + 1 - k) 0))) (he : Ext w0 wr) :
    AddAt w0 (wr.setCell ⟨w0.heap.size, k, none⟩ (d32 (t % 4294967296))) xs ys (k + 1) (t / 4294967296) := by
  refine ⟨zs ++ [t % 4294967296], by simp [hl], hok.snoc (Nat.mod_lt _ (by omega)), add_step hl h ht, ?_, he.setCell (Nat.le_refl _) _⟩
  have h1 := hb.set_ k (d32 (t % 4294967296))
  rw [set_cells, show xs.length + 1 - k = (xs.length - k) + 1 by omega] at h1
  have h2 := set_front zs (xs.length - k) (t % 4294967296)
  rw [hl] at h2
  rw [h2] at h1
  rw [show xs.length + 1 - (k + 1) = xs.length - k by omega]
  exact h1

theorem add_ge (w : World) (v u : Value) (xs ys : List Nat) (h : Arr w v xs) (h' : Arr w u ys) (hn : xs.length ≤ 536870912) (hle : ys.length ≤ xs.length) :
    Calls Tryz.prog 140 #[v, u] w fun e w' => ∃ v', e = .returned v' ∧ Own w.heap.size w' v' (limbs (val xs + val ys)) ∧ Ext w w' := by
  obtain ⟨hok, A, cap, rfl, hcap, hmx, hcell⟩ := h.open
  obtain ⟨hok', A', cap', rfl, hcap', hmx', hcell'⟩ := h'.open
  have HC := Lib.hid hcell
  have HC' := Lib.hid hcell'
  have hmk := run_make32_succ xs.length (by omega)
  have hlt0 : ¬ (xs.length : Int) < (ys.length : Int) := by omega
  have HLE : ys.length ≤ xs.length := by omega
  clear h h' hcell hcell' hmx hmx' hcap hcap' hle
  go_enter Tryz.func140, Tryz.ntmps140
  go_wp2_with fail
  clear hmk
  go_loopw [6, 22] (fun cy i wr => ∃ k q : Nat, k ≤ xs.length ∧ q ≤ 1 ∧ i = .int .i64 k ∧ cy = .int .u64 q ∧ AddAt w wr xs ys k q) (fun _ i _ => xs.length - (intOf i).toNat)
  case atStart => exact ⟨0, 0, Nat.zero_le _, by omega, rfl, rfl, [], rfl, ok_nil, by simp [val], Blk.new _ _ _, (Ext.refl w).alloc _⟩
  case round =>
    obtain ⟨k, q, hk, hq, rfl, rfl, zs, hl, hokz, hv, hblk, hext⟩ := hrel
    have HV := Lib.hid hv; clear hv
    have HB := Lib.hid hblk; clear hblk
    have HL := Lib.hid hl; clear hl
    by_cases hlt : k < xs.length
    · obtain ⟨b, o, rfl, hb, hcell⟩ := HC.out (by omega)
      have hx := (hext.cell hb).trans (hcell k hlt)
      have hst := HB.out.cell k
      have hfz := HB.out.frozen k
      rw [get_cells _ _ (by simp [HL.out]; omega)] at hst
      clear hcell
      have hxm := hok.get k
      by_cases hk2 : k < ys.length
      · obtain ⟨b', o', rfl, hb', hcell'⟩ := HC'.out (by omega)
        have hy := (hext.cell hb').trans (hcell' k hk2)
        clear hcell'
        have hym := hok'.get k
        have HS := Lib.hid (fun t h => AddAt.step (t := t) hlt HL.out hokz HV.out h HB.out hext)
        obtain ⟨x, hxe⟩ : ∃ x, xs.getD k 0 = x := ⟨_, rfl⟩
        obtain ⟨y, hye⟩ : ∃ y, ys.getD k 0 = y := ⟨_, rfl⟩
        rw [hxe] at hx hxm HS
        rw [hye] at hy hym HS
        clear hxe hye
        simp only [d32] at hx hst hy
        go_wp2
        go_round
        case rel => exact ⟨k + 1, (q + x + y) / 4294967296, by omega, by omega, by go_num, by go_num, HS.out _ rfl⟩
        case measure => simp [intOf]; omega
      · have h0 : ys.getD k 0 = 0 := getD_ge ys k (by omega)
        have HS := Lib.hid (fun t h => AddAt.step (t := t) hlt HL.out hokz HV.out h HB.out hext)
        obtain ⟨x, hxe⟩ : ∃ x, xs.getD k 0 = x := ⟨_, rfl⟩
        rw [h0] at HS
        rw [hxe] at hx hxm HS
        clear hxe h0
        simp only [d32] at hx hst
        go_wp2
        go_round
        case rel => exact ⟨k + 1, (q + x) / 4294967296, by omega, by omega, by go_num, by go_num, HS.out _ rfl⟩
        case measure => simp [intOf]; omega
    · obtain rfl : k = xs.length := by omega
      have hst := HB.out.cell xs.length
      have hfz := HB.out.frozen xs.length
      rw [get_cells _ _ (by simp [HL.out])] at hst
      have hlast : Own w.heap.size (wr.setCell ⟨w.heap.size, xs.length, none⟩ (d32 q)) (.slice (some ⟨w.heap.size, 0, none⟩) (xs.length + 1) (xs.length + 1)) (zs ++ [q]) := by
        have h1 := HB.out.set_ xs.length (d32 q)
        have h2 := set_front zs 0 q
        rw [HL.out] at h2
        rw [set_cells, show xs.length + 1 - xs.length = 0 + 1 by omega, h2] at h1
        have h3 := Own.block (B := w.heap.size) (hokz.snoc (show q < 4294967296 by omega)) (by simpa using h1) (Nat.le_refl _) (by simp [HL.out]; omega)
        simpa [HL.out] using h3
      have hval : val (zs ++ [q]) = val xs + val ys := by
        rw [val_snoc, HL.out, HV.out, List.take_of_length_le (Nat.le_refl _), List.take_of_length_le HLE]
      have HT := Lib.hid (size_any _ _ _ hlast.arr)
      have hsz := size_le (zs ++ [q])
      rw [show (zs ++ [q]).length = xs.length + 1 by simp [HL.out]] at hsz
      obtain ⟨A1, c1, hv1, HO⟩ := hlast.take (size (zs ++ [q])) (by rw [show (zs ++ [q]).length = xs.length + 1 by simp [HL.out]]; exact hsz)
      rw [take_size hlast.ok, hval] at HO
      injection hv1 with hv1 hv3 hv2
      clear hv3
      subst hv1
      subst hv2
      have HO := Lib.hid HO
      generalize size (zs ++ [q]) = sz at *
      clear hval hlast
      simp only [d32] at hst
      go_wp2_with fail
      refine HT.out.mono ?_
      rintro e w' ⟨rfl, rfl⟩
      go_wp2_with fail
      go_ret
      exact ⟨_, rfl, HO.out, hext.setCell (Nat.le_refl _) _⟩

theorem add_lt (w : World) (v u : Value) (xs ys : List Nat) (h : Arr w v xs) (h' : Arr w u ys) (hn : xs.length ≤ 536870912) (hle : ys.length < xs.length) :
    Calls Tryz.prog 140 #[u, v] w fun e w' => ∃ v', e = .returned v' ∧ Own w.heap.size w' v' (limbs (val xs + val ys)) ∧ Ext w w' := by
  obtain ⟨hok, A, cap, rfl, hcap, hmx, hcell⟩ := h.open
  obtain ⟨hok', A', cap', rfl, hcap', hmx', hcell'⟩ := h'.open
  have HC := Lib.hid hcell
  have HC' := Lib.hid hcell'
  have hmk := run_make32_succ xs.length (by omega)
  have hlt0 : (ys.length : Int) < (xs.length : Int) := by omega
  have HLE : ys.length ≤ xs.length := by omega
  clear h h' hcell hcell' hmx hmx' hcap hcap' hle
  go_enter Tryz.func140, Tryz.ntmps140
  go_wp2_with fail
  clear hmk
  go_loopw [6, 22] (fun cy i wr => ∃ k q : Nat, k ≤ xs.length ∧ q ≤ 1 ∧ i = .int .i64 k ∧ cy = .int .u64 q ∧ AddAt w wr xs ys k q) (fun _ i _ => xs.length - (intOf i).toNat)
  case atStart => exact ⟨0, 0, Nat.zero_le _, by omega, rfl, rfl, [], rfl, ok_nil, by simp [val], Blk.new _ _ _, (Ext.refl w).alloc _⟩
  case round =>
    obtain ⟨k, q, hk, hq, rfl, rfl, zs, hl, hokz, hv, hblk, hext⟩ := hrel
    have HV := Lib.hid hv; clear hv
    have HB := Lib.hid hblk; clear hblk
    have HL := Lib.hid hl; clear hl
    by_cases hlt : k < xs.length
    · obtain ⟨b, o, rfl, hb, hcell⟩ := HC.out (by omega)
      have hx := (hext.cell hb).trans (hcell k hlt)
      have hst := HB.out.cell k
      have hfz := HB.out.frozen k
      rw [get_cells _ _ (by simp [HL.out]; omega)] at hst
      clear hcell
      have hxm := hok.get k
      by_cases hk2 : k < ys.length
      · obtain ⟨b', o', rfl, hb', hcell'⟩ := HC'.out (by omega)
        have hy := (hext.cell hb').trans (hcell' k hk2)
        clear hcell'
        have hym := hok'.get k
        have HS := Lib.hid (fun t h => AddAt.step (t := t) hlt HL.out hokz HV.out h HB.out hext)
        obtain ⟨x, hxe⟩ : ∃ x, xs.getD k 0 = x := ⟨_, rfl⟩
        obtain ⟨y, hye⟩ : ∃ y, ys.getD k 0 = y := ⟨_, rfl⟩
        rw [hxe] at hx hxm HS
        rw [hye] at hy hym HS
        clear hxe hye
        simp only [d32] at hx hst hy
        go_wp2
        go_round
        case rel => exact ⟨k + 1, (q + x + y) / 4294967296, by omega, by omega, by go_num, by go_num, HS.out _ rfl⟩
        case measure => simp [intOf]; omega
      · have h0 : ys.getD k 0 = 0 := getD_ge ys k (by omega)
        have HS := Lib.hid (fun t h => AddAt.step (t := t) hlt HL.out hokz HV.out h HB.out hext)
        obtain ⟨x, hxe⟩ : ∃ x, xs.getD k 0 = x := ⟨_, rfl⟩
        rw [h0] at HS
        rw [hxe] at hx hxm HS
        clear hxe h0
        simp only [d32] at hx hst
        go_wp2
        go_round
        case rel => exact ⟨k + 1, (q + x) / 4294967296, by omega, by omega, by go_num, by go_num, HS.out _ rfl⟩
        case measure => simp [intOf]; omega
    · obtain rfl : k = xs.length := by omega
      have hst := HB.out.cell xs.length
      have hfz := HB.out.frozen xs.length
      rw [get_cells _ _ (by simp [HL.out])] at hst
      have hlast : Own w.heap.size (wr.setCell ⟨w.heap.size, xs.length, none⟩ (d32 q)) (.slice (some ⟨w.heap.size, 0, none⟩) (xs.length + 1) (xs.length + 1)) (zs ++ [q]) := by
        have h1 := HB.out.set_ xs.length (d32 q)
        have h2 := set_front zs 0 q
        rw [HL.out] at h2
        rw [set_cells, show xs.length + 1 - xs.length = 0 + 1 by omega, h2] at h1
        have h3 := Own.block (B := w.heap.size) (hokz.snoc (show q < 4294967296 by omega)) (by simpa using h1) (Nat.le_refl _) (by simp [HL.out]; omega)
        simpa [HL.out] using h3
      have hval : val (zs ++ [q]) = val xs + val ys := by
        rw [val_snoc, HL.out, HV.out, List.take_of_length_le (Nat.le_refl _), List.take_of_length_le HLE]
      have HT := Lib.hid (size_any _ _ _ hlast.arr)
      have hsz := size_le (zs ++ [q])
      rw [show (zs ++ [q]).length = xs.length + 1 by simp [HL.out]] at hsz
      obtain ⟨A1, c1, hv1, HO⟩ := hlast.take (size (zs ++ [q])) (by rw [show (zs ++ [q]).length = xs.length + 1 by simp [HL.out]]; exact hsz)
      rw [take_size hlast.ok, hval] at HO
      injection hv1 with hv1 hv3 hv2
      clear hv3
      subst hv1
      subst hv2
      have HO := Lib.hid HO
      generalize size (zs ++ [q]) = sz at *
      clear hval hlast
      simp only [d32] at hst
      go_wp2_with fail
      refine HT.out.mono ?_
      rintro e w' ⟨rfl, rfl⟩
      go_wp2_with fail
      go_ret
      exact ⟨_, rfl, HO.out, hext.setCell (Nat.le_refl _) _⟩

theorem add_any (w : World) (v u : Value) (xs ys : List Nat) (h : Arr w v xs) (h' : Arr w u ys) (hn : xs.length ≤ 536870912) (hn' : ys.length ≤ 536870912) :
    Calls Tryz.prog 140 #[v, u] w fun e w' => ∃ v', e = .returned v' ∧ Own w.heap.size w' v' (limbs (val xs + val ys)) ∧ Ext w w' := by
  rcases Nat.lt_or_ge xs.length ys.length with hlt | hge
  · rw [Nat.add_comm]
    exact add_lt w u v ys xs h' h hn' hlt
  · exact add_ge w v u xs ys h h' hn hge
end Big
end Go.Proofs.YtplmldkfgeiklaaGreatDoor
/- product.Mul. -/
namespace Go.Proofs.YtplmldkfgeiklaaGreatDoor
namespace Big
open Go.RowKit

/-- What product.Mul holds ahead of row i. -/
def MulAt (w0 wr : World) (xs ys : List Nat) (i : Nat) : Prop :=
  ∃ os : List Nat, os.length = xs.length + ys.length ∧ Ok os ∧ val os = val (xs.take i) * val ys ∧ (∀ j, i + ys.length ≤ j → os.getD j 0 = 0) ∧
    Blk wr w0.heap.size 74 (cells os) ∧ Ext w0 wr
/-- What it holds in row i ahead of column k. -/
def MulIn (w0 wr : World) (xs ys : List Nat) (i k c : Nat) : Prop :=
  ∃ os : List Nat, os.length = xs.length + ys.length ∧ Ok os ∧ val os + 4294967296 ^ (i + k) * c = val (xs.take i) * val ys + 4294967296 ^ i * (xs.getD i 0 * val (ys.take k)) ∧
    (∀ j, i + ys.length ≤ j → os.getD j 0 = 0) ∧ Blk wr w0.heap.size 74 (cells os) ∧ Ext w0 wr
theorem MulIn.step {w0 wr : World} {xs ys os : List Nat} {i k c t : Nat} (hi : i < xs.length) (hk : k < ys.length) (hl : os.length = xs.length + ys.length) (hok : Ok os)
    (h : val os + 4294967296 ^ (i + k) * c = val (xs.take i) * val ys + 4294967296 ^ i * (xs.getD i 0 * val (ys.take k)))
    (hz : ∀ j, i + ys.length ≤ j → os.getD j 0 = 0) (ht : t = c + (xs.getD i 0 * ys.getD k 0 + os.getD (i + k) 0))
    (hb : Blk wr w0.heap.size 74 (cells os)) (he : Ext w0 wr) :
    MulIn w0 (wr.setCell ⟨w0.heap.size, i + k, none⟩ (d32 (t % 4294967296))) xs ys i (k + 1) (t / 4294967296) := by
  refine ⟨os.set (i + k) (t % 4294967296), by simp [hl], hok.set _ (Nat.mod_lt _ (by omega)), mul_step (by omega) h ht, fun j hj => ?_, ?_, he.setCell (Nat.le_refl _) _⟩
  · rw [getD_set_ne _ _ _ _ (by omega)]
    exact hz j hj
  · have := hb.set_ (i + k) (d32 (t % 4294967296))
    rwa [set_cells] at this
theorem MulIn.done {w0 wr : World} {xs ys os : List Nat} {i c : Nat} (hi : i < xs.length) (hl : os.length = xs.length + ys.length) (hok : Ok os) (hc : c < 4294967296)
    (h : val os + 4294967296 ^ (i + ys.length) * c = val (xs.take i) * val ys + 4294967296 ^ i * (xs.getD i 0 * val (ys.take ys.length)))
    (hz : ∀ j, i + ys.length ≤ j → os.getD j 0 = 0)
    (hb : Blk wr w0.heap.size 74 (cells os)) (he : Ext w0 wr) :
    MulAt w0 (wr.setCell ⟨w0.heap.size, i + ys.length, none⟩ (d32 c)) xs ys (i + 1) := by
  refine ⟨os.set (i + ys.length) c, by simp [hl], hok.set _ hc, ?_, fun j hj => ?_, ?_, he.setCell (Nat.le_refl _) _⟩
  · rw [mul_row (by omega) (hz _ (Nat.le_refl _)) h, val_take', Nat.add_mul, Nat.mul_assoc, List.take_of_length_le (Nat.le_refl _)]
  · rw [getD_set_ne _ _ _ _ (by omega)]
    exact hz j (by omega)
  · have := hb.set_ (i + ys.length) (d32 c)
    rwa [set_cells] at this
theorem prod_le2 {x y : Nat} (hx : x < 4294967296) (hy : y < 4294967296) : x * y ≤ 18446744065119617025 :=
  Nat.mul_le_mul (show x ≤ 4294967295 by omega) (show y ≤ 4294967295 by omega)

set_option maxHeartbeats 1000000 in
theorem mul_any (w : World) (v u : Value) (xs ys : List Nat) (h : Arr w v xs) (h' : Arr w u ys) (hn : xs.length ≤ 268435456) (hn' : ys.length ≤ 268435456) :
    Calls Tryz.prog 83 #[v, u] w fun e w' => ∃ v', e = .returned v' ∧ Own w.heap.size w' v' (limbs (val xs * val ys)) ∧ Ext w w' := by
  obtain ⟨hok, A, cap, rfl, hcap, hmx, hcell⟩ := h.open
  obtain ⟨hok', A', cap', rfl, hcap', hmx', hcell'⟩ := h'.open
  have HC := Lib.hid hcell
  have HC' := Lib.hid hcell'
  have hmk := run_make32 (xs.length + ys.length) (by omega)
  simp only [Int.natCast_add] at hmk
  clear h h' hcell hcell' hmx hmx' hcap hcap'
  go_enter Tryz.func83, Tryz.ntmps83
  go_wp2_with fail
  clear hmk
  go_loopw [19] (fun i wr => ∃ k : Nat, k ≤ xs.length ∧ i = .int .i64 k ∧ MulAt w wr xs ys k) (fun i _ => xs.length - (intOf i).toNat)
  case atStart => exact ⟨0, Nat.zero_le _, rfl, List.replicate (xs.length + ys.length) 0, by simp, Ok.zeros _, by simp [val, val_zeros], fun j _ => by rw [List.getD_eq_getElem?_getD, List.getElem?_replicate]; split <;> rfl, Blk.new _ _ _, (Ext.refl w).alloc _⟩
  case round =>
    obtain ⟨i, hi, rfl, os, hl, hoko, hv, hz, hblk, hext⟩ := hrel
    have HV := Lib.hid hv; clear hv
    have HZ := Lib.hid hz; clear hz
    have HB := Lib.hid hblk; clear hblk
    have HL := Lib.hid hl; clear hl
    by_cases hlt : i < xs.length
    · obtain ⟨b, o, rfl, hb, hcell⟩ := HC.out (by omega)
      have hx := (hext.cell hb).trans (hcell i hlt)
      have HXC := Lib.hid hcell
      clear hcell
      have hxm := hok.get i
      obtain ⟨x, hxe⟩ : ∃ x, xs.getD i 0 = x := ⟨_, rfl⟩
      rw [hxe] at hx hxm
      have HXE := Lib.hid hxe
      clear hxe
      simp only [d32] at hx
      obtain ⟨wo, rfl⟩ : ∃ wo : World, wo = wr := ⟨_, rfl⟩
      go_wp2_with fail
      go_loopw [8, 26] (fun cy kk wr => ∃ k c : Nat, k ≤ ys.length ∧ c < 4294967296 ∧ kk = .int .i64 k ∧ cy = .int .u64 c ∧ MulIn w wr xs ys i k c) (fun _ kk _ => ys.length - (intOf kk).toNat)
      case atStart => exact ⟨0, 0, Nat.zero_le _, by omega, rfl, rfl, os, HL.out, hoko, by simp [val, HV.out], HZ.out, HB.out, hext⟩
      case round =>
        clear HV HZ HB HL hx hoko hext os
        obtain ⟨k, c, hk, hc, rfl, rfl, os, hl, hoko, hv, hz, hblk, hext⟩ := hrel
        have HV := Lib.hid hv; clear hv
        have HZ := Lib.hid hz; clear hz
        have HB := Lib.hid hblk; clear hblk
        have HL := Lib.hid hl; clear hl
        by_cases hlt2 : k < ys.length
        · obtain ⟨b', o', rfl, hb', hcell'⟩ := HC'.out (by omega)
          have hy := (hext.cell hb').trans (hcell' k hlt2)
          clear hcell'
          have hst := HB.out.cell (i + k)
          have hfz := HB.out.frozen (i + k)
          rw [get_cells _ _ (by rw [HL.out]; omega)] at hst
          have hym := hok'.get k
          have hom := hoko.get (i + k)
          have HS := Lib.hid (fun t h => MulIn.step (t := t) hlt hlt2 HL.out hoko HV.out HZ.out h HB.out hext)
          rw [HXE.out] at HS
          obtain ⟨y, hye⟩ : ∃ y, ys.getD k 0 = y := ⟨_, rfl⟩
          obtain ⟨z, hze⟩ : ∃ z, os.getD (i + k) 0 = z := ⟨_, rfl⟩
          rw [hye] at hy hym HS
          rw [hze] at hst hom HS
          clear hye hze
          have hp := prod_le2 hxm hym
          have hp' : (x : Int) * (y : Int) ≤ 18446744065119617025 := by rw [← Int.natCast_mul]; omega
          have hp0 : 0 ≤ (x : Int) * (y : Int) := by rw [← Int.natCast_mul]; omega
          simp only [d32] at hst hy
          go_wp2
          go_roundw
          case rel => exact ⟨k + 1, (c + (x * y + z)) / 4294967296, by omega, Nat.div_lt_of_lt_mul (by omega), by go_num, by go_num, HS.out _ rfl⟩
          case measure => simp [intOf]; omega
        · obtain rfl : k = ys.length := by omega
          have hst := HB.out.cell (i + ys.length)
          have hfz := HB.out.frozen (i + ys.length)
          rw [get_cells _ _ (by rw [HL.out]; omega)] at hst
          have HD := Lib.hid (MulIn.done hlt HL.out hoko hc HV.out HZ.out HB.out hext)
          generalize os.getD (i + ys.length) 0 = z at hst
          simp only [d32] at hst
          go_wp2
          go_roundw
          case rel => exact ⟨i + 1, by omega, by go_num, HD.out⟩
          case measure => simp [intOf]; omega
    · obtain rfl : i = xs.length := by omega
      have hlast : Own w.heap.size wr (.slice (some ⟨w.heap.size, 0, none⟩) (xs.length + ys.length) (xs.length + ys.length)) os := by
        have h3 := Own.block (B := w.heap.size) hoko HB.out (Nat.le_refl _) (by rw [HL.out]; omega)
        rwa [HL.out] at h3
      have HT := trim_any _ _ _ hlast.arr (by rw [HL.out]; omega)
      rw [HV.out, List.take_of_length_le (Nat.le_refl _)] at HT
      have HT := Lib.hid HT
      clear hlast
      go_wp2_with fail
      refine HT.out.mono ?_
      rintro e w' ⟨v', rfl, ho, hx⟩
      go_wp2_with fail
      go_ret
      exact ⟨_, rfl, ho.mono hext.size, hext.trans hx⟩
end Big
end Go.Proofs.YtplmldkfgeiklaaGreatDoor
