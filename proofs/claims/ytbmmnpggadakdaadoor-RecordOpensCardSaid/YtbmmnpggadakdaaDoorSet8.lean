import Derived.Test.YtbmmnpggadakdaaDoorW31
/- Bytes of a text in memory, one of them set. -/
namespace Go.Proofs.YtbmmnpggadakdaaDoor
namespace Big
open Go.RowKit
theorem bytesAt_frozen (w : World) (l : List UInt8) (j : Nat) (h : j < l.length) : (bytesAt w l).frozen? ⟨w.heap.size, j, none⟩ = false := by
  have hs : l.length ≤ (Lib.bytesCells w 5 ⟨l.toArray⟩).size := by
    unfold Lib.bytesCells
    simp
  unfold bytesAt World.frozen?
  rw [Lib.bytesWorld_at_new]
  simp
  omega
theorem RArr.set {w : World} {g o n c i : Nat} {vs : List Value} {u : Value} (h : RArr w (.slice (some ⟨g, o, none⟩) n c) vs) (hi : i < vs.length) :
    RArr (w.setCell ⟨g, o + i, none⟩ u) (.slice (some ⟨g, o, none⟩) n c) (vs.set i u) := by
  obtain ⟨A, c', he, h2, h3, h4⟩ := h
  injection he with he1 he2 he3
  subst he1
  subst he3
  subst he2
  refine ⟨_, c, by rw [List.length_set], by rw [List.length_set]; exact h2, h3, fun hp => ?_⟩
  obtain ⟨b, o', ha, hlt, hc⟩ := h4 (by omega)
  injection ha with ha
  injection ha with ha1 ha2 _
  subst ha1
  subst ha2
  refine ⟨g, o, rfl, by simpa [World.setCell] using hlt, fun j v hj => ?_⟩
  rw [List.getElem?_set] at hj
  by_cases hij : i = j
  · subst hij
    rw [if_pos rfl, if_pos hi] at hj
    injection hj with hj
    subst hj
    exact World.cell?_setCell_same _ _ _ (hc i _ (List.getElem?_eq_getElem hi))
  · rw [if_neg hij] at hj
    rw [World.cell?_setCell_other _ _ _ _ (fun e => hij (by injection e with _ e _; omega))]
    exact hc j v hj
theorem bytesAt_arr (w : World) (l : List UInt8) (c : Nat) (hl : l.length ≤ 1073741824) (hc : l.length ≤ c) (hm : c ≤ maxLen) : Arr8 (bytesAt w l) (.slice (some ⟨w.heap.size, 0, none⟩) l.length c) l := by
  refine ⟨_, c, by rw [List.length_map], by rw [List.length_map]; exact hc, hm, fun _ => ⟨w.heap.size, 0, rfl, bytesAt_lt w l, fun j u hj => ?_⟩⟩
  have hjl : j < l.length := by
    rcases Nat.lt_or_ge j l.length with h | h
    · exact h
    · rw [List.getElem?_eq_none (by simpa using h)] at hj; cases hj
  rw [map_d8_get hjl] at hj
  injection hj with hj
  subst hj
  rw [Nat.zero_add, bytesAt_cell w l j hjl, byteAt_eq l j hjl]
  rfl
theorem run_bytesAt2 (w : World) (l : List UInt8) (hl : l.length ≤ 1073741824) : ∃ c, (convert 9 37 (str l)).run Tryd.prog w = .ok (.slice (some ⟨w.heap.size, 0, none⟩) l.length c) (bytesAt w l) ∧
    Arr8 (bytesAt w l) (.slice (some ⟨w.heap.size, 0, none⟩) l.length c) l := by
  have := Lib.run_convert_string_bytes (P := Tryd.prog) w 9 37 5 ⟨l.toArray⟩ Tryd.underlying9 Tryd.underlying37 Tryd.underlying5
  rw [size_str] at this
  exact ⟨_, this, bytesAt_arr w l _ hl (grownCap_ge w l.length 0 _) (grownCap_le_maxLen w l.length 0 _ (by unfold maxLen; omega))⟩
theorem Arr8.set {w : World} {g n c i : Nat} {l : List UInt8} {b : UInt8} (h : Arr8 w (.slice (some ⟨g, 0, none⟩) n c) l) (hi : i < l.length) :
    Arr8 (w.setCell ⟨g, i, none⟩ (d8 b)) (.slice (some ⟨g, 0, none⟩) n c) (l.set i b) := by
  have h1 := RArr.set (u := d8 b) h (i := i) (by simpa using hi)
  rw [Nat.zero_add] at h1
  unfold Arr8
  rw [List.map_set]
  exact h1
/-- A row that was there before these bytes was written: they stand. -/
theorem Arr8.kept {w w' wa : World} {g n c B : Nat} {l : List UInt8} {t : TypeId} {u : Value} {us : List Value} (h : Arr8 w (.slice (some ⟨g, 0, none⟩) n c) l) (k : ROwn t B wa u us) (hg : wa.heap.size ≤ g) (hgr : w.grownBy w' (rowOf u)) :
    Arr8 w' (.slice (some ⟨g, 0, none⟩) n c) l := by
  obtain ⟨A, c', he, h2, h3, h4⟩ := h
  injection he with he1 he2 he3
  subst he1
  subst he3
  subst he2
  refine ⟨_, c, rfl, h2, h3, fun hp => ?_⟩
  obtain ⟨b, o, hbo, hlt, hc⟩ := h4 hp
  injection hbo with hbo
  injection hbo with hb ho _
  subst hb
  subst ho
  have hne : some g ≠ rowOf u := by
    obtain ⟨A', c', rfl, k2, k3, k4⟩ := k
    rcases k4 with ⟨_, rfl⟩ | ⟨g', cur', rfl, _, kblk, _, _⟩
    · rcases A' with _ | a <;> simp [rowOf]
    · simp only [rowOf]
      split
      · simp
      · intro he
        injection he with he
        have := kblk.lt
        omega
  exact ⟨g, 0, rfl, Nat.lt_of_lt_of_le hlt hgr.size, fun j v hj => (World.cell?_of_block (w := w) (a := ⟨g, 0 + j, none⟩) (hgr.block g hlt hne)).trans (hc j v hj)⟩
end Big
end Go.Proofs.YtbmmnpggadakdaaDoor
