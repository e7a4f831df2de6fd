import Derived.Test.YtbmmnpggadakdaaDoorW25
import Derived.Test.YtbmmnpggadakdaaDoorW13
namespace Go.Proofs.YtbmmnpggadakdaaDoor
namespace Big
open Go.RowKit

theorem rparse_long (w : World) (l : List UInt8) (h : 20001 < l.length) :
    Calls Tryd.prog 30 #[str l] w (ParseRes w (0, 7)) := by
  have h' : (20001 : Int) < (l.length : Int) := by omega
  clear h
  go_enter Tryd.func30, Tryd.ntmps30
  go_wp2_with fail
  refine bodyPost_ret (v := .tuple #[.agg #[.bool false, .slice none 0 0], .int .i64 7]) (by simp [results, Tryd.results30, go_sem]) rfl ?_
  exact ⟨_, rfl, IsInt.zero _ _, (Ext.refl w).alloc _⟩

theorem rparse_neg_bad (w : World) (l : List UInt8) (n e : Nat) (hN : natural (l.tail) = (n, e)) (he : e ≠ 0) (hl : l.length ≤ 20001) (h45 : byteAt l 0 = 45) (hne : 0 < l.length) :
    Calls Tryd.prog 30 #[str l] w (ParseRes w (0, 6)) := by
  have HN := Lib.hid (fun W => rnatural_any W (l.tail))
  rw [hN] at HN
  have hb : ((e : Int) != 0) = true := by rw [bne_iff_ne]; omega
  clear hN he
  have hle : ¬ (20001 : Int) < (l.length : Int) := by omega
  have hlen : (0 : Int) < (l.length : Int) := by omega
  have hlen1 : (1 : Int) ≤ (l.length : Int) := by omega
  have hb0 : ((byteAt l 0 : Int) == 45) = true := by rw [h45]; rfl
  have hdrop : l.drop 1 = l.tail := by cases l <;> rfl
  clear hl h45 hne
  generalize l.tail = d at *
  go_enter Tryd.func30, Tryd.ntmps30
  go_wp2_with fail
  have hx0 := (Ext.refl w).alloc (.cells #[Value.bool false, Value.slice none 0 0] 49)
  refine (HN.out _).mono ?_
  rintro e0 w1 ⟨v1, rfl, ho, hx⟩
  obtain ⟨A9, c9, hv9, _⟩ := ho.2
  rw [List.length_map] at hv9
  subst hv9
  clear ho
  have hbk := (Blk.new w 49 #[Value.bool false, Value.slice none 0 0]).ext hx
  have hc0 : w1.cell? ⟨w.heap.size, 0, none⟩ = some (.bool false) := hbk.cell 0
  have hc1 : w1.cell? ⟨w.heap.size, 1, none⟩ = some (.slice none 0 0) := hbk.cell 1
  have hf0 := hbk.frozen 0
  have hf1 := hbk.frozen 1
  have hz2 := hbk.lt
  have HX := Lib.hid (hx0.trans hx)
  have HB := Lib.hid hbk
  clear hx hbk hx0
  go_wp2_with fail
  obtain ⟨hr0, hr1⟩ := two_set' HB.out (.bool false) (.slice none 0 0)
  refine bodyPost_ret (v := .tuple #[.agg #[.bool false, .slice none 0 0], .int .i64 6]) (by simp [results, Tryd.results30, go_sem, hr0, hr1]) rfl ?_
  exact ⟨_, rfl, IsInt.zero _ _, (HX.out.setCell (Nat.le_refl _) _).setCell (Nat.le_refl _) _⟩

theorem rparse_neg_good (w : World) (l : List UInt8) (n : Nat) (hN : natural (l.tail) = (n, 0)) (hn : n ≠ 0) (hlim : (limbs n).length ≤ 1073741824) (hl : l.length ≤ 20001) (h45 : byteAt l 0 = 45) (hne : 0 < l.length) :
    Calls Tryd.prog 30 #[str l] w (ParseRes w (sgn true n, 0)) := by
  have HN := Lib.hid (fun W => rnatural_any W (l.tail))
  rw [hN] at HN
  have HL := Lib.hid hlim
  have hlp : (((limbs n).length : Int) == 0) = false := by
    rw [beq_eq_false_iff_ne]
    have : 0 < (limbs n).length := by rw [limbs_pos n hn]; simp
    omega
  clear hN hn hlim
  have hle : ¬ (20001 : Int) < (l.length : Int) := by omega
  have hlen : (0 : Int) < (l.length : Int) := by omega
  have hlen1 : (1 : Int) ≤ (l.length : Int) := by omega
  have hb0 : ((byteAt l 0 : Int) == 45) = true := by rw [h45]; rfl
  have hdrop : l.drop 1 = l.tail := by cases l <;> rfl
  clear hl h45 hne
  generalize l.tail = d at *
  go_enter Tryd.func30, Tryd.ntmps30
  go_wp2_with fail
  have hx0 := (Ext.refl w).alloc (.cells #[Value.bool false, Value.slice none 0 0] 49)
  refine (HN.out _).mono ?_
  rintro e0 w1 ⟨v1, rfl, ho, hx⟩
  have HA := Lib.hid ho.arr
  obtain ⟨A1, c1, hv1, _⟩ := ho.2
  rw [List.length_map] at hv1
  subst hv1
  clear ho
  have hbk := (Blk.new w 49 #[Value.bool false, Value.slice none 0 0]).ext hx
  have hc0 : w1.cell? ⟨w.heap.size, 0, none⟩ = some (.bool false) := hbk.cell 0
  have hc1 : w1.cell? ⟨w.heap.size, 1, none⟩ = some (.slice none 0 0) := hbk.cell 1
  have hf0 := hbk.frozen 0
  have hf1 := hbk.frozen 1
  have hz2 := hbk.lt
  have HX := Lib.hid (hx0.trans hx)
  have HB := Lib.hid hbk
  clear hx hbk hx0
  have HIN := Lib.hid (rnat_any w1 true _ (limbs n) HA.out HL.out)
  rw [val_limbs] at HIN
  go_wp2_with fail
  refine HIN.out.mono ?_
  rintro e1 w2 ⟨v2, rfl, hi, hx2⟩
  have HI := Lib.hid hi
  obtain ⟨m, hv, ho⟩ := hi
  obtain ⟨A2, c2, hv2, _⟩ := ho.2
  rw [List.length_map] at hv2
  subst hv2
  subst hv
  clear ho
  generalize decide (sgn true n < 0) = bb at HI
  generalize (limbs (sgn true n).natAbs).length = ln at HI
  have hbk := HB.out.ext hx2
  have hc0 : w2.cell? ⟨w.heap.size, 0, none⟩ = some (.bool false) := hbk.cell 0
  have hc1 : w2.cell? ⟨w.heap.size, 1, none⟩ = some (.slice none 0 0) := hbk.cell 1
  have hf0 := hbk.frozen 0
  have hf1 := hbk.frozen 1
  have hz3 := hbk.lt
  have HX2 := Lib.hid (HX.out.trans hx2)
  have HB2 := Lib.hid hbk
  have hz4 : w.heap.size < w1.heap.size := hz2
  clear hx2 hbk
  go_wp2_with fail
  obtain ⟨hr0, hr1⟩ := two_set' HB2.out (.bool bb) (.slice A2 ln c2)
  refine bodyPost_ret (v := .tuple #[.agg #[.bool bb, .slice A2 ln c2], .int .i64 0]) (by simp [results, Tryd.results30, go_sem, hr0, hr1]) rfl ?_
  obtain ⟨g1, g2⟩ := IsInt.stored HB2.out HI.out hz4 HX2.out (Nat.le_refl _)
  exact ⟨_, rfl, g1, g2⟩

theorem rparse_neg_zero (w : World) (l : List UInt8) (hN : natural (l.tail) = (0, 0)) (hl : l.length ≤ 20001) (h45 : byteAt l 0 = 45) (hne : 0 < l.length) :
    Calls Tryd.prog 30 #[str l] w (ParseRes w (0, 6)) := by
  have HN := Lib.hid (fun W => rnatural_any W (l.tail))
  rw [hN] at HN
  clear hN
  have hle : ¬ (20001 : Int) < (l.length : Int) := by omega
  have hlen : (0 : Int) < (l.length : Int) := by omega
  have hlen1 : (1 : Int) ≤ (l.length : Int) := by omega
  have hb0 : ((byteAt l 0 : Int) == 45) = true := by rw [h45]; rfl
  have hdrop : l.drop 1 = l.tail := by cases l <;> rfl
  clear hl h45 hne
  generalize l.tail = d at *
  go_enter Tryd.func30, Tryd.ntmps30
  go_wp2_with fail
  have hx0 := (Ext.refl w).alloc (.cells #[Value.bool false, Value.slice none 0 0] 49)
  refine (HN.out _).mono ?_
  rintro e0 w1 ⟨v1, rfl, ho, hx⟩
  obtain ⟨A9, c9, hv9, _⟩ := ho.2
  rw [List.length_map] at hv9
  subst hv9
  clear ho
  simp only [limbs_zero, List.length_nil]
  have hbk := (Blk.new w 49 #[Value.bool false, Value.slice none 0 0]).ext hx
  have hc0 : w1.cell? ⟨w.heap.size, 0, none⟩ = some (.bool false) := hbk.cell 0
  have hc1 : w1.cell? ⟨w.heap.size, 1, none⟩ = some (.slice none 0 0) := hbk.cell 1
  have hf0 := hbk.frozen 0
  have hf1 := hbk.frozen 1
  have hz2 := hbk.lt
  have HX := Lib.hid (hx0.trans hx)
  have HB := Lib.hid hbk
  clear hx hbk hx0
  go_wp2_with fail
  obtain ⟨hr0, hr1⟩ := two_set' HB.out (.bool false) (.slice none 0 0)
  refine bodyPost_ret (v := .tuple #[.agg #[.bool false, .slice none 0 0], .int .i64 6]) (by simp [results, Tryd.results30, go_sem, hr0, hr1]) rfl ?_
  exact ⟨_, rfl, IsInt.zero _ _, (HX.out.setCell (Nat.le_refl _) _).setCell (Nat.le_refl _) _⟩

theorem rparse_pos_bad (w : World) (l : List UInt8) (n e : Nat) (hN : natural (l) = (n, e)) (he : e ≠ 0) (hl : l.length ≤ 20001) (h45 : byteAt l 0 ≠ 45) (hne : 0 < l.length) :
    Calls Tryd.prog 30 #[str l] w (ParseRes w (0, 6)) := by
  have HN := Lib.hid (fun W => rnatural_any W (l))
  rw [hN] at HN
  have hb : ((e : Int) != 0) = true := by rw [bne_iff_ne]; omega
  clear hN he
  have hle : ¬ (20001 : Int) < (l.length : Int) := by omega
  have hlen : (0 : Int) < (l.length : Int) := by omega
  have hb0 : ((byteAt l 0 : Int) == 45) = false := by rw [beq_eq_false_iff_ne]; omega
  clear hl h45 hne
  go_enter Tryd.func30, Tryd.ntmps30
  go_wp2_with fail
  have hx0 := (Ext.refl w).alloc (.cells #[Value.bool false, Value.slice none 0 0] 49)
  refine (HN.out _).mono ?_
  rintro e0 w1 ⟨v1, rfl, ho, hx⟩
  obtain ⟨A9, c9, hv9, _⟩ := ho.2
  rw [List.length_map] at hv9
  subst hv9
  clear ho
  have hbk := (Blk.new w 49 #[Value.bool false, Value.slice none 0 0]).ext hx
  have hc0 : w1.cell? ⟨w.heap.size, 0, none⟩ = some (.bool false) := hbk.cell 0
  have hc1 : w1.cell? ⟨w.heap.size, 1, none⟩ = some (.slice none 0 0) := hbk.cell 1
  have hf0 := hbk.frozen 0
  have hf1 := hbk.frozen 1
  have hz2 := hbk.lt
  have HX := Lib.hid (hx0.trans hx)
  have HB := Lib.hid hbk
  clear hx hbk hx0
  go_wp2_with fail
  obtain ⟨hr0, hr1⟩ := two_set' HB.out (.bool false) (.slice none 0 0)
  refine bodyPost_ret (v := .tuple #[.agg #[.bool false, .slice none 0 0], .int .i64 6]) (by simp [results, Tryd.results30, go_sem, hr0, hr1]) rfl ?_
  exact ⟨_, rfl, IsInt.zero _ _, (HX.out.setCell (Nat.le_refl _) _).setCell (Nat.le_refl _) _⟩

theorem rparse_pos_good (w : World) (l : List UInt8) (n : Nat) (hN : natural (l) = (n, 0)) (_hn : True) (hlim : (limbs n).length ≤ 1073741824) (hl : l.length ≤ 20001) (h45 : byteAt l 0 ≠ 45) (hne : 0 < l.length) :
    Calls Tryd.prog 30 #[str l] w (ParseRes w (sgn false n, 0)) := by
  have HN := Lib.hid (fun W => rnatural_any W (l))
  rw [hN] at HN
  have HL := Lib.hid hlim
  clear hN _hn hlim
  have hle : ¬ (20001 : Int) < (l.length : Int) := by omega
  have hlen : (0 : Int) < (l.length : Int) := by omega
  have hb0 : ((byteAt l 0 : Int) == 45) = false := by rw [beq_eq_false_iff_ne]; omega
  clear hl h45 hne
  go_enter Tryd.func30, Tryd.ntmps30
  go_wp2_with fail
  have hx0 := (Ext.refl w).alloc (.cells #[Value.bool false, Value.slice none 0 0] 49)
  refine (HN.out _).mono ?_
  rintro e0 w1 ⟨v1, rfl, ho, hx⟩
  have HA := Lib.hid ho.arr
  obtain ⟨A1, c1, hv1, _⟩ := ho.2
  rw [List.length_map] at hv1
  subst hv1
  clear ho
  have hbk := (Blk.new w 49 #[Value.bool false, Value.slice none 0 0]).ext hx
  have hc0 : w1.cell? ⟨w.heap.size, 0, none⟩ = some (.bool false) := hbk.cell 0
  have hc1 : w1.cell? ⟨w.heap.size, 1, none⟩ = some (.slice none 0 0) := hbk.cell 1
  have hf0 := hbk.frozen 0
  have hf1 := hbk.frozen 1
  have hz2 := hbk.lt
  have HX := Lib.hid (hx0.trans hx)
  have HB := Lib.hid hbk
  clear hx hbk hx0
  have HIN := Lib.hid (rnat_any w1 false _ (limbs n) HA.out HL.out)
  rw [val_limbs] at HIN
  go_wp2_with fail
  refine HIN.out.mono ?_
  rintro e1 w2 ⟨v2, rfl, hi, hx2⟩
  have HI := Lib.hid hi
  obtain ⟨m, hv, ho⟩ := hi
  obtain ⟨A2, c2, hv2, _⟩ := ho.2
  rw [List.length_map] at hv2
  subst hv2
  subst hv
  clear ho
  generalize decide (sgn false n < 0) = bb at HI
  generalize (limbs (sgn false n).natAbs).length = ln at HI
  have hbk := HB.out.ext hx2
  have hc0 : w2.cell? ⟨w.heap.size, 0, none⟩ = some (.bool false) := hbk.cell 0
  have hc1 : w2.cell? ⟨w.heap.size, 1, none⟩ = some (.slice none 0 0) := hbk.cell 1
  have hf0 := hbk.frozen 0
  have hf1 := hbk.frozen 1
  have hz3 := hbk.lt
  have HX2 := Lib.hid (HX.out.trans hx2)
  have HB2 := Lib.hid hbk
  have hz4 : w.heap.size < w1.heap.size := hz2
  clear hx2 hbk
  go_wp2_with fail
  obtain ⟨hr0, hr1⟩ := two_set' HB2.out (.bool bb) (.slice A2 ln c2)
  refine bodyPost_ret (v := .tuple #[.agg #[.bool bb, .slice A2 ln c2], .int .i64 0]) (by simp [results, Tryd.results30, go_sem, hr0, hr1]) rfl ?_
  obtain ⟨g1, g2⟩ := IsInt.stored HB2.out HI.out hz4 HX2.out (Nat.le_refl _)
  exact ⟨_, rfl, g1, g2⟩

theorem rparse_nil_bad (w : World) (l : List UInt8) (n e : Nat) (hN : natural (l) = (n, e)) (he : e ≠ 0) (_hl : l.length ≤ 20001) (hne : l.length = 0) :
    Calls Tryd.prog 30 #[str l] w (ParseRes w (0, 6)) := by
  have HN := Lib.hid (fun W => rnatural_any W (l))
  rw [hN] at HN
  have hb : ((e : Int) != 0) = true := by rw [bne_iff_ne]; omega
  clear hN he
  have hle : ¬ (20001 : Int) < (l.length : Int) := by omega
  have hlen : ¬ (0 : Int) < (l.length : Int) := by omega
  clear _hl hne
  go_enter Tryd.func30, Tryd.ntmps30
  go_wp2_with fail
  have hx0 := (Ext.refl w).alloc (.cells #[Value.bool false, Value.slice none 0 0] 49)
  refine (HN.out _).mono ?_
  rintro e0 w1 ⟨v1, rfl, ho, hx⟩
  obtain ⟨A9, c9, hv9, _⟩ := ho.2
  rw [List.length_map] at hv9
  subst hv9
  clear ho
  have hbk := (Blk.new w 49 #[Value.bool false, Value.slice none 0 0]).ext hx
  have hc0 : w1.cell? ⟨w.heap.size, 0, none⟩ = some (.bool false) := hbk.cell 0
  have hc1 : w1.cell? ⟨w.heap.size, 1, none⟩ = some (.slice none 0 0) := hbk.cell 1
  have hf0 := hbk.frozen 0
  have hf1 := hbk.frozen 1
  have hz2 := hbk.lt
  have HX := Lib.hid (hx0.trans hx)
  have HB := Lib.hid hbk
  clear hx hbk hx0
  go_wp2_with fail
  obtain ⟨hr0, hr1⟩ := two_set' HB.out (.bool false) (.slice none 0 0)
  refine bodyPost_ret (v := .tuple #[.agg #[.bool false, .slice none 0 0], .int .i64 6]) (by simp [results, Tryd.results30, go_sem, hr0, hr1]) rfl ?_
  exact ⟨_, rfl, IsInt.zero _ _, (HX.out.setCell (Nat.le_refl _) _).setCell (Nat.le_refl _) _⟩

theorem rparse_any (w : World) (l : List UInt8) : Calls Tryd.prog 30 #[str l] w (ParseRes w (parseI l)) := by
  unfold parseI
  by_cases h1 : 20001 < l.length
  · rw [if_pos h1]
    exact rparse_long w l h1
  · rw [if_neg h1]
    have hl : l.length ≤ 20001 := by omega
    rcases Nat.eq_zero_or_pos l.length with h0 | h0
    · have := List.eq_nil_of_length_eq_zero h0
      subst this
      exact rparse_nil_bad w [] 0 6 rfl (by omega) hl rfl
    · rw [head_byte l h0]
      by_cases h45 : byteAt l 0 = 45
      · rw [decide_eq_true h45]
        simp only [if_true]
        obtain ⟨n, e, hr⟩ : ∃ n e, natural l.tail = (n, e) := ⟨_, _, rfl⟩
        rw [hr]
        by_cases he : e = 0
        · subst he
          by_cases hn : n = 0
          · subst hn
            rw [if_pos (by simp)]
            exact rparse_neg_zero w l hr hl h45 h0
          · rw [if_neg (by simp [hn])]
            exact rparse_neg_good w l n hr hn (Nat.le_trans (natural_limbs _ hr) (by omega)) hl h45 h0
        · rw [if_pos (Or.inl he)]
          exact rparse_neg_bad w l n e hr he hl h45 h0
      · rw [decide_eq_false h45]
        simp only [Bool.false_eq_true, if_false, false_and, or_false]
        obtain ⟨n, e, hr⟩ : ∃ n e, natural l = (n, e) := ⟨_, _, rfl⟩
        rw [hr]
        by_cases he : e = 0
        · subst he
          rw [if_neg (by simp)]
          exact rparse_pos_good w l n hr trivial (Nat.le_trans (natural_limbs _ hr) (by omega)) hl h45 h0
        · rw [if_pos he]
          exact rparse_pos_bad w l n e hr he hl h45 h0
end Big
end Go.Proofs.YtbmmnpggadakdaaDoor
