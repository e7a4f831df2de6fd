import Derived.Test.YtoehdoghghpmjaaDoorM13
import Derived.Test.YtoehdoghghpmjaaDoorM9
import Derived.Test.YtoehdoghghpmjaaDoorM10
import Derived.Test.YtoehdoghghpmjaaDoorM16
import Derived.Test.YtoehdoghghpmjaaDoorM18
namespace Go.Proofs.YtoehdoghghpmjaaDoor
namespace Big
open Go.RowKit

theorem rnatural_long (w : World) (l : List UInt8) (h : 20001 < l.length) :
    Calls Tryd.prog 39 #[str l] w fun e w' => e = .returned (.tuple #[.slice none 0 0, .int .i64 7]) ∧ w = w' := by
  have h' : (20001 : Int) < (l.length : Int) := by omega
  clear h
  go_enter Tryd.func39, Tryd.ntmps39
  go_wp2_with fail
  go_ret2
  exact ⟨rfl, rfl⟩

theorem rnatural_empty (w : World) :
    Calls Tryd.prog 39 #[str []] w fun e w' => e = .returned (.tuple #[.slice none 0 0, .int .i64 6]) ∧ w = w' := by
  go_enter Tryd.func39, Tryd.ntmps39
  go_wp2_with fail
  go_ret2
  exact ⟨rfl, rfl⟩

theorem rnatural_zero (w : World) (l : List UInt8) (h0 : byteAt l 0 = 48) (h1 : 1 < l.length) (h : l.length ≤ 20001) :
    Calls Tryd.prog 39 #[str l] w fun e w' => e = .returned (.tuple #[.slice none 0 0, .int .i64 6]) ∧ w = w' := by
  have h00 : ((byteAt l 0 : Int) == 48) = true := by rw [h0]; rfl
  have hle : ¬ (20001 : Int) < (l.length : Int) := by omega
  have hlt : (1 : Int) < (l.length : Int) := by omega
  have hne : (l == []) = false := by cases l <;> simp_all
  clear h h0
  go_enter Tryd.func39, Tryd.ntmps39
  go_wp2_with fail
  go_ret2
  exact ⟨rfl, rfl⟩

/-- What the reference holds after k digits. -/
def RNumAt (w0 wr : World) (out : Value) (l : List UInt8) (k : Nat) : Prop :=
  Own w0.heap.size wr out (limbs (numOf (l.take k))) ∧ Ext w0 wr

set_option maxHeartbeats 1000000 in
theorem rnatural_some (w : World) (l : List UInt8) (hne : l ≠ []) (hz : ¬ (byteAt l 0 = 48 ∧ 1 < l.length)) (h : l.length ≤ 20001) (r : Nat × Nat) (hr1 : l.all isDig = true → r = (numOf l, 0)) (hr2 : l.all isDig = false → r = (0, 6)) :
    Calls Tryd.prog 39 #[str l] w (NatRes w r) := by
  have HR1 := Lib.hid hr1
  have HR2 := Lib.hid hr2
  clear hr1 hr2
  have hle : ¬ (20001 : Int) < (l.length : Int) := by omega
  have hne' : (l == []) = false := by cases l <;> simp_all
  have hl0 : 0 < l.length := by cases l <;> simp_all
  have hcase : ¬ (1 : Int) < (l.length : Int) ∨ ((1 : Int) < (l.length : Int) ∧ ((byteAt l 0 : Int) == 48) = false) := by
    by_cases h1 : 1 < l.length
    · exact .inr ⟨by omega, by rw [beq_eq_false_iff_ne]; omega⟩
    · exact .inl (by omega)
  have HL := Lib.hid h
  clear h hne hz
  rcases hcase with h00 | ⟨h00, h11⟩
  all_goals
    go_enter Tryd.func39, Tryd.ntmps39
    go_wp2_with fail
    go_loopw [4, 5] (fun out i wr => ∃ k : Nat, k ≤ l.length ∧ i = .int .i64 k ∧ (l.take k).all isDig = true ∧ RNumAt w wr out l k) (fun _ i _ => l.length - (intOf i).toNat)
    case atStart => exact ⟨0, by omega, rfl, rfl, Own.none_ _ _, Ext.refl _⟩
    case round =>
      obtain ⟨k, hk, rfl, hall, hown, hext⟩ := hrel
      by_cases hlt : k < l.length
      · have hb := byteAt_lt l k
        have hbe := byteAt_eq l k hlt
        have hdig := isDig_iff l[k]
        rw [← hbe] at hdig
        have hta := take_all l k hlt
        have hnt := numOf_take l k hlt
        rw [← hbe] at hnt
        rw [hall, Bool.true_and] at hta
        have HAF := Lib.hid (fun hf => all_false_of hlt hf)
        have HDIG := Lib.hid hdig
        have HTA := Lib.hid hta
        have HNT := Lib.hid hnt
        clear hbe hdig hta hnt
        obtain ⟨b, hbb⟩ : ∃ b, byteAt l k = b := ⟨_, rfl⟩
        have HBB := Lib.hid hbb
        rw [hbb] at HDIG HNT hb
        by_cases hd : 48 ≤ b ∧ b ≤ 57
        · have HT1 := Lib.hid (HTA.out.trans (HDIG.out.2 hd))
          obtain ⟨hd1, hd2⟩ := hd
          have E1 := Lib.hid (show ((b : Int) - 48) = ((b - 48 : Nat) : Int) by omega)
          have hll := limbs_len_pow (take_all_lt hall (show k ≤ l.length by omega))
          have hl2 := HL.out
          have HS := Lib.hid (rsmall_any wr _ (limbs (numOf (l.take k))) 10 (b - 48) hown.arr (by omega) (by omega) (by omega))
          rw [val_limbs] at HS
          have HN := Lib.hid (show numOf (l.take (k + 1)) = numOf (l.take k) * 10 + (b - 48) by rw [HNT.out]; omega)
          clear hall hll hl2
          go_wp2_with fail
          rw [E1.out]
          refine HS.out.mono ?_
          rintro e w1 ⟨v1, rfl, ho1, hx1⟩
          rw [← HN.out] at ho1
          go_wp2_with fail
          go_roundw
          case rel => exact ⟨k + 1, by omega, by go_num, HT1.out, ho1.mono hext.size, hext.trans hx1⟩
          case measure => simp [intOf]; omega
        · have hbad : isDig l[k] = false := by
            rw [← Bool.not_eq_true]
            exact fun ht => hd (HDIG.out.1 ht)
          have HBAD := Lib.hid (HAF.out hbad)
          have hor : b < 48 ∨ 57 < b := by omega
          clear hbad hall hd
          rcases hor with hlo | hlo
          all_goals
            go_wp2_with fail
            go_ret2
            rw [HR2.out HBAD.out]
            exact ⟨_, rfl, Own.none_ _ _, hext⟩
      · obtain rfl : k = l.length := by omega
        rw [List.take_of_length_le (Nat.le_refl _)] at hown hall
        have HALL := Lib.hid hall
        clear hall
        go_wp2_with fail
        go_ret2
        rw [HR1.out HALL.out]
        exact ⟨_, rfl, hown, hext⟩

theorem rnatural_any (w : World) (l : List UInt8) : Calls Tryd.prog 39 #[str l] w (NatRes w (natural l)) := by
  unfold natural
  by_cases h1 : 20001 < l.length
  · rw [if_pos h1]
    refine (rnatural_long w l h1).mono ?_
    rintro e w' ⟨rfl, rfl⟩
    exact ⟨_, rfl, Own.none_ _ _, Ext.refl _⟩
  · rw [if_neg h1]
    by_cases h2 : l = []
    · subst h2
      rw [if_pos rfl]
      refine (rnatural_empty w).mono ?_
      rintro e w' ⟨rfl, rfl⟩
      exact ⟨_, rfl, Own.none_ _ _, Ext.refl _⟩
    · rw [if_neg h2]
      have hl0 : 0 < l.length := by cases l <;> simp_all
      have hb : byteAt l 0 = 48 ↔ l[0]? = some 48 := by
        rw [byteAt_eq l 0 hl0, List.getElem?_eq_getElem hl0]
        constructor
        · intro h; exact congrArg some (UInt8.toNat_inj.1 h)
        · intro h; injection h with h; rw [h]; rfl
      by_cases h3 : l[0]? = some 48 ∧ 1 < l.length
      · rw [if_pos h3]
        refine (rnatural_zero w l (hb.2 h3.1) h3.2 (by omega)).mono ?_
        rintro e w' ⟨rfl, rfl⟩
        exact ⟨_, rfl, Own.none_ _ _, Ext.refl _⟩
      · rw [if_neg h3]
        exact rnatural_some w l h2 (fun h => h3 ⟨hb.1 h.1, h.2⟩) (by omega) _ (fun h => if_pos h) (fun h => if_neg (by rw [h]; decide))
end Big
end Go.Proofs.YtoehdoghghpmjaaDoor
namespace Go.Proofs.YtoehdoghghpmjaaDoor
namespace Big
open Go.RowKit

theorem rparse_long (w : World) (l : List UInt8) (h : 20001 < l.length) :
    Calls Tryd.prog 22 #[str l] w (ParseRes w (0, 7)) := by
  have h' : (20001 : Int) < (l.length : Int) := by omega
  clear h
  go_enter Tryd.func22, Tryd.ntmps22
  go_wp2_with fail
  refine bodyPost_ret (v := .tuple #[.agg #[.bool false, .slice none 0 0], .int .i64 7]) (by simp [results, Tryd.results22, go_sem]) rfl ?_
  exact ⟨_, rfl, IsInt.zero _ _, (Ext.refl w).alloc _⟩

theorem rparse_neg_bad (w : World) (l : List UInt8) (n e : Nat) (hN : natural (l.tail) = (n, e)) (he : e ≠ 0) (hl : l.length ≤ 20001) (h45 : byteAt l 0 = 45) (hne : 0 < l.length) :
    Calls Tryd.prog 22 #[str l] w (ParseRes w (0, 6)) := by
  have HN := Lib.hid (fun W => rnatural_any W (l.tail))
  rw [hN] at HN
  have hb : ((e : Int) != 0) = true := by rw [bne_iff_ne]; omega
  clear hN he
  have hle : ¬ (20001 : Int) < (l.length : Int) := by omega
  have hlen : (0 : Int) < (l.length : Int) := by omega
  have hlen1 : (1 : Int) ≤ (l.length : Int) := by omega
  have hb0 : ((byteAt l 0 : Int) == 45) = true := by rw [h45]; rfl
  have hdrop : l.drop 1 = l.tail := by cases l <;> rfl
  clear hl h45 hne
  generalize l.tail = d at *
  go_enter Tryd.func22, Tryd.ntmps22
  go_wp2_with fail
  have hx0 := (Ext.refl w).alloc (.cells #[Value.bool false, Value.slice none 0 0] 47)
  refine (HN.out _).mono ?_
  rintro e0 w1 ⟨v1, rfl, ho, hx⟩
  obtain ⟨A9, c9, hv9, _⟩ := ho.2
  rw [List.length_map] at hv9
  subst hv9
  clear ho
  have hbk := (Blk.new w 47 #[Value.bool false, Value.slice none 0 0]).ext hx
  have hc0 : w1.cell? ⟨w.heap.size, 0, none⟩ = some (.bool false) := hbk.cell 0
  have hc1 : w1.cell? ⟨w.heap.size, 1, none⟩ = some (.slice none 0 0) := hbk.cell 1
  have hf0 := hbk.frozen 0
  have hf1 := hbk.frozen 1
  have hz2 := hbk.lt
  have HX := Lib.hid (hx0.trans hx)
  have HB := Lib.hid hbk
  clear hx hbk hx0
  go_wp2_with fail
  obtain ⟨hr0, hr1⟩ := two_set' HB.out (.bool false) (.slice none 0 0)
  refine bodyPost_ret (v := .tuple #[.agg #[.bool false, .slice none 0 0], .int .i64 6]) (by simp [results, Tryd.results22, go_sem, hr0, hr1]) rfl ?_
  exact ⟨_, rfl, IsInt.zero _ _, (HX.out.setCell (Nat.le_refl _) _).setCell (Nat.le_refl _) _⟩

theorem rparse_neg_good (w : World) (l : List UInt8) (n : Nat) (hN : natural (l.tail) = (n, 0)) (hn : n ≠ 0) (hlim : (limbs n).length ≤ 1073741824) (hl : l.length ≤ 20001) (h45 : byteAt l 0 = 45) (hne : 0 < l.length) :
    Calls Tryd.prog 22 #[str l] w (ParseRes w (sgn true n, 0)) := by
  have HN := Lib.hid (fun W => rnatural_any W (l.tail))
  rw [hN] at HN
  have HL := Lib.hid hlim
  have hlp : (((limbs n).length : Int) == 0) = false := by
    rw [beq_eq_false_iff_ne]
    have : 0 < (limbs n).length := by rw [limbs_pos n hn]; simp
    omega
  clear hN hn hlim
  have hle : ¬ (20001 : Int) < (l.length : Int) := by omega
  have hlen : (0 : Int) < (l.length : Int) := by omega
  have hlen1 : (1 : Int) ≤ (l.length : Int) := by omega
  have hb0 : ((byteAt l 0 : Int) == 45) = true := by rw [h45]; rfl
  have hdrop : l.drop 1 = l.tail := by cases l <;> rfl
  clear hl h45 hne
  generalize l.tail = d at *
  go_enter Tryd.func22, Tryd.ntmps22
  go_wp2_with fail
  have hx0 := (Ext.refl w).alloc (.cells #[Value.bool false, Value.slice none 0 0] 47)
  refine (HN.out _).mono ?_
  rintro e0 w1 ⟨v1, rfl, ho, hx⟩
  have HA := Lib.hid ho.arr
  obtain ⟨A1, c1, hv1, _⟩ := ho.2
  rw [List.length_map] at hv1
  subst hv1
  clear ho
  have hbk := (Blk.new w 47 #[Value.bool false, Value.slice none 0 0]).ext hx
  have hc0 : w1.cell? ⟨w.heap.size, 0, none⟩ = some (.bool false) := hbk.cell 0
  have hc1 : w1.cell? ⟨w.heap.size, 1, none⟩ = some (.slice none 0 0) := hbk.cell 1
  have hf0 := hbk.frozen 0
  have hf1 := hbk.frozen 1
  have hz2 := hbk.lt
  have HX := Lib.hid (hx0.trans hx)
  have HB := Lib.hid hbk
  clear hx hbk hx0
  have HIN := Lib.hid (rnat_any w1 true _ (limbs n) HA.out HL.out)
  rw [val_limbs] at HIN
  go_wp2_with fail
  refine HIN.out.mono ?_
  rintro e1 w2 ⟨v2, rfl, hi, hx2⟩
  have HI := Lib.hid hi
  obtain ⟨m, hv, ho⟩ := hi
  obtain ⟨A2, c2, hv2, _⟩ := ho.2
  rw [List.length_map] at hv2
  subst hv2
  subst hv
  clear ho
  generalize decide (sgn true n < 0) = bb at HI
  generalize (limbs (sgn true n).natAbs).length = ln at HI
  have hbk := HB.out.ext hx2
  have hc0 : w2.cell? ⟨w.heap.size, 0, none⟩ = some (.bool false) := hbk.cell 0
  have hc1 : w2.cell? ⟨w.heap.size, 1, none⟩ = some (.slice none 0 0) := hbk.cell 1
  have hf0 := hbk.frozen 0
  have hf1 := hbk.frozen 1
  have hz3 := hbk.lt
  have HX2 := Lib.hid (HX.out.trans hx2)
  have HB2 := Lib.hid hbk
  have hz4 : w.heap.size < w1.heap.size := hz2
  clear hx2 hbk
  go_wp2_with fail
  obtain ⟨hr0, hr1⟩ := two_set' HB2.out (.bool bb) (.slice A2 ln c2)
  refine bodyPost_ret (v := .tuple #[.agg #[.bool bb, .slice A2 ln c2], .int .i64 0]) (by simp [results, Tryd.results22, go_sem, hr0, hr1]) rfl ?_
  obtain ⟨g1, g2⟩ := IsInt.stored HB2.out HI.out hz4 HX2.out (Nat.le_refl _)
  exact ⟨_, rfl, g1, g2⟩

theorem rparse_neg_zero (w : World) (l : List UInt8) (hN : natural (l.tail) = (0, 0)) (hl : l.length ≤ 20001) (h45 : byteAt l 0 = 45) (hne : 0 < l.length) :
    Calls Tryd.prog 22 #[str l] w (ParseRes w (0, 6)) := by
  have HN := Lib.hid (fun W => rnatural_any W (l.tail))
  rw [hN] at HN
  clear hN
  have hle : ¬ (20001 : Int) < (l.length : Int) := by omega
  have hlen : (0 : Int) < (l.length : Int) := by omega
  have hlen1 : (1 : Int) ≤ (l.length : Int) := by omega
  have hb0 : ((byteAt l 0 : Int) == 45) = true := by rw [h45]; rfl
  have hdrop : l.drop 1 = l.tail := by cases l <;> rfl
  clear hl h45 hne
  generalize l.tail = d at *
  go_enter Tryd.func22, Tryd.ntmps22
  go_wp2_with fail
  have hx0 := (Ext.refl w).alloc (.cells #[Value.bool false, Value.slice none 0 0] 47)
  refine (HN.out _).mono ?_
  rintro e0 w1 ⟨v1, rfl, ho, hx⟩
  obtain ⟨A9, c9, hv9, _⟩ := ho.2
  rw [List.length_map] at hv9
  subst hv9
  clear ho
  simp only [limbs_zero, List.length_nil]
  have hbk := (Blk.new w 47 #[Value.bool false, Value.slice none 0 0]).ext hx
  have hc0 : w1.cell? ⟨w.heap.size, 0, none⟩ = some (.bool false) := hbk.cell 0
  have hc1 : w1.cell? ⟨w.heap.size, 1, none⟩ = some (.slice none 0 0) := hbk.cell 1
  have hf0 := hbk.frozen 0
  have hf1 := hbk.frozen 1
  have hz2 := hbk.lt
  have HX := Lib.hid (hx0.trans hx)
  have HB := Lib.hid hbk
  clear hx hbk hx0
  go_wp2_with fail
  obtain ⟨hr0, hr1⟩ := two_set' HB.out (.bool false) (.slice none 0 0)
  refine bodyPost_ret (v := .tuple #[.agg #[.bool false, .slice none 0 0], .int .i64 6]) (by simp [results, Tryd.results22, go_sem, hr0, hr1]) rfl ?_
  exact ⟨_, rfl, IsInt.zero _ _, (HX.out.setCell (Nat.le_refl _) _).setCell (Nat.le_refl _) _⟩

theorem rparse_pos_bad (w : World) (l : List UInt8) (n e : Nat) (hN : natural (l) = (n, e)) (he : e ≠ 0) (hl : l.length ≤ 20001) (h45 : byteAt l 0 ≠ 45) (hne : 0 < l.length) :
    Calls Tryd.prog 22 #[str l] w (ParseRes w (0, 6)) := by
  have HN := Lib.hid (fun W => rnatural_any W (l))
  rw [hN] at HN
  have hb : ((e : Int) != 0) = true := by rw [bne_iff_ne]; omega
  clear hN he
  have hle : ¬ (20001 : Int) < (l.length : Int) := by omega
  have hlen : (0 : Int) < (l.length : Int) := by omega
  have hb0 : ((byteAt l 0 : Int) == 45) = false := by rw [beq_eq_false_iff_ne]; omega
  clear hl h45 hne
  go_enter Tryd.func22, Tryd.ntmps22
  go_wp2_with fail
  have hx0 := (Ext.refl w).alloc (.cells #[Value.bool false, Value.slice none 0 0] 47)
  refine (HN.out _).mono ?_
  rintro e0 w1 ⟨v1, rfl, ho, hx⟩
  obtain ⟨A9, c9, hv9, _⟩ := ho.2
  rw [List.length_map] at hv9
  subst hv9
  clear ho
  have hbk := (Blk.new w 47 #[Value.bool false, Value.slice none 0 0]).ext hx
  have hc0 : w1.cell? ⟨w.heap.size, 0, none⟩ = some (.bool false) := hbk.cell 0
  have hc1 : w1.cell? ⟨w.heap.size, 1, none⟩ = some (.slice none 0 0) := hbk.cell 1
  have hf0 := hbk.frozen 0
  have hf1 := hbk.frozen 1
  have hz2 := hbk.lt
  have HX := Lib.hid (hx0.trans hx)
  have HB := Lib.hid hbk
  clear hx hbk hx0
  go_wp2_with fail
  obtain ⟨hr0, hr1⟩ := two_set' HB.out (.bool false) (.slice none 0 0)
  refine bodyPost_ret (v := .tuple #[.agg #[.bool false, .slice none 0 0], .int .i64 6]) (by simp [results, Tryd.results22, go_sem, hr0, hr1]) rfl ?_
  exact ⟨_, rfl, IsInt.zero _ _, (HX.out.setCell (Nat.le_refl _) _).setCell (Nat.le_refl _) _⟩

theorem rparse_pos_good (w : World) (l : List UInt8) (n : Nat) (hN : natural (l) = (n, 0)) (_hn : True) (hlim : (limbs n).length ≤ 1073741824) (hl : l.length ≤ 20001) (h45 : byteAt l 0 ≠ 45) (hne : 0 < l.length) :
    Calls Tryd.prog 22 #[str l] w (ParseRes w (sgn false n, 0)) := by
  have HN := Lib.hid (fun W => rnatural_any W (l))
  rw [hN] at HN
  have HL := Lib.hid hlim
  clear hN _hn hlim
  have hle : ¬ (20001 : Int) < (l.length : Int) := by omega
  have hlen : (0 : Int) < (l.length : Int) := by omega
  have hb0 : ((byteAt l 0 : Int) == 45) = false := by rw [beq_eq_false_iff_ne]; omega
  clear hl h45 hne
  go_enter Tryd.func22, Tryd.ntmps22
  go_wp2_with fail
  have hx0 := (Ext.refl w).alloc (.cells #[Value.bool false, Value.slice none 0 0] 47)
  refine (HN.out _).mono ?_
  rintro e0 w1 ⟨v1, rfl, ho, hx⟩
  have HA := Lib.hid ho.arr
  obtain ⟨A1, c1, hv1, _⟩ := ho.2
  rw [List.length_map] at hv1
  subst hv1
  clear ho
  have hbk := (Blk.new w 47 #[Value.bool false, Value.slice none 0 0]).ext hx
  have hc0 : w1.cell? ⟨w.heap.size, 0, none⟩ = some (.bool false) := hbk.cell 0
  have hc1 : w1.cell? ⟨w.heap.size, 1, none⟩ = some (.slice none 0 0) := hbk.cell 1
  have hf0 := hbk.frozen 0
  have hf1 := hbk.frozen 1
  have hz2 := hbk.lt
  have HX := Lib.hid (hx0.trans hx)
  have HB := Lib.hid hbk
  clear hx hbk hx0
  have HIN := Lib.hid (rnat_any w1 false _ (limbs n) HA.out HL.out)
  rw [val_limbs] at HIN
  go_wp2_with fail
  refine HIN.out.mono ?_
  rintro e1 w2 ⟨v2, rfl, hi, hx2⟩
  have HI := Lib.hid hi
  obtain ⟨m, hv, ho⟩ := hi
  obtain ⟨A2, c2, hv2, _⟩ := ho.2
  rw [List.length_map] at hv2
  subst hv2
  subst hv
  clear ho
  generalize decide (sgn false n < 0) = bb at HI
  generalize (limbs (sgn false n).natAbs).length = ln at HI
  have hbk := HB.out.ext hx2
  have hc0 : w2.cell? ⟨w.heap.size, 0, none⟩ = some (.bool false) := hbk.cell 0
  have hc1 : w2.cell? ⟨w.heap.size, 1, none⟩ = some (.slice none 0 0) := hbk.cell 1
  have hf0 := hbk.frozen 0
  have hf1 := hbk.frozen 1
  have hz3 := hbk.lt
  have HX2 := Lib.hid (HX.out.trans hx2)
  have HB2 := Lib.hid hbk
  have hz4 : w.heap.size < w1.heap.size := hz2
  clear hx2 hbk
  go_wp2_with fail
  obtain ⟨hr0, hr1⟩ := two_set' HB2.out (.bool bb) (.slice A2 ln c2)
  refine bodyPost_ret (v := .tuple #[.agg #[.bool bb, .slice A2 ln c2], .int .i64 0]) (by simp [results, Tryd.results22, go_sem, hr0, hr1]) rfl ?_
  obtain ⟨g1, g2⟩ := IsInt.stored HB2.out HI.out hz4 HX2.out (Nat.le_refl _)
  exact ⟨_, rfl, g1, g2⟩

theorem rparse_nil_bad (w : World) (l : List UInt8) (n e : Nat) (hN : natural (l) = (n, e)) (he : e ≠ 0) (_hl : l.length ≤ 20001) (hne : l.length = 0) :
    Calls Tryd.prog 22 #[str l] w (ParseRes w (0, 6)) := by
  have HN := Lib.hid (fun W => rnatural_any W (l))
  rw [hN] at HN
  have hb : ((e : Int) != 0) = true := by rw [bne_iff_ne]; omega
  clear hN he
  have hle : ¬ (20001 : Int) < (l.length : Int) := by omega
  have hlen : ¬ (0 : Int) < (l.length : Int) := by omega
  clear _hl hne
  go_enter Tryd.func22, Tryd.ntmps22
  go_wp2_with fail
  have hx0 := (Ext.refl w).alloc (.cells #[Value.bool false, Value.slice none 0 0] 47)
  refine (HN.out _).mono ?_
  rintro e0 w1 ⟨v1, rfl, ho, hx⟩
  obtain ⟨A9, c9, hv9, _⟩ := ho.2
  rw [List.length_map] at hv9
  subst hv9
  clear ho
  have hbk := (Blk.new w 47 #[Value.bool false, Value.slice none 0 0]).ext hx
  have hc0 : w1.cell? ⟨w.heap.size, 0, none⟩ = some (.bool false) := hbk.cell 0
  have hc1 : w1.cell? ⟨w.heap.size, 1, none⟩ = some (.slice none 0 0) := hbk.cell 1
  have hf0 := hbk.frozen 0
  have hf1 := hbk.frozen 1
  have hz2 := hbk.lt
  have HX := Lib.hid (hx0.trans hx)
  have HB := Lib.hid hbk
  clear hx hbk hx0
  go_wp2_with fail
  obtain ⟨hr0, hr1⟩ := two_set' HB.out (.bool false) (.slice none 0 0)
  refine bodyPost_ret (v := .tuple #[.agg #[.bool false, .slice none 0 0], .int .i64 6]) (by simp [results, Tryd.results22, go_sem, hr0, hr1]) rfl ?_
  exact ⟨_, rfl, IsInt.zero _ _, (HX.out.setCell (Nat.le_refl _) _).setCell (Nat.le_refl _) _⟩

theorem rparse_any (w : World) (l : List UInt8) : Calls Tryd.prog 22 #[str l] w (ParseRes w (parseI l)) := by
  unfold parseI
  by_cases h1 : 20001 < l.length
  · rw [if_pos h1]
    exact rparse_long w l h1
  · rw [if_neg h1]
    have hl : l.length ≤ 20001 := by omega
    rcases Nat.eq_zero_or_pos l.length with h0 | h0
    · have := List.eq_nil_of_length_eq_zero h0
      subst this
      exact rparse_nil_bad w [] 0 6 rfl (by omega) hl rfl
    · rw [head_byte l h0]
      by_cases h45 : byteAt l 0 = 45
      · rw [decide_eq_true h45]
        simp only [if_true]
        obtain ⟨n, e, hr⟩ : ∃ n e, natural l.tail = (n, e) := ⟨_, _, rfl⟩
        rw [hr]
        by_cases he : e = 0
        · subst he
          by_cases hn : n = 0
          · subst hn
            rw [if_pos (by simp)]
            exact rparse_neg_zero w l hr hl h45 h0
          · rw [if_neg (by simp [hn])]
            exact rparse_neg_good w l n hr hn (Nat.le_trans (natural_limbs _ hr) (by omega)) hl h45 h0
        · rw [if_pos (Or.inl he)]
          exact rparse_neg_bad w l n e hr he hl h45 h0
      · rw [decide_eq_false h45]
        simp only [Bool.false_eq_true, if_false, false_and, or_false]
        obtain ⟨n, e, hr⟩ : ∃ n e, natural l = (n, e) := ⟨_, _, rfl⟩
        rw [hr]
        by_cases he : e = 0
        · subst he
          rw [if_neg (by simp)]
          exact rparse_pos_good w l n hr trivial (Nat.le_trans (natural_limbs _ hr) (by omega)) hl h45 h0
        · rw [if_pos he]
          exact rparse_pos_bad w l n e hr he hl h45 h0
end Big
end Go.Proofs.YtoehdoghghpmjaaDoor
/- The document's commands: names, texts, words. -/
namespace Go.Proofs.YtoehdoghghpmjaaDoor
namespace Big
open Go.RowKit
def namedC (op : Int) : Bool := decide (shapeC op ≠ 0 ∧ shapeC op ≠ 4)
set_option maxRecDepth 100000 in
theorem rname31_any (w : World) (op : Int) : Calls Tryd.prog 12 #[.int .i64 op] w fun e w' => e = .returned (str (nameC op)) ∧ Ext w w' := by
  by_cases hop : 0 ≤ op ∧ op < 22
  · have e1 : nameC op = cmdNames.getD op.toNat [] := by unfold nameC; rw [if_pos hop]
    rw [e1]
    obtain ⟨k, rfl⟩ := Int.eq_ofNat_of_zero_le hop.1
    have hk : k < 22 := by omega
    rw [Int.toNat_natCast]
    obtain ⟨nm, hnm⟩ : ∃ x, cmdNames.getD k [] = x := ⟨_, rfl⟩
    have HNM := Lib.hid hnm
    rw [hnm]
    have h1 : ¬ ((k : Int) < 0) := by omega
    have h2 : ¬ ((22 : Int) ≤ (k : Int)) := by omega
    have h3 : (k : Int) < 22 := by omega
    clear e1 hop hnm
    go_enter Tryd.func12, Tryd.ntmps12
    go_upto_region 2 with fail
    have hcell : ∀ o : Obj, o = .cells (cmdNames.map str).toArray 9 → (w.alloc o).cell? ⟨w.heap.size, k, none⟩ = some (str nm) := fun o ho => by
      subst ho
      have h4 := (Blk.new w 9 (cmdNames.map str).toArray).cell k
      rw [h4, List.getElem?_toArray, List.getElem?_map, List.getElem?_eq_getElem (show k < cmdNames.length from hk)]
      have h5 := HNM.out
      rw [List.getD_eq_getElem?_getD, List.getElem?_eq_getElem (show k < cmdNames.length from hk), Option.getD_some] at h5
      rw [h5]; rfl
    have hc := hcell _ rfl
    have HX : Hid (Ext w (w.alloc (.cells (cmdNames.map str).toArray 9))) := Lib.hid ((Ext.refl w).alloc _)
    have hnn : (cmdNames.map str).toArray = #[.string ⟨#[]⟩, .string ⟨#[108, 101, 116]⟩, .string ⟨#[100, 114, 111, 112]⟩, .string ⟨#[101, 118, 97, 108]⟩, .string ⟨#[115, 104, 111, 119]⟩, .string ⟨#[108, 105, 115, 116]⟩, .string ⟨#[99, 111, 109, 112, 97, 114, 101]⟩, .string ⟨#[98, 101, 103, 105, 110]⟩, .string ⟨#[99, 111, 109, 109, 105, 116]⟩, .string ⟨#[97, 98, 111, 114, 116]⟩, .string ⟨#[117, 110, 100, 111]⟩, .string ⟨#[114, 101, 100, 111]⟩, .string ⟨#[98, 114, 97, 110, 99, 104]⟩, .string ⟨#[115, 119, 105, 116, 99, 104]⟩, .string ⟨#[114, 101, 109, 111, 118, 101]⟩, .string ⟨#[98, 114, 97, 110, 99, 104, 101, 115]⟩, .string ⟨#[115, 110, 97, 112, 115, 104, 111, 116]⟩, .string ⟨#[114, 101, 115, 116, 111, 114, 101]⟩, .string ⟨#[102, 111, 114, 103, 101, 116]⟩, .string ⟨#[115, 110, 97, 112, 115, 104, 111, 116, 115]⟩, .string ⟨#[100, 105, 102, 102]⟩, .string ⟨#[102, 117, 101, 108]⟩] := rfl
    rw [hnn] at hc HX
    clear hcell hnn
    generalize w.alloc (.cells #[.string ⟨#[]⟩, .string ⟨#[108, 101, 116]⟩, .string ⟨#[100, 114, 111, 112]⟩, .string ⟨#[101, 118, 97, 108]⟩, .string ⟨#[115, 104, 111, 119]⟩, .string ⟨#[108, 105, 115, 116]⟩, .string ⟨#[99, 111, 109, 112, 97, 114, 101]⟩, .string ⟨#[98, 101, 103, 105, 110]⟩, .string ⟨#[99, 111, 109, 109, 105, 116]⟩, .string ⟨#[97, 98, 111, 114, 116]⟩, .string ⟨#[117, 110, 100, 111]⟩, .string ⟨#[114, 101, 100, 111]⟩, .string ⟨#[98, 114, 97, 110, 99, 104]⟩, .string ⟨#[115, 119, 105, 116, 99, 104]⟩, .string ⟨#[114, 101, 109, 111, 118, 101]⟩, .string ⟨#[98, 114, 97, 110, 99, 104, 101, 115]⟩, .string ⟨#[115, 110, 97, 112, 115, 104, 111, 116]⟩, .string ⟨#[114, 101, 115, 116, 111, 114, 101]⟩, .string ⟨#[102, 111, 114, 103, 101, 116]⟩, .string ⟨#[115, 110, 97, 112, 115, 104, 111, 116, 115]⟩, .string ⟨#[100, 105, 102, 102]⟩, .string ⟨#[102, 117, 101, 108]⟩] 9) = wa at *
    go_wp2_with fail
    go_ret
    exact ⟨rfl, HX.out⟩
  · have e1 : nameC op = [] := by unfold nameC; rw [if_neg hop]
    rw [e1]
    have h1 : op < 0 ∨ (¬ op < 0 ∧ (22 : Int) ≤ op) := by omega
    clear e1 hop
    rcases h1 with h1 | ⟨h1, h2⟩
    · go_enter Tryd.func12, Tryd.ntmps12
      go_wp2_with fail
      go_ret
      exact ⟨rfl, (Ext.refl w).alloc _⟩
    · go_enter Tryd.func12, Tryd.ntmps12
      go_wp2_with fail
      go_ret
      exact ⟨rfl, (Ext.refl w).alloc _⟩
theorem namedC_eq (op : Int) : namedC op = (op == 1 || op == 2 || op == 3 || op == 4 || op == 6 || op == 12 || op == 13 || op == 14 || op == 16 || op == 17 || op == 18 || op == 20) := by
  by_cases hop : 0 ≤ op ∧ op < 22
  · obtain ⟨k, rfl⟩ := Int.eq_ofNat_of_zero_le hop.1
    exact (show ∀ k : Fin 22, namedC (k.val : Int) = (((k.val : Nat) : Int) == 1 || ((k.val : Nat) : Int) == 2 || ((k.val : Nat) : Int) == 3 || ((k.val : Nat) : Int) == 4 || ((k.val : Nat) : Int) == 6 || ((k.val : Nat) : Int) == 12 || ((k.val : Nat) : Int) == 13 || ((k.val : Nat) : Int) == 14 || ((k.val : Nat) : Int) == 16 || ((k.val : Nat) : Int) == 17 || ((k.val : Nat) : Int) == 18 || ((k.val : Nat) : Int) == 20) by decide +kernel) ⟨k, by omega⟩
  · have e2 : shapeC op = 0 := by unfold shapeC; rw [if_neg hop]
    unfold namedC
    rw [e2]
    have h : ∀ c : Int, 0 ≤ c → c < 22 → (op == c) = false := fun c h1 h2 => by rw [beq_eq_false_iff_ne]; omega
    simp [h]
theorem writesC_eq (op : Int) : writesC op = (op == 1 || op == 2 || op == 8 || op == 10 || op == 11 || op == 12 || op == 13 || op == 14 || op == 16 || op == 17 || op == 18 || op == 21) := by
  by_cases hop : 0 ≤ op ∧ op < 22
  · obtain ⟨k, rfl⟩ := Int.eq_ofNat_of_zero_le hop.1
    exact (show ∀ k : Fin 22, writesC (k.val : Int) = (((k.val : Nat) : Int) == 1 || ((k.val : Nat) : Int) == 2 || ((k.val : Nat) : Int) == 8 || ((k.val : Nat) : Int) == 10 || ((k.val : Nat) : Int) == 11 || ((k.val : Nat) : Int) == 12 || ((k.val : Nat) : Int) == 13 || ((k.val : Nat) : Int) == 14 || ((k.val : Nat) : Int) == 16 || ((k.val : Nat) : Int) == 17 || ((k.val : Nat) : Int) == 18 || ((k.val : Nat) : Int) == 21) by decide +kernel) ⟨k, by omega⟩
  · have e2 : writesC op = false := by unfold writesC; rw [if_neg hop]
    rw [e2]
    have h : ∀ c : Int, 0 ≤ c → c < 22 → (op == c) = false := fun c h1 h2 => by rw [beq_eq_false_iff_ne]; omega
    simp [h]
set_option maxRecDepth 100000 in
theorem rnamed_any (w : World) (op : Int) : Calls Tryd.prog 20 #[.int .i64 op] w fun e w' => e = .returned (.bool (namedC op)) ∧ w = w' := by
  rw [namedC_eq]
  have hall : (op = 1 ∨ op = 2 ∨ op = 3 ∨ op = 4 ∨ op = 6 ∨ op = 12 ∨ op = 13 ∨ op = 14 ∨ op = 16 ∨ op = 17 ∨ op = 18 ∨ op = 20) ∨ (op ≠ 1 ∧ op ≠ 2 ∧ op ≠ 3 ∧ op ≠ 4 ∧ op ≠ 6 ∧ op ≠ 12 ∧ op ≠ 13 ∧ op ≠ 14 ∧ op ≠ 16 ∧ op ≠ 17 ∧ op ≠ 18 ∧ op ≠ 20) := by omega
  rcases hall with h | ⟨h1, h2, h3, h4, h5, h6, h7, h8, h9, h10, h11, h12⟩
  · rcases h with rfl | rfl | rfl | rfl | rfl | rfl | rfl | rfl | rfl | rfl | rfl | rfl
    all_goals
      go_enter Tryd.func20, Tryd.ntmps20
      go_wp2_with fail
      go_ret
      exact ⟨rfl, rfl⟩
  · have hn : ∀ c : Int, op ≠ c → (op == c) = false := fun c h => by rw [beq_eq_false_iff_ne]; exact h
    rw [hn 1 h1, hn 2 h2, hn 3 h3, hn 4 h4, hn 6 h5, hn 12 h6, hn 13 h7, hn 14 h8, hn 16 h9, hn 17 h10, hn 18 h11, hn 20 h12]
    clear hn
    go_enter Tryd.func20, Tryd.ntmps20
    go_wp2_with fail
    go_ret
    exact ⟨rfl, rfl⟩
set_option maxRecDepth 100000 in
theorem rwrites_any (w : World) (op : Int) : Calls Tryd.prog 14 #[.int .i64 op] w fun e w' => e = .returned (.bool (writesC op)) ∧ w = w' := by
  rw [writesC_eq]
  have hall : (op = 1 ∨ op = 2 ∨ op = 8 ∨ op = 10 ∨ op = 11 ∨ op = 12 ∨ op = 13 ∨ op = 14 ∨ op = 16 ∨ op = 17 ∨ op = 18 ∨ op = 21) ∨ (op ≠ 1 ∧ op ≠ 2 ∧ op ≠ 8 ∧ op ≠ 10 ∧ op ≠ 11 ∧ op ≠ 12 ∧ op ≠ 13 ∧ op ≠ 14 ∧ op ≠ 16 ∧ op ≠ 17 ∧ op ≠ 18 ∧ op ≠ 21) := by omega
  rcases hall with h | ⟨h1, h2, h3, h4, h5, h6, h7, h8, h9, h10, h11, h12⟩
  · rcases h with rfl | rfl | rfl | rfl | rfl | rfl | rfl | rfl | rfl | rfl | rfl | rfl
    all_goals
      go_enter Tryd.func14, Tryd.ntmps14
      go_wp2_with fail
      go_ret
      exact ⟨rfl, rfl⟩
  · have hn : ∀ c : Int, op ≠ c → (op == c) = false := fun c h => by rw [beq_eq_false_iff_ne]; exact h
    rw [hn 1 h1, hn 2 h2, hn 8 h3, hn 10 h4, hn 11 h5, hn 12 h6, hn 13 h7, hn 14 h8, hn 16 h9, hn 17 h10, hn 18 h11, hn 21 h12]
    clear hn
    go_enter Tryd.func14, Tryd.ntmps14
    go_wp2_with fail
    go_ret
    exact ⟨rfl, rfl⟩
end Big
end Go.Proofs.YtoehdoghghpmjaaDoor
/- awake of chapter 31, CommandNames. -/
namespace Go.Proofs.YtoehdoghghpmjaaDoor
namespace Big
open Go.RowKit
theorem line_1 : lineC [108, 101, 116, 32, 120, 32, 61, 32, 49, 32, 43, 32, 121] = (some ⟨1, [120], [], [49, 32, 43, 32, 121], 0⟩, 0) := by kernel_rfl
theorem line_2 : lineC [32, 32, 101, 118, 97, 108, 32, 120, 32, 50, 48, 32] = (some ⟨3, [120], [], [], 20⟩, 0) := by kernel_rfl
theorem line_3 : lineC [101, 118, 97, 108, 32, 120, 32, 48, 50, 48] = (none, 6) := by kernel_rfl
set_option maxHeartbeats 1000000 in
set_option maxRecDepth 100000 in
theorem awake31_any (w : World) (hm : MaxV w) (hE : CmdEnv w) : Calls Tryd.prog 5 #[] w fun e w' => e = .returned (.bool true) ∧ Ext w w' := by
  have H1 : Hid (Calls Tryd.prog 7 #[.string ⟨#[108, 101, 116, 32, 120, 32, 61, 32, 49, 32, 43, 32, 121]⟩] w fun e w' => e = .returned (.tuple #[.agg #[.int .i64 1, .string ⟨#[120]⟩, .string ⟨#[]⟩, .string ⟨#[49, 32, 43, 32, 121]⟩, .int .i64 0], .int .i64 0]) ∧ Ext w w') := Lib.hid (by
    have h := cparse_any w [108, 101, 116, 32, 120, 32, 61, 32, 49, 32, 43, 32, 121] (by simp) hm hE
    rw [line_1] at h
    exact h)
  have H2 : Hid (∀ W, Ext w W → Calls Tryd.prog 7 #[.string ⟨#[32, 32, 101, 118, 97, 108, 32, 120, 32, 50, 48, 32]⟩] W fun e w' => e = .returned (.tuple #[.agg #[.int .i64 3, .string ⟨#[120]⟩, .string ⟨#[]⟩, .string ⟨#[]⟩, .int .i64 20], .int .i64 0]) ∧ Ext W w') := Lib.hid (fun W hx => by
    have h := cparse_any W [32, 32, 101, 118, 97, 108, 32, 120, 32, 50, 48, 32] (by simp) (hm.ext hx) (hE.ext hx)
    rw [line_2] at h
    exact h)
  have H3 : Hid (∀ W, Ext w W → Calls Tryd.prog 7 #[.string ⟨#[101, 118, 97, 108, 32, 120, 32, 48, 50, 48]⟩] W fun e w' => e = .returned (.tuple #[.agg #[.int .i64 0, .string ⟨#[]⟩, .string ⟨#[]⟩, .string ⟨#[]⟩, .int .i64 0], .int .i64 6]) ∧ Ext W w') := Lib.hid (fun W hx => by
    have h := cparse_any W [101, 118, 97, 108, 32, 120, 32, 48, 50, 48] (by simp) (hm.ext hx) (hE.ext hx)
    rw [line_3] at h
    exact h)
  clear hm hE
  go_enter Tryd.func5, Tryd.ntmps5
  go_wp2_with fail
  refine H1.out.mono ?_
  rintro e w1 ⟨rfl, hx1⟩
  have HX1 := Lib.hid hx1
  clear hx1
  have HB1 := Lib.hid (Blk.new w1 27 #[.int .i64 1, .string ⟨#[120]⟩, .string ⟨#[]⟩, .string ⟨#[49, 32, 43, 32, 121]⟩, .int .i64 0])
  have HX2 := Lib.hid (HX1.out.alloc (.cells #[.int .i64 1, .string ⟨#[120]⟩, .string ⟨#[]⟩, .string ⟨#[49, 32, 43, 32, 121]⟩, .int .i64 0] 27))
  go_wp2_with fail
  generalize w1.alloc (.cells #[.int .i64 1, .string ⟨#[120]⟩, .string ⟨#[]⟩, .string ⟨#[49, 32, 43, 32, 121]⟩, .int .i64 0] 27) = w2 at *
  generalize w1.heap.size = g1 at *
  refine (H2.out _ HX2.out).mono ?_
  rintro e w3 ⟨rfl, hx3⟩
  have HB3 := Lib.hid (HB1.out.ext hx3)
  have HX3 := Lib.hid (HX2.out.trans hx3)
  clear hx3
  have HC3 := Lib.hid (Blk.new w3 27 #[.int .i64 3, .string ⟨#[120]⟩, .string ⟨#[]⟩, .string ⟨#[]⟩, .int .i64 20])
  have HX4 := Lib.hid (HX3.out.alloc (.cells #[.int .i64 3, .string ⟨#[120]⟩, .string ⟨#[]⟩, .string ⟨#[]⟩, .int .i64 20] 27))
  have HB4 := Lib.hid (HB3.out.alloc (.cells #[.int .i64 3, .string ⟨#[120]⟩, .string ⟨#[]⟩, .string ⟨#[]⟩, .int .i64 20] 27))
  go_wp2_with fail
  generalize w3.alloc (.cells #[.int .i64 3, .string ⟨#[120]⟩, .string ⟨#[]⟩, .string ⟨#[]⟩, .int .i64 20] 27) = w4 at *
  generalize w3.heap.size = g3 at *
  refine (H3.out _ HX4.out).mono ?_
  rintro e w5 ⟨rfl, hx5⟩
  have HX5 := Lib.hid (HX4.out.trans hx5)
  have hb := HB4.out.ext hx5
  have hc := HC3.out.ext hx5
  have b0 := hb.cell 0
  have b1 := hb.cell 1
  have b2 := hb.cell 2
  have b3 := hb.cell 3
  have b4 := hb.cell 4
  have bz := hb.lt
  have c0 := hc.cell 0
  have c1 := hc.cell 1
  have c2 := hc.cell 2
  have c3 := hc.cell 3
  have c4 := hc.cell 4
  have cz := hc.lt
  clear hx5 hb hc
  go_wp2_with fail
  go_ret
  exact ⟨rfl, HX5.out.alloc _⟩
set_option maxHeartbeats 1000000 in
set_option maxRecDepth 100000 in
theorem commandNames_any (w : World) (op : Int) (hm : MaxV w) (hE : CmdEnv w) : Calls Tryd.prog 4 #[.int .i64 op] w fun e w' => e = .returned (.bool true) ∧ Ext w w' := by
  have HAW := Lib.hid (awake31_any w hm hE)
  have H1 := Lib.hid (fun W z => cname_any W z)
  have H2 := Lib.hid (fun W z => rname31_any W z)
  have H3 := Lib.hid (fun W z => cwrites_any W z)
  have H4 := Lib.hid (fun W z => rwrites_any W z)
  clear hm hE
  go_enter Tryd.func4, Tryd.ntmps4
  go_wp2_with fail
  refine HAW.out.mono ?_
  rintro e w1 ⟨rfl, hx1⟩
  have HX1 := Lib.hid hx1
  clear hx1
  go_wp2_with fail
  go_loopw [3] (fun s3 wr => ∃ k : Nat, k ≤ 25 ∧ s3 = .int .i64 ((k : Int) - 1) ∧ Ext w wr) (fun s3 _ => 25 - (intOf s3 + 1).toNat)
  case atStart => exact ⟨0, by omega, rfl, HX1.out⟩
  case round =>
    obtain ⟨k, hk, rfl, hx2⟩ := hrel
    have HX2 := Lib.hid hx2
    clear hx2
    by_cases hlt : k < 25
    · have hki : ((k : Int) - 1) < 24 := by omega
      have hw : IntKind.i64.wrap ((k : Int) - 1 + 1) = (k : Int) := by rw [IntWalk.i64_in _ (by omega)]; omega
      have HC1 := Lib.hid (fun W => H1.out W ((k : Int) - 1))
      have HC2 := Lib.hid (fun W => H2.out W ((k : Int) - 1))
      have HC3 := Lib.hid (fun W => H3.out W ((k : Int) - 1))
      have HC4 := Lib.hid (fun W => H4.out W ((k : Int) - 1))
      generalize nameC ((k : Int) - 1) = nm at *
      generalize writesC ((k : Int) - 1) = wt at *
      go_wp2_with fail
      refine (HC1.out _).mono ?_
      rintro e w3 ⟨rfl, hx3⟩
      have HX3 := Lib.hid (HX2.out.trans hx3)
      clear hx3
      go_wp2_with fail
      refine (HC2.out _).mono ?_
      rintro e w4 ⟨rfl, hx4⟩
      have HX4 := Lib.hid (HX3.out.trans hx4)
      clear hx4
      go_wp2_with fail
      refine (HC3.out _).mono ?_
      rintro e w5 ⟨rfl, hx5⟩
      have HX5 := Lib.hid (HX4.out.trans hx5)
      clear hx5
      go_wp2_with fail
      refine (HC4.out _).mono ?_
      rintro e w6 ⟨rfl, rfl⟩
      go_wp2_with fail
      go_roundw
      case rel => exact ⟨k + 1, by omega, by first | go_num | (congr 1; omega) | simp, HX5.out⟩
      case measure => simp [intOf]; omega
    · obtain rfl : k = 25 := by omega
      have HC1 := Lib.hid (fun W => H1.out W op)
      have HC2 := Lib.hid (fun W => H2.out W op)
      have HC3 := Lib.hid (fun W => H3.out W op)
      have HC4 := Lib.hid (fun W => H4.out W op)
      generalize nameC op = nm at *
      generalize writesC op = wt at *
      go_wp2_with fail
      refine (HC1.out _).mono ?_
      rintro e w3 ⟨rfl, hx3⟩
      have HX3 := Lib.hid (HX2.out.trans hx3)
      clear hx3
      go_wp2_with fail
      refine (HC2.out _).mono ?_
      rintro e w4 ⟨rfl, hx4⟩
      have HX4 := Lib.hid (HX3.out.trans hx4)
      clear hx4
      go_wp2_with fail
      refine (HC3.out _).mono ?_
      rintro e w5 ⟨rfl, hx5⟩
      have HX5 := Lib.hid (HX4.out.trans hx5)
      clear hx5
      go_wp2_with fail
      refine (HC4.out _).mono ?_
      rintro e w6 ⟨rfl, rfl⟩
      go_wp2_with fail
      go_ret
      exact ⟨rfl, HX5.out⟩
end Big
end Go.Proofs.YtoehdoghghpmjaaDoor
