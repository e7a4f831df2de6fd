import Derived.Test.YtdijknnlldjgmaaDoorW26
import Derived.Test.YtdijknnlldjgmaaDoorW27
import Derived.Test.YtdijknnlldjgmaaDoorWk
/- DecimalParses: which texts are numbers. -/
namespace Go.Proofs.YtdijknnlldjgmaaDoor
namespace Big
open Go.RowKit

theorem head_tail (l : List UInt8) (h : l.head? = some 45) : l = 45 :: l.tail := by
  cases l with
  | nil => cases h
  | cons a t => injection h with h; subst h; rfl
theorem parse_back {l : List UInt8} {z : Int} (h : parseI l = (z, 0)) : fmtI z = l := by
  unfold parseI at h
  split at h
  · cases h
  · by_cases h45 : (l.head? == some 45) = true
    · simp only [h45, if_true] at h
      obtain ⟨n, e, hr⟩ : ∃ n e, natural l.tail = (n, e) := ⟨_, _, rfl⟩
      rw [hr] at h
      split at h
      · cases h
      · rename_i hn
        injection h with h1 h2
        have he : e = 0 := by
          by_cases he : e = 0
          · exact he
          · exact absurd (Or.inl he) hn
        subst he
        have hn0 : n ≠ 0 := fun h0 => hn (Or.inr ⟨by simp, h0⟩)
        have hb := natural_back hr
        have hz : z.natAbs = n := by rw [← h1]; exact natAbs_sgn _ _
        have hneg : z < 0 := by rw [← h1]; unfold sgn; simp; omega
        unfold fmtI
        rw [if_pos hneg, hz, hb]
        exact (head_tail l (by simpa using h45)).symm
    · have h45' : (l.head? == some 45) = false := by simpa using h45
      simp only [h45', Bool.false_eq_true, if_false] at h
      obtain ⟨n, e, hr⟩ : ∃ n e, natural l = (n, e) := ⟨_, _, rfl⟩
      rw [hr] at h
      split at h
      · cases h
      · rename_i hn
        injection h with h1 h2
        have he : e = 0 := by
          by_cases he : e = 0
          · exact he
          · exact absurd (Or.inl he) hn
        subst he
        have hb := natural_back hr
        have hz : z.natAbs = n := by rw [← h1]; exact natAbs_sgn _ _
        have hneg : ¬ z < 0 := by rw [← h1]; unfold sgn; simp
        unfold fmtI
        rw [if_neg hneg, hz, hb]
theorem parseI_limbs {l : List UInt8} {z : Int} {e : Nat} (h : parseI l = (z, e)) : (limbs z.natAbs).length ≤ 20001 := by
  have key : ∀ (d : List UInt8) (b : Bool), (if (natural d).2 ≠ 0 ∨ (b = true ∧ (natural d).1 = 0) then ((0 : Int), 6) else (sgn b (natural d).1, 0)) = (z, e) → (limbs z.natAbs).length ≤ 20001 := by
    intro d b h
    obtain ⟨n, k, hr⟩ : ∃ n k, natural d = (n, k) := ⟨_, _, rfl⟩
    have hb := natural_limbs _ hr
    rw [hr] at h
    split at h
    · injection h with h1 h2; subst h1; simp [limbs_zero]
    · injection h with h1 h2
      subst h1
      rw [natAbs_sgn]
      exact hb
  unfold parseI at h
  split at h
  · injection h with h1 h2; subst h1; simp [limbs_zero]
  · exact key _ _ h

theorem parses_long (w : World) (l : List UInt8) (h : 300 < l.length) (hT : Tab16 w) :
    Calls Tryd.prog 5 #[str l] w fun e w' => e = .returned (.bool true) ∧ Ext w w' := by
  have HT := Lib.hid hT
  have h' : (300 : Int) < (l.length : Int) := by omega
  clear h hT
  go_enter Tryd.func5, Tryd.ntmps5
  go_wp2_with fail
  refine (awake_any _ HT.out).mono ?_
  rintro e1 w1 ⟨rfl, hx1⟩
  have HX1 := Lib.hid hx1; clear hx1
  go_wp2_with fail
  go_ret
  exact ⟨rfl, HX1.out⟩

set_option maxRecDepth 100000 in
theorem parses_short (w : World) (l : List UInt8) (h : l.length ≤ 300) (hT : Tab16 w) :
    Calls Tryd.prog 5 #[str l] w fun e w' => e = .returned (.bool true) ∧ Ext w w' := by
  have HT := Lib.hid hT
  have h' : ¬ (300 : Int) < (l.length : Int) := by omega
  obtain ⟨z, ez, hz⟩ : ∃ z e, parseI l = (z, e) := ⟨_, _, rfl⟩
  obtain ⟨n, en, hn⟩ : ∃ z e, natural l = (z, e) := ⟨_, _, rfl⟩
  have hzl := parseI_limbs hz
  have hnl := natural_limbs _ hn
  have HP := Lib.hid (fun W => parse_any W l)
  have HQ := Lib.hid (fun W => rparse_any W l)
  have HN := Lib.hid (fun W => natural_any W l)
  have HM := Lib.hid (fun W => rnatural_any W l)
  rw [hz] at HP HQ
  rw [hn] at HN HM
  have HS := Lib.hid (fun W v u h h' => same5_any W v u z z h h' (by omega) (by omega))
  have HR := Lib.hid (fun W v u h h' => rsame_self W v u n h h' (by omega))
  have HF := Lib.hid (fun W v h => format_any W v z h (by omega))
  have hcase : ((ez : Int) != 0) = true ∨ (((ez : Int) != 0) = false ∧ fmtI z = l) := by
    by_cases he : ez = 0
    · subst he
      exact .inr ⟨rfl, parse_back hz⟩
    · exact .inl (by rw [bne_iff_ne]; omega)
  clear h hT hz hn hzl hnl
  rcases hcase with he | ⟨he, hf⟩
  all_goals
    first | (rw [hf] at HF; clear hf) | skip
    go_enter Tryd.func5, Tryd.ntmps5
    go_wp2_with fail
    refine (awake_any _ HT.out).mono ?_
    rintro e1 w1 ⟨rfl, hx1⟩
    have HX1 := Lib.hid hx1; clear hx1
    go_wp2_with fail
    refine (HP.out _).mono ?_
    rintro e2 w2 ⟨v2, rfl, hi2, hx2⟩
    have HX2 := Lib.hid (HX1.out.trans hx2); clear hx2
    have HI2 := Lib.hid hi2.arr
    obtain ⟨b2, n2, A2, c2, rfl⟩ := hi2.shape
    clear hi2
    go_wp2_with fail
    refine (HQ.out _).mono ?_
    rintro e3 w3 ⟨v3, rfl, hi3, hx3⟩
    have HB3 := Lib.hid ((Blk.new w2 24 #[Value.bool b2, Value.slice A2 n2 c2]).ext hx3)
    have HX23 := Lib.hid (((Ext.refl w2).alloc _).trans hx3); clear hx3
    have HI3 := Lib.hid hi3.arr
    obtain ⟨b3, n3, A3, c3, rfl⟩ := hi3.shape
    clear hi3
    go_wp2_with fail
    refine (HN.out _).mono ?_
    rintro e4 w4 ⟨v4, rfl, ho4, hx4⟩
    have HB34 := Lib.hid (HB3.out.ext (((Ext.refl w3).alloc _).trans hx4))
    have HB4 := Lib.hid ((Blk.new w3 24 #[Value.bool b3, Value.slice A3 n3 c3]).ext hx4)
    have HX34 := Lib.hid (((Ext.refl w3).alloc _).trans hx4); clear hx4
    have HO4 := Lib.hid ho4.arr
    obtain ⟨n4, A4, c4, rfl⟩ := ho4.shape
    clear ho4
    go_wp2_with fail
    refine (HM.out _).mono ?_
    rintro e5 w5 ⟨v5, rfl, ho5, hx5⟩
    have HB5 := Lib.hid (HB34.out.ext hx5)
    obtain ⟨hc0, hc1, hf0, hf1, hlt⟩ := HB5.out.two
    obtain ⟨hd0, hd1, hg0, hg1, hlt2⟩ := (HB4.out.ext hx5).two
    have HX45 := Lib.hid hx5; clear hx5
    have HX35 := Lib.hid (HX34.out.trans HX45.out)
    have HX25 := Lib.hid (HX23.out.trans HX35.out)
    have HO5 := Lib.hid ho5.arr
    obtain ⟨n5, A5, c5, rfl⟩ := ho5.shape
    clear ho5
    go_wp2_with fail
    refine (HS.out _ _ _ (HI2.out.ext HX25.out) (HI3.out.ext HX35.out)).mono ?_
    rintro e6 w6 ⟨rfl, hx6⟩
    clear hc0 hc1 hf0 hf1 hlt hd0 hd1 hg0 hg1 hlt2
    obtain ⟨hc0, hc1, hf0, hf1, hlt⟩ := (HB5.out.ext hx6).two
    have HX56 := Lib.hid hx6; clear hx6
    simp only [decide_true]
    go_wp2_with fail
    refine (HR.out _ _ _ (HO4.out.ext (HX45.out.trans HX56.out)) (HO5.out.ext HX56.out)).mono ?_
    rintro e7 w7 ⟨rfl, rfl⟩
    go_wp2_with fail
    have HXE := Lib.hid (HX2.out.trans (HX25.out.trans HX56.out))
    first
      | (go_ret
         exact ⟨rfl, HXE.out⟩)
      | (refine (HF.out _ _ (HI2.out.ext (HX25.out.trans HX56.out))).mono ?_
         rintro e8 w8 ⟨rfl, hx8⟩
         have HX8 := Lib.hid (HXE.out.trans hx8)
         clear hx8
         go_wp2_with fail
         go_ret
         exact ⟨rfl, HX8.out⟩)

theorem parses_any (w : World) (l : List UInt8) (hT : Tab16 w) :
    Calls Tryd.prog 5 #[str l] w fun e w' => e = .returned (.bool true) ∧ Ext w w' := by
  rcases Nat.lt_or_ge 300 l.length with hb | hs
  · exact parses_long w l hb hT
  · exact parses_short w l hs hT
end Big
end Go.Proofs.YtdijknnlldjgmaaDoor
