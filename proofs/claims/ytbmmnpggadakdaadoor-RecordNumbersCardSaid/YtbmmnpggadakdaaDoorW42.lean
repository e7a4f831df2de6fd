import Derived.Test.YtbmmnpggadakdaaDoorW41
import Derived.Test.YtbmmnpggadakdaaDoorW26
import Derived.Test.YtbmmnpggadakdaaDoorParses
/- record.Number, ref34.Number. -/
namespace Go.Proofs.YtbmmnpggadakdaaDoor
namespace Big
open Go.RowKit
def numberS (l : List UInt8) : Int × Bool := if (parseI l).2 = 0 ∧ -999999999 ≤ (parseI l).1 ∧ (parseI l).1 ≤ 999999999 then ((parseI l).1, true) else (0, false)
/-- The four ways through. -/
theorem number_ways (l : List UInt8) : ∃ z e, parseI l = (z, e) ∧ ((((e : Int) != 0) = true ∧ numberS l = (0, false)) ∨ (e = 0 ∧ intS z = (0, false) ∧ numberS l = (0, false)) ∨
    (e = 0 ∧ intS z = (z, true) ∧ (999999999 < z ∧ numberS l = (0, false) ∨ z < -999999999 ∧ numberS l = (0, false) ∨ -999999999 ≤ z ∧ z ≤ 999999999 ∧ numberS l = (z, true)))) := by
  obtain ⟨z, e, h⟩ : ∃ z e, parseI l = (z, e) := ⟨_, _, rfl⟩
  refine ⟨z, e, h, ?_⟩
  unfold numberS
  rw [h]
  by_cases he : e = 0
  · subst he
    right
    by_cases hi : -9223372036854775808 ≤ z ∧ z ≤ 9223372036854775807
    · right
      refine ⟨rfl, if_pos hi, ?_⟩
      by_cases h1 : 999999999 < z
      · exact .inl ⟨h1, if_neg (fun h => by omega)⟩
      · by_cases h2 : z < -999999999
        · exact .inr (.inl ⟨h2, if_neg (fun h => by omega)⟩)
        · exact .inr (.inr ⟨by omega, by omega, if_pos ⟨rfl, by omega, by omega⟩⟩)
    · exact .inl ⟨rfl, if_neg hi, if_neg (fun h => hi ⟨by omega, by omega⟩)⟩
  · exact .inl ⟨by rw [bne_iff_ne]; omega, if_neg (fun h => he h.1)⟩
set_option maxRecDepth 100000 in
theorem number_any (w : World) (l : List UInt8) :
    Calls Tryd.prog 18 #[str l] w fun e w' => e = .returned (.tuple #[.int .i64 (numberS l).1, .bool (numberS l).2]) ∧ Ext w w' := by
  obtain ⟨z, ez, hz, hw⟩ := number_ways l
  have HP := Lib.hid (fun W => parse_any W l)
  rw [hz] at HP
  have HI := Lib.hid (fun W v h => iint_any W v z h)
  generalize numberS l = r at *
  clear hz
  generalize intS z = q at *
  rcases hw with ⟨he, rfl⟩ | ⟨rfl, rfl, rfl⟩ | ⟨rfl, rfl, ⟨h1, rfl⟩ | ⟨h1, rfl⟩ | ⟨h1, h2, rfl⟩⟩
  all_goals
    go_enter Tryd.func18, Tryd.ntmps18
    go_wp2_with fail
    refine (HP.out _).mono ?_
    rintro e1 w1 ⟨v1, rfl, hi1, hx1⟩
    have HX1 := Lib.hid (hx1.alloc (.cells #[] 0)); clear HX1
    have HX1 := Lib.hid hx1; clear hx1
    have HI1 := Lib.hid hi1.arr
    obtain ⟨b1, n1, A1, c1, rfl⟩ := hi1.shape
    clear hi1
    go_wp2_with fail
    refine (HI.out _ _ (HI1.out.ext ((Ext.refl _).alloc _))).mono ?_
    rintro e2 w2 ⟨rfl, hx2⟩
    have HX2 := Lib.hid ((HX1.out.alloc _).trans hx2); clear hx2
    go_wp2_with fail
    go_ret2
    exact ⟨rfl, HX2.out⟩
theorem rnumber_short (w : World) (l : List UInt8) (hl : l.length ≤ 10) :
    Calls Tryd.prog 19 #[str l] w fun e w' => e = .returned (.tuple #[.int .i64 (numberS l).1, .bool (numberS l).2]) ∧ Ext w w' := by
  have hl' : ¬ (10 : Int) < (l.length : Int) := by omega
  obtain ⟨z, ez, hz, hw⟩ := number_ways l
  have HP := Lib.hid (fun W => rparse_any W l)
  rw [hz] at HP
  have HI := Lib.hid (fun W v h => rint_any W v z h)
  generalize numberS l = r at *
  clear hz hl
  generalize intS z = q at *
  rcases hw with ⟨he, rfl⟩ | ⟨rfl, rfl, rfl⟩ | ⟨rfl, rfl, ⟨h1, rfl⟩ | ⟨h1, rfl⟩ | ⟨h1, h2, rfl⟩⟩
  all_goals
    go_enter Tryd.func19, Tryd.ntmps19
    go_wp2_with fail
    refine (HP.out _).mono ?_
    rintro e1 w1 ⟨v1, rfl, hi1, hx1⟩
    have HX1 := Lib.hid hx1; clear hx1
    have HI1 := Lib.hid hi1.arr
    obtain ⟨b1, n1, A1, c1, rfl⟩ := hi1.shape
    clear hi1
    go_wp2_with fail
    refine (HI.out _ _ (HI1.out.ext ((Ext.refl _).alloc _))).mono ?_
    rintro e2 w2 ⟨rfl, hx2⟩
    have HX2 := Lib.hid ((HX1.out.alloc _).trans hx2); clear hx2
    go_wp2_with fail
    go_ret2
    exact ⟨rfl, HX2.out⟩
theorem number_long (l : List UInt8) (h : 10 < l.length) : numberS l = (0, false) := by
  unfold numberS
  rw [if_neg]
  rintro ⟨h1, h2, h3⟩
  obtain ⟨z, e, hz⟩ : ∃ z e, parseI l = (z, e) := ⟨_, _, rfl⟩
  rw [hz] at h1 h2 h3
  simp only at h1 h2 h3
  subst h1
  have hb := parse_back hz
  have hlen : (dec z.natAbs).length ≤ 9 := length_dec_le (by omega) (length_low_le (by omega))
  have : l.length ≤ 10 := by
    rw [← hb]
    unfold fmtI
    split
    · simp; omega
    · omega
  omega
theorem rnumber_any (w : World) (l : List UInt8) :
    Calls Tryd.prog 19 #[str l] w fun e w' => e = .returned (.tuple #[.int .i64 (numberS l).1, .bool (numberS l).2]) ∧ Ext w w' := by
  rcases Nat.lt_or_ge 10 l.length with hl | hl
  · rw [number_long l hl]
    have hl' : (10 : Int) < (l.length : Int) := by omega
    clear hl
    go_enter Tryd.func19, Tryd.ntmps19
    go_wp2_with fail
    go_ret2
    exact ⟨rfl, Ext.refl _⟩
  · exact rnumber_short w l hl

/-- text -/
theorem dec_lt (n : Nat) (h : n < 10) : dec n = [UInt8.ofNat (48 + n)] := by
  have : n = 0 ∨ n = 1 ∨ n = 2 ∨ n = 3 ∨ n = 4 ∨ n = 5 ∨ n = 6 ∨ n = 7 ∨ n = 8 ∨ n = 9 := by omega
  rcases this with rfl | rfl | rfl | rfl | rfl | rfl | rfl | rfl | rfl | rfl <;> rfl
theorem dec_ge (n : Nat) (h : 10 ≤ n) : dec n = dec (n / 10) ++ dec (n % 10) := by
  rw [dec_lt (n % 10) (Nat.mod_lt _ (by omega)), dec_pos n (by omega), dec_pos (n / 10) (by omega), low_pos n (by omega), List.reverse_cons]
theorem text_pos (n : Nat) : ∀ (w : World), n ≤ 999999999 → Calls Tryd.prog 20 #[.int .i64 (n : Int)] w fun e w' => e = .returned (str (dec n)) ∧ w = w' := by
  induction n using Nat.strongRecOn with
  | ind n ih =>
    intro w hn
    by_cases h10 : n < 10
    · have HD := Lib.hid (dec_lt n h10)
      have HX := Lib.hid (digit_ext n h10)
      have h1 : ¬ (n : Int) < 0 := by omega
      clear ih
      go_enter Tryd.func20, Tryd.ntmps20
      go_wp2_with fail
      go_ret
      rw [HD.out]
      exact ⟨congrArg (fun b : ByteArray => Ending.returned (.string b)) HX.out, rfl⟩
    · have HD := Lib.hid (dec_ge n (by omega))
      have h1 : ¬ (n : Int) < 0 := by omega
      have hl1 : (dec (n / 10)).length ≤ 9 := length_dec_le (by omega) (length_low_le (by omega))
      have hl2 : (dec (n % 10)).length ≤ 9 := length_dec_le (by omega) (length_low_le (by omega))
      have HA := Lib.hid (fun W => ih (n / 10) (by omega) W (by omega))
      have HB := Lib.hid (fun W => ih (n % 10) (by omega) W (by omega))
      have hadd := run_add_str (dec (n / 10)) (dec (n % 10)) (by omega)
      rw [← HD.out] at hadd
      have e1 : (n : Int) / 10 = ((n / 10 : Nat) : Int) := by omega
      have e2 : (n : Int) % 10 = ((n % 10 : Nat) : Int) := by omega
      have HE1 := Lib.hid e1
      have HE2 := Lib.hid e2
      clear e1 e2 ih hl1 hl2
      generalize dec n = d at *
      generalize dec (n / 10) = d1 at *
      generalize dec (n % 10) = d2 at *
      go_enter Tryd.func20, Tryd.ntmps20
      go_wp2_with fail
      rw [HE1.out]
      refine (HA.out _).mono ?_
      rintro e w' ⟨rfl, rfl⟩
      go_wp2_with fail
      rw [HE2.out]
      refine (HB.out _).mono ?_
      rintro e w' ⟨rfl, rfl⟩
      go_wp2_with fail
      go_ret
      exact ⟨rfl, rfl⟩
theorem text_any (w : World) (z : Int) (h1 : -999999999 ≤ z) (h2 : z ≤ 999999999) : Calls Tryd.prog 20 #[.int .i64 z] w fun e w' => e = .returned (str (fmtI z)) ∧ w = w' := by
  by_cases hz : z < 0
  · obtain ⟨n, rfl⟩ : ∃ n : Nat, z = -(n : Int) := ⟨z.natAbs, by omega⟩
    have HT := Lib.hid (fun W => text_pos n W (by omega))
    have HF := Lib.hid (show fmtI (-(n : Int)) = [45] ++ dec n by unfold fmtI; rw [if_pos hz, show (-(n : Int)).natAbs = n by omega]; rfl)
    have hl1 : (dec n).length ≤ 9 := length_dec_le (by omega) (length_low_le (by omega))
    have hadd : ∀ W, (binOp .add 9 (.string ⟨#[45]⟩) (str (dec n))).run Tryd.prog W = .ok (str ([45] ++ dec n)) W := run_add_str [45] (dec n) (by simp; omega)
    rw [← HF.out] at hadd
    have e1 : -(-(n : Int)) = (n : Int) := by omega
    clear hl1
    generalize fmtI (-(n : Int)) = d at *
    go_enter Tryd.func20, Tryd.ntmps20
    go_wp2_with fail
    refine (HT.out _).mono ?_
    rintro e w' ⟨rfl, rfl⟩
    go_wp2_with fail
    go_ret
    exact ⟨rfl, rfl⟩
  · obtain ⟨n, rfl⟩ : ∃ n : Nat, z = (n : Int) := ⟨z.toNat, by omega⟩
    have HF := show fmtI (n : Int) = dec n by unfold fmtI; rw [if_neg hz, Int.natAbs_natCast]
    rw [HF]
    exact text_pos n w (by omega)
end Big
end Go.Proofs.YtbmmnpggadakdaaDoor
