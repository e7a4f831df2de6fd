import Derived.Test.YtbmmnpggadakdaaDoorW3
import Derived.Test.YtbmmnpggadakdaaDoorW12
import Derived.Test.YtbmmnpggadakdaaDoorStr
import Derived.Test.YtbmmnpggadakdaaDoorNum
namespace Go.Proofs.YtbmmnpggadakdaaDoor
namespace Big
open Go.RowKit

theorem natural_long (w : World) (l : List UInt8) (h : 20001 < l.length) :
    Calls Tryd.prog 42 #[str l] w fun e w' => e = .returned (.tuple #[.slice none 0 0, .int .i64 7]) ∧ w = w' := by
  have h' : (20001 : Int) < (l.length : Int) := by omega
  clear h
  go_enter Tryd.func42, Tryd.ntmps42
  go_wp2_with fail
  go_ret2
  exact ⟨rfl, rfl⟩

theorem natural_empty (w : World) :
    Calls Tryd.prog 42 #[str []] w fun e w' => e = .returned (.tuple #[.slice none 0 0, .int .i64 6]) ∧ w = w' := by
  go_enter Tryd.func42, Tryd.ntmps42
  go_wp2_with fail
  go_ret2
  exact ⟨rfl, rfl⟩

theorem natural_zero (w : World) (l : List UInt8) (h0 : byteAt l 0 = 48) (h1 : 1 < l.length) (h : l.length ≤ 20001) :
    Calls Tryd.prog 42 #[str l] w fun e w' => e = .returned (.tuple #[.slice none 0 0, .int .i64 6]) ∧ w = w' := by
  have h00 : ((byteAt l 0 : Int) == 48) = true := by rw [h0]; rfl
  have hle : ¬ (20001 : Int) < (l.length : Int) := by omega
  have hne : (l == []) = false := by cases l <;> simp_all
  clear h h0
  go_enter Tryd.func42, Tryd.ntmps42
  go_wp2_with fail
  go_ret2
  exact ⟨rfl, rfl⟩

/-- What decimal.Natural holds after k digits. -/
def NumAt (w0 wr : World) (out : Value) (l : List UInt8) (k j c : Nat) : Prop :=
  ∃ a : Nat, Own w0.heap.size wr out (limbs a) ∧ numOf (l.take k) = a * 10 ^ j + c ∧ a < 10 ^ k ∧ Ext w0 wr

/-- What reading a natural returns. -/
def NatRes (w0 : World) (r : Nat × Nat) (e : Ending) (w' : World) : Prop :=
  ∃ v' : Value, e = .returned (.tuple #[v', .int .i64 (r.2 : Int)]) ∧ Own w0.heap.size w' v' (limbs r.1) ∧ Ext w0 w'

set_option maxHeartbeats 1000000 in
theorem natural_some (w : World) (l : List UInt8) (hne : l ≠ []) (hz : ¬ (byteAt l 0 = 48 ∧ 1 < l.length)) (h : l.length ≤ 20001) (r : Nat × Nat) (hr1 : l.all isDig = true → r = (numOf l, 0)) (hr2 : l.all isDig = false → r = (0, 6)) :
    Calls Tryd.prog 42 #[str l] w (NatRes w r) := by
  have HR1 := Lib.hid hr1
  have HR2 := Lib.hid hr2
  clear hr1 hr2
  have hle : ¬ (20001 : Int) < (l.length : Int) := by omega
  have hne' : (l == []) = false := by cases l <;> simp_all
  have hl0 : 0 < l.length := by cases l <;> simp_all
  have hcase : ((byteAt l 0 : Int) == 48) = false ∨ (((byteAt l 0 : Int) == 48) = true ∧ ¬ (1 : Int) < (l.length : Int)) := by
    by_cases h0 : byteAt l 0 = 48
    · exact .inr ⟨by rw [h0]; rfl, by omega⟩
    · exact .inl (by rw [beq_eq_false_iff_ne]; omega)
  have HL := Lib.hid h
  clear h hne hz
  rcases hcase with h00 | ⟨h00, h11⟩
  all_goals
    go_enter Tryd.func42, Tryd.ntmps42
    go_wp2_with fail
    go_loopw [4, 5, 6, 25] (fun out cv sv i wr => ∃ k j c : Nat, k ≤ l.length ∧ j ≤ 8 ∧ c < 10 ^ j ∧ (k = l.length → j = 0) ∧ i = .int .i64 k ∧ cv = .int .u32 c ∧ sv = .int .u32 ((10 ^ j : Nat) : Int) ∧ (l.take k).all isDig = true ∧ NumAt w wr out l k j c) (fun _ _ _ i _ => l.length - (intOf i).toNat)
    case atStart => exact ⟨0, 0, 0, by omega, by omega, by omega, fun _ => rfl, rfl, rfl, rfl, rfl, 0, Own.none_ _ _, rfl, by omega, Ext.refl _⟩
    case round =>
      obtain ⟨k, j, c, hk, hj, hc, hkl, rfl, rfl, rfl, hall, hN⟩ := hrel
      by_cases hlt : k < l.length
      · have hb := byteAt_lt l k
        have hbe := byteAt_eq l k hlt
        have hdig := isDig_iff l[k]
        rw [← hbe] at hdig
        have hta := take_all l k hlt
        have hnt := numOf_take l k hlt
        rw [← hbe] at hnt
        rw [hall, Bool.true_and] at hta
        have HAF := Lib.hid (fun hf => all_false_of hlt hf)
        have HDIG := Lib.hid hdig
        have HTA := Lib.hid hta
        have HNT := Lib.hid hnt
        clear hbe hdig hta hnt
        obtain ⟨b, hbb⟩ : ∃ b, byteAt l k = b := ⟨_, rfl⟩
        have HBB := Lib.hid hbb
        rw [hbb] at HDIG HNT hb
        have HC10 := Lib.hid hc
        by_cases hd : 48 ≤ b ∧ b ≤ 57
        · have HT1 := Lib.hid (HTA.out.trans (HDIG.out.2 hd))
          obtain ⟨a, hown, hnum, hak, hext⟩ := hN
          have hP8 := ten_pow_bound hj
          have hP9 := ten_pow_9 hj
          have HALL := Lib.hid hall
          have HA10 := Lib.hid hak
          have hll := limbs_len_pow hak
          have HGD := Lib.hid (group_digit (d := b - 48) hnum)
          have HNUM := Lib.hid hnum
          clear hall hak hnum hkl
          have HPS := Lib.hid (show 10 ^ (j + 1) = 10 * 10 ^ j by rw [Nat.pow_succ, Nat.mul_comm])
          obtain ⟨P, hP⟩ : ∃ P, 10 ^ j = P := ⟨_, rfl⟩
          rw [hP] at hc hP8 hP9 HGD HNUM HPS ⊢
          have HP := Lib.hid hP
          clear hP
          have hw10 : IntKind.u32.wrap (10 * (c : Int)) = ((10 * c : Nat) : Int) := by rw [IntWalk.u32_in _ (by omega)]; omega
          obtain ⟨hd1, hd2⟩ := hd
          have e1 : (10 * (c : Int) + ((b : Int) - 48)) = ((10 * c + (b - 48) : Nat) : Int) := by omega
          have e2 : (P : Int) * 10 = ((P * 10 : Nat) : Int) := by omega
          have E1 := Lib.hid e1
          have E2 := Lib.hid e2
          clear e1 e2
          by_cases hflush : j = 8 ∨ k + 1 = l.length
          · have hfl : ((P : Int) * 10 == 1000000000) = true ∨ (((P : Int) * 10 == 1000000000) = false ∧ ((k : Int) == (l.length : Int) - 1) = true) := by
              by_cases h8 : P * 10 = 1000000000
              · exact .inl (by rw [beq_iff_eq]; omega)
              · exact .inr ⟨by rw [beq_eq_false_iff_ne]; omega, by rw [beq_iff_eq]; omega⟩
            have HPR := Lib.hid (psmall_any wr _ (limbs a) (P * 10) (10 * c + (b - 48)) hown.arr (by omega) (by omega) (by omega))
            clear hP9
            have HK := Lib.hid hflush
            clear hflush
            have hnew : numOf (l.take (k + 1)) = a * (P * 10) + (10 * c + (b - 48)) := by rw [HNT.out, HGD.out, Nat.mul_comm P 10]
            have hlt10 := take_all_lt HT1.out (show k + 1 ≤ l.length by omega)
            have HNEW := Lib.hid hnew
            have HLT10 := Lib.hid hlt10
            clear hnew hlt10
            rcases hfl with hfl | ⟨hfl1, hfl2⟩
            all_goals
              go_wp2_with fail
              rw [E1.out, E2.out]
              refine HPR.out.mono ?_
              rintro e w1 ⟨v1, rfl, ho1, hx1⟩
              rw [val_limbs, ← HNEW.out] at ho1
              go_wp2_with fail
              go_roundw
              case rel => exact ⟨k + 1, 0, 0, by omega, by omega, by omega, fun _ => rfl, by go_num, rfl, rfl, HT1.out, _, ho1.mono hext.size, by simp, HLT10.out, hext.trans hx1⟩
              case measure => simp [intOf]; omega
          · have hfl1 : ((P : Int) * 10 == 1000000000) = false := by rw [beq_eq_false_iff_ne]; omega
            have hfl2 : ((k : Int) == (l.length : Int) - 1) = false := by rw [beq_eq_false_iff_ne]; omega
            have hlt10 := take_all_lt HT1.out (show k + 1 ≤ l.length by omega)
            have HLT10 := Lib.hid hlt10
            have hakk : a < 10 ^ (k + 1) := Nat.lt_of_lt_of_le HA10.out (Nat.pow_le_pow_right (by omega) (by omega))
            have HAKK := Lib.hid hakk
            have HNF := Lib.hid hflush
            clear hP9 hlt10 hakk hflush
            go_wp2_with fail
            go_roundw
            case rel =>
              refine ⟨k + 1, j + 1, 10 * c + (b - 48), by omega, by have := HNF.out; omega, by rw [HPS.out]; omega, fun he => absurd (Or.inr he) HNF.out, by go_num, by rw [E1.out], ?_, HT1.out, a, hown, by rw [HNT.out, HGD.out, HPS.out], HAKK.out, hext⟩
              rw [HPS.out, Nat.mul_comm 10 P, E2.out]
            case measure => simp [intOf]; omega
        · have hbad : isDig l[k] = false := by
            rw [← Bool.not_eq_true]
            exact fun ht => hd (HDIG.out.1 ht)
          have HBAD := Lib.hid (HAF.out hbad)
          obtain ⟨a, hown, hnum0, hak0, hext⟩ := hN
          clear hnum0 hak0 hown
          have hor : b < 48 ∨ 57 < b := by omega
          clear hbad hc hkl hall hd hj hk
          generalize 10 ^ j = P at *
          rcases hor with hlo | hlo
          all_goals
            go_wp2_with fail
            go_ret2
            rw [HR2.out HBAD.out]
            exact ⟨_, rfl, Own.none_ _ _, hext⟩
      · obtain rfl : k = l.length := by omega
        obtain ⟨a, hown, hnum, _, hext⟩ := hN
        have hj0 := hkl rfl
        subst hj0
        rw [List.take_of_length_le (Nat.le_refl _)] at hnum hall
        have hc0 : c = 0 := by simpa using hc
        subst hc0
        have hna : numOf l = a := by simpa using hnum
        have HNA := Lib.hid hna
        have HALL := Lib.hid hall
        clear hnum hna hall hc hkl
        go_wp2_with fail
        go_ret2
        rw [HR1.out HALL.out, HNA.out]
        exact ⟨_, rfl, hown, hext⟩

theorem natural_any (w : World) (l : List UInt8) : Calls Tryd.prog 42 #[str l] w (NatRes w (natural l)) := by
  unfold natural
  by_cases h1 : 20001 < l.length
  · rw [if_pos h1]
    refine (natural_long w l h1).mono ?_
    rintro e w' ⟨rfl, rfl⟩
    exact ⟨_, rfl, Own.none_ _ _, Ext.refl _⟩
  · rw [if_neg h1]
    by_cases h2 : l = []
    · subst h2
      rw [if_pos rfl]
      refine (natural_empty w).mono ?_
      rintro e w' ⟨rfl, rfl⟩
      exact ⟨_, rfl, Own.none_ _ _, Ext.refl _⟩
    · rw [if_neg h2]
      have hl0 : 0 < l.length := by cases l <;> simp_all
      have hb : byteAt l 0 = 48 ↔ l[0]? = some 48 := by
        rw [byteAt_eq l 0 hl0, List.getElem?_eq_getElem hl0]
        constructor
        · intro h; exact congrArg some (UInt8.toNat_inj.1 h)
        · intro h; injection h with h; rw [h]; rfl
      by_cases h3 : l[0]? = some 48 ∧ 1 < l.length
      · rw [if_pos h3]
        refine (natural_zero w l (hb.2 h3.1) h3.2 (by omega)).mono ?_
        rintro e w' ⟨rfl, rfl⟩
        exact ⟨_, rfl, Own.none_ _ _, Ext.refl _⟩
      · rw [if_neg h3]
        exact natural_some w l h2 (fun h => h3 ⟨hb.1 h.1, h.2⟩) (by omega) _ (fun h => if_pos h) (fun h => if_neg (by rw [h]; decide))
end Big
end Go.Proofs.YtbmmnpggadakdaaDoor
