import Derived.Test.YtplmldkfgeiklaaGreatDoorM12
import Derived.Test.YtplmldkfgeiklaaGreatDoorM5
import Derived.Test.YtplmldkfgeiklaaGreatDoorM15
import Derived.Test.YtplmldkfgeiklaaGreatDoorM2
import Derived.Test.YtplmldkfgeiklaaGreatDoorM17
import Derived.Test.YtplmldkfgeiklaaGreatDoorM13
import Derived.Test.YtplmldkfgeiklaaGreatDoorM16
import Derived.Deep.CutBlock
import Derived.RegionTactic
import Derived.ChangeAlike
import Derived.Test.YtplmldkfgeiklaaGreatDoorM9
namespace Go.Proofs.YtplmldkfgeiklaaGreatDoor
namespace Big
open Go.RowKit

theorem natural_long (w : World) (l : List UInt8) (h : 20001 < l.length) :
    Calls Tryz.prog 74 #[str l] w fun e w' => e = .returned (.tuple #[.slice none 0 0, .int .i64 7]) ∧ w = w' := by
  have h' : (20001 : Int) < (l.length : Int) := by omega
  clear h
  go_enter Tryz.func74, Tryz.ntmps74
  go_wp2_with fail
  go_ret2
  exact ⟨rfl, rfl⟩

theorem natural_empty (w : World) :
    Calls Tryz.prog 74 #[str []] w fun e w' => e = .returned (.tuple #[.slice none 0 0, .int .i64 6]) ∧ w = w' := by
  go_enter Tryz.func74, Tryz.ntmps74
  go_wp2_with fail
  go_ret2
  exact ⟨rfl, rfl⟩

theorem natural_zero (w : World) (l : List UInt8) (h0 : byteAt l 0 = 48) (h1 : 1 < l.length) (h : l.length ≤ 20001) :
    Calls Tryz.prog 74 #[str l] w fun e w' => e = .returned (.tuple #[.slice none 0 0, .int .i64 6]) ∧ w = w' := by
  have h00 : ((byteAt l 0 : Int) == 48) = true := by rw [h0]; rfl
  have hle : ¬ (20001 : Int) < (l.length : Int) := by omega
  have hne : (l == []) = false := by cases l <;> simp_all
  clear h h0
  go_enter Tryz.func74, Tryz.ntmps74
  go_wp2_with fail
  go_ret2
  exact ⟨rfl, rfl⟩

/-- What decimal.Natural holds after k digits. -/
def NumAt (w0 wr : World) (out : Value) (l : List UInt8) (k j c : Nat) : Prop :=
  ∃ a : Nat, Own w0.heap.size wr out (limbs a) ∧ numOf (l.take k) = a * 10 ^ j + c ∧ a < 10 ^ k ∧ Ext w0 wr

/-- What reading a natural returns. -/
def NatRes (w0 : World) (r : Nat × Nat) (e : Ending) (w' : World) : Prop :=
  ∃ v' : Value, e = .returned (.tuple #[v', .int .i64 (r.2 : Int)]) ∧ Own w0.heap.size w' v' (limbs r.1) ∧ Ext w0 w'

set_option maxHeartbeats 1000000 in
theorem natural_some (w : World) (l : List UInt8) (hne : l ≠ []) (hz : ¬ (byteAt l 0 = 48 ∧ 1 < l.length)) (h : l.length ≤ 20001) (r : Nat × Nat) (hr1 : l.all isDig = true → r = (numOf l, 0)) (hr2 : l.all isDig = false → r = (0, 6)) :
    Calls Tryz.prog 74 #[str l] w (NatRes w r) := by
  have HR1 := Lib.hid hr1
  have HR2 := Lib.hid hr2
  clear hr1 hr2
  have hle : ¬ (20001 : Int) < (l.length : Int) := by omega
  have hne' : (l == []) = false := by cases l <;> simp_all
  have hl0 : 0 < l.length := by cases l <;> simp_all
  have hcase : ((byteAt l 0 : Int) == 48) = false ∨ (((byteAt l 0 : Int) == 48) = true ∧ ¬ (1 : Int) < (l.length : Int)) := by
    by_cases h0 : byteAt l 0 = 48
    · exact .inr ⟨by rw [h0]; rfl, by omega⟩
    · exact .inl (by rw [beq_eq_false_iff_ne]; omega)
  have HL := Lib.hid h
  clear h hne hz
  rcases hcase with h00 | ⟨h00, h11⟩
  all_goals
    go_enter Tryz.func74, Tryz.ntmps74
    go_wp2_with fail
    go_loopw [4, 5, 6, 25] (fun out cv sv i wr => ∃ k j c : Nat, k ≤ l.length ∧ j ≤ 8 ∧ c < 10 ^ j ∧ (k = l.length → j = 0) ∧ i = .int .i64 k ∧ cv = .int .u32 c ∧ sv = .int .u32 ((10 ^ j : Nat) : Int) ∧ (l.take k).all isDig = true ∧ NumAt w wr out l k j c) (fun _ _ _ i _ => l.length - (intOf i).toNat)
    case atStart => exact ⟨0, 0, 0, by omega, by omega, by omega, fun _ => rfl, rfl, rfl, rfl, rfl, 0, Own.none_ _ _, rfl, by omega, Ext.refl _⟩
    case round =>
      obtain ⟨k, j, c, hk, hj, hc, hkl, rfl, rfl, rfl, hall, hN⟩ := hrel
      by_cases hlt : k < l.length
      · have hb := byteAt_lt l k
        have hbe := byteAt_eq l k hlt
        have hdig := isDig_iff l[k]
        rw [← hbe] at hdig
        have hta := take_all l k hlt
        have hnt := numOf_take l k hlt
        rw [← hbe] at hnt
        rw [hall, Bool.true_and] at hta
        have HAF := Lib.hid (fun hf => all_false_of hlt hf)
        have HDIG := Lib.hid hdig
        have HTA := Lib.hid hta
        have HNT := Lib.hid hnt
        clear hbe hdig hta hnt
        obtain ⟨b, hbb⟩ : ∃ b, byteAt l k = b := ⟨_, rfl⟩
        have HBB := Lib.hid hbb
        rw [hbb] at HDIG HNT hb
        have HC10 := Lib.hid hc
        by_cases hd : 48 ≤ b ∧ b ≤ 57
        · have HT1 := Lib.hid (HTA.out.trans (HDIG.out.2 hd))
          obtain ⟨a, hown, hnum, hak, hext⟩ := hN
          have hP8 := ten_pow_bound hj
          have hP9 := ten_pow_9 hj
          have HALL := Lib.hid hall
          have HA10 := Lib.hid hak
          have hll := limbs_len_pow hak
          have HGD := Lib.hid (group_digit (d := b - 48) hnum)
          have HNUM := Lib.hid hnum
          clear hall hak hnum hkl
          have HPS := Lib.hid (show 10 ^ (j + 1) = 10 * 10 ^ j by rw [Nat.pow_succ, Nat.mul_comm])
          obtain ⟨P, hP⟩ : ∃ P, 10 ^ j = P := ⟨_, rfl⟩
          rw [hP] at hc hP8 hP9 HGD HNUM HPS ⊢
          have HP := Lib.hid hP
          clear hP
          have hw10 : IntKind.u32.wrap (10 * (c : Int)) = ((10 * c : Nat) : Int) := by rw [IntWalk.u32_in _ (by omega)]; omega
          obtain ⟨hd1, hd2⟩ := hd
          have e1 : (10 * (c : Int) + ((b : Int) - 48)) = ((10 * c + (b - 48) : Nat) : Int) := by omega
          have e2 : (P : Int) * 10 = ((P * 10 : Nat) : Int) := by omega
          have E1 := Lib.hid e1
          have E2 := Lib.hid e2
          clear e1 e2
          by_cases hflush : j = 8 ∨ k + 1 = l.length
          · have hfl : ((P : Int) * 10 == 1000000000) = true ∨ (((P : Int) * 10 == 1000000000) = false ∧ ((k : Int) == (l.length : Int) - 1) = true) := by
              by_cases h8 : P * 10 = 1000000000
              · exact .inl (by rw [beq_iff_eq]; omega)
              · exact .inr ⟨by rw [beq_eq_false_iff_ne]; omega, by rw [beq_iff_eq]; omega⟩
            have HPR := Lib.hid (psmall_any wr _ (limbs a) (P * 10) (10 * c + (b - 48)) hown.arr (by omega) (by omega) (by omega))
            clear hP9
            have HK := Lib.hid hflush
            clear hflush
            have hnew : numOf (l.take (k + 1)) = a * (P * 10) + (10 * c + (b - 48)) := by rw [HNT.out, HGD.out, Nat.mul_comm P 10]
            have hlt10 := take_all_lt HT1.out (show k + 1 ≤ l.length by omega)
            have HNEW := Lib.hid hnew
            have HLT10 := Lib.hid hlt10
            clear hnew hlt10
            rcases hfl with hfl | ⟨hfl1, hfl2⟩
            all_goals
              go_wp2_with fail
              rw [E1.out, E2.out]
              refine HPR.out.mono ?_
              rintro e w1 ⟨v1, rfl, ho1, hx1⟩
              rw [val_limbs, ← HNEW.out] at ho1
              go_wp2_with fail
              go_roundw
              case rel => exact ⟨k + 1, 0, 0, by omega, by omega, by omega, fun _ => rfl, by go_num, rfl, rfl, HT1.out, _, ho1.mono hext.size, by simp, HLT10.out, hext.trans hx1⟩
              case measure => simp [intOf]; omega
          · have hfl1 : ((P : Int) * 10 == 1000000000) = false := by rw [beq_eq_false_iff_ne]; omega
            have hfl2 : ((k : Int) == (l.length : Int) - 1) = false := by rw [beq_eq_false_iff_ne]; omega
            have hlt10 := take_all_lt HT1.out (show k + 1 ≤ l.length by omega)
            have HLT10 := Lib.hid hlt10
            have hakk : a < 10 ^ (k + 1) := Nat.lt_of_lt_of_le HA10.out (Nat.pow_le_pow_right (by omega) (by omega))
            have HAKK := Lib.hid hakk
            have HNF := Lib.hid hflush
            clear hP9 hlt10 hakk hflush
            go_wp2_with fail
            go_roundw
            case rel =>
              refine ⟨k + 1, j + 1, 10 * c + (b - 48), by omega, by have := HNF.out; omega, by rw [HPS.out]; omega, fun he => absurd (Or.inr he) HNF.out, by go_num, by rw [E1.out], ?_, HT1.out, a, hown, by rw [HNT.out, HGD.out, HPS.out], HAKK.out, hext⟩
              rw [HPS.out, Nat.mul_comm 10 P, E2.out]
            case measure => simp [intOf]; omega
        · have hbad : isDig l[k] = false := by
            rw [← Bool.not_eq_true]
            exact fun ht => hd (HDIG.out.1 ht)
          have HBAD := Lib.hid (HAF.out hbad)
          obtain ⟨a, hown, hnum0, hak0, hext⟩ := hN
          clear hnum0 hak0 hown
          have hor : b < 48 ∨ 57 < b := by omega
          clear hbad hc hkl hall hd hj hk
          generalize 10 ^ j = P at *
          rcases hor with hlo | hlo
          all_goals
            go_wp2_with fail
            go_ret2
            rw [HR2.out HBAD.out]
            exact ⟨_, rfl, Own.none_ _ _, hext⟩
      · obtain rfl : k = l.length := by omega
        obtain ⟨a, hown, hnum, _, hext⟩ := hN
        have hj0 := hkl rfl
        subst hj0
        rw [List.take_of_length_le (Nat.le_refl _)] at hnum hall
        have hc0 : c = 0 := by simpa using hc
        subst hc0
        have hna : numOf l = a := by simpa using hnum
        have HNA := Lib.hid hna
        have HALL := Lib.hid hall
        clear hnum hna hall hc hkl
        go_wp2_with fail
        go_ret2
        rw [HR1.out HALL.out, HNA.out]
        exact ⟨_, rfl, hown, hext⟩

theorem natural_any (w : World) (l : List UInt8) : Calls Tryz.prog 74 #[str l] w (NatRes w (natural l)) := by
  unfold natural
  by_cases h1 : 20001 < l.length
  · rw [if_pos h1]
    refine (natural_long w l h1).mono ?_
    rintro e w' ⟨rfl, rfl⟩
    exact ⟨_, rfl, Own.none_ _ _, Ext.refl _⟩
  · rw [if_neg h1]
    by_cases h2 : l = []
    · subst h2
      rw [if_pos rfl]
      refine (natural_empty w).mono ?_
      rintro e w' ⟨rfl, rfl⟩
      exact ⟨_, rfl, Own.none_ _ _, Ext.refl _⟩
    · rw [if_neg h2]
      have hl0 : 0 < l.length := by cases l <;> simp_all
      have hb : byteAt l 0 = 48 ↔ l[0]? = some 48 := by
        rw [byteAt_eq l 0 hl0, List.getElem?_eq_getElem hl0]
        constructor
        · intro h; exact congrArg some (UInt8.toNat_inj.1 h)
        · intro h; injection h with h; rw [h]; rfl
      by_cases h3 : l[0]? = some 48 ∧ 1 < l.length
      · rw [if_pos h3]
        refine (natural_zero w l (hb.2 h3.1) h3.2 (by omega)).mono ?_
        rintro e w' ⟨rfl, rfl⟩
        exact ⟨_, rfl, Own.none_ _ _, Ext.refl _⟩
      · rw [if_neg h3]
        exact natural_some w l h2 (fun h => h3 ⟨hb.1 h.1, h.2⟩) (by omega) _ (fun h => if_pos h) (fun h => if_neg (by rw [h]; decide))
end Big
end Go.Proofs.YtplmldkfgeiklaaGreatDoor
/- rational.Parse. -/
namespace Go.Proofs.YtplmldkfgeiklaaGreatDoor
namespace Big
open Go.RowKit
set_option maxRecDepth 100000 in
theorem parse7_long (w : World) (l : List UInt8) (h : 400 < l.length) : Calls Tryz.prog 21 #[str l] w (ParseRes7 w l) := by
  have hc : code7 l = 7 := if_pos h
  have h' : (400 : Int) < (l.length : Int) := by omega
  have HC := Lib.hid hc
  clear h hc
  go_enter Tryz.func21, Tryz.ntmps21
  go_wp2_with fail
  obtain ⟨hr0, hr1, hr2⟩ := three_set (Blk.new w 26 #[Value.bool false, Value.slice none 0 0, Value.slice none 0 0]) (.bool false) (.slice none 0 0) (.slice none 0 0)
  refine bodyPost_ret (v := .tuple #[.agg #[.bool false, .slice none 0 0, .slice none 0 0], .int .i64 7]) (by simp [results, Tryz.results21, go_sem]) rfl ?_
  exact ⟨_, by rw [HC.out]; rfl, by rw [HC.out]; exact IsRat.zero _ _, (Ext.refl w).alloc _⟩

set_option maxHeartbeats 1000000 in
set_option maxRecDepth 100000 in
theorem parse7_any (w : World) (l : List UInt8) (hm : MaxV w) : Calls Tryz.prog 21 #[str l] w (ParseRes7 w l) := by
  rcases Nat.lt_or_ge 400 l.length with hl | hl
  · exact parse7_long w l hl
  have HCUT := Lib.hid (fun W hx => cut_any W l (by omega) (hm.ext hx))
  have hpl : (part l).length ≤ l.length := by
    rcases dot_split l with ⟨_, h1⟩ | ⟨_, _, h2⟩
    · have := congrArg List.length h1
      simp at this
      omega
    · rw [h2]; simp
  have hwl := whole_le l
  have HMISS := Lib.hid (bad7_miss (l := l))
  have HHIT := Lib.hid (bad7_hit (l := l))
  have hcode : code7 l = if bad7 l then 6 else if (whole l ++ part l).all isDig then 0 else 6 := by
    unfold code7 good7
    rw [if_neg (by omega)]
    cases bad7 l <;> cases (whole l ++ part l).all isDig <;> rfl
  have HCODE := Lib.hid hcode
  have hnum : num7 l = lowN (numOf (whole l ++ part l)) (10 ^ (part l).length) := rfl
  have hden : den7 l = lowD (numOf (whole l ++ part l)) (10 ^ (part l).length) := rfl
  have HNUM := Lib.hid hnum
  have HDEN := Lib.hid hden
  have h400 : ¬ (400 : Int) < (l.length : Int) := by omega
  clear hm hcode hnum hden
  generalize whole l = W at *
  generalize part l = P at *
  generalize hasDot l = D at *
  generalize bad7 l = bad at *
  go_enter Tryz.func21, Tryz.ntmps21
  go_wp2_with fail
  refine (HCUT.out _ ((Ext.refl w).alloc _)).mono ?_
  rintro e w1 ⟨rfl, hx1⟩
  have HX1 := Lib.hid (((Ext.refl w).alloc (.cells #[Value.bool false, Value.slice none 0 0, Value.slice none 0 0] 26)).trans hx1)
  have HB1 := Lib.hid ((Blk.new w 26 #[Value.bool false, Value.slice none 0 0, Value.slice none 0 0]).ext hx1)
  clear hx1
  go_upto_region 4 with fail
  go_cut [46] from 20 to 46 (fun s46 wx => s46 = .bool bad ∧ wx = w1)
  case first =>
    clear HCUT
    cases D
    · have HF : Hid ((false && ((P == []) || (P.getLast? == some 48))) = false) := Lib.hid rfl
      have HB0 := Lib.hid (HMISS.out HF.out)
      rcases Nat.eq_zero_or_pos W.length with hw0 | hw0
      · obtain rfl : W = [] := List.eq_nil_of_length_eq_zero hw0
        have HBD : Hid (bad = true) := Lib.hid (by rw [HB0.out]; rfl)
        have hwe : (([] : List UInt8) == []) = true := rfl
        clear hw0
        go_wp2_with fail
        go_meet
        exact ⟨by rw [HBD.out], rfl⟩
      · have hwe : (W == []) = false := by cases W <;> simp_all
        obtain ⟨kw, hwl⟩ : ∃ k, W.length = k + 1 := ⟨W.length - 1, by omega⟩
        have hwp : (0 : Int) < (W.length : Int) := by omega
        have hfb := first_byte W kw hwl
        rw [hfb, hwe] at HB0
        clear hw0 hfb
        cases hz : ((byteAt W 0 : Int) == 48)
        · have HBD : Hid (bad = false) := Lib.hid (by rw [HB0.out, hz]; rfl)
          clear hwl
          go_wp2_with fail
          go_meet
          exact ⟨by rw [HBD.out], rfl⟩
        · by_cases hl1 : 1 < W.length
          · have HBD : Hid (bad = true) := Lib.hid (by rw [HB0.out, hz]; simp [hl1])
            have hd1 : (1 : Int) < (W.length : Int) := by omega
            have hd2 : decide ((1 : Int) < (W.length : Int)) = true := by rw [decide_eq_true_iff]; omega
            clear hwl
            go_wp2_with fail
            go_meet
            exact ⟨by rw [HBD.out], rfl⟩
          · have HBD : Hid (bad = false) := Lib.hid (by rw [HB0.out, hz]; simp [hl1])
            have hd1 : ¬ (1 : Int) < (W.length : Int) := by omega
            have hd2 : decide ((1 : Int) < (W.length : Int)) = false := by simp; omega
            clear hwl
            go_wp2_with fail
            go_meet
            exact ⟨by rw [HBD.out], rfl⟩
    · rcases Nat.eq_zero_or_pos P.length with hp0 | hp0
      · obtain rfl : P = [] := List.eq_nil_of_length_eq_zero hp0
        have HBD : Hid (bad = true) := Lib.hid (HHIT.out rfl)
        have hpe : (([] : List UInt8) == []) = true := rfl
        clear hp0
        go_wp2_with fail
        go_meet
        exact ⟨by rw [HBD.out], rfl⟩
      · have hpe : (P == []) = false := by cases P <;> simp_all
        obtain ⟨k, hpl1⟩ : ∃ k, P.length = k + 1 := ⟨P.length - 1, by omega⟩
        have hlb := last_byte P k hpl1
        have hsub : (P.length : Int) - 1 = (k : Int) := by omega
        clear hp0
        have hkp : (k : Int) < (P.length : Int) := by omega
        cases hz1 : ((byteAt P k : Int) == 48)
        · have HF : Hid ((true && ((P == []) || (P.getLast? == some 48))) = false) := Lib.hid (by rw [hlb, hpe, hz1]; rfl)
          clear hlb hpl1
          have HB0 := Lib.hid (HMISS.out HF.out)
          rcases Nat.eq_zero_or_pos W.length with hw0 | hw0
          · obtain rfl : W = [] := List.eq_nil_of_length_eq_zero hw0
            have HBD : Hid (bad = true) := Lib.hid (by rw [HB0.out]; rfl)
            have hwe : (([] : List UInt8) == []) = true := rfl
            clear hw0
            go_wp2_with fail
            go_meet
            exact ⟨by rw [HBD.out], rfl⟩
          · have hwe : (W == []) = false := by cases W <;> simp_all
            obtain ⟨kw, hwl⟩ : ∃ k, W.length = k + 1 := ⟨W.length - 1, by omega⟩
            have hwp : (0 : Int) < (W.length : Int) := by omega
            have hfb := first_byte W kw hwl
            rw [hfb, hwe] at HB0
            clear hw0 hfb
            cases hz : ((byteAt W 0 : Int) == 48)
            · have HBD : Hid (bad = false) := Lib.hid (by rw [HB0.out, hz]; rfl)
              clear hwl
              go_wp2_with fail
              go_meet
              exact ⟨by rw [HBD.out], rfl⟩
            · by_cases hl1 : 1 < W.length
              · have HBD : Hid (bad = true) := Lib.hid (by rw [HB0.out, hz]; simp [hl1])
                have hd1 : (1 : Int) < (W.length : Int) := by omega
                have hd2 : decide ((1 : Int) < (W.length : Int)) = true := by rw [decide_eq_true_iff]; omega
                clear hwl
                go_wp2_with fail
                go_meet
                exact ⟨by rw [HBD.out], rfl⟩
              · have HBD : Hid (bad = false) := Lib.hid (by rw [HB0.out, hz]; simp [hl1])
                have hd1 : ¬ (1 : Int) < (W.length : Int) := by omega
                have hd2 : decide ((1 : Int) < (W.length : Int)) = false := by simp; omega
                clear hwl
                go_wp2_with fail
                go_meet
                exact ⟨by rw [HBD.out], rfl⟩
        · have HBD : Hid (bad = true) := Lib.hid (HHIT.out (by rw [hlb, hz1]; simp))
          clear hlb hpl1
          go_wp2_with fail
          go_meet
          exact ⟨by rw [HBD.out], rfl⟩
  case rest =>
    obtain ⟨rfl, rfl⟩ := hcut
    clear HMISS HHIT HCUT
    obtain ⟨k0, k1, k2, f0, f1, f2, hgz⟩ := HB1.out.three
    cases bad
    · have hcode := HCODE.out
      simp only [Bool.false_eq_true, if_false] at hcode
      have hadd : ∀ W', (binOp .add 9 (str W) (str P)).run Tryz.prog W' = .ok (str (W ++ P)) W' := run_add_str W P (by omega)
      have hL : (W ++ P).length ≤ 800 := by rw [List.length_append]; omega
      have HTZ := Lib.hid (fun W' => trimZ_any W' (W ++ P))
      have HNAT := Lib.hid (fun W' => natural_any W' (digs7 (W ++ P)))
      rw [digs7_natural _ hL] at HNAT
      have HTD := Lib.hid (fun W' => trimD_any W' (W ++ P) (by omega))
      have HNL := Lib.hid (numOf_lt (W ++ P))
      have hdig : digs7 (W ++ P) = if (W ++ P).dropWhile (· == 48) = [] then [48] else (W ++ P).dropWhile (· == 48) := rfl
      have HDIG := Lib.hid hdig
      clear hdig HCODE
      generalize W ++ P = L at *
      generalize hZ : L.dropWhile (· == 48) = Z at *
      have HZ := Lib.hid hZ
      clear hZ
      cases hall : L.all isDig
      · have HNA : Hid (∀ W', Calls Tryz.prog 74 #[str (digs7 L)] W' (NatRes W' (0, 6))) := Lib.hid (fun W' => by
          have := HNAT.out W'
          rwa [hall] at this)
        rw [hall] at hcode
        have HC : Hid (code7 l = 6) := Lib.hid hcode
        clear hall hcode HNAT
        rcases Nat.eq_zero_or_pos Z.length with hz0 | hz0
        · obtain rfl : Z = [] := List.eq_nil_of_length_eq_zero hz0
          have hze : (([] : List UInt8) == []) = true := rfl
          rw [HDIG.out, if_pos rfl] at HNA
          clear hz0
          go_wp2_with fail
          refine (HTZ.out _).mono ?_
          rintro e w2 ⟨rfl, rfl⟩
          go_wp2_with fail
          refine (HNA.out _).mono ?_
          rintro e w3 ⟨v3, rfl, ho3, hx3⟩
          obtain ⟨n3, A3, c3, rfl⟩ := ho3.shape
          have hk := HB1.out.ext hx3
          have HX3 := Lib.hid (HX1.out.trans hx3)
          have HB3 := Lib.hid hk
          clear ho3 hx3 k0 k1 k2 f0 f1 f2 hgz
          obtain ⟨k0, k1, k2, f0, f1, f2, hgz⟩ := hk.three
          clear hk
          go_wp2_with fail
          obtain ⟨hr0, hr1, hr2⟩ := three_set HB3.out (.bool false) (.slice none 0 0) (.slice none 0 0)
          refine bodyPost_ret (v := .tuple #[.agg #[.bool false, .slice none 0 0, .slice none 0 0], .int .i64 6]) (by simp [results, Tryz.results21, go_sem, hr0, hr1, hr2]) rfl ?_
          exact ⟨_, by rw [HC.out]; rfl, by rw [HC.out]; exact IsRat.zero _ _, ((HX3.out.setCell (Nat.le_refl _) _).setCell (Nat.le_refl _) _).setCell (Nat.le_refl _) _⟩
        · have hze : (Z == []) = false := by cases Z <;> simp_all
          have hzn : Z ≠ [] := by cases Z <;> simp_all
          rw [HDIG.out, if_neg hzn] at HNA
          clear hz0 hzn
          go_wp2_with fail
          refine (HTZ.out _).mono ?_
          rintro e w2 ⟨rfl, rfl⟩
          go_wp2_with fail
          refine (HNA.out _).mono ?_
          rintro e w3 ⟨v3, rfl, ho3, hx3⟩
          obtain ⟨n3, A3, c3, rfl⟩ := ho3.shape
          have hk := HB1.out.ext hx3
          have HX3 := Lib.hid (HX1.out.trans hx3)
          have HB3 := Lib.hid hk
          clear ho3 hx3 k0 k1 k2 f0 f1 f2 hgz
          obtain ⟨k0, k1, k2, f0, f1, f2, hgz⟩ := hk.three
          clear hk
          go_wp2_with fail
          obtain ⟨hr0, hr1, hr2⟩ := three_set HB3.out (.bool false) (.slice none 0 0) (.slice none 0 0)
          refine bodyPost_ret (v := .tuple #[.agg #[.bool false, .slice none 0 0, .slice none 0 0], .int .i64 6]) (by simp [results, Tryz.results21, go_sem, hr0, hr1, hr2]) rfl ?_
          exact ⟨_, by rw [HC.out]; rfl, by rw [HC.out]; exact IsRat.zero _ _, ((HX3.out.setCell (Nat.le_refl _) _).setCell (Nat.le_refl _) _).setCell (Nat.le_refl _) _⟩
      · have HNA : Hid (∀ W', Calls Tryz.prog 74 #[str (digs7 L)] W' (NatRes W' (numOf L, 0))) := Lib.hid (fun W' => by
          have := HNAT.out W'
          rwa [hall] at this)
        rw [hall] at hcode
        have HC : Hid (code7 l = 0) := Lib.hid hcode
        have HTDD := Lib.hid (fun W' => HTD.out W' hall)
        have hnl : (limbs (numOf L)).length ≤ 800 := limbs_dec (HNL.out hall) hL
        have HIN := Lib.hid (fun W' m a => inat_any W' false m (limbs (numOf L)) a (by omega))
        rw [val_limbs] at HIN
        have hsg : sgn false (numOf L) = ((numOf L : Nat) : Int) := rfl
        rw [hsg] at HIN
        have HOF := Lib.hid (fun W' => of_any W' 1 (by decide))
        rw [show ((1 : Nat) : Int) = 1 from rfl] at HOF
        have hpm : P.length ≤ 400 := by omega
        have HSC := Lib.hid (fun W' m a => scaled_10 W' m (limbs 1) P.length a (by decide) (by omega))
        have HL1 : Hid ((limbs 1).length ≤ 10 ∧ P.length ≤ 400) := Lib.hid ⟨by decide, hpm⟩
        have HLO : Hid (∀ W' a b zs, ArrInt W' a ((numOf L : Nat) : Int) → Arr W' b zs → zs.length ≤ 134217728 → val zs = val (limbs 1) * 10 ^ P.length → Calls Tryz.prog 76 #[a, b] W' fun e w' => ∃ v', e = .returned v' ∧ IsRat W'.heap.size w' v' (lowN ((numOf L : Nat) : Int) (10 ^ P.length)) (lowD ((numOf L : Nat) : Int) (10 ^ P.length)) ∧ Ext W' w') := Lib.hid (fun W' a b zs h1 h2 h3 h4 => by
          have := lowestR_any W' a b _ zs h1 h2 (by rw [Int.natAbs_natCast]; omega) h3 (by rw [h4, val_limbs, Nat.one_mul]; exact Nat.ne_of_gt (Nat.pow_pos (by decide)))
          rwa [h4, val_limbs, Nat.one_mul] at this)
        clear hall hcode HNAT hnl hsg hpm
        rcases Nat.eq_zero_or_pos Z.length with hz0 | hz0
        · obtain rfl : Z = [] := List.eq_nil_of_length_eq_zero hz0
          have hze : (([] : List UInt8) == []) = true := rfl
          rw [HDIG.out, if_pos rfl] at HNA
          clear hz0
          go_wp2_with fail
          refine (HTZ.out _).mono ?_
          rintro e w2 ⟨rfl, rfl⟩
          go_wp2_with fail
          refine (HNA.out _).mono ?_
          rintro e w3 ⟨v3, rfl, ho3, hx3⟩
          have HO3 := Lib.hid ho3
          obtain ⟨n3, A3, c3, rfl⟩ := ho3.shape
          have HX3 := Lib.hid (HX1.out.trans hx3)
          have HB3 := Lib.hid (HB1.out.ext hx3)
          clear ho3 hx3 k0 k1 k2 f0 f1 f2 hgz
          go_wp2_with fail
          refine (HTDD.out _).mono ?_
          rintro e w4 ⟨rfl, hx4⟩
          have HO4 := Lib.hid (HO3.out.ext hx4)
          have HX4 := Lib.hid (HX3.out.trans hx4)
          have HB4 := Lib.hid (HB3.out.ext hx4)
          clear hx4
          have hle : (([] : List UInt8) == []) = true := rfl
          go_wp2_with fail
          refine (HIN.out _ _ HO4.out.arr).mono ?_
          rintro e w5 ⟨v5, rfl, hi5, hx5⟩
          have HI5 := Lib.hid hi5
          obtain ⟨b5, n5, A5, c5, rfl⟩ := hi5.shape
          have HX5 := Lib.hid (HX4.out.trans hx5)
          have HB5 := Lib.hid (HB4.out.ext hx5)
          clear hi5 hx5
          go_wp2_with fail
          refine (HOF.out _).mono ?_
          rintro e w6 ⟨v6, rfl, ho6, hx6⟩
          have HO6 := Lib.hid ho6
          obtain ⟨n6, A6, c6, rfl⟩ := ho6.shape
          have HI6 := Lib.hid (HI5.out.ext hx6)
          have HX6 := Lib.hid (HX5.out.trans hx6)
          have HB6 := Lib.hid (HB5.out.ext hx6)
          clear ho6 hx6
          go_wp2_with fail
          refine (HSC.out _ _ HO6.out.arr).mono ?_
          rintro e w7 ⟨v7, zs, rfl, ha7, hv7, hl7, hx7⟩
          obtain ⟨n7, A7, c7, rfl⟩ := ha7.shape
          have HI7 := Lib.hid (HI6.out.ext hx7).arr
          have HX7 := Lib.hid (HX6.out.trans hx7)
          have HB7 := Lib.hid (HB6.out.ext hx7)
          have HV7 := Lib.hid hv7
          have HL7 := Lib.hid (HLO.out w7 _ _ zs HI7.out ha7 (by have := HL1.out; omega) hv7)
          clear ha7 hv7 hx7 hl7
          go_wp2_with fail
          refine HL7.out.mono ?_
          rintro e w8 ⟨v8, rfl, hr8, hx8⟩
          obtain ⟨b8, n8, A8, c8, n8', A8', c8', rfl⟩ := hr8.shape
          have HR8 := Lib.hid hr8
          have HX8 := Lib.hid (HX7.out.trans hx8)
          have hk := HB7.out.ext hx8
          have HB8 := Lib.hid hk
          have HSZ7 := Lib.hid HX7.out.size
          have HLT7 := Lib.hid HB7.out.lt
          clear hr8 hx8
          obtain ⟨k0, k1, k2, f0, f1, f2, hgz⟩ := hk.three
          clear hk
          go_wp2_with fail
          obtain ⟨hr0, hr1, hr2⟩ := three_set HB8.out (.bool b8) (.slice A8 n8 c8) (.slice A8' n8' c8')
          refine bodyPost_ret (v := .tuple #[.agg #[.bool b8, .slice A8 n8 c8, .slice A8' n8' c8'], .int .i64 0]) (by simp [results, Tryz.results21, go_sem, hr0, hr1, hr2]) rfl ?_
          have hfin := HR8.out.put (w := w) HLT7.out HSZ7.out
          exact ⟨_, by rw [HC.out]; rfl, by rw [HC.out, if_pos rfl, if_pos rfl, HNUM.out, HDEN.out]; exact hfin, ((HX8.out.setCell (Nat.le_refl _) _).setCell (Nat.le_refl _) _).setCell (Nat.le_refl _) _⟩
        · have hze : (Z == []) = false := by cases Z <;> simp_all
          have hzn : Z ≠ [] := by cases Z <;> simp_all
          rw [HDIG.out, if_neg hzn] at HNA
          clear hz0 hzn
          go_wp2_with fail
          refine (HTZ.out _).mono ?_
          rintro e w2 ⟨rfl, rfl⟩
          go_wp2_with fail
          refine (HNA.out _).mono ?_
          rintro e w3 ⟨v3, rfl, ho3, hx3⟩
          have HO3 := Lib.hid ho3
          obtain ⟨n3, A3, c3, rfl⟩ := ho3.shape
          have HX3 := Lib.hid (HX1.out.trans hx3)
          have HB3 := Lib.hid (HB1.out.ext hx3)
          clear ho3 hx3 k0 k1 k2 f0 f1 f2 hgz
          go_wp2_with fail
          refine (HTDD.out _).mono ?_
          rintro e w4 ⟨rfl, hx4⟩
          have HO4 := Lib.hid (HO3.out.ext hx4)
          have HX4 := Lib.hid (HX3.out.trans hx4)
          have HB4 := Lib.hid (HB3.out.ext hx4)
          clear hx4
          have hle : (([] : List UInt8) == []) = true := rfl
          go_wp2_with fail
          refine (HIN.out _ _ HO4.out.arr).mono ?_
          rintro e w5 ⟨v5, rfl, hi5, hx5⟩
          have HI5 := Lib.hid hi5
          obtain ⟨b5, n5, A5, c5, rfl⟩ := hi5.shape
          have HX5 := Lib.hid (HX4.out.trans hx5)
          have HB5 := Lib.hid (HB4.out.ext hx5)
          clear hi5 hx5
          go_wp2_with fail
          refine (HOF.out _).mono ?_
          rintro e w6 ⟨v6, rfl, ho6, hx6⟩
          have HO6 := Lib.hid ho6
          obtain ⟨n6, A6, c6, rfl⟩ := ho6.shape
          have HI6 := Lib.hid (HI5.out.ext hx6)
          have HX6 := Lib.hid (HX5.out.trans hx6)
          have HB6 := Lib.hid (HB5.out.ext hx6)
          clear ho6 hx6
          go_wp2_with fail
          refine (HSC.out _ _ HO6.out.arr).mono ?_
          rintro e w7 ⟨v7, zs, rfl, ha7, hv7, hl7, hx7⟩
          obtain ⟨n7, A7, c7, rfl⟩ := ha7.shape
          have HI7 := Lib.hid (HI6.out.ext hx7).arr
          have HX7 := Lib.hid (HX6.out.trans hx7)
          have HB7 := Lib.hid (HB6.out.ext hx7)
          have HV7 := Lib.hid hv7
          have HL7 := Lib.hid (HLO.out w7 _ _ zs HI7.out ha7 (by have := HL1.out; omega) hv7)
          clear ha7 hv7 hx7 hl7
          go_wp2_with fail
          refine HL7.out.mono ?_
          rintro e w8 ⟨v8, rfl, hr8, hx8⟩
          obtain ⟨b8, n8, A8, c8, n8', A8', c8', rfl⟩ := hr8.shape
          have HR8 := Lib.hid hr8
          have HX8 := Lib.hid (HX7.out.trans hx8)
          have hk := HB7.out.ext hx8
          have HB8 := Lib.hid hk
          have HSZ7 := Lib.hid HX7.out.size
          have HLT7 := Lib.hid HB7.out.lt
          clear hr8 hx8
          obtain ⟨k0, k1, k2, f0, f1, f2, hgz⟩ := hk.three
          clear hk
          go_wp2_with fail
          obtain ⟨hr0, hr1, hr2⟩ := three_set HB8.out (.bool b8) (.slice A8 n8 c8) (.slice A8' n8' c8')
          refine bodyPost_ret (v := .tuple #[.agg #[.bool b8, .slice A8 n8 c8, .slice A8' n8' c8'], .int .i64 0]) (by simp [results, Tryz.results21, go_sem, hr0, hr1, hr2]) rfl ?_
          have hfin := HR8.out.put (w := w) HLT7.out HSZ7.out
          exact ⟨_, by rw [HC.out]; rfl, by rw [HC.out, if_pos rfl, if_pos rfl, HNUM.out, HDEN.out]; exact hfin, ((HX8.out.setCell (Nat.le_refl _) _).setCell (Nat.le_refl _) _).setCell (Nat.le_refl _) _⟩
    · have HC : Hid (code7 l = 6) := Lib.hid HCODE.out
      clear HCODE
      go_wp2_with fail
      obtain ⟨hr0, hr1, hr2⟩ := three_set HB1.out (.bool false) (.slice none 0 0) (.slice none 0 0)
      refine bodyPost_ret (v := .tuple #[.agg #[.bool false, .slice none 0 0, .slice none 0 0], .int .i64 6]) (by simp [results, Tryz.results21, go_sem, hr0, hr1, hr2]) rfl ?_
      exact ⟨_, by rw [HC.out]; rfl, by rw [HC.out]; exact IsRat.zero _ _, ((HX1.out.setCell (Nat.le_refl _) _).setCell (Nat.le_refl _) _).setCell (Nat.le_refl _) _⟩
end Big
end Go.Proofs.YtplmldkfgeiklaaGreatDoor
namespace Go.Proofs.YtplmldkfgeiklaaGreatDoor
namespace Big
open Go.RowKit

/-- What slices.Reverse holds after k exchanges. -/
def RevAt (w0 wr : World) (B g : Nat) (bs : List UInt8) (c k : Nat) : Prop :=
  ∃ cur : Array Value, Blk wr g 5 cur ∧ cur.size = c ∧ Below B w0 wr ∧
    (∀ p, p < bs.length → cur[p]? = some (d8 (if p < k ∨ bs.length - k ≤ p then bs.getD (bs.length - 1 - p) 0 else bs.getD p 0)))

theorem RevAt.step {w0 wr : World} {B g : Nat} {bs : List UInt8} {c k : Nat} (h : RevAt w0 wr B g bs c k) (hB : B ≤ g) (hc : bs.length ≤ c) (hk : k < bs.length - 1 - k) :
    RevAt w0 (((wr.setCell ⟨g, k, none⟩ (d8 (bs.getD (bs.length - 1 - k) 0))).setCell ⟨g, bs.length - 1 - k, none⟩ (d8 (bs.getD k 0)))).drew B g bs c (k + 1) := by
  obtain ⟨cur, h1, h2, h3, h4⟩ := h
  refine ⟨_, ((h1.set_ k _).set_ (bs.length - 1 - k) _).drew, by simp [h2], ((h3.setCell hB _).setCell hB _).drew, fun p hp => ?_⟩
  rw [Array.getElem?_setIfInBounds, Array.getElem?_setIfInBounds]
  by_cases e1 : bs.length - 1 - k = p
  · subst e1
    rw [if_pos rfl, if_pos (by simp; omega)]
    rw [if_pos (by omega)]
    congr 3
    omega
  · rw [if_neg e1]
    by_cases e2 : k = p
    · subst e2
      rw [if_pos rfl, if_pos (by omega), if_pos (by omega)]
    · rw [if_neg e2, h4 p hp]
      by_cases e3 : p < k ∨ bs.length - k ≤ p
      · rw [if_pos e3, if_pos (by omega)]
      · rw [if_neg e3, if_neg (by omega)]

theorem reverse_any (w : World) (v : Value) (bs : List UInt8) (B : Nat) (h : Own8 B w v bs) (hn : bs.length ≤ 1073741824) :
    Calls Tryz.prog 114 #[v] w fun e w' => e = .returned (.tuple #[]) ∧ Own8 B w' v bs.reverse ∧ Below B w w' := by
  obtain ⟨A, c, rfl, h2, h3, h4⟩ := h
  rw [List.length_map] at h2 h4
  have HM := Lib.hid h3
  clear h3
  rcases h4 with ⟨h0, rfl⟩ | ⟨g, cur, rfl, hg, hblk, hs, ht⟩
  · have : bs = [] := by cases bs with
      | nil => rfl
      | cons a l => simp at h0
    subst this
    go_enter Tryz.func114, Tryz.ntmps114
    go_wp2_with fail
    refine wp_loop_rounds 1 ?_
    rw [rounds_succ]
    go_wp2_with fail
    go_end0
    exact ⟨rfl, ⟨A, 0, rfl, Nat.le_refl _, HM.out, .inl ⟨rfl, rfl⟩⟩, Below.refl _ _⟩
  · have hinit : RevAt w w B g bs c 0 := ⟨cur, hblk, hs, Below.refl _ _, fun p hp => by
      rw [if_neg (by omega)]
      have := take_at ht (j := p) (u := d8 bs[p]) (by rw [List.getElem?_map, List.getElem?_eq_getElem hp]; rfl)
      rw [this, List.getD_eq_getElem?_getD, List.getElem?_eq_getElem hp]
      rfl⟩
    have HI := Lib.hid hinit
    clear hinit hs ht hblk
    rw [List.length_map]
    go_enter Tryz.func114, Tryz.ntmps114
    go_wp2_with fail
    go_loopw [2, 3] (fun i j wr => ∃ k : Nat, k ≤ bs.length ∧ 2 * k ≤ bs.length + 1 ∧ i = .int .i64 k ∧ j = .int .i64 ((bs.length : Int) - 1 - k) ∧ RevAt w wr B g bs c k) (fun _ j _ => (intOf j + 1).toNat)
    case atStart => exact ⟨0, Nat.zero_le _, by omega, rfl, by simp, HI.out⟩
    case round =>
      obtain ⟨k, hk, hk2, rfl, rfl, hR⟩ := hrel
      have HR := Lib.hid hR
      by_cases hlt : k < bs.length - 1 - k
      · obtain ⟨cur', q1, q2, q3, q4⟩ := hR
        have hci := q1.cell k
        have hcj := q1.cell (bs.length - 1 - k)
        have hfi := q1.frozen k
        have hfj := q1.frozen (bs.length - 1 - k)
        rw [q4 k (by omega), if_neg (by omega)] at hci
        rw [q4 (bs.length - 1 - k) (by omega), if_neg (by omega)] at hcj
        clear q1 q2 q3 q4
        have hS := RevAt.step HR.out hg h2 hlt
        have HS := Lib.hid hS; clear hS
        obtain ⟨j, hj⟩ : ∃ j, bs.length - 1 - k = j := ⟨_, rfl⟩
        have hjI : (bs.length : Int) - 1 - (k : Int) = (j : Int) := by omega
        rw [hj] at hcj hfj HS hlt
        obtain ⟨x, hx⟩ : ∃ x, bs.getD k 0 = x := ⟨_, rfl⟩
        obtain ⟨y, hy⟩ : ∃ y, bs.getD j 0 = y := ⟨_, rfl⟩
        rw [hx] at hci HS
        rw [hy] at hcj HS
        have hjn : j < bs.length := by omega
        have HJ := Lib.hid hj
        have HJI := hjI
        rw [hjI]
        clear hx hy hj hjI
        have HJ2 := Lib.hid HJI
        clear HJI
        simp only [d8] at hci hcj
        have hij : k ≠ j := by omega
        go_wp2_with fail
        go_region
        go_wp2_with fail
        go_roundw
        case rel =>
          refine ⟨k + 1, by omega, by have := HJ.out; omega, by go_num, congrArg (Value.int .i64) (by have := HJ.out; omega), HS.out⟩
        case measure => simp [intOf]
      · clear hR
        go_wp2_with fail
        go_end0
        obtain ⟨cur', q1, q2, q3, q4⟩ := HR.out
        refine ⟨rfl, ⟨_, c, by simp, by simpa using h2, HM.out, .inr ⟨g, cur', rfl, hg, q1, q2, ?_⟩⟩, q3⟩
        apply List.ext_getElem?
        intro p
        rw [List.length_map, List.length_reverse, List.getElem?_take]
        by_cases hp : p < bs.length
        · rw [if_pos hp, Array.getElem?_toList, q4 p hp, List.getElem?_map, List.getElem?_reverse hp]
          have e : bs[bs.length - 1 - p]? = some (bs.getD (bs.length - 1 - p) 0) := by
            rw [List.getD_eq_getElem?_getD, List.getElem?_eq_getElem (by omega)]; rfl
          rw [e]
          have e2 : (if p < k ∨ bs.length - k ≤ p then bs.getD (bs.length - 1 - p) 0 else bs.getD p 0) = bs.getD (bs.length - 1 - p) 0 := by
            split
            · rfl
            · have : p = bs.length - 1 - p := by omega
              rw [← this]
          rw [e2]
          rfl
        · rw [if_neg hp, List.getElem?_eq_none (by simp; omega)]
end Big
end Go.Proofs.YtplmldkfgeiklaaGreatDoor
namespace Go.Proofs.YtplmldkfgeiklaaGreatDoor
namespace Big
open Go.RowKit

theorem low_split_len {l a b : List UInt8} {n : Nat} (h : l = a ++ b) (hn : l.length ≤ n) : a.length ≤ n := by
  rw [h, List.length_append] at hn; omega
theorem d8_ofNat (r : Nat) : (((48 + (r : Int) % 10 % 256) % 256 : Int)) = ((UInt8.ofNat (48 + r % 10)).toNat : Int) := by
  rw [UInt8.toNat_ofNat']; omega

/-- What decimal.Digits holds in a group, with k digits of it taken. -/
def DigAt (w0 wr : World) (out : Value) (N q k r : Nat) : Prop :=
  ∃ bs : List UInt8, Own8 w0.heap.size wr out bs ∧ low N = bs ++ low (q * 10 ^ (9 - k) + r) ∧ r < 10 ^ (9 - k) ∧ Ext w0 wr

theorem DigAt.step {w0 wr' : World} {out' : Value} {N q k r : Nat} {bs : List UInt8} (hl : low N = bs ++ low (q * 10 ^ (9 - k) + r)) (hr : r < 10 ^ (9 - k)) (hk : k < 9) (h0 : q ≠ 0 ∨ r ≠ 0)
    (ho : Own8 w0.heap.size wr' out' (bs ++ [UInt8.ofNat (48 + r % 10)])) (he : Ext w0 wr') : DigAt w0 wr' out' N q (k + 1) (r / 10) := by
  obtain ⟨h1, h2⟩ := low_group q r k hk hr h0
  exact ⟨_, ho, by rw [hl, h1, List.append_assoc]; rfl, h2, he⟩
theorem DigAt.done {w0 wr : World} {out : Value} {N q k r : Nat} (h : DigAt w0 wr out N q k r) (hk : k = 9 ∨ q = 0 ∧ r = 0) : ∃ bs, Own8 w0.heap.size wr out bs ∧ low N = bs ++ low q ∧ Ext w0 wr := by
  obtain ⟨bs, h1, h2, h3, h4⟩ := h
  refine ⟨bs, h1, ?_, h4⟩
  rcases hk with rfl | ⟨rfl, rfl⟩
  · rw [h2, group_end q r h3]
  · rw [h2, Nat.zero_mul]

theorem digits_any (w : World) (v : Value) (xs : List Nat) (h : Arr w v xs) (hn : xs.length ≤ 67108864) :
    Calls Tryz.prog 64 #[v] w fun e w' => e = .returned (str (dec (val xs))) ∧ Ext w w' := by
  have HT := Lib.hid (trim_any w v xs h (by omega))
  have HLN := Lib.hid (Nat.le_trans (length_low_val h.ok) (show 10 * xs.length ≤ 1073741823 by omega))
  have HLL := Lib.hid (Nat.le_trans (length_limbs_val h.ok) (show xs.length ≤ 536870912 by omega))
  have HMONO := Lib.hid (fun m (hm : m ≤ val xs) => length_limbs_lt h.ok hm)
  have HN := Lib.hid hn
  clear h
  obtain ⟨N, hNe⟩ : ∃ N, val xs = N := ⟨_, rfl⟩
  rw [hNe] at HT HLN HLL HMONO ⊢
  clear hNe
  go_enter Tryz.func64, Tryz.ntmps64
  go_wp2_with fail
  refine HT.out.mono ?_
  rintro e w0 ⟨v0, rfl, ho, hx⟩
  go_wp2_with fail
  go_loopg [0, 3] N (fun g a out wr => ∃ bs, g ≤ N ∧ Arr wr a (limbs g) ∧ Own8 w.heap.size wr out bs ∧ low N = bs ++ low g ∧ Ext w wr)
  case atStart => exact ⟨[], Nat.le_refl _, ho.arr, Own8.none_ _ _, rfl, hx⟩
  case round =>
    obtain ⟨bs, hg, har, hown, hlow, hext⟩ := hrel
    have HLOW := Lib.hid hlow; clear hlow
    have HAR := Lib.hid har
    clear ho hx
    obtain ⟨_, A, c, rfl, hc, hm, _⟩ := har.open
    have HM := Lib.hid hm; clear hm
    rcases Nat.eq_zero_or_pos gk with h0 | h0
    · subst h0
      clear hc har
      simp only [limbs_zero, List.length_nil, low_zero, List.append_nil] at HLOW ⊢
      have HOWN := Lib.hid hown
      obtain ⟨A', c', rfl, hc', hm', _⟩ := hown.arr.open
      have HM' := Lib.hid hm'; clear hm'
      rcases Nat.eq_zero_or_pos bs.length with hb | hb
      · have hb0 := List.eq_nil_of_length_eq_zero hb
        subst hb0
        have HD := Lib.hid (show dec N = [48] by rw [low_nil HLOW.out]; rfl)
        go_wp2_with fail
        go_ret
        exact ⟨congrArg (fun l => Ending.returned (str l)) HD.out.symm, hext⟩
      · have hbb : ((bs.length : Int) == 0) = false := by rw [beq_eq_false_iff_ne]; omega
        have hbn : bs ≠ [] := by rintro rfl; simp at hb
        have HD := Lib.hid (dec_of_low HLOW.out hbn)
        have HLB : bs.length ≤ 1073741824 := by have := HLN.out; rw [HLOW.out] at this; omega
        have HR := Lib.hid (reverse_any wr _ bs w.heap.size HOWN.out HLB)
        clear hbn
        go_wp2_with fail
        refine HR.out.mono ?_
        rintro e w2 ⟨rfl, ho2, hb2⟩
        have hcv := run_string8 ho2.arr
        go_wp2_with fail
        go_ret
        exact ⟨congrArg (fun l => Ending.returned (str l)) HD.out.symm, hext.more hb2⟩
    · have hlp : 0 < (limbs gk).length := by rw [limbs_pos gk (by omega)]; simp
      have hll := Nat.le_trans (HMONO.out gk hg) (Nat.le_trans HN.out (show 67108864 ≤ 536870912 by omega))
      have HQ := qsmall_any wr _ (limbs gk) 1000000000 HAR.out hll (by omega) (by omega)
      rw [val_limbs, show ((1000000000 : Nat) : Int) = 1000000000 from rfl] at HQ
      have HQ := Lib.hid HQ
      have hr9 := Nat.mod_lt gk (show 0 < 1000000000 by omega)
      have hq9 : gk / 1000000000 < gk := by omega
      have HG := Lib.hid (group_start gk)
      clear har
      obtain ⟨q, hq⟩ : ∃ q, gk / 1000000000 = q := ⟨_, rfl⟩
      obtain ⟨r, hr⟩ : ∃ r, gk % 1000000000 = r := ⟨_, rfl⟩
      rw [hq, hr] at HQ HG
      rw [hq] at hq9
      rw [hr] at hr9
      clear hq hr
      go_wp2_with fail
      refine HQ.out.mono ?_
      rintro e w1 ⟨v1, rfl, ho1, hx1⟩
      have HA1 := Lib.hid (ho1.mono hext.size)
      have har1 := ho1.arr
      obtain ⟨_, A1, c1, rfl, hc1, hm1, _⟩ := har1.open
      have HM1 := Lib.hid hm1; clear hm1 ho1 har1
      have hstart : DigAt w w1 u3 N q 0 r := ⟨bs, hown.ext hx1, by rw [HLOW.out, HG.out], by rw [show (10 : Nat) ^ (9 - 0) = 1000000000 from rfl]; exact hr9, hext.trans hx1⟩
      have HST := Lib.hid hstart; clear hstart
      have hew1 := hext.trans hx1
      go_wp2_with fail
      go_loopw [3, 5, 7] (fun out rv i wr2 => ∃ k r' : Nat, k ≤ 9 ∧ i = .int .i64 k ∧ rv = .int .u32 r' ∧ r' < 1000000000 ∧ DigAt w wr2 out N q k r' ∧ Own w.heap.size wr2 (Value.slice A1 (limbs q).length c1) (limbs q)) (fun _ _ i _ => 9 - (intOf i).toNat)
      case atStart => exact ⟨0, r, by omega, rfl, rfl, hr9, HST.out, HA1.out⟩
      case round =>
        obtain ⟨k, r', hk, rfl, rfl, hr', hD, howq⟩ := hrel
        have HD := Lib.hid hD; clear hD
        clear hc hc1 hlp hll hr9
        have hwz : w.heap.size ≤ wr.heap.size := by obtain ⟨_, _, _, _, hh⟩ := HD.out; exact hh.size
        have round : ∀ (_ : k < 9) (_ : q ≠ 0 ∨ r' ≠ 0), True := fun _ _ => trivial
        clear round
        by_cases hgo : k < 9 ∧ (q ≠ 0 ∨ r' ≠ 0)
        · obtain ⟨hk9, hqr⟩ := hgo
          obtain ⟨bs', hown', hlow', hrb, hext'⟩ := HD.out
          have HLIM := Lib.hid (show bs'.length + [UInt8.ofNat (48 + r' % 10)].length ≤ 2147483648 by have := low_split_len hlow' HLN.out; simp; omega)
          have HSTEP := Lib.hid (fun (wx : World) (o : Value) ho he => DigAt.step (w0 := w) (wr' := wx) (out' := o) hlow' hrb hk9 hqr ho he)
          clear hlow' hrb
          have hqd : (0 < (limbs q).length) ∨ ((limbs q).length ≤ 0 ∧ 0 < r') := by
            rcases Nat.eq_zero_or_pos q with h | h
            · subst h; exact .inr ⟨by simp [limbs_zero], by omega⟩
            · exact .inl (by rw [limbs_pos q (by omega)]; simp)
          clear hqr
          rcases hqd with hqd | ⟨hqd, hr0⟩
          all_goals
            go_wp2_with (at_builtin; go_must (refine wpList_append8 rfl _ _ rfl rfl (hown'.ext ((Ext.refl _).alloc _)) rfl (Arr8.fresh1 _ _ (UInt8.ofNat (48 + r' % 10)) (by rw [UInt8.toNat_ofNat']; omega)) HLIM.out (by simp; omega) ?_; intro v' w' hown2 hgr hb))
            go_roundw
            case rel => exact ⟨k + 1, r' / 10, by omega, by go_num, by go_num, by omega, HSTEP.out _ _ hown2 ((hext'.alloc _).more hb), ⟨howq.1, ROwn.other (ROwn.ext howq.2 ((Ext.refl _).alloc _)) (hown'.ext ((Ext.refl _).alloc _)) (by decide) hgr⟩⟩
            case measure => simp [intOf]; omega
        · have hdone : k = 9 ∨ q = 0 ∧ r' = 0 := by omega
          obtain ⟨bs', hown', hlow', hext'⟩ := HD.out.done hdone
          have HL' := Lib.hid hlow'
          have hqe : (limbs q).length ≤ 0 ∨ ¬ (limbs q).length ≤ 0 := by omega
          have HAQ := Lib.hid howq.arr
          clear hlow' hgo
          have hcases : (¬ k < 9) ∨ (k < 9 ∧ (limbs q).length ≤ 0 ∧ r' ≤ 0) := by
            rcases hdone with h | ⟨h1, h2⟩
            · exact .inl (by omega)
            · rcases Nat.lt_or_ge k 9 with h | h
              · exact .inr ⟨h, by rw [h1]; simp [limbs_zero], by omega⟩
              · exact .inl (by omega)
          clear hqe hdone
          rcases hcases with hk9 | ⟨hk9, hq0, hr0⟩
          all_goals
            go_wp2_with fail
            go_roundg q
            case measure => omega
            case rel => exact ⟨bs', by omega, HAQ.out, hown', HL'.out, hext'⟩
end Big
end Go.Proofs.YtplmldkfgeiklaaGreatDoor
