import Derived.Test.YtelgknpdiaafaaaGreatDoorM4
import Derived.Test.YtelgknpdiaafaaaGreatDoorM5
import Derived.Test.YtelgknpdiaafaaaGreatDoorM11
import Derived.Test.YtelgknpdiaafaaaGreatDoorM9
import Derived.Deep.CutBlock
namespace Go.Proofs.YtelgknpdiaafaaaGreatDoor
namespace Big
open Go.RowKit
theorem bad7_hit {l : List UInt8} (h : (hasDot l && ((part l == []) || ((part l).getLast? == some 48))) = true) : bad7 l = true := by
  unfold bad7
  rw [h]
  rfl
theorem bad7_miss {l : List UInt8} (h : (hasDot l && ((part l == []) || ((part l).getLast? == some 48))) = false) : bad7 l = ((whole l == []) || ((whole l)[0]? == some 48 && decide (1 < (whole l).length))) := by
  unfold bad7
  rw [h]
  rfl
theorem last_byte (P : List UInt8) (k : Nat) (h : P.length = k + 1) : (P.getLast? == some 48) = ((byteAt P k : Int) == 48) := by
  have h1 : P.getLast? = some P[k] := by
    rw [List.getLast?_eq_getElem?, show P.length - 1 = k by omega, List.getElem?_eq_getElem (by omega)]
  rw [h1, byteAt_eq P k (by omega), Bool.eq_iff_iff]
  simp only [beq_iff_eq, Option.some.injEq]
  constructor
  · intro e; rw [e]; rfl
  · intro e
    apply UInt8.toNat_inj.1
    have : P[k].toNat = 48 := by omega
    rw [this]; rfl
theorem first_byte (W : List UInt8) (k : Nat) (h : W.length = k + 1) : (W[0]? == some 48) = ((byteAt W 0 : Int) == 48) := by
  rw [byteAt_eq W 0 (by omega), List.getElem?_eq_getElem (by omega), Bool.eq_iff_iff]
  simp only [beq_iff_eq, Option.some.injEq]
  constructor
  · intro e; rw [e]; rfl
  · intro e
    apply UInt8.toNat_inj.1
    have : W[0].toNat = 48 := by omega
    rw [this]; rfl

end Big
end Go.Proofs.YtelgknpdiaafaaaGreatDoor
/- What reading a decimal returns. -/
namespace Go.Proofs.YtelgknpdiaafaaaGreatDoor
namespace Big
open Go.RowKit
/-- The fraction that a text stands for. -/
def num7 (l : List UInt8) : Int := lowN (numOf (whole l ++ part l)) (10 ^ (part l).length)
def den7 (l : List UInt8) : Nat := lowD (numOf (whole l ++ part l)) (10 ^ (part l).length)
/-- What reading a decimal returns. -/
def ParseRes7 (w : World) (l : List UInt8) (e : Ending) (w' : World) : Prop :=
  ∃ v', e = .returned (.tuple #[v', .int .i64 (code7 l : Int)]) ∧ IsRat w.heap.size w' v' (if code7 l = 0 then num7 l else 0) (if code7 l = 0 then den7 l else 0) ∧ Ext w w'
end Big
end Go.Proofs.YtelgknpdiaafaaaGreatDoor
/- rational.Parse. -/
namespace Go.Proofs.YtelgknpdiaafaaaGreatDoor
namespace Big
open Go.RowKit
set_option maxRecDepth 100000 in
theorem parse7_long (w : World) (l : List UInt8) (h : 400 < l.length) : Calls Tryz.prog 41 #[str l] w (ParseRes7 w l) := by
  have hc : code7 l = 7 := if_pos h
  have h' : (400 : Int) < (l.length : Int) := by omega
  have HC := Lib.hid hc
  clear h hc
  go_enter Tryz.func41, Tryz.ntmps41
  go_wp2_with fail
  obtain ⟨hr0, hr1, hr2⟩ := three_set (Blk.new w 57 #[Value.bool false, Value.slice none 0 0, Value.slice none 0 0]) (.bool false) (.slice none 0 0) (.slice none 0 0)
  refine bodyPost_ret (v := .tuple #[.agg #[.bool false, .slice none 0 0, .slice none 0 0], .int .i64 7]) (by simp [results, Tryz.results41, go_sem, hr0, hr1, hr2]) rfl ?_
  exact ⟨_, by rw [HC.out]; rfl, by rw [HC.out]; exact IsRat.zero _ _, (Ext.refl w).alloc _⟩

set_option maxHeartbeats 1000000 in
set_option maxRecDepth 100000 in
theorem parse7_any (w : World) (l : List UInt8) (hm : MaxV w) : Calls Tryz.prog 41 #[str l] w (ParseRes7 w l) := by
  rcases Nat.lt_or_ge 400 l.length with hl | hl
  · exact parse7_long w l hl
  have HCUT := Lib.hid (fun W hx => cut_any W l (by omega) (hm.ext hx))
  have hpl : (part l).length ≤ l.length := by
    rcases dot_split l with ⟨_, h1⟩ | ⟨_, _, h2⟩
    · have := congrArg List.length h1
      simp at this
      omega
    · rw [h2]; simp
  have hwl := whole_le l
  have HMISS := Lib.hid (bad7_miss (l := l))
  have HHIT := Lib.hid (bad7_hit (l := l))
  have hcode : code7 l = if bad7 l then 6 else if (whole l ++ part l).all isDig then 0 else 6 := by
    unfold code7 good7
    rw [if_neg (by omega)]
    cases bad7 l <;> cases (whole l ++ part l).all isDig <;> rfl
  have HCODE := Lib.hid hcode
  have hnum : num7 l = lowN (numOf (whole l ++ part l)) (10 ^ (part l).length) := rfl
  have hden : den7 l = lowD (numOf (whole l ++ part l)) (10 ^ (part l).length) := rfl
  have HNUM := Lib.hid hnum
  have HDEN := Lib.hid hden
  have h400 : ¬ (400 : Int) < (l.length : Int) := by omega
  clear hm hcode hnum hden
  generalize whole l = W at *
  generalize part l = P at *
  generalize hasDot l = D at *
  generalize bad7 l = bad at *
  go_enter Tryz.func41, Tryz.ntmps41
  go_wp2_with fail
  refine (HCUT.out _ ((Ext.refl w).alloc _)).mono ?_
  rintro e w1 ⟨rfl, hx1⟩
  have HX1 := Lib.hid (((Ext.refl w).alloc (.cells #[Value.bool false, Value.slice none 0 0, Value.slice none 0 0] 57)).trans hx1)
  have HB1 := Lib.hid ((Blk.new w 57 #[Value.bool false, Value.slice none 0 0, Value.slice none 0 0]).ext hx1)
  clear hx1
  go_upto_region 4 with fail
  go_cut [46] from 20 to 46 (fun s46 wx => s46 = .bool bad ∧ wx = w1)
  case first =>
    clear HCUT
    cases D
    · have HF : Hid ((false && ((P == []) || (P.getLast? == some 48))) = false) := Lib.hid rfl
      have HB0 := Lib.hid (HMISS.out HF.out)
      rcases Nat.eq_zero_or_pos W.length with hw0 | hw0
      · obtain rfl : W = [] := List.eq_nil_of_length_eq_zero hw0
        have HBD : Hid (bad = true) := Lib.hid (by rw [HB0.out]; rfl)
        have hwe : (([] : List UInt8) == []) = true := rfl
        clear hw0
        go_wp2_with fail
        go_meet
        exact ⟨by rw [HBD.out], rfl⟩
      · have hwe : (W == []) = false := by cases W <;> simp_all
        obtain ⟨kw, hwl⟩ : ∃ k, W.length = k + 1 := ⟨W.length - 1, by omega⟩
        have hwp : (0 : Int) < (W.length : Int) := by omega
        have hfb := first_byte W kw hwl
        rw [hfb, hwe] at HB0
        clear hw0 hfb
        cases hz : ((byteAt W 0 : Int) == 48)
        · have HBD : Hid (bad = false) := Lib.hid (by rw [HB0.out, hz]; rfl)
          clear hwl
          go_wp2_with fail
          go_meet
          exact ⟨by rw [HBD.out], rfl⟩
        · by_cases hl1 : 1 < W.length
          · have HBD : Hid (bad = true) := Lib.hid (by rw [HB0.out, hz]; simp [hl1])
            have hd1 : (1 : Int) < (W.length : Int) := by omega
            have hd2 : decide ((1 : Int) < (W.length : Int)) = true := by rw [decide_eq_true_iff]; omega
            clear hwl
            go_wp2_with fail
            go_meet
            exact ⟨by rw [HBD.out], rfl⟩
          · have HBD : Hid (bad = false) := Lib.hid (by rw [HB0.out, hz]; simp [hl1])
            have hd1 : ¬ (1 : Int) < (W.length : Int) := by omega
            have hd2 : decide ((1 : Int) < (W.length : Int)) = false := by simp; omega
            clear hwl
            go_wp2_with fail
            go_meet
            exact ⟨by rw [HBD.out], rfl⟩
    · rcases Nat.eq_zero_or_pos P.length with hp0 | hp0
      · obtain rfl : P = [] := List.eq_nil_of_length_eq_zero hp0
        have HBD : Hid (bad = true) := Lib.hid (HHIT.out rfl)
        have hpe : (([] : List UInt8) == []) = true := rfl
        clear hp0
        go_wp2_with fail
        go_meet
        exact ⟨by rw [HBD.out], rfl⟩
      · have hpe : (P == []) = false := by cases P <;> simp_all
        obtain ⟨k, hpl1⟩ : ∃ k, P.length = k + 1 := ⟨P.length - 1, by omega⟩
        have hlb := last_byte P k hpl1
        have hsub : (P.length : Int) - 1 = (k : Int) := by omega
        clear hp0
        have hkp : (k : Int) < (P.length : Int) := by omega
        cases hz1 : ((byteAt P k : Int) == 48)
        · have HF : Hid ((true && ((P == []) || (P.getLast? == some 48))) = false) := Lib.hid (by rw [hlb, hpe, hz1]; rfl)
          clear hlb hpl1
          have HB0 := Lib.hid (HMISS.out HF.out)
          rcases Nat.eq_zero_or_pos W.length with hw0 | hw0
          · obtain rfl : W = [] := List.eq_nil_of_length_eq_zero hw0
            have HBD : Hid (bad = true) := Lib.hid (by rw [HB0.out]; rfl)
            have hwe : (([] : List UInt8) == []) = true := rfl
            clear hw0
            go_wp2_with fail
            go_meet
            exact ⟨by rw [HBD.out], rfl⟩
          · have hwe : (W == []) = false := by cases W <;> simp_all
            obtain ⟨kw, hwl⟩ : ∃ k, W.length = k + 1 := ⟨W.length - 1, by omega⟩
            have hwp : (0 : Int) < (W.length : Int) := by omega
            have hfb := first_byte W kw hwl
            rw [hfb, hwe] at HB0
            clear hw0 hfb
            cases hz : ((byteAt W 0 : Int) == 48)
            · have HBD : Hid (bad = false) := Lib.hid (by rw [HB0.out, hz]; rfl)
              clear hwl
              go_wp2_with fail
              go_meet
              exact ⟨by rw [HBD.out], rfl⟩
            · by_cases hl1 : 1 < W.length
              · have HBD : Hid (bad = true) := Lib.hid (by rw [HB0.out, hz]; simp [hl1])
                have hd1 : (1 : Int) < (W.length : Int) := by omega
                have hd2 : decide ((1 : Int) < (W.length : Int)) = true := by rw [decide_eq_true_iff]; omega
                clear hwl
                go_wp2_with fail
                go_meet
                exact ⟨by rw [HBD.out], rfl⟩
              · have HBD : Hid (bad = false) := Lib.hid (by rw [HB0.out, hz]; simp [hl1])
                have hd1 : ¬ (1 : Int) < (W.length : Int) := by omega
                have hd2 : decide ((1 : Int) < (W.length : Int)) = false := by simp; omega
                clear hwl
                go_wp2_with fail
                go_meet
                exact ⟨by rw [HBD.out], rfl⟩
        · have HBD : Hid (bad = true) := Lib.hid (HHIT.out (by rw [hlb, hz1]; simp))
          clear hlb hpl1
          go_wp2_with fail
          go_meet
          exact ⟨by rw [HBD.out], rfl⟩
  case rest =>
    obtain ⟨rfl, rfl⟩ := hcut
    clear HMISS HHIT HCUT
    obtain ⟨k0, k1, k2, f0, f1, f2, hgz⟩ := HB1.out.three
    cases bad
    · have hcode := HCODE.out
      simp only [Bool.false_eq_true, if_false] at hcode
      have hadd : ∀ W', (binOp .add 9 (str W) (str P)).run Tryz.prog W' = .ok (str (W ++ P)) W' := run_add_str W P (by omega)
      have hL : (W ++ P).length ≤ 800 := by rw [List.length_append]; omega
      have HTZ := Lib.hid (fun W' => trimZ_any W' (W ++ P))
      have HNAT := Lib.hid (fun W' => natural_any W' (digs7 (W ++ P)))
      rw [digs7_natural _ hL] at HNAT
      have HTD := Lib.hid (fun W' => trimD_any W' (W ++ P) (by omega))
      have HNL := Lib.hid (numOf_lt (W ++ P))
      have hdig : digs7 (W ++ P) = if (W ++ P).dropWhile (· == 48) = [] then [48] else (W ++ P).dropWhile (· == 48) := rfl
      have HDIG := Lib.hid hdig
      clear hdig HCODE
      generalize W ++ P = L at *
      generalize hZ : L.dropWhile (· == 48) = Z at *
      have HZ := Lib.hid hZ
      clear hZ
      cases hall : L.all isDig
      · have HNA : Hid (∀ W', Calls Tryz.prog 54 #[str (digs7 L)] W' (NatRes W' (0, 6))) := Lib.hid (fun W' => by
          have := HNAT.out W'
          rwa [hall] at this)
        rw [hall] at hcode
        have HC : Hid (code7 l = 6) := Lib.hid hcode
        clear hall hcode HNAT
        rcases Nat.eq_zero_or_pos Z.length with hz0 | hz0
        · obtain rfl : Z = [] := List.eq_nil_of_length_eq_zero hz0
          have hze : (([] : List UInt8) == []) = true := rfl
          rw [HDIG.out, if_pos rfl] at HNA
          clear hz0
          go_wp2_with fail
          refine (HTZ.out _).mono ?_
          rintro e w2 ⟨rfl, rfl⟩
          go_wp2_with fail
          refine (HNA.out _).mono ?_
          rintro e w3 ⟨v3, rfl, ho3, hx3⟩
          obtain ⟨n3, A3, c3, rfl⟩ := ho3.shape
          have hk := HB1.out.ext hx3
          have HX3 := Lib.hid (HX1.out.trans hx3)
          have HB3 := Lib.hid hk
          clear ho3 hx3 k0 k1 k2 f0 f1 f2 hgz
          obtain ⟨k0, k1, k2, f0, f1, f2, hgz⟩ := hk.three
          clear hk
          go_wp2_with fail
          obtain ⟨hr0, hr1, hr2⟩ := three_set HB3.out (.bool false) (.slice none 0 0) (.slice none 0 0)
          refine bodyPost_ret (v := .tuple #[.agg #[.bool false, .slice none 0 0, .slice none 0 0], .int .i64 6]) (by simp [results, Tryz.results41, go_sem, hr0, hr1, hr2]) rfl ?_
          exact ⟨_, by rw [HC.out]; rfl, by rw [HC.out]; exact IsRat.zero _ _, ((HX3.out.setCell (Nat.le_refl _) _).setCell (Nat.le_refl _) _).setCell (Nat.le_refl _) _⟩
        · have hze : (Z == []) = false := by cases Z <;> simp_all
          have hzn : Z ≠ [] := by cases Z <;> simp_all
          rw [HDIG.out, if_neg hzn] at HNA
          clear hz0 hzn
          go_wp2_with fail
          refine (HTZ.out _).mono ?_
          rintro e w2 ⟨rfl, rfl⟩
          go_wp2_with fail
          refine (HNA.out _).mono ?_
          rintro e w3 ⟨v3, rfl, ho3, hx3⟩
          obtain ⟨n3, A3, c3, rfl⟩ := ho3.shape
          have hk := HB1.out.ext hx3
          have HX3 := Lib.hid (HX1.out.trans hx3)
          have HB3 := Lib.hid hk
          clear ho3 hx3 k0 k1 k2 f0 f1 f2 hgz
          obtain ⟨k0, k1, k2, f0, f1, f2, hgz⟩ := hk.three
          clear hk
          go_wp2_with fail
          obtain ⟨hr0, hr1, hr2⟩ := three_set HB3.out (.bool false) (.slice none 0 0) (.slice none 0 0)
          refine bodyPost_ret (v := .tuple #[.agg #[.bool false, .slice none 0 0, .slice none 0 0], .int .i64 6]) (by simp [results, Tryz.results41, go_sem, hr0, hr1, hr2]) rfl ?_
          exact ⟨_, by rw [HC.out]; rfl, by rw [HC.out]; exact IsRat.zero _ _, ((HX3.out.setCell (Nat.le_refl _) _).setCell (Nat.le_refl _) _).setCell (Nat.le_refl _) _⟩
      · have HNA : Hid (∀ W', Calls Tryz.prog 54 #[str (digs7 L)] W' (NatRes W' (numOf L, 0))) := Lib.hid (fun W' => by
          have := HNAT.out W'
          rwa [hall] at this)
        rw [hall] at hcode
        have HC : Hid (code7 l = 0) := Lib.hid hcode
        have HTDD := Lib.hid (fun W' => HTD.out W' hall)
        have hnl : (limbs (numOf L)).length ≤ 800 := limbs_dec (HNL.out hall) hL
        have HIN := Lib.hid (fun W' m a => inat_any W' false m (limbs (numOf L)) a (by omega))
        rw [val_limbs] at HIN
        have hsg : sgn false (numOf L) = ((numOf L : Nat) : Int) := rfl
        rw [hsg] at HIN
        have HOF := Lib.hid (fun W' => of_any W' 1 (by decide))
        rw [show ((1 : Nat) : Int) = 1 from rfl] at HOF
        have hpm : P.length ≤ 400 := by omega
        have HSC := Lib.hid (fun W' m a => scaled_10 W' m (limbs 1) P.length a (by decide) (by omega))
        have HL1 : Hid ((limbs 1).length ≤ 10 ∧ P.length ≤ 400) := Lib.hid ⟨by decide, hpm⟩
        have HLO : Hid (∀ W' a b zs, ArrInt W' a ((numOf L : Nat) : Int) → Arr W' b zs → zs.length ≤ 134217728 → val zs = val (limbs 1) * 10 ^ P.length → Calls Tryz.prog 56 #[a, b] W' fun e w' => ∃ v', e = .returned v' ∧ IsRat W'.heap.size w' v' (lowN ((numOf L : Nat) : Int) (10 ^ P.length)) (lowD ((numOf L : Nat) : Int) (10 ^ P.length)) ∧ Ext W' w') := Lib.hid (fun W' a b zs h1 h2 h3 h4 => by
          have := lowestR_any W' a b _ zs h1 h2 (by rw [Int.natAbs_natCast]; omega) h3 (by rw [h4, val_limbs, Nat.one_mul]; exact Nat.ne_of_gt (Nat.pow_pos (by decide)))
          rwa [h4, val_limbs, Nat.one_mul] at this)
        clear hall hcode HNAT hnl hsg hpm
        rcases Nat.eq_zero_or_pos Z.length with hz0 | hz0
        · obtain rfl : Z = [] := List.eq_nil_of_length_eq_zero hz0
          have hze : (([] : List UInt8) == []) = true := rfl
          rw [HDIG.out, if_pos rfl] at HNA
          clear hz0
          go_wp2_with fail
          refine (HTZ.out _).mono ?_
          rintro e w2 ⟨rfl, rfl⟩
          go_wp2_with fail
          refine (HNA.out _).mono ?_
          rintro e w3 ⟨v3, rfl, ho3, hx3⟩
          have HO3 := Lib.hid ho3
          obtain ⟨n3, A3, c3, rfl⟩ := ho3.shape
          have HX3 := Lib.hid (HX1.out.trans hx3)
          have HB3 := Lib.hid (HB1.out.ext hx3)
          clear ho3 hx3 k0 k1 k2 f0 f1 f2 hgz
          go_wp2_with fail
          refine (HTDD.out _).mono ?_
          rintro e w4 ⟨rfl, hx4⟩
          have HO4 := Lib.hid (HO3.out.ext hx4)
          have HX4 := Lib.hid (HX3.out.trans hx4)
          have HB4 := Lib.hid (HB3.out.ext hx4)
          clear hx4
          have hle : (([] : List UInt8) == []) = true := rfl
          go_wp2_with fail
          refine (HIN.out _ _ HO4.out.arr).mono ?_
          rintro e w5 ⟨v5, rfl, hi5, hx5⟩
          have HI5 := Lib.hid hi5
          obtain ⟨b5, n5, A5, c5, rfl⟩ := hi5.shape
          have HX5 := Lib.hid (HX4.out.trans hx5)
          have HB5 := Lib.hid (HB4.out.ext hx5)
          clear hi5 hx5
          go_wp2_with fail
          refine (HOF.out _).mono ?_
          rintro e w6 ⟨v6, rfl, ho6, hx6⟩
          have HO6 := Lib.hid ho6
          obtain ⟨n6, A6, c6, rfl⟩ := ho6.shape
          have HI6 := Lib.hid (HI5.out.ext hx6)
          have HX6 := Lib.hid (HX5.out.trans hx6)
          have HB6 := Lib.hid (HB5.out.ext hx6)
          clear ho6 hx6
          go_wp2_with fail
          refine (HSC.out _ _ HO6.out.arr).mono ?_
          rintro e w7 ⟨v7, zs, rfl, ha7, hv7, hl7, hx7⟩
          obtain ⟨n7, A7, c7, rfl⟩ := ha7.shape
          have HI7 := Lib.hid (HI6.out.ext hx7).arr
          have HX7 := Lib.hid (HX6.out.trans hx7)
          have HB7 := Lib.hid (HB6.out.ext hx7)
          have HV7 := Lib.hid hv7
          have HL7 := Lib.hid (HLO.out w7 _ _ zs HI7.out ha7 (by have := HL1.out; omega) hv7)
          clear ha7 hv7 hx7 hl7
          go_wp2_with fail
          refine HL7.out.mono ?_
          rintro e w8 ⟨v8, rfl, hr8, hx8⟩
          obtain ⟨b8, n8, A8, c8, n8', A8', c8', rfl⟩ := hr8.shape
          have HR8 := Lib.hid hr8
          have HX8 := Lib.hid (HX7.out.trans hx8)
          have hk := HB7.out.ext hx8
          have HB8 := Lib.hid hk
          have HSZ7 := Lib.hid HX7.out.size
          have HLT7 := Lib.hid HB7.out.lt
          clear hr8 hx8
          obtain ⟨k0, k1, k2, f0, f1, f2, hgz⟩ := hk.three
          clear hk
          go_wp2_with fail
          obtain ⟨hr0, hr1, hr2⟩ := three_set HB8.out (.bool b8) (.slice A8 n8 c8) (.slice A8' n8' c8')
          refine bodyPost_ret (v := .tuple #[.agg #[.bool b8, .slice A8 n8 c8, .slice A8' n8' c8'], .int .i64 0]) (by simp [results, Tryz.results41, go_sem, hr0, hr1, hr2]) rfl ?_
          have hfin := HR8.out.put (w := w) HLT7.out HSZ7.out
          exact ⟨_, by rw [HC.out]; rfl, by rw [HC.out, if_pos rfl, if_pos rfl, HNUM.out, HDEN.out]; exact hfin, ((HX8.out.setCell (Nat.le_refl _) _).setCell (Nat.le_refl _) _).setCell (Nat.le_refl _) _⟩
        · have hze : (Z == []) = false := by cases Z <;> simp_all
          have hzn : Z ≠ [] := by cases Z <;> simp_all
          rw [HDIG.out, if_neg hzn] at HNA
          clear hz0 hzn
          go_wp2_with fail
          refine (HTZ.out _).mono ?_
          rintro e w2 ⟨rfl, rfl⟩
          go_wp2_with fail
          refine (HNA.out _).mono ?_
          rintro e w3 ⟨v3, rfl, ho3, hx3⟩
          have HO3 := Lib.hid ho3
          obtain ⟨n3, A3, c3, rfl⟩ := ho3.shape
          have HX3 := Lib.hid (HX1.out.trans hx3)
          have HB3 := Lib.hid (HB1.out.ext hx3)
          clear ho3 hx3 k0 k1 k2 f0 f1 f2 hgz
          go_wp2_with fail
          refine (HTDD.out _).mono ?_
          rintro e w4 ⟨rfl, hx4⟩
          have HO4 := Lib.hid (HO3.out.ext hx4)
          have HX4 := Lib.hid (HX3.out.trans hx4)
          have HB4 := Lib.hid (HB3.out.ext hx4)
          clear hx4
          have hle : (([] : List UInt8) == []) = true := rfl
          go_wp2_with fail
          refine (HIN.out _ _ HO4.out.arr).mono ?_
          rintro e w5 ⟨v5, rfl, hi5, hx5⟩
          have HI5 := Lib.hid hi5
          obtain ⟨b5, n5, A5, c5, rfl⟩ := hi5.shape
          have HX5 := Lib.hid (HX4.out.trans hx5)
          have HB5 := Lib.hid (HB4.out.ext hx5)
          clear hi5 hx5
          go_wp2_with fail
          refine (HOF.out _).mono ?_
          rintro e w6 ⟨v6, rfl, ho6, hx6⟩
          have HO6 := Lib.hid ho6
          obtain ⟨n6, A6, c6, rfl⟩ := ho6.shape
          have HI6 := Lib.hid (HI5.out.ext hx6)
          have HX6 := Lib.hid (HX5.out.trans hx6)
          have HB6 := Lib.hid (HB5.out.ext hx6)
          clear ho6 hx6
          go_wp2_with fail
          refine (HSC.out _ _ HO6.out.arr).mono ?_
          rintro e w7 ⟨v7, zs, rfl, ha7, hv7, hl7, hx7⟩
          obtain ⟨n7, A7, c7, rfl⟩ := ha7.shape
          have HI7 := Lib.hid (HI6.out.ext hx7).arr
          have HX7 := Lib.hid (HX6.out.trans hx7)
          have HB7 := Lib.hid (HB6.out.ext hx7)
          have HV7 := Lib.hid hv7
          have HL7 := Lib.hid (HLO.out w7 _ _ zs HI7.out ha7 (by have := HL1.out; omega) hv7)
          clear ha7 hv7 hx7 hl7
          go_wp2_with fail
          refine HL7.out.mono ?_
          rintro e w8 ⟨v8, rfl, hr8, hx8⟩
          obtain ⟨b8, n8, A8, c8, n8', A8', c8', rfl⟩ := hr8.shape
          have HR8 := Lib.hid hr8
          have HX8 := Lib.hid (HX7.out.trans hx8)
          have hk := HB7.out.ext hx8
          have HB8 := Lib.hid hk
          have HSZ7 := Lib.hid HX7.out.size
          have HLT7 := Lib.hid HB7.out.lt
          clear hr8 hx8
          obtain ⟨k0, k1, k2, f0, f1, f2, hgz⟩ := hk.three
          clear hk
          go_wp2_with fail
          obtain ⟨hr0, hr1, hr2⟩ := three_set HB8.out (.bool b8) (.slice A8 n8 c8) (.slice A8' n8' c8')
          refine bodyPost_ret (v := .tuple #[.agg #[.bool b8, .slice A8 n8 c8, .slice A8' n8' c8'], .int .i64 0]) (by simp [results, Tryz.results41, go_sem, hr0, hr1, hr2]) rfl ?_
          have hfin := HR8.out.put (w := w) HLT7.out HSZ7.out
          exact ⟨_, by rw [HC.out]; rfl, by rw [HC.out, if_pos rfl, if_pos rfl, HNUM.out, HDEN.out]; exact hfin, ((HX8.out.setCell (Nat.le_refl _) _).setCell (Nat.le_refl _) _).setCell (Nat.le_refl _) _⟩
    · have HC : Hid (code7 l = 6) := Lib.hid HCODE.out
      clear HCODE
      go_wp2_with fail
      obtain ⟨hr0, hr1, hr2⟩ := three_set HB1.out (.bool false) (.slice none 0 0) (.slice none 0 0)
      refine bodyPost_ret (v := .tuple #[.agg #[.bool false, .slice none 0 0, .slice none 0 0], .int .i64 6]) (by simp [results, Tryz.results41, go_sem, hr0, hr1, hr2]) rfl ?_
      exact ⟨_, by rw [HC.out]; rfl, by rw [HC.out]; exact IsRat.zero _ _, ((HX1.out.setCell (Nat.le_refl _) _).setCell (Nat.le_refl _) _).setCell (Nat.le_refl _) _⟩
end Big
end Go.Proofs.YtelgknpdiaafaaaGreatDoor
/- The scanner's word, number, sign. -/
namespace Go.Proofs.YtelgknpdiaafaaaGreatDoor
namespace Big
open Go.RowKit
/-- A token has been taken. -/
def Taken (gs : Nat) (w : World) (l : List UInt8) (a : Nat) (ts : List Tok) (k n : Nat) (e : Ending) (w' : World) : Prop :=
  ∃ tv', e = .returned (.bool true) ∧ ScanAt gs w' l (a + n) (ts ++ [⟨k, a, (l.drop a).take n⟩]) tv' ∧ Below gs w w'
/-- None is there. -/
def NotTaken (gs : Nat) (w : World) (l : List UInt8) (a : Nat) (ts : List Tok) (tv : Value) (e : Ending) (w' : World) : Prop :=
  e = .returned (.bool false) ∧ ScanAt gs w' l a ts tv ∧ Below gs w w'
theorem ScanAt.dr {gs a : Nat} {w w' : World} {l : List UInt8} {ts : List Tok} {tv : Value} (h : ScanAt gs w l a ts tv) (hd : Dr w w') : ScanAt gs w' l a ts tv :=
  ⟨hd.blk h.blk, ownsRow_below h.row (fun g _ _ => by rw [hd.heap])⟩
theorem ScanAt.ext {gs a : Nat} {w w' : World} {l : List UInt8} {ts : List Tok} {tv : Value} (h : ScanAt gs w l a ts tv) (hd : Ext w w') : ScanAt gs w' l a ts tv :=
  ⟨h.blk.ext hd, ownsRow_below h.row (fun g _ hg => Below.block hd g hg)⟩
theorem Dr.below {w w' : World} (h : Dr w w') (B : Nat) : Below B w w' := by
  have h1 := h.grown none
  exact ⟨h1.os, h1.tape, h1.output, h1.size, fun g _ => by rw [h.heap]⟩
theorem Ext.below {w w' : World} (h : Ext w w') {B : Nat} (hB : B ≤ w.heap.size) : Below B w w' := Below.mono h hB
theorem take_word {l : List UInt8} {a n : Nat} (h0 : 0 < n) (hn : n = runLen wordN (l.drop a)) (hlet : letN (byteAt l a) = true) : wordB ((l.drop a).take n) = decide (n ≤ 24) := by
  have hle : n ≤ (l.drop a).length := by rw [hn]; exact runLen_le _ _
  have hlen : ((l.drop a).take n).length = n := by rw [List.length_take, Nat.min_eq_left hle]
  rw [wordB_eq, hlen]
  have h1 : (((l.drop a).take n) == []) = false := by
    rw [beq_eq_false_iff_ne]
    intro e
    rw [e] at hlen
    simp at hlen
    omega
  have hb : ∀ i, i < n → byteAt ((l.drop a).take n) i = byteAt l (a + i) := fun i hi => by
    rw [← byteAt_drop]
    unfold byteAt
    rw [List.getD_eq_getElem?_getD, List.getD_eq_getElem?_getD, List.getElem?_take_of_lt hi]
  have h2 : ((l.drop a).take n).all (fun c => wordN c.toNat) = true := by
    refine all_word_true (fun i hi => ?_)
    rw [hlen] at hi
    rw [hb i hi]
    rw [hn] at hi
    exact (run_at hi).2
  rw [h1, hb 0 h0, Nat.add_zero, hlet, h2]
  simp
set_option maxRecDepth 100000 in
theorem mword_any (gs : Nat) (w : World) (l : List UInt8) (a : Nat) (ts : List Tok) (tv : Value) (h : ScanAt gs w l a ts tv) (hl : l.length ≤ 400) (ha : a < l.length) (hn : ts.length ≤ 1000000) (hlet : letN (byteAt l a) = true) :
    Calls Tryz.prog 20 #[.pointer (some ⟨gs, 0, none⟩)] w fun e w' => (runLen wordN (l.drop a) ≤ 24 → Taken gs w l a ts 2 (runLen wordN (l.drop a)) e w') ∧ (24 < runLen wordN (l.drop a) → NotTaken gs w l a ts tv e w') := by
  have HW := Lib.hid (while_word w gs a l tv h.blk (by omega) (by omega))
  have hpos : 0 < runLen wordN (l.drop a) := by
    rcases Nat.eq_zero_or_pos (runLen wordN (l.drop a)) with h0 | h0
    · have h1 := run_stop (p := wordN) (l := l) (a := a) (by omega)
      rw [h0, Nat.add_zero] at h1
      unfold wordN at h1
      rw [hlet] at h1
      cases h1
    · exact h0
  have hrl := runLen_le wordN (l.drop a)
  rw [List.length_drop] at hrl
  have HTW := Lib.hid (take_word hpos rfl hlet)
  have hlen : ((l.drop a).take (runLen wordN (l.drop a))).length = runLen wordN (l.drop a) := by
    rw [List.length_take, List.length_drop]; omega
  have HLEN := Lib.hid hlen
  have HB := Lib.hid h
  generalize hnn : runLen wordN (l.drop a) = n at *
  clear hnn hlen h hlet
  generalize ht : (l.drop a).take n = t at *
  have HT := Lib.hid ht
  have htl : t.length ≤ 400 := by rw [HLEN.out]; omega
  have HWD := Lib.hid (fun W => word_any W t (by omega))
  rw [HTW.out] at HWD
  clear ht
  rcases Nat.lt_or_ge 24 n with h24 | h24
  · rw [decide_eq_false (by omega)] at HWD
    have HC : Hid (24 < n) := Lib.hid h24
    go_enter Tryz.func20, Tryz.ntmps20
    go_wp2_with fail
    refine HW.out.mono ?_
    rintro e w1 ⟨rfl, hd1⟩
    have HD1 := Lib.hid hd1
    clear hd1
    go_wp2_with fail
    refine (HWD.out _).mono ?_
    rintro e w2 ⟨rfl, rfl⟩
    go_wp2_with fail
    go_ret
    exact ⟨fun h1 => by have := HC.out; omega, fun _ => ⟨rfl, HB.out.dr HD1.out, HD1.out.below gs⟩⟩
  · rw [decide_eq_true h24] at HWD
    have HC : Hid (n ≤ 24) := Lib.hid h24
    have HADD := Lib.hid (fun W hd => add_tok gs W l t a 2 ts tv (HB.out.dr hd) hn (by omega) (by omega))
    rw [show ((2 : Nat) : Int) = 2 from rfl] at HADD
    go_enter Tryz.func20, Tryz.ntmps20
    go_wp2_with fail
    refine HW.out.mono ?_
    rintro e w1 ⟨rfl, hd1⟩
    have HD1 := Lib.hid hd1
    clear hd1
    go_wp2_with fail
    refine (HWD.out _).mono ?_
    rintro e w2 ⟨rfl, rfl⟩
    go_wp2_with fail
    refine (HADD.out _ HD1.out).mono ?_
    rintro e w3 ⟨tv3, rfl, hs3, hb3⟩
    have HS3 := Lib.hid hs3
    have HB3 := Lib.hid hb3
    clear hs3 hb3
    go_wp2_with fail
    go_ret
    refine ⟨fun _ => ⟨tv3, rfl, ?_, (HD1.out.below gs).trans HB3.out⟩, fun h1 => by have := HC.out; omega⟩
    have h5 := HS3.out
    rw [HLEN.out] at h5
    rw [HT.out]
    exact h5
end Big
end Go.Proofs.YtelgknpdiaafaaaGreatDoor
