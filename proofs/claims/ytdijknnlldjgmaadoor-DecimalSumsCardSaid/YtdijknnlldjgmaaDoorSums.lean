import Derived.Test.YtdijknnlldjgmaaDoorW30
import Derived.Test.YtdijknnlldjgmaaDoorW21
import Derived.Test.YtdijknnlldjgmaaDoorParses
/- DecimalSums: a text with one more digit. -/
namespace Go.Proofs.YtdijknnlldjgmaaDoor
namespace Big
open Go.RowKit

theorem tmod_mod (v n : Int) (hn : 1 ≤ n) : (if v.tmod n < 0 then v.tmod n + n else v.tmod n) = v % n := by
  have h := Int.tmod_eq_emod (a := v) (b := n)
  have h1 := Int.emod_nonneg v (show n ≠ 0 by omega)
  have h2 := Int.emod_lt_of_pos v (show 0 < n by omega)
  rw [h]
  split <;> split <;> omega
theorem mod_any (w : World) (v n : Int) (h1 : -9223372036854775808 ≤ v) (h2 : v ≤ 9223372036854775807) (hn : 1 ≤ n) (hn2 : n ≤ 4611686018427387904) :
    Calls Tryd.prog 21 #[.int .i64 v, .int .i64 n] w fun e w' => e = .returned (.int .i64 (v % n)) ∧ w = w' := by
  have hT := tmod_mod v n hn
  have hne : (n == 0) = false := by rw [beq_eq_false_iff_ne]; omega
  obtain ⟨r, hr⟩ : ∃ r, v.tmod n = r := ⟨_, rfl⟩
  rw [hr] at hT
  have hm1 := Int.emod_nonneg v (show n ≠ 0 by omega)
  have hm2 := Int.emod_lt_of_pos v (show 0 < n by omega)
  by_cases h0 : r < 0
  · rw [if_pos h0] at hT
    have hb1 : -n ≤ r := by omega
    have HT := Lib.hid hT
    clear hT hm1 hm2
    go_enter Tryd.func21, Tryd.ntmps21
    go_wp2_with fail
    go_ret
    exact ⟨congrArg (fun z => Ending.returned (.int .i64 z)) HT.out, rfl⟩
  · rw [if_neg h0] at hT
    have hb1 : r < n := by omega
    have HT := Lib.hid hT
    clear hT hm1 hm2
    go_enter Tryd.func21, Tryd.ntmps21
    go_wp2_with fail
    go_ret
    exact ⟨congrArg (fun z => Ending.returned (.int .i64 z)) HT.out, rfl⟩

theorem run_add_digit_back (r : Nat) (h : r < 10) (t : List UInt8) (ht : t.length ≤ 1073741824) (W : World) :
    (binOp .add 9 (str t) (.string ((⟨#[48, 49, 50, 51, 52, 53, 54, 55, 56, 57]⟩ : ByteArray).extract r (r + 1)))).run Tryd.prog W = .ok (str (t ++ [UInt8.ofNat (48 + r)])) W := by
  rw [digit_ext r h]
  exact run_add_str t [UInt8.ofNat (48 + r)] (by simp; omega) W

theorem natural_more (n r : Nat) (hn : n ≠ 0) (hr : r < 10) (hl : (dec n).length ≤ 20000) : natural (dec n ++ [UInt8.ofNat (48 + r)]) = (n * 10 + r, 0) := by
  obtain ⟨c, rest, e, hc⟩ := low_head n hn
  have hd := dec_pos n hn
  have hdig : isDig (UInt8.ofNat (48 + r)) = true := by rw [isDig_iff, digit_nat r hr]; omega
  unfold natural
  rw [if_neg (by simp; omega), if_neg (by simp), if_neg, if_pos]
  · rw [numOf_snoc, hd, numOf_low, digit_nat r hr]
    congr 1
    omega
  · rw [List.all_append, hd, List.all_reverse, low_all, Bool.true_and, List.all_cons, List.all_nil, Bool.and_true]
    exact hdig
  · rintro ⟨h1, _⟩
    rw [hd, e] at h1
    simp at h1
    subst h1
    simp at hc
theorem parse_more (n r : Nat) (hn : n ≠ 0) (hr : r < 10) (hl : (dec n).length ≤ 20000) : parseI (dec n ++ [UInt8.ofNat (48 + r)]) = (((n : Int) * 10 + r), 0) := by
  have hN := natural_more n r hn hr hl
  obtain ⟨c, rest, e, hc⟩ := low_head n hn
  have hd := dec_pos n hn
  have h45 : ((dec n ++ [UInt8.ofNat (48 + r)]).head? == some 45) = false := by
    rw [hd, e]
    rw [beq_eq_false_iff_ne]
    intro h
    simp at h
    subst h
    simp at hc
  unfold parseI
  rw [if_neg (by simp; omega)]
  simp only [h45, Bool.false_eq_true, if_false, hN]
  rw [if_neg (by simp)]
  simp [sgn]

set_option maxRecDepth 100000 in
theorem sums_small (w : World) (v : Value) (xs : List Nat) (d : Int) (h : Arr w v xs) (hle : xs.length ≤ 30) (hb : -9223372036854775808 ≤ d ∧ d ≤ 9223372036854775807) (hT : Tab16 w) :
    Calls Tryd.prog 7 #[v, .int .i64 d] w fun e w' => e = .returned (.bool true) ∧ Ext w w' := by
  have HT := Lib.hid hT
  have HM := Lib.hid (fun W hx => mnat_any W v xs 30 (h.ext hx) (by omega) (by omega))
  have HMOD := Lib.hid (fun W => mod_any W d 10 hb.1 hb.2 (by omega) (by omega))
  obtain ⟨r, hr, hr10⟩ : ∃ r : Nat, d % 10 = (r : Int) ∧ r < 10 := ⟨(d % 10).toNat, by omega, by omega⟩
  rw [hr] at HMOD
  have hlz : (limbs (val xs)).length ≤ 30 := Nat.le_trans (length_limbs_val h.ok) hle
  have hld : (dec (val xs)).length ≤ 300 := length_dec_le (by omega) (Nat.le_trans (length_low_val h.ok) (by omega))
  obtain ⟨n, A, c, rfl⟩ := h.shape
  clear h hb hT hr
  generalize val xs = N at *
  by_cases h0 : N = 0
  · subst h0
    go_enter Tryd.func7, Tryd.ntmps7
    go_wp2_with fail
    refine (awake_any _ HT.out).mono ?_
    rintro e1 w1 ⟨rfl, hx1⟩
    have HX1 := Lib.hid hx1; clear hx1
    go_wp2_with fail
    refine (HM.out _ HX1.out).mono ?_
    rintro e2 w2 ⟨v2, rfl, ho2, hx2⟩
    have HX2 := Lib.hid (HX1.out.trans hx2); clear hx2
    obtain ⟨n2, A2, c2, rfl⟩ := ho2.shape
    obtain rfl := ho2.len
    clear ho2
    simp only [limbs_zero, List.length_nil]
    go_wp2_with fail
    go_ret
    exact ⟨rfl, HX2.out⟩
  · have HP := Lib.hid (fun W => parse_any W (dec N ++ [UInt8.ofNat (48 + r)]))
    rw [parse_more N r h0 hr10 (by omega)] at HP
    have hlp : ¬ ((limbs N).length : Int) = 0 := by
      have : 0 < (limbs N).length := by rw [limbs_pos N h0]; simp
      omega
    have hlp2 : (((limbs N).length : Int) == 0) = false := by rw [beq_eq_false_iff_ne]; omega
    have hADG := run_add_digit_back r hr10 (dec N) (by omega)
    generalize dec N ++ [UInt8.ofNat (48 + r)] = l at *
    have HD := Lib.hid (fun W v h => digits_any W v (limbs N) h (by omega))
    rw [val_limbs] at HD
    generalize dec N = ld at *
    go_enter Tryd.func7, Tryd.ntmps7
    go_wp2_with fail
    refine (awake_any _ HT.out).mono ?_
    rintro e1 w1 ⟨rfl, hx1⟩
    have HX1 := Lib.hid hx1; clear hx1
    go_wp2_with fail
    refine (HM.out _ HX1.out).mono ?_
    rintro e2 w2 ⟨v2, rfl, ho2, hx2⟩
    have HX2 := Lib.hid (HX1.out.trans hx2); clear hx2
    have HO2 := Lib.hid ho2.arr
    obtain ⟨n2, A2, c2, rfl⟩ := ho2.shape
    obtain rfl := ho2.len
    clear ho2
    go_wp2_with fail
    refine (HMOD.out _).mono ?_
    rintro e2' w2' ⟨rfl, rfl⟩
    go_wp2_with fail
    have HNAT := Lib.hid (fun W v h => inat_any W false v (limbs N) h (by omega))
    have HTEN := Lib.hid (fun W => iof_pos W 10 (by omega))
    have HDIG := Lib.hid (fun W => iof_pos W r (by omega))
    have HN0 : sgn false N = (N : Int) := by simp [sgn]
    rw [val_limbs, HN0] at HNAT
    clear HN0
    have HMUL := Lib.hid (fun W v u h h' => imul_any W v u (N : Int) ((10 : Nat) : Int) h h' (by rw [Int.natAbs_natCast]; omega) (by decide))
    have hl10 : (limbs ((N : Int) * ((10 : Nat) : Int)).natAbs).length ≤ 32 := by
      rw [← Int.natCast_mul, Int.natAbs_natCast]
      exact Nat.le_trans (length_limbs_prod hlz (show (limbs 10).length ≤ 1 by decide)) (by omega)
    have hlr : (limbs ((r : Int)).natAbs).length ≤ 10 := by
      rw [Int.natAbs_natCast]
      exact Nat.le_trans (limbs_len_pow (k := 2) (by omega)) (by omega)
    have HADD := Lib.hid (fun W v u h h' => iadd_same W v u ((N : Int) * ((10 : Nat) : Int)) (r : Int) h h' (by omega) (by omega) (by
      have h1 : ¬ (N : Int) * ((10 : Nat) : Int) < 0 := by omega
      have h2 : ¬ (r : Int) < 0 := by omega
      rw [decide_eq_false h1, decide_eq_false h2]))
    have hls : (limbs ((N : Int) * ((10 : Nat) : Int) + (r : Int)).natAbs).length ≤ 100 := by
      rw [← Int.natCast_mul, ← Int.natCast_add, Int.natAbs_natCast]
      rw [← Int.natCast_mul, Int.natAbs_natCast] at hl10
      rw [Int.natAbs_natCast] at hlr
      exact Nat.le_trans (length_limbs_sum hl10 hlr) (by omega)
    have HSAME := Lib.hid (fun W v u h h' => same5_any W v u ((N : Int) * ((10 : Nat) : Int) + (r : Int)) ((N : Int) * ((10 : Nat) : Int) + (r : Int)) h h' (by omega) (by omega))
    rw [show ((10 : Nat) : Int) = 10 from rfl] at HTEN HMUL HADD HSAME
    clear hl10 hlr hls
    have hw1 : IntKind.i64.wrap ((r : Int) + 1) = (r : Int) + 1 := IntWalk.i64_in _ (by omega)
    have hw2 : 0 ≤ (r : Int) + 1 := by omega
    have hw3 : ((r : Int) + 1).toNat = r + 1 := by omega
    have hw4 : (r : Int) + 1 ≤ 10 := by omega
    have hw5 : (r : Int) ≤ (r : Int) + 1 := by omega
    go_region_held3 (fun w' => Ext w2 w')
      (first
        | (exact (Ext.refl w2).drew)
        | (exact Ext.trans (by assumption) (by assumption))
        | (exact HE3.out)
        | (exact Ext.alloc HE3.out _)
        | (exact Ext.alloc (by assumption) _)
        | (refine Ext.setCell (Ext.setCell (by assumption) ?_ _) ?_ _ <;> (simp; try omega)))
      (first
        | (go_at_call 13; refine (HD.out _ _ ?_).mono ?_; (exact HO2.out.ext (by assumption)); rintro e w4 ⟨rfl, hx⟩; have hz4 := hx.size; (try simp only [World.size_alloc, World.size_drew] at hz4); (try (have kb := (Blk.new _ 24 #[Value.bool false, Value.slice none 0 0]).drew.ext hx)))
        | (go_at_call 15; refine (HP.out _).mono ?_; rintro e w3 ⟨v3, rfl, hi3, hx3⟩; have HI3 := Lib.hid hi3; obtain ⟨b3, n3, A3, c3, rfl⟩ := hi3.shape; have hz3 := hx3.size; (try simp only [World.size_alloc, World.size_drew] at hz3); clear hi3; have HE3 := Lib.hid (show Ext w2 w3 from Ext.trans (by assumption) hx3); (try (have kb2 := kb.ext hx3; obtain ⟨hk0, hk1, hk2, hk3, hk4⟩ := kb2.two)); (try (have kb2 := (Blk.new _ 24 #[Value.bool false, Value.slice none 0 0]).ext hx3; obtain ⟨hk0, hk1, hk2, hk3, hk4⟩ := kb2.two))))
    all_goals
      rename_i hS
      have HS := Lib.hid hS
      clear hS
      go_wp2_with fail
    · skip
      have hbk := Blk.new w3 24 #[Value.bool b3, Value.slice A3 n3 c3]
      have hI := HI3.out.arr.ext ((Ext.refl w3).alloc (.cells #[Value.bool b3, Value.slice A3 n3 c3] 24))
      generalize w3.alloc (.cells #[Value.bool b3, Value.slice A3 n3 c3] 24) = wf at *
      generalize w3.heap.size = g at *
      have HBK := Lib.hid hbk
      have HII := Lib.hid hI
      clear hbk hI
      refine (HNAT.out _ _ (HO2.out.ext HS.out)).mono ?_
      rintro e5 w5 ⟨v5, rfl, hi5, hx5⟩
      have HI5 := Lib.hid hi5.arr
      have HX5 := Lib.hid (HS.out.trans hx5)
      have HB5 := Lib.hid (HBK.out.ext hx5)
      have HY5 := Lib.hid (HII.out.ext hx5)
      obtain ⟨b5, n5, A5, c5, rfl⟩ := hi5.shape
      clear hi5 hx5
      go_wp2_with fail
      refine (HTEN.out _).mono ?_
      rintro e6 w6 ⟨v6, rfl, hi6, hx6⟩
      have HI6 := Lib.hid hi6.arr
      have HI56 := Lib.hid (HI5.out.ext hx6)
      have HX6 := Lib.hid (HX5.out.trans hx6)
      have HB6 := Lib.hid (HB5.out.ext hx6)
      have HY6 := Lib.hid (HY5.out.ext hx6)
      obtain ⟨b6, n6, A6, c6, rfl⟩ := hi6.shape
      clear hi6 hx6
      go_wp2_with fail
      refine (HMUL.out _ _ _ HI56.out HI6.out).mono ?_
      rintro e7 w7 ⟨v7, rfl, hi7, hx7⟩
      have HI7 := Lib.hid hi7.arr
      have HX7 := Lib.hid (HX6.out.trans hx7)
      have HB7 := Lib.hid (HB6.out.ext hx7)
      have HY7 := Lib.hid (HY6.out.ext hx7)
      obtain ⟨b7, n7, A7, c7, rfl⟩ := hi7.shape
      clear hi7 hx7
      go_wp2_with fail
      refine (HDIG.out _).mono ?_
      rintro e8 w8 ⟨v8, rfl, hi8, hx8⟩
      have HI8 := Lib.hid hi8.arr
      have HI78 := Lib.hid (HI7.out.ext hx8)
      have HX8 := Lib.hid (HX7.out.trans hx8)
      have HB8 := Lib.hid (HB7.out.ext hx8)
      have HY8 := Lib.hid (HY7.out.ext hx8)
      obtain ⟨b8, n8, A8, c8, rfl⟩ := hi8.shape
      clear hi8 hx8
      go_wp2_with fail
      refine (HADD.out _ _ _ HI78.out HI8.out).mono ?_
      rintro e9 w9 ⟨v9, rfl, hi9, hx9⟩
      have HI9 := Lib.hid hi9.arr
      have HX9 := Lib.hid (HX8.out.trans hx9)
      have HY9 := Lib.hid (HY8.out.ext hx9)
      obtain ⟨hk0, hk1, hk2, hk3, hk4⟩ := (HB8.out.ext hx9).two
      obtain ⟨b9, n9, A9, c9, rfl⟩ := hi9.shape
      clear hi9 hx9
      go_wp2_with fail
      refine (HSAME.out _ _ _ (HY9.out.ext ((Ext.refl _).alloc _)) (HI9.out.ext ((Ext.refl _).alloc _))).mono ?_
      rintro e10 w10 ⟨rfl, hx10⟩
      simp only [decide_true]
      go_wp2_with fail
      go_ret
      exact ⟨rfl, HX2.out.trans ((HX9.out.alloc _).trans hx10)⟩
    · skip
      have hbk := (kb2.set_ 0 (.bool b3)).set_ 1 (.slice A3 n3 c3)
      have hI := ((HI3.out.far (p := ⟨w4.heap.size, 0, none⟩) (by simp) (.bool b3)).far (p := ⟨w4.heap.size, 1, none⟩) (by simp) (.slice A3 n3 c3)).arr
      clear kb2 hk0 hk1 hk2 hk3 hk4
      generalize (w3.setCell ⟨w4.heap.size, 0, none⟩ (.bool b3)).setCell ⟨w4.heap.size, 1, none⟩ (.slice A3 n3 c3) = wf at *
      generalize w4.heap.size = g at *
      have HBK := Lib.hid hbk
      have HII := Lib.hid hI
      clear hbk hI
      refine (HNAT.out _ _ (HO2.out.ext HS.out)).mono ?_
      rintro e5 w5 ⟨v5, rfl, hi5, hx5⟩
      have HI5 := Lib.hid hi5.arr
      have HX5 := Lib.hid (HS.out.trans hx5)
      have HB5 := Lib.hid (HBK.out.ext hx5)
      have HY5 := Lib.hid (HII.out.ext hx5)
      obtain ⟨b5, n5, A5, c5, rfl⟩ := hi5.shape
      clear hi5 hx5
      go_wp2_with fail
      refine (HTEN.out _).mono ?_
      rintro e6 w6 ⟨v6, rfl, hi6, hx6⟩
      have HI6 := Lib.hid hi6.arr
      have HI56 := Lib.hid (HI5.out.ext hx6)
      have HX6 := Lib.hid (HX5.out.trans hx6)
      have HB6 := Lib.hid (HB5.out.ext hx6)
      have HY6 := Lib.hid (HY5.out.ext hx6)
      obtain ⟨b6, n6, A6, c6, rfl⟩ := hi6.shape
      clear hi6 hx6
      go_wp2_with fail
      refine (HMUL.out _ _ _ HI56.out HI6.out).mono ?_
      rintro e7 w7 ⟨v7, rfl, hi7, hx7⟩
      have HI7 := Lib.hid hi7.arr
      have HX7 := Lib.hid (HX6.out.trans hx7)
      have HB7 := Lib.hid (HB6.out.ext hx7)
      have HY7 := Lib.hid (HY6.out.ext hx7)
      obtain ⟨b7, n7, A7, c7, rfl⟩ := hi7.shape
      clear hi7 hx7
      go_wp2_with fail
      refine (HDIG.out _).mono ?_
      rintro e8 w8 ⟨v8, rfl, hi8, hx8⟩
      have HI8 := Lib.hid hi8.arr
      have HI78 := Lib.hid (HI7.out.ext hx8)
      have HX8 := Lib.hid (HX7.out.trans hx8)
      have HB8 := Lib.hid (HB7.out.ext hx8)
      have HY8 := Lib.hid (HY7.out.ext hx8)
      obtain ⟨b8, n8, A8, c8, rfl⟩ := hi8.shape
      clear hi8 hx8
      go_wp2_with fail
      refine (HADD.out _ _ _ HI78.out HI8.out).mono ?_
      rintro e9 w9 ⟨v9, rfl, hi9, hx9⟩
      have HI9 := Lib.hid hi9.arr
      have HX9 := Lib.hid (HX8.out.trans hx9)
      have HY9 := Lib.hid (HY8.out.ext hx9)
      obtain ⟨hk0, hk1, hk2, hk3, hk4⟩ := (HB8.out.ext hx9).two
      obtain ⟨b9, n9, A9, c9, rfl⟩ := hi9.shape
      clear hi9 hx9
      go_wp2_with fail
      refine (HSAME.out _ _ _ (HY9.out.ext ((Ext.refl _).alloc _)) (HI9.out.ext ((Ext.refl _).alloc _))).mono ?_
      rintro e10 w10 ⟨rfl, hx10⟩
      simp only [decide_true]
      go_wp2_with fail
      go_ret
      exact ⟨rfl, HX2.out.trans ((HX9.out.alloc _).trans hx10)⟩
    · skip
      have hbk := (kb2.set_ 0 (.bool b3)).set_ 1 (.slice A3 n3 c3)
      have hI := ((HI3.out.far (p := ⟨w2.heap.size, 0, none⟩) (by simp; omega) (.bool b3)).far (p := ⟨w2.heap.size, 1, none⟩) (by simp; omega) (.slice A3 n3 c3)).arr
      clear kb kb2 hk0 hk1 hk2 hk3 hk4
      generalize (w3.setCell ⟨w2.heap.size, 0, none⟩ (.bool b3)).setCell ⟨w2.heap.size, 1, none⟩ (.slice A3 n3 c3) = wf at *
      generalize w2.heap.size = g at *
      have HBK := Lib.hid hbk
      have HII := Lib.hid hI
      clear hbk hI
      refine (HNAT.out _ _ (HO2.out.ext HS.out)).mono ?_
      rintro e5 w5 ⟨v5, rfl, hi5, hx5⟩
      have HI5 := Lib.hid hi5.arr
      have HX5 := Lib.hid (HS.out.trans hx5)
      have HB5 := Lib.hid (HBK.out.ext hx5)
      have HY5 := Lib.hid (HII.out.ext hx5)
      obtain ⟨b5, n5, A5, c5, rfl⟩ := hi5.shape
      clear hi5 hx5
      go_wp2_with fail
      refine (HTEN.out _).mono ?_
      rintro e6 w6 ⟨v6, rfl, hi6, hx6⟩
      have HI6 := Lib.hid hi6.arr
      have HI56 := Lib.hid (HI5.out.ext hx6)
      have HX6 := Lib.hid (HX5.out.trans hx6)
      have HB6 := Lib.hid (HB5.out.ext hx6)
      have HY6 := Lib.hid (HY5.out.ext hx6)
      obtain ⟨b6, n6, A6, c6, rfl⟩ := hi6.shape
      clear hi6 hx6
      go_wp2_with fail
      refine (HMUL.out _ _ _ HI56.out HI6.out).mono ?_
      rintro e7 w7 ⟨v7, rfl, hi7, hx7⟩
      have HI7 := Lib.hid hi7.arr
      have HX7 := Lib.hid (HX6.out.trans hx7)
      have HB7 := Lib.hid (HB6.out.ext hx7)
      have HY7 := Lib.hid (HY6.out.ext hx7)
      obtain ⟨b7, n7, A7, c7, rfl⟩ := hi7.shape
      clear hi7 hx7
      go_wp2_with fail
      refine (HDIG.out _).mono ?_
      rintro e8 w8 ⟨v8, rfl, hi8, hx8⟩
      have HI8 := Lib.hid hi8.arr
      have HI78 := Lib.hid (HI7.out.ext hx8)
      have HX8 := Lib.hid (HX7.out.trans hx8)
      have HB8 := Lib.hid (HB7.out.ext hx8)
      have HY8 := Lib.hid (HY7.out.ext hx8)
      obtain ⟨b8, n8, A8, c8, rfl⟩ := hi8.shape
      clear hi8 hx8
      go_wp2_with fail
      refine (HADD.out _ _ _ HI78.out HI8.out).mono ?_
      rintro e9 w9 ⟨v9, rfl, hi9, hx9⟩
      have HI9 := Lib.hid hi9.arr
      have HX9 := Lib.hid (HX8.out.trans hx9)
      have HY9 := Lib.hid (HY8.out.ext hx9)
      obtain ⟨hk0, hk1, hk2, hk3, hk4⟩ := (HB8.out.ext hx9).two
      obtain ⟨b9, n9, A9, c9, rfl⟩ := hi9.shape
      clear hi9 hx9
      go_wp2_with fail
      refine (HSAME.out _ _ _ (HY9.out.ext ((Ext.refl _).alloc _)) (HI9.out.ext ((Ext.refl _).alloc _))).mono ?_
      rintro e10 w10 ⟨rfl, hx10⟩
      simp only [decide_true]
      go_wp2_with fail
      go_ret
      exact ⟨rfl, HX2.out.trans ((HX9.out.alloc _).trans hx10)⟩

theorem sums_big (w : World) (A : Option Addr) (len c : Nat) (d : Int) (h : 30 < len) (hT : Tab16 w) :
    Calls Tryd.prog 7 #[.slice A len c, .int .i64 d] w fun e w' => e = .returned (.bool true) ∧ Ext w w' := by
  have HT := Lib.hid hT
  have HM := Lib.hid (fun W => mnat_big W A len c 30 (by omega))
  clear hT h
  go_enter Tryd.func7, Tryd.ntmps7
  go_wp2_with fail
  refine (awake_any _ HT.out).mono ?_
  rintro e1 w1 ⟨rfl, hx1⟩
  have HX1 := Lib.hid hx1; clear hx1
  go_wp2_with fail
  refine (HM.out _).mono ?_
  rintro e2 w2 ⟨rfl, rfl⟩
  go_wp2_with fail
  go_ret
  exact ⟨rfl, HX1.out⟩

theorem sums_any (w : World) (v : Value) (xs : List Nat) (d : Int) (h : Arr w v xs) (hb : -9223372036854775808 ≤ d ∧ d ≤ 9223372036854775807) (hT : Tab16 w) :
    Calls Tryd.prog 7 #[v, .int .i64 d] w fun e w' => e = .returned (.bool true) ∧ Ext w w' := by
  rcases Nat.lt_or_ge 30 xs.length with hb' | hs
  · obtain ⟨n, A, c, rfl⟩ := h.shape
    have := h.len
    exact sums_big w A n c d (by omega) hT
  · exact sums_small w v xs d h hs hb hT
end Big
end Go.Proofs.YtdijknnlldjgmaaDoor
