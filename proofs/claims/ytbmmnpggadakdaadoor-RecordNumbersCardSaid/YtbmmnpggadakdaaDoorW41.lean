import Derived.Test.YtbmmnpggadakdaaDoorW40
/- integer.Int, ref05.Int. -/
namespace Go.Proofs.YtbmmnpggadakdaaDoor
namespace Big
open Go.RowKit
theorem ruint_big (w : World) (v : Value) (N : Nat) (h : Arr w v (limbs N)) (hN : 18446744073709551616 ≤ N) :
    Calls Tryd.prog 47 #[v] w fun e w' => e = .returned (.tuple #[.int .u64 0, .bool false]) ∧ Ext w w' := by
  have hl : 3 ≤ (limbs N).length := by
    rcases Nat.lt_or_ge (limbs N).length 3 with h1 | h1
    · have h2 := val_lt (ok_limbs N)
      rw [val_limbs] at h2
      have h3 := pow_mono (show (limbs N).length ≤ 2 by omega)
      have h4 : 4294967296 ^ 2 = 18446744073709551616 := by decide
      omega
    · exact h1
  obtain ⟨hok, A, c, rfl, hc, hm, hcell⟩ := h.open
  have hg0 := hok.get 0
  have hg1 := hok.get 1
  have hg2 := hok.get 2
  clear hc hm h hN
  generalize limbs N = xs at *
  match xs, hl with
  | x :: y :: z :: r, _ =>
    obtain ⟨b, o, rfl, hb, hcell⟩ := hcell (by simp)
    have hx := hcell 0 (by simp)
    have hy := hcell 1 (by simp)
    have hz := hcell 2 (by simp)
    simp only [List.getD_cons_zero, List.getD_cons_succ, d32, Nat.add_zero] at hx hy hz hg0 hg1 hg2
    have hw1 : IntKind.u64.wrap ((y : Int) * 4294967296) = (y : Int) * 4294967296 := IntWalk.u64_in _ (by omega)
    have hl0 : (0 : Int) < ((x :: y :: z :: r).length : Int) := by simp only [List.length_cons]; omega
    have hl1 : (1 : Int) < ((x :: y :: z :: r).length : Int) := by simp only [List.length_cons]; omega
    have hl2 : (2 : Int) < ((x :: y :: z :: r).length : Int) := by simp only [List.length_cons]; omega
    generalize (x :: y :: z :: r).length = n at *
    clear hcell hok
    go_enter Tryd.func47, Tryd.ntmps47
    go_wp2_with fail
    go_rounds 3
    go_ret2
    exact ⟨rfl, Ext.refl _⟩
/-- An integer as an int, and whether it is one. -/
def intS (z : Int) : Int × Bool := if -9223372036854775808 ≤ z ∧ z ≤ 9223372036854775807 then (z, true) else (0, false)
theorem neg_wrap (N : Nat) (h : N ≤ 9223372036854775808) (h0 : 0 < N) : wrap64 (IntKind.u64.wrap (-(N : Int))) = -(N : Int) := by
  rw [IntKind.wrap_u64]; unfold wrap64; omega
set_option maxRecDepth 100000 in
theorem iint_any (w : World) (v : Value) (z : Int) (h : ArrInt w v z) :
    Calls Tryd.prog 29 #[v] w fun e w' => e = .returned (.tuple #[.int .i64 (intS z).1, .bool (intS z).2]) ∧ Ext w w' := by
  have HA := Lib.hid h
  obtain ⟨b, n, A, c, rfl⟩ := h.shape
  have hs := h.sign
  have hx0 := (Ext.refl w).alloc (.cells #[Value.bool b, Value.slice A n c] 49)
  clear h
  rcases Nat.lt_or_ge z.natAbs 18446744073709551616 with hN | hN
  · have HU := Lib.hid (fun W hx => uint_any W _ z.natAbs (HA.out.mag.ext hx) hN)
    have key : (b = false ∧ ((z.natAbs : Int) < 9223372036854775808 ∧ intS z = ((z.natAbs : Int), true) ∨ ¬ (z.natAbs : Int) < 9223372036854775808 ∧ intS z = (0, false))) ∨
        (b = true ∧ ((z.natAbs : Int) ≤ 9223372036854775808 ∧ 0 < z.natAbs ∧ intS z = (-(z.natAbs : Int), true) ∨ 9223372036854775808 < (z.natAbs : Int) ∧ intS z = (0, false))) := by
      by_cases hz : z < 0
      · refine .inr ⟨by rw [hs, decide_eq_true hz], ?_⟩
        by_cases h63 : z.natAbs ≤ 9223372036854775808
        · refine .inl ⟨by omega, by omega, ?_⟩
          unfold intS
          rw [if_pos (by omega)]
          congr 1
          omega
        · refine .inr ⟨by omega, ?_⟩
          unfold intS
          rw [if_neg (by omega)]
      · refine .inl ⟨by rw [hs, decide_eq_false hz], ?_⟩
        by_cases h63 : z.natAbs < 9223372036854775808
        · refine .inl ⟨by omega, ?_⟩
          unfold intS
          rw [if_pos (by omega)]
          congr 1
          omega
        · refine .inr ⟨by omega, ?_⟩
          unfold intS
          rw [if_neg (by omega)]
    clear hs
    have HX0 := Lib.hid hx0
    clear hx0 hN
    generalize intS z = q at *
    generalize z.natAbs = N at *
    rcases key with ⟨rfl, ⟨h1, rfl⟩ | ⟨h1, rfl⟩⟩ | ⟨rfl, ⟨h1, h2, rfl⟩ | ⟨h1, rfl⟩⟩
    · go_enter Tryd.func29, Tryd.ntmps29
      go_wp2_with fail
      refine (HU.out _ HX0.out).mono ?_
      rintro e w1 ⟨rfl, hx⟩
      obtain ⟨k0, k1, k2, k3, k4⟩ := ((Blk.new w 49 #[Value.bool false, Value.slice A n c]).ext hx).two
      have HX := Lib.hid (HX0.out.trans hx); clear hx
      go_wp2_with fail
      go_ret2
      exact ⟨rfl, HX.out⟩
    · have hd : decide ((N : Int) < 9223372036854775808) = false := decide_eq_false h1
      clear h1
      go_enter Tryd.func29, Tryd.ntmps29
      go_wp2_with fail
      refine (HU.out _ HX0.out).mono ?_
      rintro e w1 ⟨rfl, hx⟩
      obtain ⟨k0, k1, k2, k3, k4⟩ := ((Blk.new w 49 #[Value.bool false, Value.slice A n c]).ext hx).two
      have HX := Lib.hid (HX0.out.trans hx); clear hx
      go_wp2_with fail
      go_ret2
      exact ⟨rfl, HX.out⟩
    · have HW := Lib.hid (neg_wrap N (by omega) h2)
      go_enter Tryd.func29, Tryd.ntmps29
      go_wp2_with fail
      refine (HU.out _ HX0.out).mono ?_
      rintro e w1 ⟨rfl, hx⟩
      obtain ⟨k0, k1, k2, k3, k4⟩ := ((Blk.new w 49 #[Value.bool true, Value.slice A n c]).ext hx).two
      have HX := Lib.hid (HX0.out.trans hx); clear hx
      go_wp2_with fail
      go_ret2
      exact ⟨congrArg (fun z => Ending.returned (.tuple #[.int .i64 z, .bool true])) HW.out, HX.out⟩
    · have h1' : ¬ (N : Int) ≤ 9223372036854775808 := by omega
      go_enter Tryd.func29, Tryd.ntmps29
      go_wp2_with fail
      refine (HU.out _ HX0.out).mono ?_
      rintro e w1 ⟨rfl, hx⟩
      obtain ⟨k0, k1, k2, k3, k4⟩ := ((Blk.new w 49 #[Value.bool true, Value.slice A n c]).ext hx).two
      have HX := Lib.hid (HX0.out.trans hx); clear hx
      go_wp2_with fail
      go_ret2
      exact ⟨rfl, HX.out⟩
  · have HU := Lib.hid (fun W hx => uint_big W _ z.natAbs (HA.out.mag.ext hx) hN)
    have hq : intS z = (0, false) := by unfold intS; rw [if_neg (by omega)]
    rw [hq]
    have HX0 := Lib.hid hx0
    clear hq hs hx0 hN
    go_enter Tryd.func29, Tryd.ntmps29
    go_wp2_with fail
    refine (HU.out _ HX0.out).mono ?_
    rintro e w1 ⟨rfl, hx⟩
    obtain ⟨k0, k1, k2, k3, k4⟩ := ((Blk.new w 49 #[Value.bool b, Value.slice A n c]).ext hx).two
    have HX := Lib.hid (HX0.out.trans hx); clear hx
    go_wp2_with fail
    go_ret2
    exact ⟨rfl, HX.out⟩
set_option maxRecDepth 100000 in
theorem rint_any (w : World) (v : Value) (z : Int) (h : ArrInt w v z) :
    Calls Tryd.prog 31 #[v] w fun e w' => e = .returned (.tuple #[.int .i64 (intS z).1, .bool (intS z).2]) ∧ Ext w w' := by
  have HA := Lib.hid h
  obtain ⟨b, n, A, c, rfl⟩ := h.shape
  have hs := h.sign
  have hx0 := (Ext.refl w).alloc (.cells #[Value.bool b, Value.slice A n c] 49)
  clear h
  rcases Nat.lt_or_ge z.natAbs 18446744073709551616 with hN | hN
  · have HU := Lib.hid (fun W hx => ruint_any W _ z.natAbs (HA.out.mag.ext hx) hN)
    have key : (b = false ∧ ((z.natAbs : Int) < 9223372036854775808 ∧ intS z = ((z.natAbs : Int), true) ∨ ¬ (z.natAbs : Int) < 9223372036854775808 ∧ intS z = (0, false))) ∨
        (b = true ∧ ((z.natAbs : Int) ≤ 9223372036854775808 ∧ 0 < z.natAbs ∧ intS z = (-(z.natAbs : Int), true) ∨ 9223372036854775808 < (z.natAbs : Int) ∧ intS z = (0, false))) := by
      by_cases hz : z < 0
      · refine .inr ⟨by rw [hs, decide_eq_true hz], ?_⟩
        by_cases h63 : z.natAbs ≤ 9223372036854775808
        · refine .inl ⟨by omega, by omega, ?_⟩
          unfold intS
          rw [if_pos (by omega)]
          congr 1
          omega
        · refine .inr ⟨by omega, ?_⟩
          unfold intS
          rw [if_neg (by omega)]
      · refine .inl ⟨by rw [hs, decide_eq_false hz], ?_⟩
        by_cases h63 : z.natAbs < 9223372036854775808
        · refine .inl ⟨by omega, ?_⟩
          unfold intS
          rw [if_pos (by omega)]
          congr 1
          omega
        · refine .inr ⟨by omega, ?_⟩
          unfold intS
          rw [if_neg (by omega)]
    clear hs
    have HX0 := Lib.hid hx0
    clear hx0 hN
    generalize intS z = q at *
    generalize z.natAbs = N at *
    rcases key with ⟨rfl, ⟨h1, rfl⟩ | ⟨h1, rfl⟩⟩ | ⟨rfl, ⟨h1, h2, rfl⟩ | ⟨h1, rfl⟩⟩
    · have hd : decide ((9223372036854775807 : Int) < (N : Int)) = false := decide_eq_false (by omega)
      have HW := Lib.hid (show wrap64 (N : Int) = (N : Int) by unfold wrap64; omega)
      clear h1
      go_enter Tryd.func31, Tryd.ntmps31
      go_wp2_with fail
      refine (HU.out _ HX0.out).mono ?_
      rintro e w1 ⟨rfl, hx⟩
      obtain ⟨k0, k1, k2, k3, k4⟩ := ((Blk.new w 49 #[Value.bool false, Value.slice A n c]).ext hx).two
      have HX := Lib.hid (HX0.out.trans hx); clear hx
      go_wp2_with fail
      go_ret2
      exact ⟨congrArg (fun z => Ending.returned (.tuple #[.int .i64 z, .bool true])) HW.out, HX.out⟩
    · have hd : decide ((9223372036854775807 : Int) < (N : Int)) = true := decide_eq_true (by omega)
      clear h1
      go_enter Tryd.func31, Tryd.ntmps31
      go_wp2_with fail
      refine (HU.out _ HX0.out).mono ?_
      rintro e w1 ⟨rfl, hx⟩
      obtain ⟨k0, k1, k2, k3, k4⟩ := ((Blk.new w 49 #[Value.bool false, Value.slice A n c]).ext hx).two
      have HX := Lib.hid (HX0.out.trans hx); clear hx
      go_wp2_with fail
      go_ret2
      exact ⟨rfl, HX.out⟩
    · have HW := Lib.hid (neg_wrap N (by omega) h2)
      have hd : decide ((9223372036854775808 : Int) < (N : Int)) = false := decide_eq_false (by omega)
      clear h1 h2
      go_enter Tryd.func31, Tryd.ntmps31
      go_wp2_with fail
      refine (HU.out _ HX0.out).mono ?_
      rintro e w1 ⟨rfl, hx⟩
      obtain ⟨k0, k1, k2, k3, k4⟩ := ((Blk.new w 49 #[Value.bool true, Value.slice A n c]).ext hx).two
      have HX := Lib.hid (HX0.out.trans hx); clear hx
      go_wp2_with fail
      go_ret2
      exact ⟨congrArg (fun z => Ending.returned (.tuple #[.int .i64 z, .bool true])) HW.out, HX.out⟩
    · have hd : decide ((9223372036854775808 : Int) < (N : Int)) = true := decide_eq_true (by omega)
      clear h1
      go_enter Tryd.func31, Tryd.ntmps31
      go_wp2_with fail
      refine (HU.out _ HX0.out).mono ?_
      rintro e w1 ⟨rfl, hx⟩
      obtain ⟨k0, k1, k2, k3, k4⟩ := ((Blk.new w 49 #[Value.bool true, Value.slice A n c]).ext hx).two
      have HX := Lib.hid (HX0.out.trans hx); clear hx
      go_wp2_with fail
      go_ret2
      exact ⟨rfl, HX.out⟩
  · have HU := Lib.hid (fun W hx => ruint_big W _ z.natAbs (HA.out.mag.ext hx) hN)
    have hq : intS z = (0, false) := by unfold intS; rw [if_neg (by omega)]
    rw [hq]
    have HX0 := Lib.hid hx0
    clear hq hs hx0 hN
    go_enter Tryd.func31, Tryd.ntmps31
    go_wp2_with fail
    refine (HU.out _ HX0.out).mono ?_
    rintro e w1 ⟨rfl, hx⟩
    obtain ⟨k0, k1, k2, k3, k4⟩ := ((Blk.new w 49 #[Value.bool b, Value.slice A n c]).ext hx).two
    have HX := Lib.hid (HX0.out.trans hx); clear hx
    go_wp2_with fail
    go_ret2
    exact ⟨rfl, HX.out⟩
end Big
end Go.Proofs.YtbmmnpggadakdaaDoor
