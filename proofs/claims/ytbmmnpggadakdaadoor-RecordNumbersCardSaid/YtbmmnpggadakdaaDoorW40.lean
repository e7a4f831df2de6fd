import Derived.Test.YtbmmnpggadakdaaDoorW12
import Derived.Test.YtbmmnpggadakdaaDoorW1
import Derived.Test.YtbmmnpggadakdaaDoorWk
/- An integer as an int. -/
namespace Go.Proofs.YtbmmnpggadakdaaDoor
namespace Big
open Go.RowKit
theorem val_one (x : Nat) : val [x] = x := by simp [val]
theorem val_two (x y : Nat) : val [x, y] = x + 4294967296 * y := by simp [val]
theorem uint_any (w : World) (v : Value) (N : Nat) (h : Arr w v (limbs N)) (hN : N < 18446744073709551616) :
    Calls Tryd.prog 44 #[v] w fun e w' => e = .returned (.tuple #[.int .u64 (N : Int), .bool true]) ∧ Ext w w' := by
  have HS := size_any w v _ h
  have hl : (limbs N).length ≤ 2 := length_limbs_le (by simpa using hN)
  rw [size_eq h.ok, val_limbs] at HS
  obtain ⟨hok, A, c, rfl, hc, hm, hcell⟩ := h.open
  have HV := Lib.hid (val_limbs N)
  have hg0 := hok.get 0
  have hg1 := hok.get 1
  clear hc hm h hN
  generalize limbs N = xs at *
  match xs, hl with
  | [], _ =>
    have HV2 := Lib.hid (show N = 0 by rw [← HV.out]; rfl)
    have HS := Lib.hid HS
    clear hcell
    go_enter Tryd.func44, Tryd.ntmps44
    go_wp2_with fail
    refine HS.out.mono ?_
    rintro e w' ⟨rfl, rfl⟩
    go_wp2_with fail
    go_ret2
    rw [HV2.out]
    exact ⟨rfl, Ext.refl _⟩
  | [x], _ =>
    have HV2 := Lib.hid (show x = N by rw [← HV.out, val_one])
    obtain ⟨b, o, rfl, hb, hcell⟩ := hcell (by simp)
    have hx := hcell 0 (by simp)
    have HS := Lib.hid HS
    clear hcell hok hg1
    simp only [List.getD_cons_zero, d32, Nat.add_zero] at hx hg0
    go_enter Tryd.func44, Tryd.ntmps44
    go_wp2_with fail
    refine HS.out.mono ?_
    rintro e w' ⟨rfl, rfl⟩
    go_wp2_with fail
    go_ret2
    exact ⟨congrArg (fun n : Nat => Ending.returned (.tuple #[.int .u64 (n : Int), .bool true])) HV2.out, Ext.refl _⟩
  | [x, y], _ =>
    have HV2 := Lib.hid (show y * 4294967296 + x = N by rw [← HV.out, val_two]; omega)
    obtain ⟨b, o, rfl, hb, hcell⟩ := hcell (by simp)
    have hx := hcell 0 (by simp)
    have hy := hcell 1 (by simp)
    have HS := Lib.hid HS
    simp only [List.getD_cons_zero, List.getD_cons_succ, d32, Nat.add_zero] at hx hy hg0 hg1
    have hor := or_low y x hg1 hg0
    clear hcell hok
    go_enter Tryd.func44, Tryd.ntmps44
    go_wp2_with fail
    refine HS.out.mono ?_
    rintro e w' ⟨rfl, rfl⟩
    go_wp2_with fail
    have hw1 : IntKind.u64.wrap ((y : Int) * 4294967296) = (y : Int) * 4294967296 := IntWalk.u64_in _ (by omega)
    go_quiet (fail)
    go_wp2_with fail
    go_ret2
    exact ⟨congrArg (fun n : Nat => Ending.returned (.tuple #[.int .u64 (n : Int), .bool true])) HV2.out, (Ext.refl w).drewN _⟩
theorem uint_big (w : World) (v : Value) (N : Nat) (h : Arr w v (limbs N)) (hN : 18446744073709551616 ≤ N) :
    Calls Tryd.prog 44 #[v] w fun e w' => e = .returned (.tuple #[.int .u64 0, .bool false]) ∧ Ext w w' := by
  have HS := size_any w v _ h
  have hl : 3 ≤ (limbs N).length := by
    rcases Nat.lt_or_ge (limbs N).length 3 with h1 | h1
    · have h2 := val_lt (ok_limbs N)
      rw [val_limbs] at h2
      have h3 := pow_mono (show (limbs N).length ≤ 2 by omega)
      have h4 : 4294967296 ^ 2 = 18446744073709551616 := by decide
      omega
    · exact h1
  rw [size_eq h.ok, val_limbs] at HS
  obtain ⟨hok, A, c, rfl, hc, hm, hcell⟩ := h.open
  have h0 : (((limbs N).length : Int) == 0) = false := by rw [beq_eq_false_iff_ne]; omega
  have h1 : (((limbs N).length : Int) == 1) = false := by rw [beq_eq_false_iff_ne]; omega
  have h2 : (((limbs N).length : Int) == 2) = false := by rw [beq_eq_false_iff_ne]; omega
  have HS := Lib.hid HS
  clear hcell hok hm hc h hl
  generalize (limbs N).length = n at *
  go_enter Tryd.func44, Tryd.ntmps44
  go_wp2_with fail
  refine HS.out.mono ?_
  rintro e w' ⟨rfl, rfl⟩
  go_wp2_with fail
  go_ret2
  exact ⟨rfl, Ext.refl _⟩
theorem ruint_any (w : World) (v : Value) (N : Nat) (h : Arr w v (limbs N)) (hN : N < 18446744073709551616) :
    Calls Tryd.prog 47 #[v] w fun e w' => e = .returned (.tuple #[.int .u64 (N : Int), .bool true]) ∧ Ext w w' := by
  have hl : (limbs N).length ≤ 2 := length_limbs_le (by simpa using hN)
  obtain ⟨hok, A, c, rfl, hc, hm, hcell⟩ := h.open
  have HV := Lib.hid (val_limbs N)
  have hg0 := hok.get 0
  have hg1 := hok.get 1
  clear hc hm h hN
  generalize limbs N = xs at *
  match xs, hl with
  | [], _ =>
    have HV2 := Lib.hid (show N = 0 by rw [← HV.out]; rfl)
    clear hcell
    go_enter Tryd.func47, Tryd.ntmps47
    go_wp2_with fail
    go_rounds 1
    go_ret2
    rw [HV2.out]
    exact ⟨rfl, Ext.refl _⟩
  | [x], _ =>
    have HV2 := Lib.hid (show x = N by rw [← HV.out, val_one])
    obtain ⟨b, o, rfl, hb, hcell⟩ := hcell (by simp)
    have hx := hcell 0 (by simp)
    clear hcell hok hg1
    simp only [List.getD_cons_zero, d32, Nat.add_zero] at hx hg0
    go_enter Tryd.func47, Tryd.ntmps47
    go_wp2_with fail
    go_rounds 2
    go_ret2
    exact ⟨congrArg (fun n : Nat => Ending.returned (.tuple #[.int .u64 (n : Int), .bool true])) HV2.out, Ext.refl _⟩
  | [x, y], _ =>
    have HV2 := Lib.hid (show x + y * 4294967296 = N by rw [← HV.out, val_two]; omega)
    obtain ⟨b, o, rfl, hb, hcell⟩ := hcell (by simp)
    have hx := hcell 0 (by simp)
    have hy := hcell 1 (by simp)
    simp only [List.getD_cons_zero, List.getD_cons_succ, d32, Nat.add_zero] at hx hy hg0 hg1
    have hw1 : IntKind.u64.wrap ((y : Int) * 4294967296) = (y : Int) * 4294967296 := IntWalk.u64_in _ (by omega)
    clear hcell hok
    go_enter Tryd.func47, Tryd.ntmps47
    go_wp2_with fail
    go_rounds 3
    go_ret2
    exact ⟨congrArg (fun n : Nat => Ending.returned (.tuple #[.int .u64 (n : Int), .bool true])) HV2.out, Ext.refl _⟩
end Big
end Go.Proofs.YtbmmnpggadakdaaDoor
