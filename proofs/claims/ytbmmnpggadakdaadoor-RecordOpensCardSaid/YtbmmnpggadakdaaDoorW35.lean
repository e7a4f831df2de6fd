import Derived.Test.YtbmmnpggadakdaaDoorStr
import Derived.Test.YtbmmnpggadakdaaDoorWk
import Derived.Test.YtbmmnpggadakdaaDoorW33
/- The sum of a text, sealed texts. -/
namespace Go.Proofs.YtbmmnpggadakdaaDoor
namespace Big
open Go.RowKit

def fnvStep (h : Nat) (c : UInt8) : Nat := ((h ^^^ c.toNat) * 1099511628211) % 18446744073709551616
def fnv (l : List UInt8) : Nat := l.foldl fnvStep 14695981039346656037
theorem fnv_take (l : List UInt8) (k : Nat) (h : k < l.length) : fnv (l.take (k + 1)) = fnvStep (fnv (l.take k)) l[k] := by
  unfold fnv; rw [List.take_succ_eq_append_getElem h, List.foldl_append, List.foldl_cons, List.foldl_nil]
theorem fnvStep_lt (h : Nat) (c : UInt8) : fnvStep h c < 18446744073709551616 := Nat.mod_lt _ (by omega)
theorem fnv_lt (l : List UInt8) : fnv l < 18446744073709551616 := by
  rcases List.eq_nil_or_concat l with rfl | ⟨t, c, rfl⟩
  · rw [fnv, List.foldl_nil]; omega
  · unfold fnv; rw [List.concat_eq_append, List.foldl_append, List.foldl_cons, List.foldl_nil]; exact fnvStep_lt _ _
theorem xor_step (h b : Nat) (hh : h < 18446744073709551616) (hb : b < 256) : bits .xor .u64 (h : Int) (b : Int) = ((h ^^^ b : Nat) : Int) := bits_xor_u64_nat h b hh (by omega)
theorem wrap_step (x : Nat) : IntKind.u64.wrap ((x : Int) * 1099511628211) = ((x * 1099511628211 % 18446744073709551616 : Nat) : Int) := by
  rw [IntKind.wrap_u64]; omega

theorem sum_any (w : World) (l : List UInt8) (hl : l.length ≤ 1073741824) : Calls Tryd.prog 9 #[str l] w fun e w' => e = .returned (.int .u64 (fnv l : Int)) ∧ w = w' := by
  have H0 := Lib.hid (show fnv [] = 14695981039346656037 by rw [fnv, List.foldl_nil])
  go_enter Tryd.func9, Tryd.ntmps9
  go_wp2_with fail
  go_loop [3, 7] (fun hh i => ∃ k H : Nat, k ≤ l.length ∧ H < 18446744073709551616 ∧ i = .int .i64 k ∧ hh = .int .u64 H ∧ Hid (H = fnv (l.take k))) (fun _ i => l.length - (intOf i).toNat)
  case atStart => exact ⟨0, 14695981039346656037, by omega, by omega, rfl, rfl, H0.out.symm⟩
  case round =>
    obtain ⟨k, H, hk, hH, rfl, rfl, HK⟩ := hrel
    by_cases hlt : k < l.length
    · have HN : Hid (fnvStep H l[k] = fnv (l.take (k + 1))) := Lib.hid (by rw [fnv_take l k hlt, HK.out])
      have HB := Lib.hid (byteAt_eq l k hlt)
      have hb := byteAt_lt l k
      have hst := fnvStep_lt H l[k]
      have HS : Hid (fnvStep H l[k] = (H ^^^ byteAt l k) * 1099511628211 % 18446744073709551616) := Lib.hid (by rw [HB.out]; rfl)
      generalize l[k] = c at *
      generalize fnvStep H c = H2 at *
      obtain ⟨b, hbb⟩ : ∃ b, byteAt l k = b := ⟨_, rfl⟩
      rw [hbb] at hb HS
      have hx := xor_step H b hH hb
      have hwr := wrap_step (H ^^^ b)
      rw [← HS.out] at hwr
      generalize H ^^^ b = x at *
      clear HS HB
      go_wp2
      go_round
      case rel => exact ⟨k + 1, H2, by omega, hst, by go_num, rfl, HN⟩
      case measure => simp [intOf]; omega
    · obtain rfl : k = l.length := by omega
      have HF : Hid (H = fnv l) := Lib.hid (by rw [HK.out, List.take_of_length_le (Nat.le_refl _)])
      go_wp2
      go_ret
      exact ⟨congrArg (fun n : Nat => Ending.returned (.int .u64 (n : Int))) HF.out, rfl⟩
theorem rsum_any (w : World) (l : List UInt8) (hl : l.length ≤ 1073741824) : Calls Tryd.prog 10 #[str l] w fun e w' => e = .returned (.int .u64 (fnv l : Int)) ∧ w = w' := by
  have H0 := Lib.hid (show fnv [] = 14695981039346656037 by rw [fnv, List.foldl_nil])
  go_enter Tryd.func10, Tryd.ntmps10
  go_wp2_with fail
  go_loop [3, 4] (fun hh i => ∃ k H : Nat, k ≤ l.length ∧ H < 18446744073709551616 ∧ i = .int .i64 k ∧ hh = .int .u64 H ∧ Hid (H = fnv (l.take k))) (fun _ i => l.length - (intOf i).toNat)
  case atStart => exact ⟨0, 14695981039346656037, by omega, by omega, rfl, rfl, H0.out.symm⟩
  case round =>
    obtain ⟨k, H, hk, hH, rfl, rfl, HK⟩ := hrel
    by_cases hlt : k < l.length
    · have HN : Hid (fnvStep H l[k] = fnv (l.take (k + 1))) := Lib.hid (by rw [fnv_take l k hlt, HK.out])
      have HB := Lib.hid (byteAt_eq l k hlt)
      have hb := byteAt_lt l k
      have hst := fnvStep_lt H l[k]
      have HS : Hid (fnvStep H l[k] = (H ^^^ byteAt l k) * 1099511628211 % 18446744073709551616) := Lib.hid (by rw [HB.out]; rfl)
      generalize l[k] = c at *
      generalize fnvStep H c = H2 at *
      obtain ⟨b, hbb⟩ : ∃ b, byteAt l k = b := ⟨_, rfl⟩
      rw [hbb] at hb HS
      have hx := xor_step H b hH hb
      have hwr := wrap_step (H ^^^ b)
      rw [← HS.out] at hwr
      generalize H ^^^ b = x at *
      clear HS HB
      go_wp2
      go_round
      case rel => exact ⟨k + 1, H2, by omega, hst, by go_num, rfl, HN⟩
      case measure => simp [intOf]; omega
    · obtain rfl : k = l.length := by omega
      have HF : Hid (H = fnv l) := Lib.hid (by rw [HK.out, List.take_of_length_le (Nat.le_refl _)])
      go_wp2
      go_ret
      exact ⟨congrArg (fun n : Nat => Ending.returned (.int .u64 (n : Int))) HF.out, rfl⟩
/-- A text, sealed. -/
def sealS (l : List UInt8) : List UInt8 := l ++ [115, 117, 109, 32] ++ hex16 (fnv l) ++ [10]
theorem seal_adds (l h : List UInt8) (hl : l.length ≤ 536870912) (hh : h.length = 16) (W : World) :
    (binOp .add 9 (str l) (.string ⟨#[115, 117, 109, 32]⟩)).run Tryd.prog W = .ok (str (l ++ [115, 117, 109, 32])) W ∧
    (binOp .add 9 (str (l ++ [115, 117, 109, 32])) (str h)).run Tryd.prog W = .ok (str (l ++ [115, 117, 109, 32] ++ h)) W ∧
    (binOp .add 9 (str (l ++ [115, 117, 109, 32] ++ h)) (.string ⟨#[10]⟩)).run Tryd.prog W = .ok (str (l ++ [115, 117, 109, 32] ++ h ++ [10])) W :=
  ⟨run_add_str l [115, 117, 109, 32] (by simp; omega) W, run_add_str _ _ (by simp; omega) W, run_add_str _ [10] (by simp; omega) W⟩
theorem seal_any (w : World) (l : List UInt8) (hl : l.length ≤ 536870912) (hT : Tab16 w) : Calls Tryd.prog 11 #[str l] w fun e w' => e = .returned (str (sealS l)) ∧ Ext w w' := by
  have HS := Lib.hid (fun W => sum_any W l (by omega))
  have HH := Lib.hid (fun W hT => hex_any W (fnv l) (fnv_lt l) hT)
  have HT := Lib.hid hT
  have hlen : (hex16 (fnv l)).length = 16 := by rw [hex16_fix (fnv_lt l), length_hexFix]
  have ha1 := fun W => (seal_adds l _ hl hlen W).1
  have ha2 := fun W => (seal_adds l _ hl hlen W).2.1
  have ha3 := fun W => (seal_adds l _ hl hlen W).2.2
  have HF := Lib.hid (show sealS l = l ++ [115, 117, 109, 32] ++ hex16 (fnv l) ++ [10] from rfl)
  rw [← HF.out] at ha3
  clear HF hT hlen
  generalize sealS l = l3 at *
  generalize l ++ [115, 117, 109, 32] ++ hex16 (fnv l) = l2 at *
  generalize l ++ [115, 117, 109, 32] = l1 at *
  generalize hex16 (fnv l) = h at *
  generalize fnv l = n at *
  go_enter Tryd.func11, Tryd.ntmps11
  go_wp2_with fail
  refine (HS.out _).mono ?_
  rintro e w1 ⟨rfl, rfl⟩
  go_wp2_with fail
  refine (HH.out _ HT.out).mono ?_
  rintro e w1 ⟨rfl, hx⟩
  have HX := Lib.hid hx; clear hx
  go_wp2_with fail
  go_ret
  exact ⟨rfl, HX.out⟩
theorem rseal_any (w : World) (l : List UInt8) (hl : l.length ≤ 536870912) : Calls Tryd.prog 12 #[str l] w fun e w' => e = .returned (str (sealS l)) ∧ w = w' := by
  have HS := Lib.hid (fun W => rsum_any W l (by omega))
  have HH := Lib.hid (fun W => rhex_any W (fnv l) (fnv_lt l))
  have hlen : (hex16 (fnv l)).length = 16 := by rw [hex16_fix (fnv_lt l), length_hexFix]
  have ha1 := fun W => (seal_adds l _ hl hlen W).1
  have ha2 := fun W => (seal_adds l _ hl hlen W).2.1
  have ha3 := fun W => (seal_adds l _ hl hlen W).2.2
  have HF := Lib.hid (show sealS l = l ++ [115, 117, 109, 32] ++ hex16 (fnv l) ++ [10] from rfl)
  rw [← HF.out] at ha3
  clear HF hlen
  generalize sealS l = l3 at *
  generalize l ++ [115, 117, 109, 32] ++ hex16 (fnv l) = l2 at *
  generalize l ++ [115, 117, 109, 32] = l1 at *
  generalize hex16 (fnv l) = h at *
  generalize fnv l = n at *
  go_enter Tryd.func12, Tryd.ntmps12
  go_wp2_with fail
  refine (HS.out _).mono ?_
  rintro e w1 ⟨rfl, rfl⟩
  go_wp2_with fail
  refine (HH.out _).mono ?_
  rintro e w1 ⟨rfl, rfl⟩
  go_wp2_with fail
  go_ret
  exact ⟨rfl, rfl⟩
end Big
end Go.Proofs.YtbmmnpggadakdaaDoor
