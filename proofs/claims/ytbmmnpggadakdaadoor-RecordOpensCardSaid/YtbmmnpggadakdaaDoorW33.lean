import Derived.Test.YtbmmnpggadakdaaDoorHex2
import Derived.Test.YtbmmnpggadakdaaDoorStr
import Derived.Test.YtbmmnpggadakdaaDoorWk
/- The reference's hexadecimal texts. -/
namespace Go.Proofs.YtbmmnpggadakdaaDoor
namespace Big
open Go.RowKit

theorem hexd_ext (r : Nat) (h : r < 16) : (⟨#[48, 49, 50, 51, 52, 53, 54, 55, 56, 57, 97, 98, 99, 100, 101, 102]⟩ : ByteArray).extract r (r + 1) = ⟨[hexd r].toArray⟩ := by
  have : r = 0 ∨ r = 1 ∨ r = 2 ∨ r = 3 ∨ r = 4 ∨ r = 5 ∨ r = 6 ∨ r = 7 ∨ r = 8 ∨ r = 9 ∨ r = 10 ∨ r = 11 ∨ r = 12 ∨ r = 13 ∨ r = 14 ∨ r = 15 := by omega
  rcases this with rfl | rfl | rfl | rfl | rfl | rfl | rfl | rfl | rfl | rfl | rfl | rfl | rfl | rfl | rfl | rfl <;> rfl
theorem run_add_hexd (r : Nat) (h : r < 16) (t : List UInt8) (ht : t.length ≤ 1073741824) (W : World) :
    (binOp .add 9 (.string ((⟨#[48, 49, 50, 51, 52, 53, 54, 55, 56, 57, 97, 98, 99, 100, 101, 102]⟩ : ByteArray).extract r (r + 1))) (str t)).run Tryd.prog W = .ok (str (hexd r :: t)) W := by
  rw [hexd_ext r h]
  exact run_add_str [hexd r] t (by simp; omega) W

theorem rhex_any (w : World) (n : Nat) (hn : n < 18446744073709551616) :
    Calls Tryd.prog 25 #[.int .u64 (n : Int)] w fun e w' => e = .returned (str (hex16 n)) ∧ w = w' := by
  have HF := Lib.hid (hex16_fix hn)
  go_enter Tryd.func25, Tryd.ntmps25
  go_wp2_with fail
  go_loop [3, 0, 4] (fun s hh i => ∃ (k m : Nat) (t : List UInt8), k ≤ 16 ∧ i = .int .i64 k ∧ hh = .int .u64 m ∧ s = str t ∧ t.length ≤ 16 ∧ m < 18446744073709551616 ∧ Hid (t.length = k ∧ hexFix 16 n = hexFix (16 - k) m ++ t)) (fun _ _ i => 16 - (intOf i).toNat)
  case atStart => exact ⟨0, n, [], by omega, rfl, rfl, rfl, by simp, hn, rfl, by simp⟩
  case round =>
    obtain ⟨k, m, t, hk, rfl, rfl, rfl, ht, hm, HK⟩ := hrel
    by_cases hlt : k < 16
    · have hr16 := Nat.mod_lt m (show 0 < 16 by omega)
      have HN : Hid ((hexd (m % 16) :: t).length = k + 1 ∧ hexFix 16 n = hexFix (16 - (k + 1)) (m / 16) ++ (hexd (m % 16) :: t)) := Lib.hid (by
        refine ⟨by have := HK.out.1; simp; omega, ?_⟩
        rw [HK.out.2, show 16 - k = (16 - (k + 1)) + 1 by omega, hexFix, List.append_assoc]
        rfl)
      have hl1 : t.length + 1 ≤ 16 := by have := HK.out.1; omega
      have hq : m / 16 < 18446744073709551616 := by omega
      have hmod : (m : Int) % 16 = ((m % 16 : Nat) : Int) := by omega
      have hdiv : (m : Int) / 16 = ((m / 16 : Nat) : Int) := by omega
      generalize m % 16 = r at *
      generalize m / 16 = q at *
      have hadd := run_add_hexd r hr16 t (by omega)
      have hlen : (hexd r :: t).length ≤ 16 := by simpa using hl1
      generalize hexd r :: t = t2 at *
      go_wp2
      go_round
      case rel => exact ⟨k + 1, q, t2, by omega, by go_num, rfl, rfl, hlen, hq, HN⟩
      case measure => simp [intOf]; omega
    · obtain rfl : k = 16 := by omega
      have HE := Lib.hid (show t = hex16 n by
        rw [HF.out, HK.out.2]
        simp [hexFix])
      go_wp2
      go_ret
      exact ⟨congrArg (fun l => Ending.returned (str l)) HE.out, rfl⟩

theorem hexNum_take (l : List UInt8) (k : Nat) (h : k < l.length) : hexNum (l.take (k + 1)) = 16 * hexNum (l.take k) + hv l[k] := by
  rw [List.take_succ_eq_append_getElem h, hexNum_snoc]
theorem take_low (l : List UInt8) (k : Nat) (h : k < l.length) : (l.take (k + 1)).all lowHex = ((l.take k).all lowHex && lowHex l[k]) := by
  rw [List.take_succ_eq_append_getElem h, List.all_append]
  simp
theorem low_false_of {l : List UInt8} {k : Nat} (h : k < l.length) (hf : lowHex l[k] = false) : l.all lowHex = false := by
  rw [List.all_eq_false]
  exact ⟨l[k], List.getElem_mem h, by simp [hf]⟩

theorem runhex_any (w : World) (l : List UInt8) (hl : l.length ≤ 1073741824) :
    Calls Tryd.prog 36 #[str l] w fun e w' => e = .returned (.tuple #[.int .u64 ((unhexS l).1 : Int), .int .i64 ((unhexS l).2 : Int)]) ∧ w = w' := by
  by_cases h16 : l.length = 16
  · have hb : ((l.length : Int) != 16) = false := by rw [h16]; rfl
    go_enter Tryd.func36, Tryd.ntmps36
    go_wp2_with fail
    have HL := Lib.hid h16
    go_loop [4, 5] (fun hh i => ∃ k H : Nat, k ≤ 16 ∧ i = .int .i64 k ∧ hh = .int .u64 H ∧ Hid ((l.take k).all lowHex = true ∧ H = hexNum (l.take k))) (fun _ i => 16 - (intOf i).toNat)
    case atStart => exact ⟨0, 0, by omega, rfl, rfl, rfl, rfl⟩
    case round =>
      obtain ⟨k, H, hk, rfl, rfl, HK⟩ := hrel
      by_cases hlt : k < 16
      · have hkl : k < l.length := by have := HL.out; omega
        have hH : H < 1152921504606846976 := by
          have h1 := hexNum_lt k (l.take k) (by simp; omega) HK.out.1
          rw [← HK.out.2] at h1
          exact Nat.lt_of_lt_of_le h1 (Nat.le_trans (Nat.pow_le_pow_right (by omega) (show k ≤ 15 by omega)) (by decide))
        have HTA := Lib.hid (take_low l k hkl)
        have HNT := Lib.hid (hexNum_take l k hkl)
        have HBB := Lib.hid (byteAt_eq l k hkl)
        have HLF := Lib.hid (fun h => low_false_of hkl h)
        have HIFF := Lib.hid (lowHex_iff l[k])
        have HHV := Lib.hid (show hv l[k] = if l[k].toNat ≤ 57 then l[k].toNat - 48 else l[k].toNat - 87 from rfl)
        have hb := byteAt_lt l k
        rw [← HBB.out] at HIFF HHV
        generalize l[k] = c at *
        obtain ⟨b, hbb⟩ : ∃ b, byteAt l k = b := ⟨_, rfl⟩
        have HBE := Lib.hid hbb
        rw [hbb] at HIFF HHV hb
        clear HBB
        by_cases hd : 48 ≤ b ∧ b ≤ 57
        · have HN : Hid ((l.take (k + 1)).all lowHex = true ∧ 16 * H + (b - 48) = hexNum (l.take (k + 1))) := Lib.hid ⟨by rw [HTA.out, HK.out.1, HIFF.out.2 (.inl hd)]; rfl, by rw [HNT.out, HHV.out, if_pos hd.2, HK.out.2]⟩
          obtain ⟨hd1, hd2⟩ := hd
          go_wp2
          go_round
          case rel => exact ⟨k + 1, 16 * H + (b - 48), by omega, by go_num, by go_num, HN⟩
          case measure => simp [intOf]; omega
        · by_cases he : 97 ≤ b ∧ b ≤ 102
          · have HN : Hid ((l.take (k + 1)).all lowHex = true ∧ 16 * H + (b - 97) + 10 = hexNum (l.take (k + 1))) := Lib.hid ⟨by rw [HTA.out, HK.out.1, HIFF.out.2 (.inr he)]; rfl, by rw [HNT.out, HHV.out, if_neg (by omega), HK.out.2]; omega⟩
            obtain ⟨hd1, hd2⟩ := he
            have hbig : 57 < b := by omega
            clear hd
            go_wp2
            go_round
            case rel => exact ⟨k + 1, 16 * H + (b - 97) + 10, by omega, by go_num, by go_num, HN⟩
            case measure => simp [intOf]; omega
          · have hor : b < 48 ∨ (57 < b ∧ b < 97) ∨ 102 < b := by omega
            have HF : Hid (unhexS l = (0, 6)) := Lib.hid (by
              have hf : lowHex c = false := by
                rw [← Bool.not_eq_true]
                intro ht
                rcases HIFF.out.1 ht with h | h
                · exact hd h
                · exact he h
              unfold unhexS
              rw [if_neg]
              rintro ⟨_, h2⟩
              rw [HLF.out hf] at h2
              cases h2)
            clear hd he
            rcases hor with h1 | ⟨h1, h2⟩ | h1
            all_goals
              go_wp2
              go_ret2
              rw [HF.out]
              exact ⟨rfl, rfl⟩
      · obtain rfl : k = 16 := by omega
        have HF : Hid (unhexS l = (H, 0)) := Lib.hid (by
          have h1 := HK.out
          have h2 := HL.out
          rw [List.take_of_length_le (by omega)] at h1
          unfold unhexS
          rw [if_pos ⟨h2, h1.1⟩, ← h1.2])
        go_wp2
        go_ret2
        rw [HF.out]
        exact ⟨rfl, rfl⟩
  · have hb : ((l.length : Int) != 16) = true := by rw [bne_iff_ne]; omega
    have hU : unhexS l = (0, 6) := by unfold unhexS; rw [if_neg (fun h => h16 h.1)]
    rw [hU]
    clear hU h16
    go_enter Tryd.func36, Tryd.ntmps36
    go_wp2_with fail
    go_ret2
    exact ⟨rfl, rfl⟩
end Big
end Go.Proofs.YtbmmnpggadakdaaDoor
