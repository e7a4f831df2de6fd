import Derived.Test.YtbmmnpggadakdaaDoorHex2
import Derived.Test.YtbmmnpggadakdaaDoorStr
import Derived.Test.YtbmmnpggadakdaaDoorWk
import Derived.Lib.ConvBytes
/- The library's reading of a number in base 16. -/
namespace Go.Proofs.YtbmmnpggadakdaaDoor
namespace Big
open Go.RowKit

theorem or32_all : ∀ n : Nat, n < 256 → bits .or .u8 (n : Int) 32 = ((UInt8.ofNat n ||| 32).toNat : Int) := by decide +kernel
theorem or32 (c : UInt8) : bits .or .u8 (c.toNat : Int) 32 = ((c ||| 32).toNat : Int) := by
  have := or32_all c.toNat (UInt8.toNat_lt c)
  rwa [show UInt8.ofNat c.toNat = c by simp] at this
theorem lower_any (w : World) (c : UInt8) : Calls Tryd.prog 77 #[.int .u8 (c.toNat : Int)] w fun e w' => e = .returned (.int .u8 ((c ||| 32).toNat : Int)) ∧ w = w' := by
  have HO := or32 c
  go_enter Tryd.func77, Tryd.ntmps77
  go_wp2_with fail
  go_ret
  first | exact ⟨rfl, rfl⟩ | (rw [HO]; exact ⟨rfl, rfl⟩)

/-- '[]byte(s)'. -/
def bytesAt (w : World) (l : List UInt8) : World := Lib.bytesWorld w 5 ⟨l.toArray⟩
theorem bytesAt_ext (w : World) (l : List UInt8) : Ext w (bytesAt w l) := by
  refine ⟨?_, ?_, ?_, ?_, fun k hk => Lib.bytesWorld_at_old w _ _ k hk⟩
  · simp [bytesAt, Lib.bytesWorld, World.freeze, World.alloc, World.drew, -World.alloc_eq, -World.drew_eq]
  · simp [bytesAt, Lib.bytesWorld, World.freeze, World.alloc, World.drew, -World.alloc_eq, -World.drew_eq]
  · simp [bytesAt, Lib.bytesWorld, World.freeze, World.alloc, World.drew, -World.alloc_eq, -World.drew_eq]
  · unfold bytesAt; rw [Lib.bytesWorld_size]; omega
theorem bytesAt_cell (w : World) (l : List UInt8) (j : Nat) (h : j < l.length) : (bytesAt w l).cell? ⟨w.heap.size, j, none⟩ = some (.int .u8 (byteAt l j : Int)) := by
  unfold bytesAt byteAt
  rw [Lib.bytesWorld_cell w _ _ j (by rw [size_str]; exact h)]
theorem bytesAt_lt (w : World) (l : List UInt8) : w.heap.size < (bytesAt w l).heap.size := by unfold bytesAt; rw [Lib.bytesWorld_size]; omega
theorem run_bytesAt (w : World) (l : List UInt8) : ∃ c, (convert 9 37 (str l)).run Tryd.prog w = .ok (.slice (some ⟨w.heap.size, 0, none⟩) l.length c) (bytesAt w l) ∧ l.length ≤ c := by
  have := Lib.run_convert_string_bytes (P := Tryd.prog) w 9 37 5 ⟨l.toArray⟩ Tryd.underlying9 Tryd.underlying37 Tryd.underlying5
  rw [size_str] at this
  exact ⟨_, this, grownCap_ge w l.length 0 _⟩

/-- What the library's reading returns. -/
def PuPost (w0 : World) (r : Option Nat) (e : Ending) (w' : World) : Prop :=
  Ext w0 w' ∧ ((∃ h : Nat, r = some h ∧ e = .returned (.tuple #[.int .u64 (h : Int), .nilIface])) ∨
    (r = none ∧ ∃ u k : Int, (k = 1 ∨ k = 2) ∧ e = .returned (.tuple #[.int .u64 u, .iface 97 (.int .i64 k)])))

set_option maxRecDepth 100000 in
theorem ipu_empty (w : World) : Calls Tryd.prog 64 #[str [], .int .i64 16, .int .i64 64] w (PuPost w none) := by
  go_enter Tryd.func64, Tryd.ntmps64
  go_wp2_with fail
  go_ret2
  exact ⟨Ext.refl _, .inr ⟨rfl, _, 2, .inr rfl, rfl⟩⟩

set_option maxRecDepth 100000 in
set_option maxHeartbeats 4000000 in
theorem ipu_some (w : World) (l : List UInt8) (hne : l ≠ []) (hl : l.length ≤ 1073741824) (r : Option Nat) (hr : puF 0 l = r) :
    Calls Tryd.prog 64 #[str l, .int .i64 16, .int .i64 64] w (PuPost w r) := by
  obtain ⟨cap, hcv, hcap⟩ := run_bytesAt w l
  have hB := fun j h => bytesAt_cell w l j h
  have HX := Lib.hid (bytesAt_ext w l)
  have hne' : (l == []) = false := by cases l <;> simp_all
  have HR := Lib.hid hr
  have hmv : IntKind.u64.wrap (IntKind.u64.wrap 18446744073709551616 - 1) = 18446744073709551615 := by
    rw [IntKind.wrap_u64, IntKind.wrap_u64]
    decide
  generalize bytesAt w l = W1 at *
  have HB := Lib.hid hB
  clear hB hne hr
  go_enter Tryd.func64, Tryd.ntmps64
  go_wp2_with fail
  go_loop [12, 13, 101] (fun vu vn vi => ∃ (k acc : Nat) (a : Int), vu = .bool false ∧ vn = .int .u64 a ∧ vi = .int .i64 k ∧ k ≤ l.length ∧ Hid (a = (acc : Int) ∧ acc < 18446744073709551616 ∧ puF acc (l.drop k) = r))
    (fun _ _ vi => l.length - (intOf vi).toNat)
  case atStart => exact ⟨0, 0, 0, rfl, rfl, rfl, by omega, rfl, by omega, HR.out⟩
  case round =>
    obtain ⟨k, acc, a, rfl, rfl, rfl, hk, hh⟩ := hrel
    obtain ⟨ha, hacc, hdec⟩ := hh.out
    clear hh
    have a0 : 0 ≤ a := by omega
    have a1 : a < 18446744073709551616 := by omega
    by_cases hkn : k < l.length
    · have hc := HB.out k hkn
      have hdrop : l.drop k = l[k] :: l.drop (k + 1) := List.drop_eq_getElem_cons hkn
      rw [hdrop, puF] at hdec
      rw [byteAt_eq l k hkn] at hc
      generalize l[k] = c at hc hdec
      have hc256 : c.toNat < 256 := c.toNat_lt
      have HLOW := Lib.hid (fun W => lower_any W c)
      clear hdrop
      unfold hexA at hdec
      by_cases hdig : 48 ≤ c.toNat ∧ c.toNat ≤ 57
      · rw [if_pos hdig] at hdec
        simp only at hdec
        obtain ⟨hd0, hd1⟩ := hdig
        have hb95 : ((c.toNat : Int) == 95) = false := by rw [beq_eq_false_iff_ne]; omega
        by_cases hcut : 1152921504606846976 ≤ acc
        · rw [if_pos hcut] at hdec
          have icut : 1152921504606846976 ≤ a := by omega
          have HD := Lib.hid hdec
          clear hcut hacc ha hdec
          go_wp2_with fail
          go_ret2
          exact ⟨HX.out, .inr ⟨HD.out.symm, _, 1, .inl rfl, rfl⟩⟩
        · rw [if_neg hcut] at hdec
          have icut : a < 1152921504606846976 := by omega
          have HN : Hid (a * 16 + ((c.toNat : Int) - 48) = ((acc * 16 + (c.toNat - 48) : Nat) : Int) ∧ acc * 16 + (c.toNat - 48) < 18446744073709551616 ∧ puF (acc * 16 + (c.toNat - 48)) (l.drop (k + 1)) = r) := Lib.hid ⟨by omega, by omega, hdec⟩
          clear hcut hacc hdec ha
          go_wp2_with fail
          exact ⟨⟨k + 1, acc * 16 + (c.toNat - 48), a * 16 + ((c.toNat : Int) - 48), rfl, (by first | rfl | (congr 1; omega)), (by first | rfl | (congr 1; omega)), by omega, HN⟩, by simp [intOf]; omega⟩
      · rw [if_neg hdig] at hdec
        by_cases hlet : 97 ≤ (c ||| 32).toNat ∧ (c ||| 32).toNat ≤ 102
        · rw [if_pos hlet] at hdec
          simp only at hdec
          have h95 : c.toNat ≠ 95 := by
            intro h
            have e : c = 95 := UInt8.toNat_inj.1 h
            subst e
            exact absurd hlet (by decide)
          have hb95 : ((c.toNat : Int) == 95) = false := by rw [beq_eq_false_iff_ne]; omega
          generalize (c ||| 32).toNat = lc at *
          obtain ⟨hd0, hd1⟩ := hlet
          have hor : c.toNat < 48 ∨ 57 < c.toNat := by omega
          by_cases hcut : 1152921504606846976 ≤ acc
          · rw [if_pos hcut] at hdec
            have icut : 1152921504606846976 ≤ a := by omega
            have HD := Lib.hid hdec
            clear hcut hacc ha hdec hdig h95
            rcases hor with hor | hor
            all_goals
              go_wp2_with (go_at_call 77; refine (HLOW.out _).mono ?_; rintro e w' ⟨rfl, rfl⟩)
              go_ret2
              exact ⟨HX.out, .inr ⟨HD.out.symm, _, 1, .inl rfl, rfl⟩⟩
          · rw [if_neg hcut] at hdec
            have icut : a < 1152921504606846976 := by omega
            have HN : Hid (a * 16 + ((lc : Int) - 97 + 10) = ((acc * 16 + (lc - 87) : Nat) : Int) ∧ acc * 16 + (lc - 87) < 18446744073709551616 ∧ puF (acc * 16 + (lc - 87)) (l.drop (k + 1)) = r) := Lib.hid ⟨by omega, by omega, hdec⟩
            clear hcut hacc hdec ha hdig h95
            rcases hor with hor | hor
            all_goals
              go_wp2_with (go_at_call 77; refine (HLOW.out _).mono ?_; rintro e w' ⟨rfl, rfl⟩)
              exact ⟨⟨k + 1, acc * 16 + (lc - 87), a * 16 + ((lc : Int) - 97 + 10), rfl, (by first | rfl | (congr 1; omega)), (by first | rfl | (congr 1; omega)), by omega, HN⟩, by simp [intOf]; omega⟩
        · rw [if_neg hlet] at hdec
          simp only at hdec
          have HD := Lib.hid hdec
          have h95 : ((c.toNat : Int) == 95) = true ∨ ((c.toNat : Int) == 95) = false := by cases ((c.toNat : Int) == 95) <;> simp
          have hor : c.toNat < 48 ∨ 57 < c.toNat := by omega
          generalize (c ||| 32).toNat = lc at *
          have hor2 : lc < 97 ∨ (103 ≤ lc ∧ lc ≤ 122) ∨ 122 < lc := by omega
          clear hacc hdec ha hdig hlet
          rcases h95 with h95 | h95
          all_goals
            rcases hor with hor | hor
            all_goals
              rcases hor2 with h2 | ⟨h2, h3⟩ | h2
              all_goals
                go_wp2_with (go_at_call 77; refine (HLOW.out _).mono ?_; rintro e w' ⟨rfl, rfl⟩)
                go_ret2
                exact ⟨HX.out, .inr ⟨HD.out.symm, _, 2, .inr rfl, rfl⟩⟩
    · obtain rfl : k = l.length := by omega
      rw [List.drop_eq_nil_of_le (Nat.le_refl _), puF] at hdec
      have HD := Lib.hid hdec
      subst ha
      clear hacc a0 a1 hdec
      go_wp2_with fail
      go_ret2
      exact ⟨HX.out, .inl ⟨acc, HD.out.symm, rfl⟩⟩

theorem ipu_any (w : World) (l : List UInt8) (hl : l.length ≤ 1073741824) : Calls Tryd.prog 64 #[str l, .int .i64 16, .int .i64 64] w (PuPost w (pu16 l)) := by
  unfold pu16
  by_cases h : l = []
  · subst h
    rw [if_pos rfl]
    exact ipu_empty w
  · rw [if_neg h]
    exact ipu_some w l h hl _ rfl
end Big
end Go.Proofs.YtbmmnpggadakdaaDoor
