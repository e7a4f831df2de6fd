import Derived.Test.YtbmmnpggadakdaaDoorWords
import Derived.WalkLawsBesides
import Derived.WalkSpells
import Derived.BigQuiet
import Derived.Deep.QuietTactic
import Derived.Deep.DeepFit
import Derived.Deep.LoopGhost
import Derived.Handy
namespace Go.Proofs.YtbmmnpggadakdaaDoor
namespace Big
open Go.RowKit

theorem size_any (w : World) (v : Value) (xs : List Nat) (h : Arr w v xs) :
    Calls Tryd.prog 59 #[v] w fun e w' => e = .returned (.int .i64 (size xs)) ∧ w = w' := by
  obtain ⟨hok, A, c, rfl, hc, hm, hcell⟩ := h.open
  unfold maxLen at hm
  go_enter Tryd.func59, Tryd.ntmps59
  go_wp2
  go_loop [3] (fun n => ∃ k : Nat, k ≤ xs.length ∧ n = .int .i64 k ∧ ∀ i, k ≤ i → xs.getD i 0 = 0) (fun n => (intOf n).toNat)
  case atStart => exact ⟨_, Nat.le_refl _, rfl, fun i hi => by rw [List.getD_eq_getElem?_getD, List.getElem?_eq_none hi]; rfl⟩
  case round =>
    obtain ⟨k, hk, rfl, hz⟩ := hrel
    have HZ := Lib.hid hz; clear hz
    have HC := Lib.hid hcell; clear hcell
    by_cases h0 : k = 0
    · subst h0
      have hs := size_top xs 0 hk HZ.out (by omega)
      have HS := Lib.hid hs; clear hs
      go_wp2
      go_ret
      rw [HS.out]
      exact ⟨rfl, rfl⟩
    · obtain ⟨b, o, rfl, hb, hcell⟩ := HC.out (by omega)
      have hx := hcell (k - 1) (by omega)
      clear hcell
      obtain ⟨m, rfl⟩ : ∃ m, k = m + 1 := ⟨k - 1, by omega⟩
      simp only [Nat.add_sub_cancel, d32] at hx
      by_cases hx0 : xs.getD m 0 = 0
      · have hxb : ((xs.getD m 0 : Int) == 0) = true := by rw [hx0]; rfl
        have HX := Lib.hid hx0; clear hx0
        obtain ⟨y, hy⟩ : ∃ y, xs.getD m 0 = y := ⟨_, rfl⟩
        rw [hy] at hx hxb
        clear hy
        go_wp2
        go_round
        case rel => exact ⟨m, by omega, by go_num, fun i hi => by
          rcases Nat.lt_or_ge m i with h1 | h1
          · exact HZ.out i h1
          · obtain rfl : i = m := by omega
            exact HX.out⟩
        case measure => simp [intOf]
      · have hxb : ((xs.getD m 0 : Int) == 0) = false := by rw [beq_eq_false_iff_ne]; omega
        have hs := size_top xs (m + 1) hk HZ.out (fun _ => hx0)
        have HS := Lib.hid hs; clear hs
        generalize xs.getD m 0 = y at *
        clear hx0
        go_wp2
        go_ret
        rw [HS.out]
        exact ⟨rfl, rfl⟩
end Big
end Go.Proofs.YtbmmnpggadakdaaDoor
