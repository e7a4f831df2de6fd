import Derived.Test.YtoehdoghghpmjaaGreatDoorM6
import Derived.Test.YtoehdoghghpmjaaGreatDoorM7
import Derived.Test.YtoehdoghghpmjaaGreatDoorM9
import Derived.Test.YtoehdoghghpmjaaGreatDoorM4
import Derived.RegionTactic
import Derived.ChangeAlike
/- The scanner's while. -/
namespace Go.Proofs.YtoehdoghghpmjaaGreatDoor
namespace Big
open Go.RowKit
theorem byteAt_drop (l : List UInt8) (a i : Nat) : byteAt (l.drop a) i = byteAt l (a + i) := by
  unfold byteAt
  rw [List.getD_eq_getElem?_getD, List.getD_eq_getElem?_getD, List.getElem?_drop]
theorem run_at {p : Nat → Bool} {l : List UInt8} {a i : Nat} (h : i < runLen p (l.drop a)) : a + i < l.length ∧ p (byteAt l (a + i)) = true := by
  obtain ⟨h1, h2⟩ := runLen_in p (l.drop a) i h
  rw [List.length_drop] at h1
  refine ⟨by omega, ?_⟩
  rw [← byteAt_drop, byteAt_eq _ _ (by rw [List.length_drop]; omega)]
  exact h2
theorem run_stop {p : Nat → Bool} {l : List UInt8} {a : Nat} (h : a + runLen p (l.drop a) < l.length) : p (byteAt l (a + runLen p (l.drop a))) = false := by
  have h1 := runLen_end p (l.drop a) (by rw [List.length_drop]; omega)
  rw [← byteAt_drop, byteAt_eq _ _ (by rw [List.length_drop]; omega)]
  exact h1
theorem run_slice (l : List UInt8) (a n : Nat) : (l.take (a + n)).drop a = (l.drop a).take n := by
  rw [List.drop_take, Nat.add_sub_cancel_left]
end Big
end Go.Proofs.YtoehdoghghpmjaaGreatDoor
/- lexer.Word. -/
namespace Go.Proofs.YtoehdoghghpmjaaGreatDoor
namespace Big
open Go.RowKit
theorem wordB_eq (l : List UInt8) : wordB l = (!(l == []) && decide (l.length ≤ 24) && letN (byteAt l 0) && l.all (fun c => wordN c.toNat)) := rfl
theorem all_word_false {l : List UInt8} {i : Nat} (h : i < l.length) (hf : wordN (byteAt l i) = false) : l.all (fun c => wordN c.toNat) = false := by
  rw [List.all_eq_false]
  exact ⟨l[i], List.getElem_mem h, by rw [← byteAt_eq l i h, hf]; simp⟩
theorem all_word_true {l : List UInt8} (h : ∀ i, i < l.length → wordN (byteAt l i) = true) : l.all (fun c => wordN c.toNat) = true := by
  rw [List.all_eq_true]
  intro c hc
  obtain ⟨i, hi, rfl⟩ := List.getElem_of_mem hc
  rw [← byteAt_eq l i hi]
  exact h i hi
set_option maxRecDepth 100000 in
theorem word_any (w : World) (l : List UInt8) (hl : l.length ≤ 1073741824) : Calls Tryz.prog 37 #[str l] w fun e w' => e = .returned (.bool (wordB l)) ∧ w = w' := by
  have H := Lib.hid (wordB_eq l)
  rcases Nat.eq_zero_or_pos l.length with h0 | h0
  · obtain rfl : l = [] := List.eq_nil_of_length_eq_zero h0
    have HR : Hid (wordB [] = false) := Lib.hid rfl
    have he : (([] : List UInt8) == []) = true := rfl
    clear h0 H
    go_enter Tryz.func37, Tryz.ntmps37
    go_wp2_with fail
    go_ret
    rw [HR.out]
    exact ⟨rfl, rfl⟩
  · have he : (l == []) = false := by cases l <;> simp_all
    have h0i : (0 : Int) < (l.length : Int) := by omega
    rcases Nat.lt_or_ge 24 l.length with h24 | h24
    · have HR : Hid (wordB l = false) := Lib.hid (by rw [H.out, decide_eq_false (by omega)]; simp)
      have hd : (24 : Int) < (l.length : Int) := by omega
      clear H h0 h24
      go_enter Tryz.func37, Tryz.ntmps37
      go_wp2_with fail
      go_ret
      rw [HR.out]
      exact ⟨rfl, rfl⟩
    · have hd : ¬ (24 : Int) < (l.length : Int) := by omega
      have hd2 : decide ((24 : Int) < (l.length : Int)) = false := by simp; omega
      have hbl := byteAt_lt l 0
      have HLT := Lib.hid (fun W => isLetter_any W (byteAt l 0) hbl)
      cases hlet : letN (byteAt l 0)
      · have HR : Hid (wordB l = false) := Lib.hid (by rw [H.out, hlet]; simp)
        rw [hlet] at HLT
        clear H h0 h24 hlet
        go_enter Tryz.func37, Tryz.ntmps37
        go_wp2_with fail
        refine (HLT.out _).mono ?_
        rintro e w1 ⟨rfl, rfl⟩
        go_wp2_with fail
        go_ret
        rw [HR.out]
        exact ⟨rfl, rfl⟩
      · have HR : Hid (wordB l = l.all (fun c => wordN c.toNat)) := Lib.hid (by rw [H.out, hlet, he, decide_eq_true h24]; simp)
        rw [hlet] at HLT
        clear H hlet
        go_enter Tryz.func37, Tryz.ntmps37
        go_wp2_with fail
        refine (HLT.out _).mono ?_
        rintro e w1 ⟨rfl, rfl⟩
        go_wp2_with fail
        go_loop [19] (fun s => ∃ i : Nat, i ≤ l.length ∧ s = .int .i64 (i : Int) ∧ Hid (∀ j, j < i → wordN (byteAt l j) = true)) (fun s => l.length - (intOf s).toNat)
        case atStart => exact ⟨0, Nat.zero_le _, rfl, Lib.hid (fun j hj => by omega)⟩
        case round =>
          obtain ⟨i, hi, rfl, HA⟩ := hrel
          by_cases hlt : i < l.length
          · have hbi := byteAt_lt l i
            have HC := Lib.hid (fun W => inWord_any W (byteAt l i) hbi)
            cases hw : wordN (byteAt l i)
            · have HF : Hid (wordB l = false) := Lib.hid (by rw [HR.out]; exact all_word_false hlt hw)
              rw [hw] at HC
              clear hw
              go_wp2_with fail
              refine (HC.out _).mono ?_
              rintro e w1 ⟨rfl, rfl⟩
              go_wp2_with fail
              go_ret
              rw [HF.out]
              exact ⟨rfl, rfl⟩
            · have HN : Hid (∀ j, j < i + 1 → wordN (byteAt l j) = true) := Lib.hid (fun j hj => by
                rcases Nat.lt_or_ge j i with h1 | h1
                · exact HA.out j h1
                · obtain rfl : j = i := by omega
                  exact hw)
              rw [hw] at HC
              clear hw
              go_wp2_with fail
              refine (HC.out _).mono ?_
              rintro e w1 ⟨rfl, rfl⟩
              go_wp2_with fail
              go_round
              case rel => exact ⟨i + 1, by omega, by go_num, HN⟩
              case measure => simp [intOf]; omega
          · obtain rfl : i = l.length := by omega
            have HF : Hid (wordB l = true) := Lib.hid (by rw [HR.out]; exact all_word_true HA.out)
            go_wp2_with fail
            go_ret
            rw [HF.out]
            exact ⟨rfl, rfl⟩
end Big
end Go.Proofs.YtoehdoghghpmjaaGreatDoor
namespace Go.Proofs.YtoehdoghghpmjaaGreatDoor
namespace Big
open Go.RowKit
end Big
end Go.Proofs.YtoehdoghghpmjaaGreatDoor
namespace Go.Proofs.YtoehdoghghpmjaaGreatDoor
namespace Big
open Go.RowKit

/-- What slices.Reverse holds after k exchanges. -/
def RevAt (w0 wr : World) (B g : Nat) (bs : List UInt8) (c k : Nat) : Prop :=
  ∃ cur : Array Value, Blk wr g 5 cur ∧ cur.size = c ∧ Below B w0 wr ∧
    (∀ p, p < bs.length → cur[p]? = some (d8 (if p < k ∨ bs.length - k ≤ p then bs.getD (bs.length - 1 - p) 0 else bs.getD p 0)))

theorem RevAt.step {w0 wr : World} {B g : Nat} {bs : List UInt8} {c k : Nat} (h : RevAt w0 wr B g bs c k) (hB : B ≤ g) (hc : bs.length ≤ c) (hk : k < bs.length - 1 - k) :
    RevAt w0 (((wr.setCell ⟨g, k, none⟩ (d8 (bs.getD (bs.length - 1 - k) 0))).setCell ⟨g, bs.length - 1 - k, none⟩ (d8 (bs.getD k 0)))).drew B g bs c (k + 1) := by
  obtain ⟨cur, h1, h2, h3, h4⟩ := h
  refine ⟨_, ((h1.set_ k _).set_ (bs.length - 1 - k) _).drew, by simp [h2], ((h3.setCell hB _).setCell hB _).drew, fun p hp => ?_⟩
  rw [Array.getElem?_setIfInBounds, Array.getElem?_setIfInBounds]
  by_cases e1 : bs.length - 1 - k = p
  · subst e1
    rw [if_pos rfl, if_pos (by simp; omega)]
    rw [if_pos (by omega)]
    congr 3
    omega
  · rw [if_neg e1]
    by_cases e2 : k = p
    · subst e2
      rw [if_pos rfl, if_pos (by omega), if_pos (by omega)]
    · rw [if_neg e2, h4 p hp]
      by_cases e3 : p < k ∨ bs.length - k ≤ p
      · rw [if_pos e3, if_pos (by omega)]
      · rw [if_neg e3, if_neg (by omega)]

end Big
end Go.Proofs.YtoehdoghghpmjaaGreatDoor
