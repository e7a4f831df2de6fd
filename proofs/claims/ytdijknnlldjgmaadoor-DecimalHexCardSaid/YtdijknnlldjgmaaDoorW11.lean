import Derived.Test.YtdijknnlldjgmaaDoorBytes
import Derived.RegionTactic
import Derived.ChangeAlike
namespace Go.Proofs.YtdijknnlldjgmaaDoor
namespace Big
open Go.RowKit

/-- What slices.Reverse holds after k exchanges. -/
def RevAt (w0 wr : World) (B g : Nat) (bs : List UInt8) (c k : Nat) : Prop :=
  ∃ cur : Array Value, Blk wr g 5 cur ∧ cur.size = c ∧ Below B w0 wr ∧
    (∀ p, p < bs.length → cur[p]? = some (d8 (if p < k ∨ bs.length - k ≤ p then bs.getD (bs.length - 1 - p) 0 else bs.getD p 0)))

theorem RevAt.step {w0 wr : World} {B g : Nat} {bs : List UInt8} {c k : Nat} (h : RevAt w0 wr B g bs c k) (hB : B ≤ g) (hc : bs.length ≤ c) (hk : k < bs.length - 1 - k) :
    RevAt w0 (((wr.setCell ⟨g, k, none⟩ (d8 (bs.getD (bs.length - 1 - k) 0))).setCell ⟨g, bs.length - 1 - k, none⟩ (d8 (bs.getD k 0)))).drew B g bs c (k + 1) := by
  obtain ⟨cur, h1, h2, h3, h4⟩ := h
  refine ⟨_, ((h1.set_ k _).set_ (bs.length - 1 - k) _).drew, by simp [h2], ((h3.setCell hB _).setCell hB _).drew, fun p hp => ?_⟩
  rw [Array.getElem?_setIfInBounds, Array.getElem?_setIfInBounds]
  by_cases e1 : bs.length - 1 - k = p
  · subst e1
    rw [if_pos rfl, if_pos (by simp; omega)]
    rw [if_pos (by omega)]
    congr 3
    omega
  · rw [if_neg e1]
    by_cases e2 : k = p
    · subst e2
      rw [if_pos rfl, if_pos (by omega), if_pos (by omega)]
    · rw [if_neg e2, h4 p hp]
      by_cases e3 : p < k ∨ bs.length - k ≤ p
      · rw [if_pos e3, if_pos (by omega)]
      · rw [if_neg e3, if_neg (by omega)]

theorem reverse_any (w : World) (v : Value) (bs : List UInt8) (B : Nat) (h : Own8 B w v bs) (hn : bs.length ≤ 1073741824) :
    Calls Tryd.prog 34 #[v] w fun e w' => e = .returned (.tuple #[]) ∧ Own8 B w' v bs.reverse ∧ Below B w w' := by
  obtain ⟨A, c, rfl, h2, h3, h4⟩ := h
  rw [List.length_map] at h2 h4
  have HM := Lib.hid h3
  clear h3
  rcases h4 with ⟨h0, rfl⟩ | ⟨g, cur, rfl, hg, hblk, hs, ht⟩
  · have : bs = [] := by cases bs with
      | nil => rfl
      | cons a l => simp at h0
    subst this
    go_enter Tryd.func34, Tryd.ntmps34
    go_wp2_with fail
    refine wp_loop_rounds 1 ?_
    rw [rounds_succ]
    go_wp2_with fail
    go_end0
    exact ⟨rfl, ⟨A, 0, rfl, Nat.le_refl _, HM.out, .inl ⟨rfl, rfl⟩⟩, Below.refl _ _⟩
  · have hinit : RevAt w w B g bs c 0 := ⟨cur, hblk, hs, Below.refl _ _, fun p hp => by
      rw [if_neg (by omega)]
      have := take_at ht (j := p) (u := d8 bs[p]) (by rw [List.getElem?_map, List.getElem?_eq_getElem hp]; rfl)
      rw [this, List.getD_eq_getElem?_getD, List.getElem?_eq_getElem hp]
      rfl⟩
    have HI := Lib.hid hinit
    clear hinit hs ht hblk
    rw [List.length_map]
    go_enter Tryd.func34, Tryd.ntmps34
    go_wp2_with fail
    go_loopw [2, 3] (fun i j wr => ∃ k : Nat, k ≤ bs.length ∧ 2 * k ≤ bs.length + 1 ∧ i = .int .i64 k ∧ j = .int .i64 ((bs.length : Int) - 1 - k) ∧ RevAt w wr B g bs c k) (fun _ j _ => (intOf j + 1).toNat)
    case atStart => exact ⟨0, Nat.zero_le _, by omega, rfl, by simp, HI.out⟩
    case round =>
      obtain ⟨k, hk, hk2, rfl, rfl, hR⟩ := hrel
      have HR := Lib.hid hR
      by_cases hlt : k < bs.length - 1 - k
      · obtain ⟨cur', q1, q2, q3, q4⟩ := hR
        have hci := q1.cell k
        have hcj := q1.cell (bs.length - 1 - k)
        have hfi := q1.frozen k
        have hfj := q1.frozen (bs.length - 1 - k)
        rw [q4 k (by omega), if_neg (by omega)] at hci
        rw [q4 (bs.length - 1 - k) (by omega), if_neg (by omega)] at hcj
        clear q1 q2 q3 q4
        have hS := RevAt.step HR.out hg h2 hlt
        have HS := Lib.hid hS; clear hS
        obtain ⟨j, hj⟩ : ∃ j, bs.length - 1 - k = j := ⟨_, rfl⟩
        have hjI : (bs.length : Int) - 1 - (k : Int) = (j : Int) := by omega
        rw [hj] at hcj hfj HS hlt
        obtain ⟨x, hx⟩ : ∃ x, bs.getD k 0 = x := ⟨_, rfl⟩
        obtain ⟨y, hy⟩ : ∃ y, bs.getD j 0 = y := ⟨_, rfl⟩
        rw [hx] at hci HS
        rw [hy] at hcj HS
        have hjn : j < bs.length := by omega
        have HJ := Lib.hid hj
        have HJI := hjI
        rw [hjI]
        clear hx hy hj hjI
        have HJ2 := Lib.hid HJI
        clear HJI
        simp only [d8] at hci hcj
        have hij : k ≠ j := by omega
        go_wp2_with fail
        go_region
        go_wp2_with fail
        go_roundw
        case rel =>
          refine ⟨k + 1, by omega, by have := HJ.out; omega, by go_num, congrArg (Value.int .i64) (by have := HJ.out; omega), HS.out⟩
        case measure => simp [intOf]
      · clear hR
        go_wp2_with fail
        go_end0
        obtain ⟨cur', q1, q2, q3, q4⟩ := HR.out
        refine ⟨rfl, ⟨_, c, by simp, by simpa using h2, HM.out, .inr ⟨g, cur', rfl, hg, q1, q2, ?_⟩⟩, q3⟩
        apply List.ext_getElem?
        intro p
        rw [List.length_map, List.length_reverse, List.getElem?_take]
        by_cases hp : p < bs.length
        · rw [if_pos hp, Array.getElem?_toList, q4 p hp, List.getElem?_map, List.getElem?_reverse hp]
          have e : bs[bs.length - 1 - p]? = some (bs.getD (bs.length - 1 - p) 0) := by
            rw [List.getD_eq_getElem?_getD, List.getElem?_eq_getElem (by omega)]; rfl
          rw [e]
          have e2 : (if p < k ∨ bs.length - k ≤ p then bs.getD (bs.length - 1 - p) 0 else bs.getD p 0) = bs.getD (bs.length - 1 - p) 0 := by
            split
            · rfl
            · have : p = bs.length - 1 - p := by omega
              rw [← this]
          rw [e2]
          rfl
        · rw [if_neg hp, List.getElem?_eq_none (by simp; omega)]
end Big
end Go.Proofs.YtdijknnlldjgmaaDoor
