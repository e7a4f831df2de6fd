import Derived.Test.YtbmmnpggadakdaaDoorW38
import Derived.Test.YtbmmnpggadakdaaDoorW37
/- record.Join; RecordFields. -/
namespace Go.Proofs.YtbmmnpggadakdaaDoor
namespace Big
open Go.RowKit
theorem join_lib (c : UInt8) : ∀ ls : List (List UInt8), Lib.join ls [c] = joinWith c ls
  | [] => rfl
  | [x] => Lib.join_one x [c]
  | x :: y :: r => by
    rw [Lib.join_cons, joinWith, ← join_lib c (y :: r), Lib.join_cons]
    unfold Lib.joinTail
    simp
theorem back_string (ls : List (List UInt8)) : (ls.map fun l => (⟨l.toArray⟩ : ByteArray)).map (·.data.toList) = ls := by
  rw [List.map_map]
  conv => rhs; rw [← List.map_id ls]
  apply List.map_congr_left
  intro l _
  rfl
theorem jn_any (w : World) (v : Value) (ls : List (List UInt8)) (h : ArrS w v ls) (hn : ls.length ≤ 1073741824) (hlen : (joinWith 32 ls).length ≤ 1073741824) :
    Calls Tryd.prog 27 #[v, .string ⟨#[32]⟩] w fun e w' => e = .returned (str (joinWith 32 ls)) ∧ Ext w w' := by
  obtain ⟨A, c, rfl, hc, hm, hcell⟩ := h.open
  rcases Nat.eq_zero_or_pos ls.length with h0 | h0
  · have := List.eq_nil_of_length_eq_zero h0
    subst this
    refine (Tryd.strings_Join_none A c ⟨#[32]⟩ w).mono ?_
    rintro e w' ⟨rfl, rfl⟩
    exact ⟨rfl, Ext.refl _⟩
  · obtain ⟨b, o, rfl, hbk, hcell⟩ := hcell h0
    have hb := back_string ls
    have hj : Lib.join ((ls.map fun l => (⟨l.toArray⟩ : ByteArray)).map (·.data.toList)) (⟨#[32]⟩ : ByteArray).data.toList = joinWith 32 ls := by
      rw [hb]
      exact join_lib 32 ls
    have key := Tryd.strings_Join b o c (ls.map fun l => (⟨l.toArray⟩ : ByteArray)) ⟨#[32]⟩ w (fun j x hx => by
      rw [List.getElem?_map] at hx
      have hj : j < ls.length := by
        rcases Nat.lt_or_ge j ls.length with h | h
        · exact h
        · rw [List.getElem?_eq_none h] at hx; cases hx
      rw [List.getElem?_eq_getElem hj] at hx
      injection hx with hx
      rw [hcell j hj, ← hx]
      rfl) hbk (by rw [List.length_map]; omega) (by rw [List.length_map]; exact hc) (by rw [hj]; omega)
    rw [hj, List.length_map] at key
    exact key
theorem rcjoin_any (w : World) (v : Value) (ls : List (List UInt8)) (h : ArrS w v ls) (hn : ls.length ≤ 1073741824) (hlen : (joinWith 32 ls).length ≤ 1073741824) :
    Calls Tryd.prog 16 #[v] w fun e w' => e = .returned (str (joinWith 32 ls)) ∧ Ext w w' := by
  have HJ := Lib.hid (jn_any w v ls h hn hlen)
  clear h
  go_enter Tryd.func16, Tryd.ntmps16
  go_wp2_with fail
  refine HJ.out.mono ?_
  rintro e w' ⟨rfl, hx⟩
  have HX := Lib.hid hx
  go_wp2_with fail
  go_ret
  exact ⟨rfl, HX.out⟩
theorem join_len (c : UInt8) (m : Nat) : ∀ ls : List (List UInt8), (∀ x ∈ ls, x.length ≤ m) → (joinWith c ls).length ≤ ls.length * (m + 1)
  | [], _ => by simp [joinWith]
  | [x], h => by have := h x (by simp); simp [joinWith]; omega
  | x :: y :: r, h => by
    have h1 := h x (by simp)
    have h2 := join_len c m (y :: r) (fun z hz => h z (by simp [List.mem_cons] at hz ⊢; right; exact hz))
    have e : (x :: y :: r).length * (m + 1) = (y :: r).length * (m + 1) + (m + 1) := by rw [List.length_cons, Nat.succ_mul]
    rw [joinWith, List.length_append, List.length_cons, e]
    omega

theorem recFields_awake (w : World) (l : List UInt8) (v : Value) (ws : List (List UInt8)) (h : ArrS w v ws) (hT : Tab16 w) (hm : MaxVar w) (hbig : 500 < l.length ∨ 40 < ws.length) :
    Calls Tryd.prog 4 #[str l, v] w fun e w' => e = .returned (.bool true) ∧ Ext w w' := by
  have HT := Lib.hid hT
  have HM := Lib.hid hm
  obtain ⟨n, A, c, rfl⟩ := h.shape
  obtain rfl := h.len
  have hor : (500 : Int) < (l.length : Int) ∨ (¬ (500 : Int) < (l.length : Int) ∧ (40 : Int) < (ws.length : Int)) := by omega
  clear hT hm h hbig
  rcases hor with h1 | ⟨h1, h2⟩
  all_goals
    go_enter Tryd.func4, Tryd.ntmps4
    go_wp2_with fail
    refine (awake34_any _ HT.out HM.out).mono ?_
    rintro e1 w1 ⟨rfl, hx1⟩
    have HX1 := Lib.hid hx1; clear hx1
    go_wp2_with fail
    go_ret
    exact ⟨rfl, HX1.out⟩

set_option maxRecDepth 100000 in
theorem recFields_small (w : World) (l : List UInt8) (v : Value) (ws : List (List UInt8)) (h : ArrS w v ws) (hT : Tab16 w) (hm : MaxVar w) (hl : l.length ≤ 500) (hn : ws.length ≤ 40) :
    Calls Tryd.prog 4 #[str l, v] w fun e w' => e = .returned (.bool true) ∧ Ext w w' := by
  have HT := Lib.hid hT
  have HM := Lib.hid hm
  have HW := Lib.hid h
  obtain ⟨A, c, rfl, hc, hmx, hcell⟩ := h.open
  have HC := Lib.hid hcell
  have h1 : ¬ (500 : Int) < (l.length : Int) := by omega
  have h2 : ¬ (40 : Int) < (ws.length : Int) := by omega
  have HF := Lib.hid (fun W hx => fields_any W l (by omega) (hm.ext hx))
  have HR := Lib.hid (fun W => rfields_any W l (by omega))
  have hsl : (splitOn 32 l).length ≤ 600 := by
    have := Lib.count_le l [32]
    rw [length_splitOn]
    omega
  have HS := Lib.hid (fun W v u h h' => sameTexts_any W v u (splitOn 32 l) (splitOn 32 l) h h' (by omega) (by omega))
  have HJ := Lib.hid (fun W v h => rcjoin_any W v (splitOn 32 l) h (by omega) (by rw [join_split]; omega))
  rw [join_split] at HJ
  clear hT hm h hcell hmx hc hsl
  generalize splitOn 32 l = fs at *
  go_enter Tryd.func4, Tryd.ntmps4
  go_wp2_with fail
  refine (awake34_any _ HT.out HM.out).mono ?_
  rintro e1 w1 ⟨rfl, hx1⟩
  have HX1 := Lib.hid hx1; clear hx1
  go_wp2_with fail
  go_loop [20] (fun i => ∃ k : Nat, k ≤ ws.length ∧ i = .int .i64 k ∧ Hid (∀ x ∈ ws.take k, x.length ≤ 100)) (fun i => ws.length - (intOf i).toNat)
  case atStart => exact ⟨0, by omega, rfl, fun x hx => by simp at hx⟩
  case round =>
    obtain ⟨k, hk, rfl, HK⟩ := hrel
    by_cases hlt : k < ws.length
    · obtain ⟨b, o, rfl, hbk, hcell⟩ := HC.out (by omega)
      have hx := (HX1.out.cell hbk).trans (hcell k hlt)
      have HN : Hid (ws[k].length ≤ 100 → ∀ x ∈ ws.take (k + 1), x.length ≤ 100) := Lib.hid (fun h x hx => by
        rw [List.take_succ_eq_append_getElem hlt, List.mem_append] at hx
        rcases hx with hx | hx
        · exact HK.out x hx
        · simp at hx; subst hx; exact h)
      clear hcell
      generalize ws[k] = y at *
      by_cases hy : y.length ≤ 100
      · have h3 : ¬ (100 : Int) < (y.length : Int) := by omega
        have HN2 := Lib.hid (HN.out hy)
        clear hy
        go_wp2_with fail
        go_round
        case rel => exact ⟨k + 1, by omega, by go_num, HN2⟩
        case measure => simp [intOf]; omega
      · have h3 : (100 : Int) < (y.length : Int) := by omega
        clear hy
        go_wp2_with fail
        go_ret
        exact ⟨rfl, HX1.out⟩
    · obtain rfl : k = ws.length := by omega
      have hall : ∀ x ∈ ws, x.length ≤ 100 := by
        have := HK.out
        rwa [List.take_of_length_le (Nat.le_refl _)] at this
      have hjl : (joinWith 32 ws).length ≤ 10000 := by
        have h1 := join_len 32 100 ws hall
        have h2 : ws.length * (100 + 1) ≤ 40 * (100 + 1) := Nat.mul_le_mul_right _ hn
        omega
      have HJ2 := Lib.hid (fun W v h => rcjoin_any W v ws h (by omega) (by omega))
      have HJ3 := Lib.hid (fun W v h => rjoin_any W v ws h (by omega) (by omega))
      clear hall hjl
      generalize joinWith 32 ws = jw at *
      go_wp2_with fail
      refine (HF.out _ HX1.out).mono ?_
      rintro e2 w2 ⟨v2, rfl, ho2, hx2⟩
      have HX2 := Lib.hid (HX1.out.trans hx2); clear hx2
      have HO2 := Lib.hid ho2.arr
      obtain ⟨n2, A2, c2, rfl⟩ := ho2.arr.shape
      clear ho2
      go_wp2_with fail
      refine (HR.out _).mono ?_
      rintro e3 w3 ⟨v3, rfl, ho3, hx3⟩
      have HX23 := Lib.hid hx3; clear hx3
      have HO3 := Lib.hid ho3.arr
      obtain ⟨n3, A3, c3, rfl⟩ := ho3.arr.shape
      clear ho3
      go_wp2_with fail
      refine (HS.out _ _ _ (HO2.out.ext HX23.out) HO3.out).mono ?_
      rintro e4 w4 ⟨rfl, hx4⟩
      have HX24 := Lib.hid (HX23.out.trans hx4); clear hx4
      simp only [decide_true]
      go_wp2_with fail
      refine (HJ.out _ _ (HO2.out.ext HX24.out)).mono ?_
      rintro e5 w5 ⟨rfl, hx5⟩
      have HX5 := Lib.hid (HX2.out.trans (HX24.out.trans hx5)); clear hx5
      go_wp2_with fail
      refine (HJ2.out _ _ (HW.out.ext HX5.out)).mono ?_
      rintro e6 w6 ⟨rfl, hx6⟩
      have HX6 := Lib.hid (HX5.out.trans hx6); clear hx6
      go_wp2_with fail
      refine (HJ3.out _ _ (HW.out.ext HX6.out)).mono ?_
      rintro e7 w7 ⟨rfl, rfl⟩
      go_wp2_with fail
      go_ret
      exact ⟨rfl, HX6.out⟩

theorem recFields_any (w : World) (l : List UInt8) (v : Value) (ws : List (List UInt8)) (h : ArrS w v ws) (hT : Tab16 w) (hm : MaxVar w) :
    Calls Tryd.prog 4 #[str l, v] w fun e w' => e = .returned (.bool true) ∧ Ext w w' := by
  by_cases hb : 500 < l.length ∨ 40 < ws.length
  · exact recFields_awake w l v ws h hT hm hb
  · exact recFields_small w l v ws h hT hm (by omega) (by omega)
end Big
end Go.Proofs.YtbmmnpggadakdaaDoor
