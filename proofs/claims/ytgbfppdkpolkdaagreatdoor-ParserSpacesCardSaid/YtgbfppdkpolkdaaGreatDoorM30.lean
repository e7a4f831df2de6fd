import Derived.Test.YtgbfppdkpolkdaaGreatDoorM29
import Derived.Test.YtgbfppdkpolkdaaGreatDoorM23
import Derived.Test.YtgbfppdkpolkdaaGreatDoorM20
import Derived.Test.YtgbfppdkpolkdaaGreatDoorM25
import Derived.Test.YtgbfppdkpolkdaaGreatDoorM10
/- ParserLimits. -/
namespace Go.Proofs.YtgbfppdkpolkdaaGreatDoor
namespace Big
open Go.RowKit
theorem addC (a b c : List UInt8) (h : a ++ b = c) (hl : c.length ≤ 1000) : ∀ W : World, (binOp .add 9 (str a) (str b)).run Tryz.prog W = .ok (str c) W := fun W => by
  subst h
  rw [List.length_append] at hl
  exact run_add_str a b (by omega) W
set_option maxHeartbeats 2000000 in
set_option maxRecDepth 100000 in
theorem parserLimits_any (w : World) (n z : Int) (hn1 : -9223372036854775808 ≤ n) (hn2 : n ≤ 9223372036854775807) (hz1 : -9223372036854775808 ≤ z) (hz2 : z ≤ 9223372036854775807) (hm : MaxV w) :
    Calls Tryz.prog 6 #[.int .i64 n, .int .i64 z] w fun e w' => e = .returned (.bool true) ∧ Ext w w' := by
  have HAW := Lib.hid (awake19_any w hm)
  have HM := Lib.hid hm
  have HMK := Lib.hid (fun W => mod_any W n 110 hn1 hn2 (by decide) (by decide))
  have HM4 := Lib.hid (fun W => mod_any W z 4 hz1 hz2 (by decide) (by decide))
  have HM10 := Lib.hid (fun W => mod_any W n 10 hn1 hn2 (by decide) (by decide))
  have hm1 := Int.emod_nonneg n (show (110 : Int) ≠ 0 by decide)
  have hm2 := Int.emod_lt_of_pos n (show (0 : Int) < 110 by decide)
  have hp1 := Int.emod_nonneg z (show (4 : Int) ≠ 0 by decide)
  have hp2 := Int.emod_lt_of_pos z (show (0 : Int) < 4 by decide)
  have hq1 := Int.emod_nonneg n (show (10 : Int) ≠ 0 by decide)
  have hq2 := Int.emod_lt_of_pos n (show (0 : Int) < 10 by decide)
  generalize n % 110 = m at *
  generalize z % 4 = p at *
  generalize n % 10 = q at *
  obtain ⟨m, rfl⟩ := Int.eq_ofNat_of_zero_le hm1
  obtain ⟨q, rfl⟩ := Int.eq_ofNat_of_zero_le hq1
  have hp : p = 0 ∨ p = 1 ∨ p = 2 ∨ p = 3 := by omega
  have HP := Lib.hid hp
  clear hm hm1 hp1 hp2 hq1 hp
  go_enter Tryz.func6, Tryz.ntmps6
  go_wp2_with fail
  refine HAW.out.mono ?_
  rintro e w1 ⟨rfl, hx1⟩
  have HX1 := Lib.hid hx1
  clear hx1
  go_wp2_with fail
  refine (HMK.out _).mono ?_
  rintro e w2 ⟨rfl, rfl⟩
  go_wp2_with fail
  go_loopw [6, 7, 14] (fun s6 s7 s14 wr => ∃ (i : Nat) (l r : List UInt8), i ≤ m ∧ s14 = .int .i64 (i : Int) ∧ s6 = str l ∧ s7 = str r ∧ l.length ≤ 3 * i ∧ r.length ≤ i ∧ w1 = wr) (fun _ _ s14 _ => m - (intOf s14).toNat)
  case atStart => exact ⟨0, [], [], Nat.zero_le _, rfl, rfl, rfl, by simp, by simp, rfl⟩
  case round =>
    obtain ⟨i, l, r, hi, rfl, rfl, rfl, hll, hrl, rfl⟩ := hrel
    by_cases hlt : i < m
    · have a0 : ∀ W : World, (binOp .add 9 (str l) (.string ⟨#[45]⟩)).run Tryz.prog W = .ok (str (l ++ [45])) W := addC l [45] _ rfl (by simp; omega)
      have a1 : ∀ W : World, (binOp .add 9 (str l) (.string ⟨#[40, 49, 43]⟩)).run Tryz.prog W = .ok (str (l ++ [40, 49, 43])) W := addC l [40, 49, 43] _ rfl (by simp; omega)
      have a2 : ∀ W : World, (binOp .add 9 (str l) (.string ⟨#[49, 43]⟩)).run Tryz.prog W = .ok (str (l ++ [49, 43])) W := addC l [49, 43] _ rfl (by simp; omega)
      have a3 : ∀ W : World, (binOp .add 9 (str l) (.string ⟨#[108, 110, 40]⟩)).run Tryz.prog W = .ok (str (l ++ [108, 110, 40])) W := addC l [108, 110, 40] _ rfl (by simp; omega)
      have a4 : ∀ W : World, (binOp .add 9 (str r) (.string ⟨#[41]⟩)).run Tryz.prog W = .ok (str (r ++ [41])) W := addC r [41] _ rfl (by simp; omega)
      rcases HP.out with rfl | rfl | rfl | rfl
      · go_wp2_with fail
        refine (HM4.out _).mono ?_
        rintro e w2 ⟨rfl, rfl⟩
        go_wp2_with fail
        go_roundw
        case rel => exact ⟨i + 1, _, _, by omega, by go_num, rfl, rfl, by simp; omega, by omega, trivial⟩
        case measure => simp [intOf]; omega
      · go_wp2_with fail
        refine (HM4.out _).mono ?_
        rintro e w2 ⟨rfl, rfl⟩
        go_wp2_with fail
        go_roundw
        case rel => exact ⟨i + 1, _, _, by omega, by go_num, rfl, rfl, by simp; omega, by simp; omega, trivial⟩
        case measure => simp [intOf]; omega
      · go_wp2_with fail
        refine (HM4.out _).mono ?_
        rintro e w2 ⟨rfl, rfl⟩
        go_wp2_with fail
        go_roundw
        case rel => exact ⟨i + 1, _, _, by omega, by go_num, rfl, rfl, by simp; omega, by omega, trivial⟩
        case measure => simp [intOf]; omega
      · go_wp2_with fail
        refine (HM4.out _).mono ?_
        rintro e w2 ⟨rfl, rfl⟩
        go_wp2_with fail
        go_roundw
        case rel => exact ⟨i + 1, _, _, by omega, by go_num, rfl, rfl, by simp; omega, by simp; omega, trivial⟩
        case measure => simp [intOf]; omega
    · obtain rfl : i = m := by omega
      go_wp2_with fail
      refine (HM10.out _).mono ?_
      rintro e w2 ⟨rfl, rfl⟩
      obtain ⟨sv, hsv⟩ : ∃ sv : List (List UInt8), sv = [[54, 52], [54, 53], [45, 54, 52], [45, 54, 53], [57, 57], [49, 48, 48], [48], [48, 48], [54, 46, 52], [45]] := ⟨_, rfl⟩
      have hcs : (sv.map str).toArray = #[.string ⟨#[54, 52]⟩, .string ⟨#[54, 53]⟩, .string ⟨#[45, 54, 52]⟩, .string ⟨#[45, 54, 53]⟩, .string ⟨#[57, 57]⟩, .string ⟨#[49, 48, 48]⟩, .string ⟨#[48]⟩, .string ⟨#[48, 48]⟩, .string ⟨#[54, 46, 52]⟩, .string ⟨#[45]⟩] := by rw [hsv]; rfl
      have hsl : sv.length = 10 := by rw [hsv]; rfl
      have hqi : q < sv.length := by omega
      have hcell : (w1.alloc (.cells #[.string ⟨#[54, 52]⟩, .string ⟨#[54, 53]⟩, .string ⟨#[45, 54, 52]⟩, .string ⟨#[45, 54, 53]⟩, .string ⟨#[57, 57]⟩, .string ⟨#[49, 48, 48]⟩, .string ⟨#[48]⟩, .string ⟨#[48, 48]⟩, .string ⟨#[54, 46, 52]⟩, .string ⟨#[45]⟩] 9)).cell? ⟨w1.heap.size, q, none⟩ = some (str sv[q]) := by
        have h1 := (Blk.new w1 9 (sv.map str).toArray).cell q
        rw [hcs] at h1
        rw [h1, ← hcs, List.getElem?_toArray]
        exact map_str_get hqi
      have hsm : ∀ t ∈ sv, t.length ≤ 3 := by rw [hsv]; decide
      have hsq := hsm sv[q] (List.getElem_mem hqi)
      have HXF := Lib.hid (HX1.out.alloc (.cells #[.string ⟨#[54, 52]⟩, .string ⟨#[54, 53]⟩, .string ⟨#[45, 54, 52]⟩, .string ⟨#[45, 54, 53]⟩, .string ⟨#[57, 57]⟩, .string ⟨#[49, 48, 48]⟩, .string ⟨#[48]⟩, .string ⟨#[48, 48]⟩, .string ⟨#[54, 46, 52]⟩, .string ⟨#[45]⟩] 9))
      clear hsm hcs hsv
      generalize sv[q] = t at *
      clear hqi hsl
      generalize w1.alloc (.cells #[.string ⟨#[54, 52]⟩, .string ⟨#[54, 53]⟩, .string ⟨#[45, 54, 52]⟩, .string ⟨#[45, 54, 53]⟩, .string ⟨#[57, 57]⟩, .string ⟨#[49, 48, 48]⟩, .string ⟨#[48]⟩, .string ⟨#[48, 48]⟩, .string ⟨#[54, 46, 52]⟩, .string ⟨#[45]⟩] 9) = wa at *
      generalize w1.heap.size = ga at *
      obtain ⟨px, hpx⟩ : ∃ px, [120, 94] ++ t = px := ⟨_, rfl⟩
      obtain ⟨l1, hl1⟩ : ∃ l1, l ++ [49] = l1 := ⟨_, rfl⟩
      obtain ⟨l2, hl2⟩ : ∃ l2, l1 ++ r = l2 := ⟨_, rfl⟩
      obtain ⟨l3, hl3⟩ : ∃ l3, l ++ px = l3 := ⟨_, rfl⟩
      obtain ⟨l4, hl4⟩ : ∃ l4, l3 ++ r = l4 := ⟨_, rfl⟩
      have e1 : px.length = 2 + t.length := by rw [← hpx]; simp; omega
      have e2 : l1.length = l.length + 1 := by rw [← hl1]; simp
      have e3 : l2.length = l1.length + r.length := by rw [← hl2]; simp
      have e4 : l3.length = l.length + px.length := by rw [← hl3]; simp
      have e5 : l4.length = l3.length + r.length := by rw [← hl4]; simp
      have b0 : ∀ W : World, (binOp .add 9 (.string ⟨#[120, 94]⟩) (str t)).run Tryz.prog W = .ok (str px) W := addC [120, 94] t px hpx (by omega)
      have b1 : ∀ W : World, (binOp .add 9 (str l) (.string ⟨#[49]⟩)).run Tryz.prog W = .ok (str l1) W := addC l [49] l1 hl1 (by omega)
      have b2 := addC l1 r l2 hl2 (by omega)
      have b3 := addC l px l3 hl3 (by omega)
      have b4 := addC l3 r l4 hl4 (by omega)
      have HS2 := Lib.hid (fun W hx => same19_any W l2 (HM.out.ext (w' := W) hx))
      have HS3 := Lib.hid (fun W hx => same19_any W px (HM.out.ext (w' := W) hx))
      have HS4 := Lib.hid (fun W hx => same19_any W l4 (HM.out.ext (w' := W) hx))
      clear hpx hl1 hl2 hl3 hl4 e1 e2 e3 e4 e5 hll hrl
      go_wp2_with fail
      refine (HS2.out _ HXF.out).mono ?_
      rintro e w3 ⟨rfl, hx3⟩
      have HX3 := Lib.hid (HXF.out.trans hx3)
      clear hx3
      go_wp2_with fail
      refine (HS3.out _ HX3.out).mono ?_
      rintro e w4 ⟨rfl, hx4⟩
      have HX4 := Lib.hid (HX3.out.trans hx4)
      clear hx4
      go_wp2_with fail
      refine (HS4.out _ HX4.out).mono ?_
      rintro e w5 ⟨rfl, hx5⟩
      have HX5 := Lib.hid (HX4.out.trans hx5)
      clear hx5
      go_wp2_with fail
      go_ret
      exact ⟨rfl, HX5.out⟩
end Big
end Go.Proofs.YtgbfppdkpolkdaaGreatDoor
/- LexerScans. -/
namespace Go.Proofs.YtgbfppdkpolkdaaGreatDoor
namespace Big
open Go.RowKit
theorem nodeT_ne (e : Ex) (h : e.Good) : nodeT fmtI e ≠ [] := by
  cases e with
  | leaf k t =>
    unfold nodeT
    rcases h with ⟨rfl, h, _⟩ | ⟨rfl, h⟩ | ⟨rfl | rfl, _⟩
    · intro he
      have he2 : t = [] := he
      rw [he2] at h
      revert h
      decide
    · intro he
      have he2 : t = [] := he
      rw [he2] at h
      revert h
      decide
    · simp
    · simp
  | un k n x =>
    unfold nodeT
    split
    · simp
    · split <;> simp
  | bin k x y =>
    unfold nodeT
    have := signT_len k
    intro he
    have h2 := congrArg List.length he
    simp at h2
    have := h2.2.1
    rw [this] at *
    simp_all
theorem wayT_pos (m : Int) (s : List UInt8) (h : s ≠ []) : 0 < (wayT m s).length := by
  unfold wayT
  split
  · simp
  · split
    · simp
    · exact List.length_pos_iff.2 h
end Big
end Go.Proofs.YtgbfppdkpolkdaaGreatDoor
/- LexerCovers. -/
namespace Go.Proofs.YtgbfppdkpolkdaaGreatDoor
namespace Big
open Go.RowKit
theorem Cov.le {x : List UInt8} : ∀ {a : Nat} {ts : List Tok}, Cov x a ts → a ≤ x.length
  | _, [], h => h.1
  | _, t :: ts, ⟨h1, _, h3, _⟩ => by omega
theorem byteAt_space {x : List UInt8} {i : Nat} (h : x[i]? = some 32) : ((byteAt x i : Int) != 32) = false := by
  obtain ⟨hi, he⟩ := List.getElem?_eq_some_iff.1 h
  rw [byteAt_eq x i hi, he]
  rfl
end Big
end Go.Proofs.YtgbfppdkpolkdaaGreatDoor
/- ParserTokens. -/
namespace Go.Proofs.YtgbfppdkpolkdaaGreatDoor
namespace Big
open Go.RowKit
/-- Behind a draw in the loop: the tape stands somewhere, all else is kept. -/
def TokS (B g : Nat) (wz : World) (L : Value) (tl : List Int) (W : World) : Prop := (∃ a, TapeAt B g W L tl a) ∧ KB B g wz W
theorem next_held {B g : Nat} {wz W : World} {L : Value} {tl : List Int} (n : Int) (hn : 1 ≤ n) (hn2 : n ≤ 4611686018427387904) (hS : TokS B g wz L tl W) : Calls Tryz.prog 16 #[.pointer (some ⟨g, 0, none⟩), .int .i64 n] W fun e w' => ∃ m : Nat, e = .returned (.int .i64 (m : Int)) ∧ (m : Int) < n ∧ TokS B g wz L tl w' := by
  obtain ⟨⟨a, ht⟩, hk⟩ := hS
  refine (next_any B g W L tl a n ht hn hn2).mono ?_
  rintro e w' ⟨rfl, ht', hk'⟩
  obtain ⟨h1, h2⟩ := nextV_range (l := tl) (a := a) hn
  obtain ⟨m, hm⟩ := Int.eq_ofNat_of_zero_le h1
  rw [hm] at h2 ⊢
  exact ⟨m, rfl, h2, ⟨_, ht'⟩, hk.trans (hk' _)⟩
theorem TokS.drewN {B g : Nat} {wz W : World} {L : Value} {tl : List Int} (h : TokS B g wz L tl W) (n : Nat) : TokS B g wz L tl (W.drewN n) := by
  obtain ⟨⟨a, ht⟩, hk⟩ := h
  exact ⟨⟨a, ht.below (((Dr.refl W).drewN n).below B)⟩, hk.drewN n⟩
theorem TokS.drew {B g : Nat} {wz W : World} {L : Value} {tl : List Int} (h : TokS B g wz L tl W) : TokS B g wz L tl W.drew := h.drewN 1
def tokWords : List (List UInt8) := [[120], [49], [43], [45], [42], [47], [94], [40], [41], [50], [112, 105], [101], [115, 113, 114, 116], [108, 110], [48, 46, 53], [55, 48], [45]]
def tokWord (m : Nat) : List UInt8 := tokWords.getD m []
theorem tokWord_len (m : Nat) (h : m < 17) : 1 ≤ (tokWord m).length ∧ (tokWord m).length ≤ 4 := by
  have : ∀ m : Fin 17, 1 ≤ (tokWord m.val).length ∧ (tokWord m.val).length ≤ 4 := by decide
  exact this ⟨m, h⟩
theorem tokWord_cell (w : World) (m : Nat) (h : m < 17) : (w.alloc (.cells #[.string ⟨#[120]⟩, .string ⟨#[49]⟩, .string ⟨#[43]⟩, .string ⟨#[45]⟩, .string ⟨#[42]⟩, .string ⟨#[47]⟩, .string ⟨#[94]⟩, .string ⟨#[40]⟩, .string ⟨#[41]⟩, .string ⟨#[50]⟩, .string ⟨#[112, 105]⟩, .string ⟨#[101]⟩, .string ⟨#[115, 113, 114, 116]⟩, .string ⟨#[108, 110]⟩, .string ⟨#[48, 46, 53]⟩, .string ⟨#[55, 48]⟩, .string ⟨#[45]⟩] 9)).cell? ⟨w.heap.size, m, none⟩ = some (str (tokWord m)) := by
  have hcs : (tokWords.map str).toArray = #[.string ⟨#[120]⟩, .string ⟨#[49]⟩, .string ⟨#[43]⟩, .string ⟨#[45]⟩, .string ⟨#[42]⟩, .string ⟨#[47]⟩, .string ⟨#[94]⟩, .string ⟨#[40]⟩, .string ⟨#[41]⟩, .string ⟨#[50]⟩, .string ⟨#[112, 105]⟩, .string ⟨#[101]⟩, .string ⟨#[115, 113, 114, 116]⟩, .string ⟨#[108, 110]⟩, .string ⟨#[48, 46, 53]⟩, .string ⟨#[55, 48]⟩, .string ⟨#[45]⟩] := rfl
  have hm : m < tokWords.length := h
  have h1 := (Blk.new w 9 (tokWords.map str).toArray).cell m
  rw [hcs] at h1
  rw [h1, ← hcs, List.getElem?_toArray, map_str_get hm]
  unfold tokWord
  rw [List.getD_eq_getElem?_getD, List.getElem?_eq_getElem hm]
  rfl
set_option maxHeartbeats 2000000 in
set_option maxRecDepth 100000 in
theorem parserTokens_any (w : World) (v : Value) (l : List Int) (h : ArrI w v l) (hm : MaxV w) :
    Calls Tryz.prog 4 #[v] w fun e w' => e = .returned (.bool true) ∧ Ext w w' := by
  have HAW := Lib.hid (awake19_any w hm)
  have HM := Lib.hid hm
  have HL := Lib.hid h
  have HLT := Lib.hid (fun W hx => light_any W v l (HL.out.ext hx))
  obtain ⟨A0, c0, rfl, _⟩ := h.open
  clear h hm
  by_cases hlt : 120 < l.length
  · have hd : decide (l.length ≤ 120) = false := decide_eq_false (by omega)
    rw [hd] at HLT
    clear HL hlt hd
    go_enter Tryz.func4, Tryz.ntmps4
    go_wp2_with fail
    refine HAW.out.mono ?_
    rintro e w1 ⟨rfl, hx1⟩
    have HX1 := Lib.hid hx1
    clear hx1
    go_wp2_with fail
    refine (HLT.out _ HX1.out).mono ?_
    rintro e w2 ⟨rfl, rfl⟩
    go_wp2_with fail
    go_ret
    exact ⟨rfl, HX1.out⟩
  have hd : decide (l.length ≤ 120) = true := decide_eq_true (by omega)
  rw [hd] at HLT
  have hll : l.length ≤ 120 := by omega
  clear hlt hd
  go_enter Tryz.func4, Tryz.ntmps4
  go_wp2_with fail
  refine HAW.out.mono ?_
  rintro e w1 ⟨rfl, hx1⟩
  have HX1 := Lib.hid hx1
  clear hx1
  go_wp2_with fail
  refine (HLT.out _ HX1.out).mono ?_
  rintro e w2 ⟨rfl, rfl⟩
  go_wp2_with fail
  refine (new_any _ _ l (HL.out.ext HX1.out) (by omega)).mono ?_
  rintro e w2 ⟨rfl, ht2, hx2, hs2⟩
  have HX2 := Lib.hid (HX1.out.trans hx2)
  have hg1 : w.heap.size ≤ w1.heap.size := HX1.out.size
  have hx3 : Ext w2 (w2.alloc (.cells #[.string ⟨#[120]⟩, .string ⟨#[49]⟩, .string ⟨#[43]⟩, .string ⟨#[45]⟩, .string ⟨#[42]⟩, .string ⟨#[47]⟩, .string ⟨#[94]⟩, .string ⟨#[40]⟩, .string ⟨#[41]⟩, .string ⟨#[50]⟩, .string ⟨#[112, 105]⟩, .string ⟨#[101]⟩, .string ⟨#[115, 113, 114, 116]⟩, .string ⟨#[108, 110]⟩, .string ⟨#[48, 46, 53]⟩, .string ⟨#[55, 48]⟩, .string ⟨#[45]⟩] 9)) := (Ext.refl w2).alloc _
  have HX3 := Lib.hid (HX2.out.trans hx3)
  have HT3 := Lib.hid ((ht2.below (hx3.below (by omega))).mono (B' := w2.heap.size + 1) (by omega))
  have HC3 := Lib.hid (tokWord_cell w2)
  have hsz3 : (w2.alloc (.cells #[.string ⟨#[120]⟩, .string ⟨#[49]⟩, .string ⟨#[43]⟩, .string ⟨#[45]⟩, .string ⟨#[42]⟩, .string ⟨#[47]⟩, .string ⟨#[94]⟩, .string ⟨#[40]⟩, .string ⟨#[41]⟩, .string ⟨#[50]⟩, .string ⟨#[112, 105]⟩, .string ⟨#[101]⟩, .string ⟨#[115, 113, 114, 116]⟩, .string ⟨#[108, 110]⟩, .string ⟨#[48, 46, 53]⟩, .string ⟨#[55, 48]⟩, .string ⟨#[45]⟩] 9)).heap.size = w2.heap.size + 1 := by simp
  clear ht2 hx2 hx3 HLT
  go_wp2_with fail
  generalize w2.alloc (.cells #[.string ⟨#[120]⟩, .string ⟨#[49]⟩, .string ⟨#[43]⟩, .string ⟨#[45]⟩, .string ⟨#[42]⟩, .string ⟨#[47]⟩, .string ⟨#[94]⟩, .string ⟨#[40]⟩, .string ⟨#[41]⟩, .string ⟨#[50]⟩, .string ⟨#[112, 105]⟩, .string ⟨#[101]⟩, .string ⟨#[115, 113, 114, 116]⟩, .string ⟨#[108, 110]⟩, .string ⟨#[48, 46, 53]⟩, .string ⟨#[55, 48]⟩, .string ⟨#[45]⟩] 9) = wz at *
  generalize hgz : w2.heap.size = gz at *
  generalize w1.heap.size = g at *
  clear hgz
  subst hs2
  have HSZ := Lib.hid hsz3
  have HCW : Hid (∀ W, KB ((g + 1) + 1) g wz W → ∀ m : Nat, m < 17 → W.cell? ⟨(g + 1), m, none⟩ = some (str (tokWord m))) := Lib.hid (fun W hk m hm => (World.cell?_of_block (a := ⟨(g + 1), m, none⟩) (hk.block (g + 1) (by omega) (by omega))).trans (HC3.out m hm))
  have HTS : Hid (∀ {W}, TokS ((g + 1) + 1) g wz (.slice A0 l.length c0) l W → ∀ m : Nat, m < 17 → W.cell? ⟨(g + 1), m, none⟩ = some (str (tokWord m))) := Lib.hid (fun h => HCW.out _ h.2)
  clear hsz3
  go_loopg [5] 100 (fun gh s5 wr => ∃ s : List UInt8, gh = 100 - s.length ∧ s5 = str s ∧ s.length ≤ 70 ∧ TokS ((g + 1) + 1) g wz (.slice A0 l.length c0) l wr)
  case atStart => exact ⟨[], rfl, rfl, by simp, ⟨0, HT3.out⟩, KB.refl _ _ _⟩
  case round =>
    obtain ⟨s, hgg, rfl, hsl, ⟨a, ht⟩, hk⟩ := hrel
    have HGG := Lib.hid hgg
    have HMO := Lib.hid (more_any _ _ _ _ _ _ ht)
    have HT := Lib.hid ht
    have HK := Lib.hid hk
    clear hgg ht hk
    by_cases ha : a < l.length
    · have hda : decide (a < l.length) = true := decide_eq_true ha
      rw [hda] at HMO
      clear hda
      by_cases h60 : s.length < 60
      · have h60c : (s.length : Int) < 60 := by omega
        go_wp2_with fail
        refine HMO.out.mono ?_
        rintro e w4 ⟨rfl, hd4⟩
        have hS : TokS ((g + 1) + 1) g wz (.slice A0 l.length c0) l w4 := ⟨⟨a, HT.out.below (hd4.below _)⟩, HK.out.below (hd4.below _)⟩
        have hC := HTS.out hS
        have hadd1 : ∀ m : Nat, m < 17 → ∀ W : World, (binOp .add 9 (str s) (str (tokWord m))).run Tryz.prog W = .ok (str (s ++ tokWord m)) W := fun m hm => addC s (tokWord m) _ rfl (by rw [List.length_append]; have := tokWord_len m hm; omega)
        have hadd2 : ∀ m k : Nat, m < 17 → (k : Int) < 2 → ∀ W : World, (binOp .add 9 (str (s ++ tokWord m)) (.string (ByteArray.extract ⟨#[32]⟩ 0 k))).run Tryz.prog W = .ok (str (s ++ tokWord m ++ List.take k [32])) W := fun m k hm hk W => by
          have h1 : (.string (ByteArray.extract ⟨#[32]⟩ 0 k) : Value) = str (List.take k [32]) := by
            rcases (by omega : k = 0 ∨ k = 1) with rfl | rfl <;> kernel_rfl
          rw [h1]
          refine addC (s ++ tokWord m) (List.take k [32]) _ rfl ?_ W
          rw [List.length_append, List.length_append, List.length_take]
          have := tokWord_len m hm
          simp only [List.length_singleton]
          omega
        have H60 := Lib.hid h60
        clear hd4 h60 ha hsl
        go_wp2_with fail
        go_region_held3 (fun W => TokS ((g + 1) + 1) g wz (.slice A0 l.length c0) l W ∧ ∀ m : Nat, m < 17 → W.cell? ⟨(g + 1), m, none⟩ = some (str (tokWord m)))
          (first | (exact ⟨hS.drew, HTS.out hS.drew⟩) | (exact ⟨by assumption, HTS.out (by assumption)⟩))
          (first
            | (go_at_call 16; refine (next_held _ (by decide) (by decide) (And.left (by assumption))).mono ?_; rintro e w' ⟨m, rfl, hmn, hS'⟩; have hmk : m < 17 := (by omega); try (have hml : (m : Int) ≤ 1 := (by omega)); try (have hm0 : (0 : Int) ≤ (m : Int) := (by omega))))
        rename_i w5 m1 hmn1 hS5 hmk1 hHeld
        have hlw := tokWord_len m1 hmk1
        have HS6 := Lib.hid hS'
        clear hHeld hS' hS5 hS hC hadd1 hadd2
        go_wp2_with fail
        go_roundg (100 - (s ++ (tokWord m1 ++ List.take m [32])).length)
        case rel => exact ⟨_, rfl, rfl, by have := H60.out; simp only [List.length_append, List.length_take, List.length_singleton]; omega, HS6.out⟩
        case measure => have := H60.out; rw [HGG.out]; simp only [List.length_append, List.length_take, List.length_singleton]; omega
      · have h60c : ¬ (s.length : Int) < 60 := by omega
        have HSM := Lib.hid (fun W hx => same19_any W s (HM.out.ext (w' := W) hx))
        go_wp2_with fail
        refine HMO.out.mono ?_
        rintro e w4 ⟨rfl, hd4⟩
        have HX4 := Lib.hid ((HK.out.below (hd4.below _)).to_ext HX3.out (by omega) hg1)
        clear hd4
        go_wp2_with fail
        refine (HSM.out _ HX4.out).mono ?_
        rintro e w5 ⟨rfl, hx5⟩
        have HX5 := Lib.hid (HX4.out.trans hx5)
        clear hx5
        go_wp2_with fail
        go_ret
        exact ⟨rfl, HX5.out⟩
    · have hda : decide (a < l.length) = false := decide_eq_false ha
      rw [hda] at HMO
      have HSM := Lib.hid (fun W hx => same19_any W s (HM.out.ext (w' := W) hx))
      clear hda
      go_wp2_with fail
      refine HMO.out.mono ?_
      rintro e w4 ⟨rfl, hd4⟩
      have HX4 := Lib.hid ((HK.out.below (hd4.below _)).to_ext HX3.out (by omega) hg1)
      clear hd4
      go_wp2_with fail
      refine (HSM.out _ HX4.out).mono ?_
      rintro e w5 ⟨rfl, hx5⟩
      have HX5 := Lib.hid (HX4.out.trans hx5)
      clear hx5
      go_wp2_with fail
      go_ret
      exact ⟨rfl, HX5.out⟩
end Big
end Go.Proofs.YtgbfppdkpolkdaaGreatDoor
