import Derived.Test.YtbmmnpggadakdaaDoorW20
import Derived.Test.YtbmmnpggadakdaaDoorW6
namespace Go.Proofs.YtbmmnpggadakdaaDoor
namespace Big
open Go.RowKit

theorem rnatural_long (w : World) (l : List UInt8) (h : 20001 < l.length) :
    Calls Tryd.prog 45 #[str l] w fun e w' => e = .returned (.tuple #[.slice none 0 0, .int .i64 7]) ∧ w = w' := by
  have h' : (20001 : Int) < (l.length : Int) := by omega
  clear h
  go_enter Tryd.func45, Tryd.ntmps45
  go_wp2_with fail
  go_ret2
  exact ⟨rfl, rfl⟩

theorem rnatural_empty (w : World) :
    Calls Tryd.prog 45 #[str []] w fun e w' => e = .returned (.tuple #[.slice none 0 0, .int .i64 6]) ∧ w = w' := by
  go_enter Tryd.func45, Tryd.ntmps45
  go_wp2_with fail
  go_ret2
  exact ⟨rfl, rfl⟩

theorem rnatural_zero (w : World) (l : List UInt8) (h0 : byteAt l 0 = 48) (h1 : 1 < l.length) (h : l.length ≤ 20001) :
    Calls Tryd.prog 45 #[str l] w fun e w' => e = .returned (.tuple #[.slice none 0 0, .int .i64 6]) ∧ w = w' := by
  have h00 : ((byteAt l 0 : Int) == 48) = true := by rw [h0]; rfl
  have hle : ¬ (20001 : Int) < (l.length : Int) := by omega
  have hlt : (1 : Int) < (l.length : Int) := by omega
  have hne : (l == []) = false := by cases l <;> simp_all
  clear h h0
  go_enter Tryd.func45, Tryd.ntmps45
  go_wp2_with fail
  go_ret2
  exact ⟨rfl, rfl⟩

/-- What the reference holds after k digits. -/
def RNumAt (w0 wr : World) (out : Value) (l : List UInt8) (k : Nat) : Prop :=
  Own w0.heap.size wr out (limbs (numOf (l.take k))) ∧ Ext w0 wr

set_option maxHeartbeats 1000000 in
theorem rnatural_some (w : World) (l : List UInt8) (hne : l ≠ []) (hz : ¬ (byteAt l 0 = 48 ∧ 1 < l.length)) (h : l.length ≤ 20001) (r : Nat × Nat) (hr1 : l.all isDig = true → r = (numOf l, 0)) (hr2 : l.all isDig = false → r = (0, 6)) :
    Calls Tryd.prog 45 #[str l] w (NatRes w r) := by
  have HR1 := Lib.hid hr1
  have HR2 := Lib.hid hr2
  clear hr1 hr2
  have hle : ¬ (20001 : Int) < (l.length : Int) := by omega
  have hne' : (l == []) = false := by cases l <;> simp_all
  have hl0 : 0 < l.length := by cases l <;> simp_all
  have hcase : ¬ (1 : Int) < (l.length : Int) ∨ ((1 : Int) < (l.length : Int) ∧ ((byteAt l 0 : Int) == 48) = false) := by
    by_cases h1 : 1 < l.length
    · exact .inr ⟨by omega, by rw [beq_eq_false_iff_ne]; omega⟩
    · exact .inl (by omega)
  have HL := Lib.hid h
  clear h hne hz
  rcases hcase with h00 | ⟨h00, h11⟩
  all_goals
    go_enter Tryd.func45, Tryd.ntmps45
    go_wp2_with fail
    go_loopw [4, 5] (fun out i wr => ∃ k : Nat, k ≤ l.length ∧ i = .int .i64 k ∧ (l.take k).all isDig = true ∧ RNumAt w wr out l k) (fun _ i _ => l.length - (intOf i).toNat)
    case atStart => exact ⟨0, by omega, rfl, rfl, Own.none_ _ _, Ext.refl _⟩
    case round =>
      obtain ⟨k, hk, rfl, hall, hown, hext⟩ := hrel
      by_cases hlt : k < l.length
      · have hb := byteAt_lt l k
        have hbe := byteAt_eq l k hlt
        have hdig := isDig_iff l[k]
        rw [← hbe] at hdig
        have hta := take_all l k hlt
        have hnt := numOf_take l k hlt
        rw [← hbe] at hnt
        rw [hall, Bool.true_and] at hta
        have HAF := Lib.hid (fun hf => all_false_of hlt hf)
        have HDIG := Lib.hid hdig
        have HTA := Lib.hid hta
        have HNT := Lib.hid hnt
        clear hbe hdig hta hnt
        obtain ⟨b, hbb⟩ : ∃ b, byteAt l k = b := ⟨_, rfl⟩
        have HBB := Lib.hid hbb
        rw [hbb] at HDIG HNT hb
        by_cases hd : 48 ≤ b ∧ b ≤ 57
        · have HT1 := Lib.hid (HTA.out.trans (HDIG.out.2 hd))
          obtain ⟨hd1, hd2⟩ := hd
          have E1 := Lib.hid (show ((b : Int) - 48) = ((b - 48 : Nat) : Int) by omega)
          have hll := limbs_len_pow (take_all_lt hall (show k ≤ l.length by omega))
          have hl2 := HL.out
          have HS := Lib.hid (rsmall_any wr _ (limbs (numOf (l.take k))) 10 (b - 48) hown.arr (by omega) (by omega) (by omega))
          rw [val_limbs] at HS
          have HN := Lib.hid (show numOf (l.take (k + 1)) = numOf (l.take k) * 10 + (b - 48) by rw [HNT.out]; omega)
          clear hall hll hl2
          go_wp2_with fail
          rw [E1.out]
          refine HS.out.mono ?_
          rintro e w1 ⟨v1, rfl, ho1, hx1⟩
          rw [← HN.out] at ho1
          go_wp2_with fail
          go_roundw
          case rel => exact ⟨k + 1, by omega, by go_num, HT1.out, ho1.mono hext.size, hext.trans hx1⟩
          case measure => simp [intOf]; omega
        · have hbad : isDig l[k] = false := by
            rw [← Bool.not_eq_true]
            exact fun ht => hd (HDIG.out.1 ht)
          have HBAD := Lib.hid (HAF.out hbad)
          have hor : b < 48 ∨ 57 < b := by omega
          clear hbad hall hd
          rcases hor with hlo | hlo
          all_goals
            go_wp2_with fail
            go_ret2
            rw [HR2.out HBAD.out]
            exact ⟨_, rfl, Own.none_ _ _, hext⟩
      · obtain rfl : k = l.length := by omega
        rw [List.take_of_length_le (Nat.le_refl _)] at hown hall
        have HALL := Lib.hid hall
        clear hall
        go_wp2_with fail
        go_ret2
        rw [HR1.out HALL.out]
        exact ⟨_, rfl, hown, hext⟩

theorem rnatural_any (w : World) (l : List UInt8) : Calls Tryd.prog 45 #[str l] w (NatRes w (natural l)) := by
  unfold natural
  by_cases h1 : 20001 < l.length
  · rw [if_pos h1]
    refine (rnatural_long w l h1).mono ?_
    rintro e w' ⟨rfl, rfl⟩
    exact ⟨_, rfl, Own.none_ _ _, Ext.refl _⟩
  · rw [if_neg h1]
    by_cases h2 : l = []
    · subst h2
      rw [if_pos rfl]
      refine (rnatural_empty w).mono ?_
      rintro e w' ⟨rfl, rfl⟩
      exact ⟨_, rfl, Own.none_ _ _, Ext.refl _⟩
    · rw [if_neg h2]
      have hl0 : 0 < l.length := by cases l <;> simp_all
      have hb : byteAt l 0 = 48 ↔ l[0]? = some 48 := by
        rw [byteAt_eq l 0 hl0, List.getElem?_eq_getElem hl0]
        constructor
        · intro h; exact congrArg some (UInt8.toNat_inj.1 h)
        · intro h; injection h with h; rw [h]; rfl
      by_cases h3 : l[0]? = some 48 ∧ 1 < l.length
      · rw [if_pos h3]
        refine (rnatural_zero w l (hb.2 h3.1) h3.2 (by omega)).mono ?_
        rintro e w' ⟨rfl, rfl⟩
        exact ⟨_, rfl, Own.none_ _ _, Ext.refl _⟩
      · rw [if_neg h3]
        exact rnatural_some w l h2 (fun h => h3 ⟨hb.1 h.1, h.2⟩) (by omega) _ (fun h => if_pos h) (fun h => if_neg (by rw [h]; decide))
end Big
end Go.Proofs.YtbmmnpggadakdaaDoor
