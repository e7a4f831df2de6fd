import Derived.Test.YtoehdoghghpmjaaGreatDoorM10
import Derived.Test.YtoehdoghghpmjaaGreatDoorM13
import Derived.Test.YtoehdoghghpmjaaGreatDoorM9
import Derived.Test.YtoehdoghghpmjaaGreatDoorM16
/- The reference's word, Word, number, sign. -/
namespace Go.Proofs.YtoehdoghghpmjaaGreatDoor
namespace Big
open Go.RowKit
/-- The reference's longest word. -/
def refWord (l : List UInt8) : Nat := if letN (byteAt l 0) then runLen wordN l else 0
/-- Does the reference's word go on at place i? -/
def goesW (l : List UInt8) (i : Nat) : Bool := letN (byteAt l i) || (decide (0 < i) && (digN (byteAt l i) || byteAt l i == 95))
theorem runLen_pos {p : Nat → Bool} {l : List UInt8} (h : 0 < l.length) (hp : p (byteAt l 0) = true) : 0 < runLen p l := by
  cases l with
  | nil => simp at h
  | cons c t =>
    have hc : p c.toNat = true := hp
    rw [runLen, if_pos hc]
    omega
theorem runLen_at {p : Nat → Bool} {l : List UInt8} {i : Nat} (h : i < runLen p l) : p (byteAt l i) = true := by
  obtain ⟨h1, h2⟩ := runLen_in p l i h
  rw [byteAt_eq l i h1]
  exact h2
theorem runLen_not {p : Nat → Bool} {l : List UInt8} (h : runLen p l < l.length) : p (byteAt l (runLen p l)) = false := by
  rw [byteAt_eq l _ h]
  exact runLen_end p l h
theorem refWord_le (l : List UInt8) : refWord l ≤ l.length := by
  unfold refWord
  split
  · exact runLen_le _ _
  · exact Nat.zero_le _
theorem refWord_go {l : List UInt8} {i : Nat} (hi : i ≤ refWord l) (hl : i < l.length) : (goesW l i = true ∧ i < refWord l) ∨ (goesW l i = false ∧ i = refWord l) := by
  have hw : wordN (byteAt l i) = (letN (byteAt l i) || digN (byteAt l i) || byteAt l i == 95) := rfl
  unfold refWord at hi ⊢
  cases h0 : letN (byteAt l 0)
  · rw [h0] at hi
    simp only [Bool.false_eq_true, if_false] at hi ⊢
    obtain rfl : i = 0 := by omega
    exact .inr ⟨by unfold goesW; rw [h0]; rfl, rfl⟩
  · rw [h0] at hi
    simp only [if_true] at hi ⊢
    rcases Nat.eq_zero_or_pos i with hz | hz
    · subst hz
      exact .inl ⟨by unfold goesW; rw [h0]; rfl, runLen_pos hl (by unfold wordN; rw [h0]; rfl)⟩
    · have hg : goesW l i = wordN (byteAt l i) := by unfold goesW; rw [hw, decide_eq_true hz, Bool.true_and, Bool.or_assoc]
      rcases Nat.lt_or_ge i (runLen wordN l) with h1 | h1
      · exact .inl ⟨by rw [hg]; exact runLen_at h1, h1⟩
      · have : i = runLen wordN l := by omega
        subst this
        exact .inr ⟨by rw [hg]; exact runLen_not hl, rfl⟩
theorem num_go {l : List UInt8} {i : Nat} (hi : i ≤ runLen numN l) (hl : i < l.length) : (numN (byteAt l i) = true ∧ i < runLen numN l) ∨ (numN (byteAt l i) = false ∧ i = runLen numN l) := by
  rcases Nat.lt_or_ge i (runLen numN l) with h1 | h1
  · exact .inl ⟨runLen_at h1, h1⟩
  · have : i = runLen numN l := by omega
    subst this
    exact .inr ⟨runLen_not hl, rfl⟩
theorem all_run (p : Nat → Bool) (l : List UInt8) : l.all (fun c => p c.toNat) = decide (runLen p l = l.length) := by
  induction l with
  | nil => rfl
  | cons c t ih =>
    rw [List.all_cons, ih, runLen]
    cases hc : p c.toNat
    · simp
    · have : (runLen p t + 1 = (c :: t).length) ↔ (runLen p t = t.length) := by simp
      simp
theorem wordB_ref (l : List UInt8) : wordB l = (!(l == []) && (decide (l.length ≤ 24) && decide (refWord l = l.length))) := by
  rcases Nat.eq_zero_or_pos l.length with h0 | h0
  · obtain rfl : l = [] := List.eq_nil_of_length_eq_zero h0
    rfl
  · rw [wordB_eq, all_run]
    unfold refWord
    cases h1 : letN (byteAt l 0)
    · have : ¬ (0 = l.length) := by omega
      simp [this]
    · simp [Bool.and_assoc]
set_option maxRecDepth 100000 in
theorem rword_any (w : World) (l : List UInt8) (hl : l.length ≤ 1073741824) : Calls Tryz.prog 62 #[str l] w fun e w' => e = .returned (.int .i64 (refWord l : Int)) ∧ w = w' := by
  have hle := refWord_le l
  go_enter Tryz.func62, Tryz.ntmps62
  go_wp2_with fail
  go_loop [3] (fun s => ∃ i : Nat, i ≤ refWord l ∧ s = .int .i64 (i : Int)) (fun s => l.length - (intOf s).toNat)
  case atStart => exact ⟨0, Nat.zero_le _, rfl⟩
  case round =>
    obtain ⟨i, hi, rfl⟩ := hrel
    by_cases hlt : i < l.length
    · have HGO := Lib.hid (refWord_go hi hlt)
      have hbl := byteAt_lt l i
      have HLT := Lib.hid (fun W => rletter_any W (byteAt l i) hbl)
      have HDG := Lib.hid (fun W => rdigit_any W (byteAt l i) hbl)
      have h95e : (byteAt l i == 95) = ((byteAt l i : Int) == 95) := by rw [Bool.eq_iff_iff]; simp; omega
      have H95 := Lib.hid h95e
      clear h95e
      cases hlet : letN (byteAt l i)
      · rcases Nat.eq_zero_or_pos i with hz | hz
        · have HG : Hid (goesW l i = false) := Lib.hid (by unfold goesW; rw [hlet, hz]; rfl)
          have hzi : ¬ (0 : Int) < (i : Int) := by omega
          have hzd : decide ((0 : Int) < (i : Int)) = false := by simp; omega
          rw [hlet] at HLT
          clear hlet hz
          go_wp2_with fail
          refine (HLT.out _).mono ?_
          rintro e w1 ⟨rfl, rfl⟩
          have HN : Hid (i = refWord l) := Lib.hid (by
            rcases HGO.out with ⟨h, _⟩ | ⟨_, h⟩
            · rw [HG.out] at h; cases h
            · exact h)
          go_wp2_with fail
          go_ret
          exact ⟨by rw [← HN.out]; rfl, rfl⟩
        · have hzi : (0 : Int) < (i : Int) := by omega
          have hzd : decide ((0 : Int) < (i : Int)) = true := by rw [decide_eq_true_iff]; omega
          cases hdig : digN (byteAt l i)
          · cases h95 : ((byteAt l i : Int) == 95)
            · have HG : Hid (goesW l i = false) := Lib.hid (by unfold goesW; rw [hlet, hdig, H95.out, h95]; simp)
              rw [hlet] at HLT
              rw [hdig] at HDG
              clear hlet hz hdig
              go_wp2_with fail
              refine (HLT.out _).mono ?_
              rintro e w1 ⟨rfl, rfl⟩
              go_wp2_with fail
              refine (HDG.out _).mono ?_
              rintro e w1 ⟨rfl, rfl⟩
              have HN : Hid (i = refWord l) := Lib.hid (by
                rcases HGO.out with ⟨h, _⟩ | ⟨_, h⟩
                · rw [HG.out] at h; cases h
                · exact h)
              go_wp2_with fail
              go_ret
              exact ⟨by rw [← HN.out]; rfl, rfl⟩
            · have HG : Hid (goesW l i = true) := Lib.hid (by unfold goesW; rw [hlet, hdig, H95.out, h95]; simp; omega)
              rw [hlet] at HLT
              rw [hdig] at HDG
              clear hlet hz hdig
              go_wp2_with fail
              refine (HLT.out _).mono ?_
              rintro e w1 ⟨rfl, rfl⟩
              go_wp2_with fail
              refine (HDG.out _).mono ?_
              rintro e w1 ⟨rfl, rfl⟩
              have HN : Hid (i + 1 ≤ refWord l) := Lib.hid (by
                rcases HGO.out with ⟨_, h⟩ | ⟨h, _⟩
                · exact h
                · rw [HG.out] at h; cases h)
              go_wp2_with fail
              go_round
              case rel => exact ⟨i + 1, HN.out, by go_num⟩
              case measure => simp [intOf]; omega
          · have HG : Hid (goesW l i = true) := Lib.hid (by unfold goesW; rw [hlet, hdig]; simp; omega)
            rw [hlet] at HLT
            rw [hdig] at HDG
            clear hlet hz hdig
            go_wp2_with fail
            refine (HLT.out _).mono ?_
            rintro e w1 ⟨rfl, rfl⟩
            go_wp2_with fail
            refine (HDG.out _).mono ?_
            rintro e w1 ⟨rfl, rfl⟩
            have HN : Hid (i + 1 ≤ refWord l) := Lib.hid (by
              rcases HGO.out with ⟨_, h⟩ | ⟨h, _⟩
              · exact h
              · rw [HG.out] at h; cases h)
            go_wp2_with fail
            go_round
            case rel => exact ⟨i + 1, HN.out, by go_num⟩
            case measure => simp [intOf]; omega
      · have HG : Hid (goesW l i = true) := Lib.hid (by unfold goesW; rw [hlet]; rfl)
        rw [hlet] at HLT
        clear hlet
        go_wp2_with fail
        refine (HLT.out _).mono ?_
        rintro e w1 ⟨rfl, rfl⟩
        have HN : Hid (i + 1 ≤ refWord l) := Lib.hid (by
          rcases HGO.out with ⟨_, h⟩ | ⟨h, _⟩
          · exact h
          · rw [HG.out] at h; cases h)
        go_wp2_with fail
        go_round
        case rel => exact ⟨i + 1, HN.out, by go_num⟩
        case measure => simp [intOf]; omega
    · have HN : Hid (i = refWord l) := Lib.hid (by omega)
      go_wp2_with fail
      go_ret
      exact ⟨by rw [← HN.out]; rfl, rfl⟩
theorem rWord_any (w : World) (l : List UInt8) (hl : l.length ≤ 1073741824) : Calls Tryz.prog 39 #[str l] w fun e w' => e = .returned (.bool (wordB l)) ∧ w = w' := by
  have H := Lib.hid (wordB_ref l)
  have HR := Lib.hid (fun W => rword_any W l hl)
  cases h0 : (l == [])
  · by_cases h24 : l.length ≤ 24
    · have hd : decide ((l.length : Int) ≤ 24) = true := by rw [decide_eq_true_iff]; omega
      have hd2 : (l.length : Int) ≤ 24 := by omega
      have he : ((refWord l : Int) == (l.length : Int)) = decide (refWord l = l.length) := by rw [Bool.eq_iff_iff]; simp; omega
      rw [h0, decide_eq_true h24] at H
      cases h1 : decide (refWord l = l.length)
      all_goals
        rw [h1] at he
        rw [h1] at H
        clear h1
        generalize refWord l = r at *
        go_enter Tryz.func39, Tryz.ntmps39
        go_wp2_with fail
        refine (HR.out _).mono ?_
        rintro e w1 ⟨rfl, rfl⟩
        go_wp2_with fail
        go_ret
        rw [H.out]
        exact ⟨rfl, rfl⟩
    · have hd : decide ((l.length : Int) ≤ 24) = false := by simp; omega
      have hd2 : ¬ (l.length : Int) ≤ 24 := by omega
      rw [h0, decide_eq_false h24] at H
      clear h24
      go_enter Tryz.func39, Tryz.ntmps39
      go_wp2_with fail
      go_ret
      rw [H.out]
      exact ⟨rfl, rfl⟩
  · rw [h0] at H
    go_enter Tryz.func39, Tryz.ntmps39
    go_wp2_with fail
    go_ret
    rw [H.out]
    exact ⟨rfl, rfl⟩
end Big
end Go.Proofs.YtoehdoghghpmjaaGreatDoor
namespace Go.Proofs.YtoehdoghghpmjaaGreatDoor
namespace Big
open Go.RowKit

theorem rnatural_long (w : World) (l : List UInt8) (h : 20001 < l.length) :
    Calls Tryz.prog 58 #[str l] w fun e w' => e = .returned (.tuple #[.slice none 0 0, .int .i64 7]) ∧ w = w' := by
  have h' : (20001 : Int) < (l.length : Int) := by omega
  clear h
  go_enter Tryz.func58, Tryz.ntmps58
  go_wp2_with fail
  go_ret2
  exact ⟨rfl, rfl⟩

theorem rnatural_empty (w : World) :
    Calls Tryz.prog 58 #[str []] w fun e w' => e = .returned (.tuple #[.slice none 0 0, .int .i64 6]) ∧ w = w' := by
  go_enter Tryz.func58, Tryz.ntmps58
  go_wp2_with fail
  go_ret2
  exact ⟨rfl, rfl⟩

theorem rnatural_zero (w : World) (l : List UInt8) (h0 : byteAt l 0 = 48) (h1 : 1 < l.length) (h : l.length ≤ 20001) :
    Calls Tryz.prog 58 #[str l] w fun e w' => e = .returned (.tuple #[.slice none 0 0, .int .i64 6]) ∧ w = w' := by
  have h00 : ((byteAt l 0 : Int) == 48) = true := by rw [h0]; rfl
  have hle : ¬ (20001 : Int) < (l.length : Int) := by omega
  have hlt : (1 : Int) < (l.length : Int) := by omega
  have hne : (l == []) = false := by cases l <;> simp_all
  clear h h0
  go_enter Tryz.func58, Tryz.ntmps58
  go_wp2_with fail
  go_ret2
  exact ⟨rfl, rfl⟩

/-- What the reference holds after k digits. -/
def RNumAt (w0 wr : World) (out : Value) (l : List UInt8) (k : Nat) : Prop :=
  Own w0.heap.size wr out (limbs (numOf (l.take k))) ∧ Ext w0 wr

set_option maxHeartbeats 1000000 in
theorem rnatural_some (w : World) (l : List UInt8) (hne : l ≠ []) (hz : ¬ (byteAt l 0 = 48 ∧ 1 < l.length)) (h : l.length ≤ 20001) (r : Nat × Nat) (hr1 : l.all isDig = true → r = (numOf l, 0)) (hr2 : l.all isDig = false → r = (0, 6)) :
    Calls Tryz.prog 58 #[str l] w (NatRes w r) := by
  have HR1 := Lib.hid hr1
  have HR2 := Lib.hid hr2
  clear hr1 hr2
  have hle : ¬ (20001 : Int) < (l.length : Int) := by omega
  have hne' : (l == []) = false := by cases l <;> simp_all
  have hl0 : 0 < l.length := by cases l <;> simp_all
  have hcase : ¬ (1 : Int) < (l.length : Int) ∨ ((1 : Int) < (l.length : Int) ∧ ((byteAt l 0 : Int) == 48) = false) := by
    by_cases h1 : 1 < l.length
    · exact .inr ⟨by omega, by rw [beq_eq_false_iff_ne]; omega⟩
    · exact .inl (by omega)
  have HL := Lib.hid h
  clear h hne hz
  rcases hcase with h00 | ⟨h00, h11⟩
  all_goals
    go_enter Tryz.func58, Tryz.ntmps58
    go_wp2_with fail
    go_loopw [4, 5] (fun out i wr => ∃ k : Nat, k ≤ l.length ∧ i = .int .i64 k ∧ (l.take k).all isDig = true ∧ RNumAt w wr out l k) (fun _ i _ => l.length - (intOf i).toNat)
    case atStart => exact ⟨0, by omega, rfl, rfl, Own.none_ _ _, Ext.refl _⟩
    case round =>
      obtain ⟨k, hk, rfl, hall, hown, hext⟩ := hrel
      by_cases hlt : k < l.length
      · have hb := byteAt_lt l k
        have hbe := byteAt_eq l k hlt
        have hdig := isDig_iff l[k]
        rw [← hbe] at hdig
        have hta := take_all l k hlt
        have hnt := numOf_take l k hlt
        rw [← hbe] at hnt
        rw [hall, Bool.true_and] at hta
        have HAF := Lib.hid (fun hf => all_false_of hlt hf)
        have HDIG := Lib.hid hdig
        have HTA := Lib.hid hta
        have HNT := Lib.hid hnt
        clear hbe hdig hta hnt
        obtain ⟨b, hbb⟩ : ∃ b, byteAt l k = b := ⟨_, rfl⟩
        have HBB := Lib.hid hbb
        rw [hbb] at HDIG HNT hb
        by_cases hd : 48 ≤ b ∧ b ≤ 57
        · have HT1 := Lib.hid (HTA.out.trans (HDIG.out.2 hd))
          obtain ⟨hd1, hd2⟩ := hd
          have E1 := Lib.hid (show ((b : Int) - 48) = ((b - 48 : Nat) : Int) by omega)
          have hll := limbs_len_pow (take_all_lt hall (show k ≤ l.length by omega))
          have hl2 := HL.out
          have HS := Lib.hid (rsmall_any wr _ (limbs (numOf (l.take k))) 10 (b - 48) hown.arr (by omega) (by omega) (by omega))
          rw [val_limbs] at HS
          have HN := Lib.hid (show numOf (l.take (k + 1)) = numOf (l.take k) * 10 + (b - 48) by rw [HNT.out]; omega)
          clear hall hll hl2
          go_wp2_with fail
          rw [E1.out]
          refine HS.out.mono ?_
          rintro e w1 ⟨v1, rfl, ho1, hx1⟩
          rw [← HN.out] at ho1
          go_wp2_with fail
          go_roundw
          case rel => exact ⟨k + 1, by omega, by go_num, HT1.out, ho1.mono hext.size, hext.trans hx1⟩
          case measure => simp [intOf]; omega
        · have hbad : isDig l[k] = false := by
            rw [← Bool.not_eq_true]
            exact fun ht => hd (HDIG.out.1 ht)
          have HBAD := Lib.hid (HAF.out hbad)
          have hor : b < 48 ∨ 57 < b := by omega
          clear hbad hall hd
          rcases hor with hlo | hlo
          all_goals
            go_wp2_with fail
            go_ret2
            rw [HR2.out HBAD.out]
            exact ⟨_, rfl, Own.none_ _ _, hext⟩
      · obtain rfl : k = l.length := by omega
        rw [List.take_of_length_le (Nat.le_refl _)] at hown hall
        have HALL := Lib.hid hall
        clear hall
        go_wp2_with fail
        go_ret2
        rw [HR1.out HALL.out]
        exact ⟨_, rfl, hown, hext⟩

theorem rnatural_any (w : World) (l : List UInt8) : Calls Tryz.prog 58 #[str l] w (NatRes w (natural l)) := by
  unfold natural
  by_cases h1 : 20001 < l.length
  · rw [if_pos h1]
    refine (rnatural_long w l h1).mono ?_
    rintro e w' ⟨rfl, rfl⟩
    exact ⟨_, rfl, Own.none_ _ _, Ext.refl _⟩
  · rw [if_neg h1]
    by_cases h2 : l = []
    · subst h2
      rw [if_pos rfl]
      refine (rnatural_empty w).mono ?_
      rintro e w' ⟨rfl, rfl⟩
      exact ⟨_, rfl, Own.none_ _ _, Ext.refl _⟩
    · rw [if_neg h2]
      have hl0 : 0 < l.length := by cases l <;> simp_all
      have hb : byteAt l 0 = 48 ↔ l[0]? = some 48 := by
        rw [byteAt_eq l 0 hl0, List.getElem?_eq_getElem hl0]
        constructor
        · intro h; exact congrArg some (UInt8.toNat_inj.1 h)
        · intro h; injection h with h; rw [h]; rfl
      by_cases h3 : l[0]? = some 48 ∧ 1 < l.length
      · rw [if_pos h3]
        refine (rnatural_zero w l (hb.2 h3.1) h3.2 (by omega)).mono ?_
        rintro e w' ⟨rfl, rfl⟩
        exact ⟨_, rfl, Own.none_ _ _, Ext.refl _⟩
      · rw [if_neg h3]
        exact rnatural_some w l h2 (fun h => h3 ⟨hb.1 h.1, h.2⟩) (by omega) _ (fun h => if_pos h) (fun h => if_neg (by rw [h]; decide))
end Big
end Go.Proofs.YtoehdoghghpmjaaGreatDoor
namespace Go.Proofs.YtoehdoghghpmjaaGreatDoor
namespace Big
open Go.RowKit

theorem rparse_long (w : World) (l : List UInt8) (h : 20001 < l.length) :
    Calls Tryz.prog 34 #[str l] w (ParseRes w (0, 7)) := by
  have h' : (20001 : Int) < (l.length : Int) := by omega
  clear h
  go_enter Tryz.func34, Tryz.ntmps34
  go_wp2_with fail
  refine bodyPost_ret (v := .tuple #[.agg #[.bool false, .slice none 0 0], .int .i64 7]) (by simp [results, Tryz.results34, go_sem]) rfl ?_
  exact ⟨_, rfl, IsInt.zero _ _, (Ext.refl w).alloc _⟩

theorem rparse_neg_bad (w : World) (l : List UInt8) (n e : Nat) (hN : natural (l.tail) = (n, e)) (he : e ≠ 0) (hl : l.length ≤ 20001) (h45 : byteAt l 0 = 45) (hne : 0 < l.length) :
    Calls Tryz.prog 34 #[str l] w (ParseRes w (0, 6)) := by
  have HN := Lib.hid (fun W => rnatural_any W (l.tail))
  rw [hN] at HN
  have hb : ((e : Int) != 0) = true := by rw [bne_iff_ne]; omega
  clear hN he
  have hle : ¬ (20001 : Int) < (l.length : Int) := by omega
  have hlen : (0 : Int) < (l.length : Int) := by omega
  have hlen1 : (1 : Int) ≤ (l.length : Int) := by omega
  have hb0 : ((byteAt l 0 : Int) == 45) = true := by rw [h45]; rfl
  have hdrop : l.drop 1 = l.tail := by cases l <;> rfl
  clear hl h45 hne
  generalize l.tail = d at *
  go_enter Tryz.func34, Tryz.ntmps34
  go_wp2_with fail
  have hx0 := (Ext.refl w).alloc (.cells #[Value.bool false, Value.slice none 0 0] 48)
  refine (HN.out _).mono ?_
  rintro e0 w1 ⟨v1, rfl, ho, hx⟩
  obtain ⟨A9, c9, hv9, _⟩ := ho.2
  rw [List.length_map] at hv9
  subst hv9
  clear ho
  have hbk := (Blk.new w 48 #[Value.bool false, Value.slice none 0 0]).ext hx
  have hc0 : w1.cell? ⟨w.heap.size, 0, none⟩ = some (.bool false) := hbk.cell 0
  have hc1 : w1.cell? ⟨w.heap.size, 1, none⟩ = some (.slice none 0 0) := hbk.cell 1
  have hf0 := hbk.frozen 0
  have hf1 := hbk.frozen 1
  have hz2 := hbk.lt
  have HX := Lib.hid (hx0.trans hx)
  have HB := Lib.hid hbk
  clear hx hbk hx0
  go_wp2_with fail
  obtain ⟨hr0, hr1⟩ := two_set' HB.out (.bool false) (.slice none 0 0)
  refine bodyPost_ret (v := .tuple #[.agg #[.bool false, .slice none 0 0], .int .i64 6]) (by simp [results, Tryz.results34, go_sem, hr0, hr1]) rfl ?_
  exact ⟨_, rfl, IsInt.zero _ _, (HX.out.setCell (Nat.le_refl _) _).setCell (Nat.le_refl _) _⟩

theorem rparse_neg_good (w : World) (l : List UInt8) (n : Nat) (hN : natural (l.tail) = (n, 0)) (hn : n ≠ 0) (hlim : (limbs n).length ≤ 1073741824) (hl : l.length ≤ 20001) (h45 : byteAt l 0 = 45) (hne : 0 < l.length) :
    Calls Tryz.prog 34 #[str l] w (ParseRes w (sgn true n, 0)) := by
  have HN := Lib.hid (fun W => rnatural_any W (l.tail))
  rw [hN] at HN
  have HL := Lib.hid hlim
  have hlp : (((limbs n).length : Int) == 0) = false := by
    rw [beq_eq_false_iff_ne]
    have : 0 < (limbs n).length := by rw [limbs_pos n hn]; simp
    omega
  clear hN hn hlim
  have hle : ¬ (20001 : Int) < (l.length : Int) := by omega
  have hlen : (0 : Int) < (l.length : Int) := by omega
  have hlen1 : (1 : Int) ≤ (l.length : Int) := by omega
  have hb0 : ((byteAt l 0 : Int) == 45) = true := by rw [h45]; rfl
  have hdrop : l.drop 1 = l.tail := by cases l <;> rfl
  clear hl h45 hne
  generalize l.tail = d at *
  go_enter Tryz.func34, Tryz.ntmps34
  go_wp2_with fail
  have hx0 := (Ext.refl w).alloc (.cells #[Value.bool false, Value.slice none 0 0] 48)
  refine (HN.out _).mono ?_
  rintro e0 w1 ⟨v1, rfl, ho, hx⟩
  have HA := Lib.hid ho.arr
  obtain ⟨A1, c1, hv1, _⟩ := ho.2
  rw [List.length_map] at hv1
  subst hv1
  clear ho
  have hbk := (Blk.new w 48 #[Value.bool false, Value.slice none 0 0]).ext hx
  have hc0 : w1.cell? ⟨w.heap.size, 0, none⟩ = some (.bool false) := hbk.cell 0
  have hc1 : w1.cell? ⟨w.heap.size, 1, none⟩ = some (.slice none 0 0) := hbk.cell 1
  have hf0 := hbk.frozen 0
  have hf1 := hbk.frozen 1
  have hz2 := hbk.lt
  have HX := Lib.hid (hx0.trans hx)
  have HB := Lib.hid hbk
  clear hx hbk hx0
  have HIN := Lib.hid (rnat_any w1 true _ (limbs n) HA.out HL.out)
  rw [val_limbs] at HIN
  go_wp2_with fail
  refine HIN.out.mono ?_
  rintro e1 w2 ⟨v2, rfl, hi, hx2⟩
  have HI := Lib.hid hi
  obtain ⟨m, hv, ho⟩ := hi
  obtain ⟨A2, c2, hv2, _⟩ := ho.2
  rw [List.length_map] at hv2
  subst hv2
  subst hv
  clear ho
  generalize decide (sgn true n < 0) = bb at HI
  generalize (limbs (sgn true n).natAbs).length = ln at HI
  have hbk := HB.out.ext hx2
  have hc0 : w2.cell? ⟨w.heap.size, 0, none⟩ = some (.bool false) := hbk.cell 0
  have hc1 : w2.cell? ⟨w.heap.size, 1, none⟩ = some (.slice none 0 0) := hbk.cell 1
  have hf0 := hbk.frozen 0
  have hf1 := hbk.frozen 1
  have hz3 := hbk.lt
  have HX2 := Lib.hid (HX.out.trans hx2)
  have HB2 := Lib.hid hbk
  have hz4 : w.heap.size < w1.heap.size := hz2
  clear hx2 hbk
  go_wp2_with fail
  obtain ⟨hr0, hr1⟩ := two_set' HB2.out (.bool bb) (.slice A2 ln c2)
  refine bodyPost_ret (v := .tuple #[.agg #[.bool bb, .slice A2 ln c2], .int .i64 0]) (by simp [results, Tryz.results34, go_sem, hr0, hr1]) rfl ?_
  obtain ⟨g1, g2⟩ := IsInt.stored HB2.out HI.out hz4 HX2.out (Nat.le_refl _)
  exact ⟨_, rfl, g1, g2⟩

theorem rparse_neg_zero (w : World) (l : List UInt8) (hN : natural (l.tail) = (0, 0)) (hl : l.length ≤ 20001) (h45 : byteAt l 0 = 45) (hne : 0 < l.length) :
    Calls Tryz.prog 34 #[str l] w (ParseRes w (0, 6)) := by
  have HN := Lib.hid (fun W => rnatural_any W (l.tail))
  rw [hN] at HN
  clear hN
  have hle : ¬ (20001 : Int) < (l.length : Int) := by omega
  have hlen : (0 : Int) < (l.length : Int) := by omega
  have hlen1 : (1 : Int) ≤ (l.length : Int) := by omega
  have hb0 : ((byteAt l 0 : Int) == 45) = true := by rw [h45]; rfl
  have hdrop : l.drop 1 = l.tail := by cases l <;> rfl
  clear hl h45 hne
  generalize l.tail = d at *
  go_enter Tryz.func34, Tryz.ntmps34
  go_wp2_with fail
  have hx0 := (Ext.refl w).alloc (.cells #[Value.bool false, Value.slice none 0 0] 48)
  refine (HN.out _).mono ?_
  rintro e0 w1 ⟨v1, rfl, ho, hx⟩
  obtain ⟨A9, c9, hv9, _⟩ := ho.2
  rw [List.length_map] at hv9
  subst hv9
  clear ho
  simp only [limbs_zero, List.length_nil]
  have hbk := (Blk.new w 48 #[Value.bool false, Value.slice none 0 0]).ext hx
  have hc0 : w1.cell? ⟨w.heap.size, 0, none⟩ = some (.bool false) := hbk.cell 0
  have hc1 : w1.cell? ⟨w.heap.size, 1, none⟩ = some (.slice none 0 0) := hbk.cell 1
  have hf0 := hbk.frozen 0
  have hf1 := hbk.frozen 1
  have hz2 := hbk.lt
  have HX := Lib.hid (hx0.trans hx)
  have HB := Lib.hid hbk
  clear hx hbk hx0
  go_wp2_with fail
  obtain ⟨hr0, hr1⟩ := two_set' HB.out (.bool false) (.slice none 0 0)
  refine bodyPost_ret (v := .tuple #[.agg #[.bool false, .slice none 0 0], .int .i64 6]) (by simp [results, Tryz.results34, go_sem, hr0, hr1]) rfl ?_
  exact ⟨_, rfl, IsInt.zero _ _, (HX.out.setCell (Nat.le_refl _) _).setCell (Nat.le_refl _) _⟩

theorem rparse_pos_bad (w : World) (l : List UInt8) (n e : Nat) (hN : natural (l) = (n, e)) (he : e ≠ 0) (hl : l.length ≤ 20001) (h45 : byteAt l 0 ≠ 45) (hne : 0 < l.length) :
    Calls Tryz.prog 34 #[str l] w (ParseRes w (0, 6)) := by
  have HN := Lib.hid (fun W => rnatural_any W (l))
  rw [hN] at HN
  have hb : ((e : Int) != 0) = true := by rw [bne_iff_ne]; omega
  clear hN he
  have hle : ¬ (20001 : Int) < (l.length : Int) := by omega
  have hlen : (0 : Int) < (l.length : Int) := by omega
  have hb0 : ((byteAt l 0 : Int) == 45) = false := by rw [beq_eq_false_iff_ne]; omega
  clear hl h45 hne
  go_enter Tryz.func34, Tryz.ntmps34
  go_wp2_with fail
  have hx0 := (Ext.refl w).alloc (.cells #[Value.bool false, Value.slice none 0 0] 48)
  refine (HN.out _).mono ?_
  rintro e0 w1 ⟨v1, rfl, ho, hx⟩
  obtain ⟨A9, c9, hv9, _⟩ := ho.2
  rw [List.length_map] at hv9
  subst hv9
  clear ho
  have hbk := (Blk.new w 48 #[Value.bool false, Value.slice none 0 0]).ext hx
  have hc0 : w1.cell? ⟨w.heap.size, 0, none⟩ = some (.bool false) := hbk.cell 0
  have hc1 : w1.cell? ⟨w.heap.size, 1, none⟩ = some (.slice none 0 0) := hbk.cell 1
  have hf0 := hbk.frozen 0
  have hf1 := hbk.frozen 1
  have hz2 := hbk.lt
  have HX := Lib.hid (hx0.trans hx)
  have HB := Lib.hid hbk
  clear hx hbk hx0
  go_wp2_with fail
  obtain ⟨hr0, hr1⟩ := two_set' HB.out (.bool false) (.slice none 0 0)
  refine bodyPost_ret (v := .tuple #[.agg #[.bool false, .slice none 0 0], .int .i64 6]) (by simp [results, Tryz.results34, go_sem, hr0, hr1]) rfl ?_
  exact ⟨_, rfl, IsInt.zero _ _, (HX.out.setCell (Nat.le_refl _) _).setCell (Nat.le_refl _) _⟩

theorem rparse_pos_good (w : World) (l : List UInt8) (n : Nat) (hN : natural (l) = (n, 0)) (_hn : True) (hlim : (limbs n).length ≤ 1073741824) (hl : l.length ≤ 20001) (h45 : byteAt l 0 ≠ 45) (hne : 0 < l.length) :
    Calls Tryz.prog 34 #[str l] w (ParseRes w (sgn false n, 0)) := by
  have HN := Lib.hid (fun W => rnatural_any W (l))
  rw [hN] at HN
  have HL := Lib.hid hlim
  clear hN _hn hlim
  have hle : ¬ (20001 : Int) < (l.length : Int) := by omega
  have hlen : (0 : Int) < (l.length : Int) := by omega
  have hb0 : ((byteAt l 0 : Int) == 45) = false := by rw [beq_eq_false_iff_ne]; omega
  clear hl h45 hne
  go_enter Tryz.func34, Tryz.ntmps34
  go_wp2_with fail
  have hx0 := (Ext.refl w).alloc (.cells #[Value.bool false, Value.slice none 0 0] 48)
  refine (HN.out _).mono ?_
  rintro e0 w1 ⟨v1, rfl, ho, hx⟩
  have HA := Lib.hid ho.arr
  obtain ⟨A1, c1, hv1, _⟩ := ho.2
  rw [List.length_map] at hv1
  subst hv1
  clear ho
  have hbk := (Blk.new w 48 #[Value.bool false, Value.slice none 0 0]).ext hx
  have hc0 : w1.cell? ⟨w.heap.size, 0, none⟩ = some (.bool false) := hbk.cell 0
  have hc1 : w1.cell? ⟨w.heap.size, 1, none⟩ = some (.slice none 0 0) := hbk.cell 1
  have hf0 := hbk.frozen 0
  have hf1 := hbk.frozen 1
  have hz2 := hbk.lt
  have HX := Lib.hid (hx0.trans hx)
  have HB := Lib.hid hbk
  clear hx hbk hx0
  have HIN := Lib.hid (rnat_any w1 false _ (limbs n) HA.out HL.out)
  rw [val_limbs] at HIN
  go_wp2_with fail
  refine HIN.out.mono ?_
  rintro e1 w2 ⟨v2, rfl, hi, hx2⟩
  have HI := Lib.hid hi
  obtain ⟨m, hv, ho⟩ := hi
  obtain ⟨A2, c2, hv2, _⟩ := ho.2
  rw [List.length_map] at hv2
  subst hv2
  subst hv
  clear ho
  generalize decide (sgn false n < 0) = bb at HI
  generalize (limbs (sgn false n).natAbs).length = ln at HI
  have hbk := HB.out.ext hx2
  have hc0 : w2.cell? ⟨w.heap.size, 0, none⟩ = some (.bool false) := hbk.cell 0
  have hc1 : w2.cell? ⟨w.heap.size, 1, none⟩ = some (.slice none 0 0) := hbk.cell 1
  have hf0 := hbk.frozen 0
  have hf1 := hbk.frozen 1
  have hz3 := hbk.lt
  have HX2 := Lib.hid (HX.out.trans hx2)
  have HB2 := Lib.hid hbk
  have hz4 : w.heap.size < w1.heap.size := hz2
  clear hx2 hbk
  go_wp2_with fail
  obtain ⟨hr0, hr1⟩ := two_set' HB2.out (.bool bb) (.slice A2 ln c2)
  refine bodyPost_ret (v := .tuple #[.agg #[.bool bb, .slice A2 ln c2], .int .i64 0]) (by simp [results, Tryz.results34, go_sem, hr0, hr1]) rfl ?_
  obtain ⟨g1, g2⟩ := IsInt.stored HB2.out HI.out hz4 HX2.out (Nat.le_refl _)
  exact ⟨_, rfl, g1, g2⟩

theorem rparse_nil_bad (w : World) (l : List UInt8) (n e : Nat) (hN : natural (l) = (n, e)) (he : e ≠ 0) (_hl : l.length ≤ 20001) (hne : l.length = 0) :
    Calls Tryz.prog 34 #[str l] w (ParseRes w (0, 6)) := by
  have HN := Lib.hid (fun W => rnatural_any W (l))
  rw [hN] at HN
  have hb : ((e : Int) != 0) = true := by rw [bne_iff_ne]; omega
  clear hN he
  have hle : ¬ (20001 : Int) < (l.length : Int) := by omega
  have hlen : ¬ (0 : Int) < (l.length : Int) := by omega
  clear _hl hne
  go_enter Tryz.func34, Tryz.ntmps34
  go_wp2_with fail
  have hx0 := (Ext.refl w).alloc (.cells #[Value.bool false, Value.slice none 0 0] 48)
  refine (HN.out _).mono ?_
  rintro e0 w1 ⟨v1, rfl, ho, hx⟩
  obtain ⟨A9, c9, hv9, _⟩ := ho.2
  rw [List.length_map] at hv9
  subst hv9
  clear ho
  have hbk := (Blk.new w 48 #[Value.bool false, Value.slice none 0 0]).ext hx
  have hc0 : w1.cell? ⟨w.heap.size, 0, none⟩ = some (.bool false) := hbk.cell 0
  have hc1 : w1.cell? ⟨w.heap.size, 1, none⟩ = some (.slice none 0 0) := hbk.cell 1
  have hf0 := hbk.frozen 0
  have hf1 := hbk.frozen 1
  have hz2 := hbk.lt
  have HX := Lib.hid (hx0.trans hx)
  have HB := Lib.hid hbk
  clear hx hbk hx0
  go_wp2_with fail
  obtain ⟨hr0, hr1⟩ := two_set' HB.out (.bool false) (.slice none 0 0)
  refine bodyPost_ret (v := .tuple #[.agg #[.bool false, .slice none 0 0], .int .i64 6]) (by simp [results, Tryz.results34, go_sem, hr0, hr1]) rfl ?_
  exact ⟨_, rfl, IsInt.zero _ _, (HX.out.setCell (Nat.le_refl _) _).setCell (Nat.le_refl _) _⟩

theorem rparse_any (w : World) (l : List UInt8) : Calls Tryz.prog 34 #[str l] w (ParseRes w (parseI l)) := by
  unfold parseI
  by_cases h1 : 20001 < l.length
  · rw [if_pos h1]
    exact rparse_long w l h1
  · rw [if_neg h1]
    have hl : l.length ≤ 20001 := by omega
    rcases Nat.eq_zero_or_pos l.length with h0 | h0
    · have := List.eq_nil_of_length_eq_zero h0
      subst this
      exact rparse_nil_bad w [] 0 6 rfl (by omega) hl rfl
    · rw [head_byte l h0]
      by_cases h45 : byteAt l 0 = 45
      · rw [decide_eq_true h45]
        simp only [if_true]
        obtain ⟨n, e, hr⟩ : ∃ n e, natural l.tail = (n, e) := ⟨_, _, rfl⟩
        rw [hr]
        by_cases he : e = 0
        · subst he
          by_cases hn : n = 0
          · subst hn
            rw [if_pos (by simp)]
            exact rparse_neg_zero w l hr hl h45 h0
          · rw [if_neg (by simp [hn])]
            exact rparse_neg_good w l n hr hn (Nat.le_trans (natural_limbs _ hr) (by omega)) hl h45 h0
        · rw [if_pos (Or.inl he)]
          exact rparse_neg_bad w l n e hr he hl h45 h0
      · rw [decide_eq_false h45]
        simp only [Bool.false_eq_true, if_false, false_and, or_false]
        obtain ⟨n, e, hr⟩ : ∃ n e, natural l = (n, e) := ⟨_, _, rfl⟩
        rw [hr]
        by_cases he : e = 0
        · subst he
          rw [if_neg (by simp)]
          exact rparse_pos_good w l n hr trivial (Nat.le_trans (natural_limbs _ hr) (by omega)) hl h45 h0
        · rw [if_pos he]
          exact rparse_pos_bad w l n e hr he hl h45 h0
end Big
end Go.Proofs.YtoehdoghghpmjaaGreatDoor
/- The document's commands: names, texts, words. -/
namespace Go.Proofs.YtoehdoghghpmjaaGreatDoor
namespace Big
open Go.RowKit
def namedC (op : Int) : Bool := decide (shapeC op ≠ 0 ∧ shapeC op ≠ 4)
set_option maxRecDepth 100000 in
theorem rname31_any (w : World) (op : Int) : Calls Tryz.prog 18 #[.int .i64 op] w fun e w' => e = .returned (str (nameC op)) ∧ Ext w w' := by
  by_cases hop : 0 ≤ op ∧ op < 22
  · have e1 : nameC op = cmdNames.getD op.toNat [] := by unfold nameC; rw [if_pos hop]
    rw [e1]
    obtain ⟨k, rfl⟩ := Int.eq_ofNat_of_zero_le hop.1
    have hk : k < 22 := by omega
    rw [Int.toNat_natCast]
    obtain ⟨nm, hnm⟩ : ∃ x, cmdNames.getD k [] = x := ⟨_, rfl⟩
    have HNM := Lib.hid hnm
    rw [hnm]
    have h1 : ¬ ((k : Int) < 0) := by omega
    have h2 : ¬ ((22 : Int) ≤ (k : Int)) := by omega
    have h3 : (k : Int) < 22 := by omega
    clear e1 hop hnm
    go_enter Tryz.func18, Tryz.ntmps18
    go_upto_region 2 with fail
    have hcell : ∀ o : Obj, o = .cells (cmdNames.map str).toArray 9 → (w.alloc o).cell? ⟨w.heap.size, k, none⟩ = some (str nm) := fun o ho => by
      subst ho
      have h4 := (Blk.new w 9 (cmdNames.map str).toArray).cell k
      rw [h4, List.getElem?_toArray, List.getElem?_map, List.getElem?_eq_getElem (show k < cmdNames.length from hk)]
      have h5 := HNM.out
      rw [List.getD_eq_getElem?_getD, List.getElem?_eq_getElem (show k < cmdNames.length from hk), Option.getD_some] at h5
      rw [h5]; rfl
    have hc := hcell _ rfl
    have HX : Hid (Ext w (w.alloc (.cells (cmdNames.map str).toArray 9))) := Lib.hid ((Ext.refl w).alloc _)
    have hnn : (cmdNames.map str).toArray = #[.string ⟨#[]⟩, .string ⟨#[108, 101, 116]⟩, .string ⟨#[100, 114, 111, 112]⟩, .string ⟨#[101, 118, 97, 108]⟩, .string ⟨#[115, 104, 111, 119]⟩, .string ⟨#[108, 105, 115, 116]⟩, .string ⟨#[99, 111, 109, 112, 97, 114, 101]⟩, .string ⟨#[98, 101, 103, 105, 110]⟩, .string ⟨#[99, 111, 109, 109, 105, 116]⟩, .string ⟨#[97, 98, 111, 114, 116]⟩, .string ⟨#[117, 110, 100, 111]⟩, .string ⟨#[114, 101, 100, 111]⟩, .string ⟨#[98, 114, 97, 110, 99, 104]⟩, .string ⟨#[115, 119, 105, 116, 99, 104]⟩, .string ⟨#[114, 101, 109, 111, 118, 101]⟩, .string ⟨#[98, 114, 97, 110, 99, 104, 101, 115]⟩, .string ⟨#[115, 110, 97, 112, 115, 104, 111, 116]⟩, .string ⟨#[114, 101, 115, 116, 111, 114, 101]⟩, .string ⟨#[102, 111, 114, 103, 101, 116]⟩, .string ⟨#[115, 110, 97, 112, 115, 104, 111, 116, 115]⟩, .string ⟨#[100, 105, 102, 102]⟩, .string ⟨#[102, 117, 101, 108]⟩] := rfl
    rw [hnn] at hc HX
    clear hcell hnn
    generalize w.alloc (.cells #[.string ⟨#[]⟩, .string ⟨#[108, 101, 116]⟩, .string ⟨#[100, 114, 111, 112]⟩, .string ⟨#[101, 118, 97, 108]⟩, .string ⟨#[115, 104, 111, 119]⟩, .string ⟨#[108, 105, 115, 116]⟩, .string ⟨#[99, 111, 109, 112, 97, 114, 101]⟩, .string ⟨#[98, 101, 103, 105, 110]⟩, .string ⟨#[99, 111, 109, 109, 105, 116]⟩, .string ⟨#[97, 98, 111, 114, 116]⟩, .string ⟨#[117, 110, 100, 111]⟩, .string ⟨#[114, 101, 100, 111]⟩, .string ⟨#[98, 114, 97, 110, 99, 104]⟩, .string ⟨#[115, 119, 105, 116, 99, 104]⟩, .string ⟨#[114, 101, 109, 111, 118, 101]⟩, .string ⟨#[98, 114, 97, 110, 99, 104, 101, 115]⟩, .string ⟨#[115, 110, 97, 112, 115, 104, 111, 116]⟩, .string ⟨#[114, 101, 115, 116, 111, 114, 101]⟩, .string ⟨#[102, 111, 114, 103, 101, 116]⟩, .string ⟨#[115, 110, 97, 112, 115, 104, 111, 116, 115]⟩, .string ⟨#[100, 105, 102, 102]⟩, .string ⟨#[102, 117, 101, 108]⟩] 9) = wa at *
    go_wp2_with fail
    go_ret
    exact ⟨rfl, HX.out⟩
  · have e1 : nameC op = [] := by unfold nameC; rw [if_neg hop]
    rw [e1]
    have h1 : op < 0 ∨ (¬ op < 0 ∧ (22 : Int) ≤ op) := by omega
    clear e1 hop
    rcases h1 with h1 | ⟨h1, h2⟩
    · go_enter Tryz.func18, Tryz.ntmps18
      go_wp2_with fail
      go_ret
      exact ⟨rfl, (Ext.refl w).alloc _⟩
    · go_enter Tryz.func18, Tryz.ntmps18
      go_wp2_with fail
      go_ret
      exact ⟨rfl, (Ext.refl w).alloc _⟩
theorem namedC_eq (op : Int) : namedC op = (op == 1 || op == 2 || op == 3 || op == 4 || op == 6 || op == 12 || op == 13 || op == 14 || op == 16 || op == 17 || op == 18 || op == 20) := by
  by_cases hop : 0 ≤ op ∧ op < 22
  · obtain ⟨k, rfl⟩ := Int.eq_ofNat_of_zero_le hop.1
    exact (show ∀ k : Fin 22, namedC (k.val : Int) = (((k.val : Nat) : Int) == 1 || ((k.val : Nat) : Int) == 2 || ((k.val : Nat) : Int) == 3 || ((k.val : Nat) : Int) == 4 || ((k.val : Nat) : Int) == 6 || ((k.val : Nat) : Int) == 12 || ((k.val : Nat) : Int) == 13 || ((k.val : Nat) : Int) == 14 || ((k.val : Nat) : Int) == 16 || ((k.val : Nat) : Int) == 17 || ((k.val : Nat) : Int) == 18 || ((k.val : Nat) : Int) == 20) by decide +kernel) ⟨k, by omega⟩
  · have e2 : shapeC op = 0 := by unfold shapeC; rw [if_neg hop]
    unfold namedC
    rw [e2]
    have h : ∀ c : Int, 0 ≤ c → c < 22 → (op == c) = false := fun c h1 h2 => by rw [beq_eq_false_iff_ne]; omega
    simp [h]
theorem writesC_eq (op : Int) : writesC op = (op == 1 || op == 2 || op == 8 || op == 10 || op == 11 || op == 12 || op == 13 || op == 14 || op == 16 || op == 17 || op == 18 || op == 21) := by
  by_cases hop : 0 ≤ op ∧ op < 22
  · obtain ⟨k, rfl⟩ := Int.eq_ofNat_of_zero_le hop.1
    exact (show ∀ k : Fin 22, writesC (k.val : Int) = (((k.val : Nat) : Int) == 1 || ((k.val : Nat) : Int) == 2 || ((k.val : Nat) : Int) == 8 || ((k.val : Nat) : Int) == 10 || ((k.val : Nat) : Int) == 11 || ((k.val : Nat) : Int) == 12 || ((k.val : Nat) : Int) == 13 || ((k.val : Nat) : Int) == 14 || ((k.val : Nat) : Int) == 16 || ((k.val : Nat) : Int) == 17 || ((k.val : Nat) : Int) == 18 || ((k.val : Nat) : Int) == 21) by decide +kernel) ⟨k, by omega⟩
  · have e2 : writesC op = false := by unfold writesC; rw [if_neg hop]
    rw [e2]
    have h : ∀ c : Int, 0 ≤ c → c < 22 → (op == c) = false := fun c h1 h2 => by rw [beq_eq_false_iff_ne]; omega
    simp [h]
set_option maxRecDepth 100000 in
theorem rnamed_any (w : World) (op : Int) : Calls Tryz.prog 32 #[.int .i64 op] w fun e w' => e = .returned (.bool (namedC op)) ∧ w = w' := by
  rw [namedC_eq]
  have hall : (op = 1 ∨ op = 2 ∨ op = 3 ∨ op = 4 ∨ op = 6 ∨ op = 12 ∨ op = 13 ∨ op = 14 ∨ op = 16 ∨ op = 17 ∨ op = 18 ∨ op = 20) ∨ (op ≠ 1 ∧ op ≠ 2 ∧ op ≠ 3 ∧ op ≠ 4 ∧ op ≠ 6 ∧ op ≠ 12 ∧ op ≠ 13 ∧ op ≠ 14 ∧ op ≠ 16 ∧ op ≠ 17 ∧ op ≠ 18 ∧ op ≠ 20) := by omega
  rcases hall with h | ⟨h1, h2, h3, h4, h5, h6, h7, h8, h9, h10, h11, h12⟩
  · rcases h with rfl | rfl | rfl | rfl | rfl | rfl | rfl | rfl | rfl | rfl | rfl | rfl
    all_goals
      go_enter Tryz.func32, Tryz.ntmps32
      go_wp2_with fail
      go_ret
      exact ⟨rfl, rfl⟩
  · have hn : ∀ c : Int, op ≠ c → (op == c) = false := fun c h => by rw [beq_eq_false_iff_ne]; exact h
    rw [hn 1 h1, hn 2 h2, hn 3 h3, hn 4 h4, hn 6 h5, hn 12 h6, hn 13 h7, hn 14 h8, hn 16 h9, hn 17 h10, hn 18 h11, hn 20 h12]
    clear hn
    go_enter Tryz.func32, Tryz.ntmps32
    go_wp2_with fail
    go_ret
    exact ⟨rfl, rfl⟩
end Big
end Go.Proofs.YtoehdoghghpmjaaGreatDoor
