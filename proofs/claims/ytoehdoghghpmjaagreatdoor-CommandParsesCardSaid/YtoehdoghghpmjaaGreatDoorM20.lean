import Derived.Test.YtoehdoghghpmjaaGreatDoorM19
import Derived.Test.YtoehdoghghpmjaaGreatDoorM5
import Derived.Test.YtoehdoghghpmjaaGreatDoorM7
import Derived.Test.YtoehdoghghpmjaaGreatDoorM4
/- The document's words of a line. -/
namespace Go.Proofs.YtoehdoghghpmjaaGreatDoor
namespace Big
open Go.RowKit
theorem sp_step {l : List UInt8} (h : l ≠ []) (h2 : byteAt l 0 = 32) : sp (l.drop 1) = sp l := by
  cases l with
  | nil => exact absurd rfl h
  | cons c r =>
    have hc : c = 32 := UInt8.toNat_inj.1 h2
    subst hc
    rw [sp_space]; rfl
theorem sp_stop {l : List UInt8} (h : l = [] ∨ byteAt l 0 ≠ 32) : sp l = l := by
  cases l with
  | nil => rfl
  | cons c r =>
    rcases h with h | h
    · cases h
    · exact sp_cons (fun hc => h (by rw [hc]; rfl))
theorem fw_at {l : List UInt8} {i : Nat} (h : i < (fw l).length) : byteAt l i ≠ 32 := by
  have hs := rw_split l
  have hi : i < l.length := by have := fw_le l; omega
  rw [byteAt_eq l i hi]
  intro hc
  have h2 : l[i] = (fw l)[i] := by
    have h3 := congrArg (fun z => z[i]?) hs
    rw [List.getElem?_eq_getElem hi, List.getElem?_append_left h, List.getElem?_eq_getElem h] at h3
    exact Option.some.inj h3
  have h4 := fw_free l (fw l)[i] (List.getElem_mem h)
  apply h4
  rw [← h2]
  exact UInt8.toNat_inj.1 hc
theorem fw_stop {l : List UInt8} (h : (fw l).length < l.length) : byteAt l (fw l).length = 32 := by
  have hs := rw_split l
  rcases rw_head l with h1 | ⟨r, h1⟩
  · have := congrArg List.length hs
    rw [h1, List.append_nil] at this
    omega
  · rw [byteAt_eq l _ h]
    have h3 := congrArg (fun z => z[(fw l).length]?) hs
    rw [List.getElem?_eq_getElem h, List.getElem?_append_right (Nat.le_refl _), Nat.sub_self, h1] at h3
    have h4 : l[(fw l).length] = 32 := Option.some.inj h3
    rw [h4]; rfl
theorem fw_take (l : List UInt8) : l.take (fw l).length = fw l := by
  have h2 : ∀ a b : List UInt8, l = a ++ b → l.take a.length = a := fun a b h => by rw [h, List.take_left' rfl]
  exact h2 _ _ (rw_split l)
def strLen : Value → Nat
  | .string b => b.size
  | _ => 0
theorem strLen_str (l : List UInt8) : strLen (str l) = l.length := size_str l
set_option maxHeartbeats 2000000 in
set_option maxRecDepth 100000 in
theorem next31_any (w : World) (l : List UInt8) (hl : l.length ≤ 1000000) : Calls Tryz.prog 31 #[str l] w fun e w' => e = .returned (.tuple #[str (fw (sp l)), str (rw_ (sp l))]) ∧ Ext w w' := by
  obtain ⟨u, hu⟩ : ∃ u, u = sp l := ⟨_, rfl⟩
  rw [← hu]
  have HU := Lib.hid hu
  clear hu
  go_enter Tryz.func31, Tryz.ntmps31
  go_wp2_with fail
  go_loop [0] (fun s0 => ∃ x : List UInt8, x.length ≤ l.length ∧ s0 = str x ∧ Hid (sp x = u)) (fun s0 => strLen s0)
  case atStart => exact ⟨l, Nat.le_refl _, rfl, Lib.hid HU.out.symm⟩
  case round =>
    obtain ⟨x, hx, rfl, HX⟩ := hrel
    by_cases hc : 0 < x.length ∧ byteAt x 0 = 32
    · have hne : x ≠ [] := by intro he; rw [he] at hc; simp at hc
      have HX2 : Hid (sp x.tail = u) := Lib.hid (by rw [← List.drop_one]; exact (sp_step hne hc.2).trans HX.out)
      have h0 : (0 : Int) < (x.length : Int) := by omega
      have h1 : (1 : Int) ≤ (x.length : Int) := by omega
      have hb : ((byteAt x 0 : Int) == 32) = true := by rw [hc.2]; rfl
      have hdl : x.tail.length = x.length - 1 := List.length_tail
      have hdl2 : 0 < x.length := hc.1
      clear hc hne
      go_wp2_with fail
      go_round
      case rel => exact ⟨x.tail, by omega, rfl, HX2⟩
      case measure => rw [strLen_str, strLen_str]; omega
    · have HXU : Hid (x = u) := Lib.hid (by
        have h2 : sp x = x := sp_stop (by
          rcases Nat.eq_zero_or_pos x.length with h | h
          · exact .inl (List.eq_nil_of_length_eq_zero h)
          · exact .inr (fun h3 => hc ⟨h, h3⟩))
        rw [← h2]; exact HX.out)
      obtain ⟨n, hn⟩ : ∃ n, n = (fw x).length := ⟨_, rfl⟩
      have HN := Lib.hid hn
      have hnl : n ≤ x.length := by rw [hn]; exact fw_le x
      have hl2 : x.length ≤ 1000000 := by omega
      have HD : Hid (x.take n = fw u ∧ x.drop n = rw_ u) := Lib.hid (by rw [← HXU.out, hn]; exact ⟨fw_take x, rfl⟩)
      have hbr : ((0 : Int) < (x.length : Int) ∧ ((byteAt x 0 : Int) == 32) = false) ∨ ¬ (0 : Int) < (x.length : Int) := by
        rcases Nat.eq_zero_or_pos x.length with h | h
        · right; omega
        · left
          refine ⟨by omega, ?_⟩
          rw [beq_eq_false_iff_ne]
          intro h3
          exact hc ⟨h, by omega⟩
      clear hc hn HX HU hx
      rcases hbr with ⟨h1, h2⟩ | h1
      all_goals
        go_wp2_with fail
        go_loop [4] (fun s4 => ∃ i : Nat, i ≤ n ∧ s4 = .int .i64 (i : Int)) (fun s4 => n - (intOf s4).toNat)
        case atStart => exact ⟨0, Nat.zero_le _, rfl⟩
        case round =>
          obtain ⟨i, hi, rfl⟩ := hrel
          by_cases hlt : i < n
          · have hb := fw_at (l := x) (i := i) (by rw [← HN.out]; exact hlt)
            have hb2 : ((byteAt x i : Int) != 32) = true := by rw [bne_iff_ne]; omega
            have hil : (i : Int) < (x.length : Int) := by omega
            clear hb
            go_wp2_with fail
            go_round
            case rel => exact ⟨i + 1, by omega, by go_num⟩
            case measure => simp [intOf]; omega
          · obtain rfl : i = n := by omega
            have hbr2 : ((i : Int) < (x.length : Int) ∧ ((byteAt x i : Int) != 32) = false) ∨ ¬ (i : Int) < (x.length : Int) := by
              rcases Nat.lt_or_ge i x.length with h | h
              · left
                have := fw_stop (l := x) (by rw [← HN.out]; exact h)
                rw [← HN.out] at this
                exact ⟨by omega, by rw [this]; rfl⟩
              · right; omega
            have hil : (i : Int) ≤ (x.length : Int) := by omega
            have hi0 : (0 : Int) ≤ (i : Int) := by omega
            rcases hbr2 with ⟨h3, h4⟩ | h3
            all_goals
              go_wp2_with fail
              go_quiet (fail)
              go_wp2_with fail
              go_ret2
              rw [HD.out.1, HD.out.2]
              exact ⟨rfl, (Ext.refl w).drewN _⟩
theorem bare_step {l : List UInt8} (h : l ≠ []) (h2 : byteAt l (l.length - 1) = 32) : trimR (l.take (l.length - 1)) = trimR l := by
  rcases snoc_cases l with h3 | ⟨t, c, rfl⟩
  · exact absurd h3 h
  · have hl : (t ++ [c]).length - 1 = t.length := by simp
    rw [hl] at h2 ⊢
    have hc : c = 32 := by
      rw [byteAt_eq _ _ (by simp)] at h2
      rw [List.getElem_append_right (Nat.le_refl _)] at h2
      simp only [Nat.sub_self, List.getElem_singleton] at h2
      exact UInt8.toNat_inj.1 h2
    subst hc
    have := trimR_rep t 1
    rw [List.take_left' rfl]
    exact this.symm
theorem bare_stop {l : List UInt8} (h : l = [] ∨ byteAt l (l.length - 1) ≠ 32) : trimR l = l := by
  rcases snoc_cases l with h3 | ⟨t, c, rfl⟩
  · rw [h3]; rfl
  · refine trimR_last (fun hc => ?_)
    rcases h with h | h
    · simp at h
    · apply h
      have hl : (t ++ [c]).length - 1 = t.length := by simp
      rw [hl, byteAt_eq _ _ (by simp), List.getElem_append_right (Nat.le_refl _)]
      simp only [Nat.sub_self, List.getElem_singleton]
      rw [hc]; rfl
set_option maxHeartbeats 2000000 in
set_option maxRecDepth 100000 in
theorem bare31_any (w : World) (l : List UInt8) (hl : l.length ≤ 1000000) : Calls Tryz.prog 33 #[str l] w fun e w' => e = .returned (str (bareT l)) ∧ w = w' := by
  obtain ⟨u, hu⟩ : ∃ u, u = bareT l := ⟨_, rfl⟩
  rw [← hu]
  have HU := Lib.hid hu
  clear hu
  go_enter Tryz.func33, Tryz.ntmps33
  go_wp2_with fail
  go_loop [0] (fun s0 => ∃ x : List UInt8, x.length ≤ l.length ∧ s0 = str x ∧ Hid (bareT x = u)) (fun s0 => strLen s0)
  case atStart => exact ⟨l, Nat.le_refl _, rfl, Lib.hid HU.out.symm⟩
  case round =>
    obtain ⟨x, hx, rfl, HX⟩ := hrel
    by_cases hc : 0 < x.length ∧ byteAt x 0 = 32
    · have hne : x ≠ [] := by intro he; rw [he] at hc; simp at hc
      have HX2 : Hid (bareT x.tail = u) := Lib.hid (by rw [← HX.out, ← List.drop_one]; unfold bareT; rw [sp_step hne hc.2])
      have h0 : (0 : Int) < (x.length : Int) := by omega
      have h1 : (1 : Int) ≤ (x.length : Int) := by omega
      have hb : ((byteAt x 0 : Int) == 32) = true := by rw [hc.2]; rfl
      have hdl : x.tail.length = x.length - 1 := List.length_tail
      have hdl2 : 0 < x.length := hc.1
      clear hc hne
      go_wp2_with fail
      go_round
      case rel => exact ⟨x.tail, by omega, rfl, HX2⟩
      case measure => rw [strLen_str, strLen_str]; omega
    · have HXU : Hid (trimR x = u) := Lib.hid (by
        have h2 : sp x = x := sp_stop (by
          rcases Nat.eq_zero_or_pos x.length with h | h
          · exact .inl (List.eq_nil_of_length_eq_zero h)
          · exact .inr (fun h3 => hc ⟨h, h3⟩))
        have h3 := HX.out
        unfold bareT at h3
        rw [h2] at h3
        exact h3)
      have hl2 : x.length ≤ 1000000 := by omega
      have hbr : ((0 : Int) < (x.length : Int) ∧ ((byteAt x 0 : Int) == 32) = false) ∨ ¬ (0 : Int) < (x.length : Int) := by
        rcases Nat.eq_zero_or_pos x.length with h | h
        · right; omega
        · left
          refine ⟨by omega, ?_⟩
          rw [beq_eq_false_iff_ne]
          intro h3
          exact hc ⟨h, by omega⟩
      clear hc HX HU hx
      rcases hbr with ⟨h1, h2⟩ | h1
      all_goals
        go_wp2_with fail
        clear h1
        go_loop [0] (fun s0 => ∃ y : List UInt8, y.length ≤ 1000000 ∧ s0 = str y ∧ Hid (trimR y = u)) (fun s0 => strLen s0)
        case atStart => exact ⟨x, hl2, rfl, HXU⟩
        case round =>
          obtain ⟨y, hy, rfl, HY⟩ := hrel
          have hw : 0 < y.length → IntKind.i64.wrap ((y.length : Int) - 1) = ((y.length - 1 : Nat) : Int) := fun h => by rw [IntWalk.i64_in _ (by omega)]; omega
          by_cases hc : 0 < y.length ∧ byteAt y (y.length - 1) = 32
          · have hne : y ≠ [] := by intro he; rw [he] at hc; simp at hc
            have HY2 : Hid (trimR (y.take (y.length - 1)) = u) := Lib.hid ((bare_step hne hc.2).trans HY.out)
            have h0 : (0 : Int) < (y.length : Int) := by omega
            have hw1 := hw hc.1
            have hdl : (y.take (y.length - 1)).length = y.length - 1 := by rw [List.length_take]; omega
            obtain ⟨m, hm⟩ : ∃ m, m = y.length - 1 := ⟨_, rfl⟩
            have hml : m + 1 = y.length := by omega
            rw [← hm] at hw1 HY2 hdl hc
            have hb : ((byteAt y m : Int) == 32) = true := by rw [hc.2]; rfl
            have hi1 : (m : Int) < (y.length : Int) := by omega
            have hi2 : (0 : Int) ≤ (m : Int) := by omega
            have hi3 : (m : Int) ≤ (y.length : Int) := by omega
            clear hc hne hm hw
            go_wp2_with fail
            go_round
            case rel => exact ⟨y.take m, by omega, rfl, HY2⟩
            case measure => rw [strLen_str, strLen_str]; omega
          · have HYU : Hid (y = u) := Lib.hid (by
              have h2 : trimR y = y := bare_stop (by
                rcases Nat.eq_zero_or_pos y.length with h | h
                · exact .inl (List.eq_nil_of_length_eq_zero h)
                · exact .inr (fun h3 => hc ⟨h, h3⟩))
              rw [← h2]; exact HY.out)
            rcases Nat.eq_zero_or_pos y.length with h | h
            · have h0 : ¬ (0 : Int) < (y.length : Int) := by omega
              clear hc hw h
              go_wp2_with fail
              go_ret
              rw [HYU.out]
              exact ⟨rfl, rfl⟩
            · have h0 : (0 : Int) < (y.length : Int) := by omega
              have hw1 := hw h
              obtain ⟨m, hm⟩ : ∃ m, m = y.length - 1 := ⟨_, rfl⟩
              have hml : m + 1 = y.length := by omega
              rw [← hm] at hw1 hc
              have hb : ((byteAt y m : Int) == 32) = false := by
                rw [beq_eq_false_iff_ne]
                intro h3
                exact hc ⟨h, by omega⟩
              have hi1 : (m : Int) < (y.length : Int) := by omega
              have hi2 : (0 : Int) ≤ (m : Int) := by omega
              clear hc hw hm h
              go_wp2_with fail
              go_ret
              rw [HYU.out]
              exact ⟨rfl, rfl⟩
end Big
end Go.Proofs.YtoehdoghghpmjaaGreatDoor
/- The document's text and Valid of commands. -/
namespace Go.Proofs.YtoehdoghghpmjaaGreatDoor
namespace Big
open Go.RowKit
theorem head_at {l : List UInt8} (h : l ≠ []) : (l.head? == some 32) = decide (byteAt l 0 = 32) := by
  cases l with
  | nil => exact absurd rfl h
  | cons c r =>
    rw [Bool.eq_iff_iff]
    simp only [List.head?_cons, beq_iff_eq, Option.some.injEq, decide_eq_true_eq]
    exact ⟨fun e => by rw [e]; rfl, fun e => UInt8.toNat_inj.1 e⟩
theorem last_at {l : List UInt8} (h : l ≠ []) : (l.getLast? == some 32) = decide (byteAt l (l.length - 1) = 32) := by
  rcases snoc_cases l with h3 | ⟨t, c, rfl⟩
  · exact absurd h3 h
  · have hl : (t ++ [c]).length - 1 = t.length := by simp
    have hb : byteAt (t ++ [c]) t.length = c.toNat := by
      rw [byteAt_eq _ _ (by simp), List.getElem_append_right (Nat.le_refl _)]
      simp
    rw [hl, hb, List.getLast?_concat, Bool.eq_iff_iff]
    simp only [beq_iff_eq, Option.some.injEq, decide_eq_true_eq]
    exact ⟨fun e => by rw [e]; rfl, fun e => UInt8.toNat_inj.1 e⟩
set_option maxHeartbeats 1000000 in
set_option maxRecDepth 100000 in
theorem rtext31_any (w : World) (l : List UInt8) (hl : l.length ≤ 1000000) : Calls Tryz.prog 40 #[str l] w fun e w' => e = .returned (.bool (textB l)) ∧ w = w' := by
  by_cases h0 : l = []
  · subst h0
    have HR : Hid (textB [] = false) := Lib.hid rfl
    have he : (([] : List UInt8) == []) = true := rfl
    go_enter Tryz.func40, Tryz.ntmps40
    go_wp2_with fail
    go_ret
    rw [HR.out]
    exact ⟨rfl, rfl⟩
  have he : (l == []) = false := by cases l <;> simp_all
  have hpos : 0 < l.length := List.length_pos_iff.2 h0
  rcases Nat.lt_or_ge 400 l.length with h4 | h4
  · have HR : Hid (textB l = false) := Lib.hid (by unfold textB; rw [decide_eq_false (show ¬ l.length ≤ 400 by omega)]; simp)
    have hd : (400 : Int) < (l.length : Int) := by omega
    clear h0 h4
    go_enter Tryz.func40, Tryz.ntmps40
    go_wp2_with fail
    go_ret
    rw [HR.out]
    exact ⟨rfl, rfl⟩
  have HTB : Hid (textB l = (!(decide (byteAt l 0 = 32)) && !(decide (byteAt l (l.length - 1) = 32)) && l.all (fun c => printN c.toNat))) := Lib.hid (by
    unfold textB printN
    rw [he, decide_eq_true h4, head_at h0, last_at h0]
    simp only [Bool.not_false, Bool.true_and])
  have hd : ¬ (400 : Int) < (l.length : Int) := by omega
  have hw : IntKind.i64.wrap ((l.length : Int) - 1) = ((l.length - 1 : Nat) : Int) := by rw [IntWalk.i64_in _ (by omega)]; omega
  obtain ⟨m, hm⟩ : ∃ m, m = l.length - 1 := ⟨_, rfl⟩
  have hml : m + 1 = l.length := by omega
  rw [← hm] at hw HTB
  have hp0 : (0 : Int) < (l.length : Int) := by omega
  have hi1 : (m : Int) < (l.length : Int) := by omega
  have hi2 : (0 : Int) ≤ (m : Int) := by omega
  clear h0 hm h4
  by_cases hb0 : byteAt l 0 = 32
  · have HR : Hid (textB l = false) := Lib.hid (by rw [HTB.out, hb0]; simp)
    have hbb : ((byteAt l 0 : Int) == 32) = true := by rw [hb0]; rfl
    clear hb0
    go_enter Tryz.func40, Tryz.ntmps40
    go_wp2_with fail
    go_ret
    rw [HR.out]
    exact ⟨rfl, rfl⟩
  have hbb : ((byteAt l 0 : Int) == 32) = false := by rw [beq_eq_false_iff_ne]; omega
  by_cases hbm : byteAt l m = 32
  · have HR : Hid (textB l = false) := Lib.hid (by rw [HTB.out, hbm]; simp)
    have hbc : ((byteAt l m : Int) == 32) = true := by rw [hbm]; rfl
    clear hb0 hbm
    go_enter Tryz.func40, Tryz.ntmps40
    go_wp2_with fail
    go_ret
    rw [HR.out]
    exact ⟨rfl, rfl⟩
  have hbc : ((byteAt l m : Int) == 32) = false := by rw [beq_eq_false_iff_ne]; omega
  have HR : Hid (textB l = l.all (fun c => printN c.toNat)) := Lib.hid (by rw [HTB.out, decide_eq_false hb0, decide_eq_false hbm]; simp)
  clear hb0 hbm HTB
  go_enter Tryz.func40, Tryz.ntmps40
  go_wp2_with fail
  clear hbb hbc hw hml hi1 hi2
  go_loop [3] (fun s => ∃ i : Nat, i ≤ l.length ∧ s = .int .i64 (i : Int) ∧ Hid (∀ j, j < i → printN (byteAt l j) = true)) (fun s => l.length - (intOf s).toNat)
  case atStart => exact ⟨0, Nat.zero_le _, rfl, Lib.hid (fun j hj => by omega)⟩
  case round =>
    obtain ⟨i, hi, rfl, HA⟩ := hrel
    by_cases hlt : i < l.length
    · have hil : (i : Int) < (l.length : Int) := by omega
      rcases printN_cases (byteAt l i) with ⟨hp, c1⟩ | ⟨hp, c1, c2⟩ | ⟨hp, c1, c2⟩
      · have HF : Hid (textB l = false) := Lib.hid (by rw [HR.out]; exact all_print_false hlt hp)
        have c1' : (byteAt l i : Int) < 32 := by omega
        clear hp
        go_wp2_with fail
        go_ret
        rw [HF.out]
        exact ⟨rfl, rfl⟩
      · have HF : Hid (textB l = false) := Lib.hid (by rw [HR.out]; exact all_print_false hlt hp)
        have c1' : ¬ (byteAt l i : Int) < 32 := by omega
        have c2' : (126 : Int) < (byteAt l i : Int) := by omega
        clear hp
        go_wp2_with fail
        go_ret
        rw [HF.out]
        exact ⟨rfl, rfl⟩
      · have HN : Hid (∀ j, j < i + 1 → printN (byteAt l j) = true) := Lib.hid (fun j hj => by
          rcases Nat.lt_or_ge j i with h1 | h1
          · exact HA.out j h1
          · obtain rfl : j = i := by omega
            exact hp)
        have c1' : ¬ (byteAt l i : Int) < 32 := by omega
        have c2' : ¬ (126 : Int) < (byteAt l i : Int) := by omega
        clear hp
        go_wp2_with fail
        go_round
        case rel => exact ⟨i + 1, by omega, by go_num, HN⟩
        case measure => simp [intOf]; omega
    · obtain rfl : i = l.length := by omega
      have HF : Hid (textB l = true) := Lib.hid (by rw [HR.out]; exact all_print_true HA.out)
      go_wp2_with fail
      go_ret
      rw [HF.out]
      exact ⟨rfl, rfl⟩
theorem shape31 (op : Int) (h : 0 ≤ op ∧ op < 22) : (shapeC op = 3 ↔ op = 6) ∧ (shapeC op = 5 ↔ op = 1) ∧ ((shapeC op = 2 ∨ shapeC op = 4) ↔ (op = 3 ∨ op = 21)) := by
  obtain ⟨k, rfl⟩ := Int.eq_ofNat_of_zero_le h.1
  exact (show ∀ k : Fin 22, (shapeC ((k.val : Nat) : Int) = 3 ↔ ((k.val : Nat) : Int) = 6) ∧ (shapeC ((k.val : Nat) : Int) = 5 ↔ ((k.val : Nat) : Int) = 1) ∧ ((shapeC ((k.val : Nat) : Int) = 2 ∨ shapeC ((k.val : Nat) : Int) = 4) ↔ (((k.val : Nat) : Int) = 3 ∨ ((k.val : Nat) : Int) = 21)) by decide +kernel) ⟨k, by omega⟩
theorem valid31_eq (c : Cmd) : validC c = (!(nameC c.op == []) && (if namedC c.op then wordB c.name else c.name == []) && (if (c.op == 6) = true then wordB c.other else c.other == []) && (if (c.op == 1) = true then textB c.text else c.text == []) && (c.n == 0 || ((c.op == 3 || c.op == 21) && (decide (0 < c.n) && decide (c.n ≤ 9999))))) := by
  by_cases h : 0 ≤ c.op ∧ c.op < 22
  · obtain ⟨h3, h5, h24⟩ := shape31 c.op h
    unfold validC namedC
    simp only [h3, h5, h24, decide_eq_true_eq, beq_iff_eq]
    congr 1
    by_cases hn : c.op = 3 ∨ c.op = 21
    · rw [if_pos hn]
      have e : (c.op == 3 || c.op == 21) = true := by rcases hn with h | h <;> rw [h] <;> rfl
      rw [e, Bool.true_and, Bool.eq_iff_iff]
      simp only [decide_eq_true_eq, Bool.or_eq_true, beq_iff_eq, Bool.and_eq_true]
      omega
    · rw [if_neg hn]
      have e : (c.op == 3 || c.op == 21) = false := by
        simp only [not_or] at hn
        rw [beq_eq_false_iff_ne.2 hn.1, beq_eq_false_iff_ne.2 hn.2]; rfl
      rw [e, Bool.false_and, Bool.or_false]
  · have e : nameC c.op = [] := by unfold nameC; rw [if_neg h]
    unfold validC
    rw [e]
    simp
set_option maxHeartbeats 4000000 in
set_option maxRecDepth 100000 in
theorem rvalid31_3 (w : World) (op : Int) (nm ot tx : List UInt8) (n : Int) (h1 : nm.length ≤ 1000000) (h2 : ot.length ≤ 1000000) (h3 : tx.length ≤ 1000000) (q0 : op = 3) (hnd : namedC op = true) :
    Calls Tryz.prog 16 #[.agg #[.int .i64 op, str nm, str ot, str tx, .int .i64 n]] w fun e w' => e = .returned (.bool (validC ⟨op, nm, ot, tx, n⟩)) ∧ Ext w w' := by
  subst q0
  have HO := Lib.hid (fun W => rname31_any W 3)
  have HND := Lib.hid (fun W => rnamed_any W 3)
  have HV := Lib.hid (valid31_eq ⟨3, nm, ot, tx, n⟩)
  have HW1 := Lib.hid (fun W => rWord_any W nm (by omega))
  have HW2 := Lib.hid (fun W => rWord_any W ot (by omega))
  have HW3 := Lib.hid (fun W => rtext31_any W tx h3)
  simp only at HV
  have g3 : ((3 : Int) == 3) = true := rfl
  have g21 : ((3 : Int) == 21) = false := rfl
  have g6 : ((3 : Int) == 6) = false := rfl
  have g1 : ((3 : Int) == 1) = false := rfl
  rw [g3, g21, g6, g1] at HV
  generalize validC ⟨3, nm, ot, tx, n⟩ = vb at *
  generalize nameC 3 = fn at *
  rw [hnd] at HND HV
  simp only [Bool.false_eq_true, if_true, if_false, Bool.or_false, Bool.true_and] at HV
  clear h1 h2 h3 hnd
  go_enter Tryz.func16, Tryz.ntmps16
  go_wp2_with fail
  refine (HO.out _).mono ?_
  rintro e w1 ⟨rfl, hx⟩
  have HB := Lib.hid ((Blk.new w 31 #[Value.int .i64 3, str nm, str ot, str tx, Value.int .i64 n]).ext hx)
  have HX := Lib.hid (((Ext.refl w).alloc (.cells #[Value.int .i64 3, str nm, str ot, str tx, Value.int .i64 n] 31)).trans hx)
  clear hx HO
  have c0 := HB.out.cell 0
  have c1 := HB.out.cell 1
  have c2 := HB.out.cell 2
  have c3 := HB.out.cell 3
  have c4 := HB.out.cell 4
  have cz := HB.out.lt
  cases hfn : fn == []
  rotate_left
  · rw [hfn] at HV
    go_wp2_with fail
    go_ret
    rw [HV.out]
    exact ⟨by simp, HX.out⟩
  rw [hfn] at HV
  go_wp2_with fail
  refine (HND.out _).mono ?_
  rintro e w2 ⟨rfl, rfl⟩
  cases hw1 : wordB nm
  · rw [hw1] at HW1 HV
    go_wp2_with fail
    refine (HW1.out _).mono ?_
    rintro e w2 ⟨rfl, rfl⟩
    go_wp2_with fail
    go_ret
    rw [HV.out]
    exact ⟨by simp, HX.out⟩
  rw [hw1] at HW1 HV
  go_wp2_with fail
  refine (HW1.out _).mono ?_
  rintro e w2 ⟨rfl, rfl⟩
  go_wp2_with fail
  refine (HND.out _).mono ?_
  rintro e w2 ⟨rfl, rfl⟩
  cases hw2 : ot == []
  · rw [hw2] at HV
    go_wp2_with fail
    go_ret
    rw [HV.out]
    exact ⟨by simp, HX.out⟩
  rw [hw2] at HV
  cases hw3 : tx == []
  · rw [hw3] at HV
    go_wp2_with fail
    go_ret
    rw [HV.out]
    exact ⟨by simp, HX.out⟩
  rw [hw3] at HV
  by_cases hn0 : n = 0
  · subst hn0
    rw [show ((0 : Int) == 0) = true from rfl] at HV
    go_wp2_with fail
    go_ret
    rw [HV.out]
    exact ⟨by simp, HX.out⟩
  rw [beq_eq_false_iff_ne.2 hn0] at HV
  by_cases p1 : 0 < n
  · by_cases p2 : n ≤ 9999
    · rw [decide_eq_true p1, decide_eq_true p2] at HV
      go_wp2_with fail
      go_ret
      rw [HV.out]
      exact ⟨by simp, HX.out⟩
    · rw [decide_eq_true p1, decide_eq_false p2] at HV
      go_wp2_with fail
      go_ret
      rw [HV.out]
      exact ⟨by first | (simp [hn0]; done) | (simp [hn0]; omega), HX.out⟩
  · rw [decide_eq_false p1] at HV
    go_wp2_with fail
    go_ret
    rw [HV.out]
    exact ⟨by first | (simp [hn0]; done) | (simp [hn0]; omega), HX.out⟩
set_option maxHeartbeats 4000000 in
set_option maxRecDepth 100000 in
theorem rvalid31_21 (w : World) (op : Int) (nm ot tx : List UInt8) (n : Int) (h1 : nm.length ≤ 1000000) (h2 : ot.length ≤ 1000000) (h3 : tx.length ≤ 1000000) (q0 : op = 21) (hnd : namedC op = false) :
    Calls Tryz.prog 16 #[.agg #[.int .i64 op, str nm, str ot, str tx, .int .i64 n]] w fun e w' => e = .returned (.bool (validC ⟨op, nm, ot, tx, n⟩)) ∧ Ext w w' := by
  subst q0
  have HO := Lib.hid (fun W => rname31_any W 21)
  have HND := Lib.hid (fun W => rnamed_any W 21)
  have HV := Lib.hid (valid31_eq ⟨21, nm, ot, tx, n⟩)
  have HW1 := Lib.hid (fun W => rWord_any W nm (by omega))
  have HW2 := Lib.hid (fun W => rWord_any W ot (by omega))
  have HW3 := Lib.hid (fun W => rtext31_any W tx h3)
  simp only at HV
  have g3 : ((21 : Int) == 3) = false := rfl
  have g21 : ((21 : Int) == 21) = true := rfl
  have g6 : ((21 : Int) == 6) = false := rfl
  have g1 : ((21 : Int) == 1) = false := rfl
  rw [g3, g21, g6, g1] at HV
  generalize validC ⟨21, nm, ot, tx, n⟩ = vb at *
  generalize nameC 21 = fn at *
  rw [hnd] at HND HV
  simp only [Bool.false_eq_true, if_false, Bool.or_true, Bool.true_and] at HV
  clear h1 h2 h3 hnd
  go_enter Tryz.func16, Tryz.ntmps16
  go_wp2_with fail
  refine (HO.out _).mono ?_
  rintro e w1 ⟨rfl, hx⟩
  have HB := Lib.hid ((Blk.new w 31 #[Value.int .i64 21, str nm, str ot, str tx, Value.int .i64 n]).ext hx)
  have HX := Lib.hid (((Ext.refl w).alloc (.cells #[Value.int .i64 21, str nm, str ot, str tx, Value.int .i64 n] 31)).trans hx)
  clear hx HO
  have c0 := HB.out.cell 0
  have c1 := HB.out.cell 1
  have c2 := HB.out.cell 2
  have c3 := HB.out.cell 3
  have c4 := HB.out.cell 4
  have cz := HB.out.lt
  cases hfn : fn == []
  rotate_left
  · rw [hfn] at HV
    go_wp2_with fail
    go_ret
    rw [HV.out]
    exact ⟨by simp, HX.out⟩
  rw [hfn] at HV
  go_wp2_with fail
  refine (HND.out _).mono ?_
  rintro e w2 ⟨rfl, rfl⟩
  go_wp2_with fail
  refine (HND.out _).mono ?_
  rintro e w2 ⟨rfl, rfl⟩
  cases hw1 : nm == []
  · rw [hw1] at HV
    go_wp2_with fail
    go_ret
    rw [HV.out]
    exact ⟨by simp, HX.out⟩
  rw [hw1] at HV
  cases hw2 : ot == []
  · rw [hw2] at HV
    go_wp2_with fail
    go_ret
    rw [HV.out]
    exact ⟨by simp, HX.out⟩
  rw [hw2] at HV
  cases hw3 : tx == []
  · rw [hw3] at HV
    go_wp2_with fail
    go_ret
    rw [HV.out]
    exact ⟨by simp, HX.out⟩
  rw [hw3] at HV
  by_cases hn0 : n = 0
  · subst hn0
    rw [show ((0 : Int) == 0) = true from rfl] at HV
    go_wp2_with fail
    go_ret
    rw [HV.out]
    exact ⟨by simp, HX.out⟩
  rw [beq_eq_false_iff_ne.2 hn0] at HV
  by_cases p1 : 0 < n
  · by_cases p2 : n ≤ 9999
    · rw [decide_eq_true p1, decide_eq_true p2] at HV
      go_wp2_with fail
      go_ret
      rw [HV.out]
      exact ⟨by simp, HX.out⟩
    · rw [decide_eq_true p1, decide_eq_false p2] at HV
      go_wp2_with fail
      go_ret
      rw [HV.out]
      exact ⟨by first | (simp [hn0]; done) | (simp [hn0]; omega), HX.out⟩
  · rw [decide_eq_false p1] at HV
    go_wp2_with fail
    go_ret
    rw [HV.out]
    exact ⟨by first | (simp [hn0]; done) | (simp [hn0]; omega), HX.out⟩
set_option maxHeartbeats 4000000 in
set_option maxRecDepth 100000 in
theorem rvalid31_6 (w : World) (op : Int) (nm ot tx : List UInt8) (n : Int) (h1 : nm.length ≤ 1000000) (h2 : ot.length ≤ 1000000) (h3 : tx.length ≤ 1000000) (q0 : op = 6) (hnd : namedC op = true) :
    Calls Tryz.prog 16 #[.agg #[.int .i64 op, str nm, str ot, str tx, .int .i64 n]] w fun e w' => e = .returned (.bool (validC ⟨op, nm, ot, tx, n⟩)) ∧ Ext w w' := by
  subst q0
  have HO := Lib.hid (fun W => rname31_any W 6)
  have HND := Lib.hid (fun W => rnamed_any W 6)
  have HV := Lib.hid (valid31_eq ⟨6, nm, ot, tx, n⟩)
  have HW1 := Lib.hid (fun W => rWord_any W nm (by omega))
  have HW2 := Lib.hid (fun W => rWord_any W ot (by omega))
  have HW3 := Lib.hid (fun W => rtext31_any W tx h3)
  simp only at HV
  have g3 : ((6 : Int) == 3) = false := rfl
  have g21 : ((6 : Int) == 21) = false := rfl
  have g6 : ((6 : Int) == 6) = true := rfl
  have g1 : ((6 : Int) == 1) = false := rfl
  rw [g3, g21, g6, g1] at HV
  generalize validC ⟨6, nm, ot, tx, n⟩ = vb at *
  generalize nameC 6 = fn at *
  rw [hnd] at HND HV
  simp only [Bool.false_eq_true, if_true, if_false, Bool.or_false, Bool.false_and] at HV
  clear h1 h2 h3 hnd
  go_enter Tryz.func16, Tryz.ntmps16
  go_wp2_with fail
  refine (HO.out _).mono ?_
  rintro e w1 ⟨rfl, hx⟩
  have HB := Lib.hid ((Blk.new w 31 #[Value.int .i64 6, str nm, str ot, str tx, Value.int .i64 n]).ext hx)
  have HX := Lib.hid (((Ext.refl w).alloc (.cells #[Value.int .i64 6, str nm, str ot, str tx, Value.int .i64 n] 31)).trans hx)
  clear hx HO
  have c0 := HB.out.cell 0
  have c1 := HB.out.cell 1
  have c2 := HB.out.cell 2
  have c3 := HB.out.cell 3
  have c4 := HB.out.cell 4
  have cz := HB.out.lt
  cases hfn : fn == []
  rotate_left
  · rw [hfn] at HV
    go_wp2_with fail
    go_ret
    rw [HV.out]
    exact ⟨by simp, HX.out⟩
  rw [hfn] at HV
  go_wp2_with fail
  refine (HND.out _).mono ?_
  rintro e w2 ⟨rfl, rfl⟩
  cases hw1 : wordB nm
  · rw [hw1] at HW1 HV
    go_wp2_with fail
    refine (HW1.out _).mono ?_
    rintro e w2 ⟨rfl, rfl⟩
    go_wp2_with fail
    go_ret
    rw [HV.out]
    exact ⟨by simp, HX.out⟩
  rw [hw1] at HW1 HV
  go_wp2_with fail
  refine (HW1.out _).mono ?_
  rintro e w2 ⟨rfl, rfl⟩
  go_wp2_with fail
  refine (HND.out _).mono ?_
  rintro e w2 ⟨rfl, rfl⟩
  go_wp2_with fail
  cases hw2 : wordB ot
  · rw [hw2] at HW2 HV
    refine (HW2.out _).mono ?_
    rintro e w2 ⟨rfl, rfl⟩
    go_wp2_with fail
    go_ret
    rw [HV.out]
    exact ⟨by simp, HX.out⟩
  rw [hw2] at HW2 HV
  refine (HW2.out _).mono ?_
  rintro e w2 ⟨rfl, rfl⟩
  cases hw3 : tx == []
  · rw [hw3] at HV
    go_wp2_with fail
    go_ret
    rw [HV.out]
    exact ⟨by simp, HX.out⟩
  rw [hw3] at HV
  by_cases hn0 : n = 0
  · subst hn0
    rw [show ((0 : Int) == 0) = true from rfl] at HV
    go_wp2_with fail
    go_ret
    rw [HV.out]
    exact ⟨by simp, HX.out⟩
  rw [beq_eq_false_iff_ne.2 hn0] at HV
  go_wp2_with fail
  go_ret
  rw [HV.out]
  exact ⟨by simp [hn0], HX.out⟩
set_option maxHeartbeats 4000000 in
set_option maxRecDepth 100000 in
theorem rvalid31_1 (w : World) (op : Int) (nm ot tx : List UInt8) (n : Int) (h1 : nm.length ≤ 1000000) (h2 : ot.length ≤ 1000000) (h3 : tx.length ≤ 1000000) (q0 : op = 1) (hnd : namedC op = true) :
    Calls Tryz.prog 16 #[.agg #[.int .i64 op, str nm, str ot, str tx, .int .i64 n]] w fun e w' => e = .returned (.bool (validC ⟨op, nm, ot, tx, n⟩)) ∧ Ext w w' := by
  subst q0
  have HO := Lib.hid (fun W => rname31_any W 1)
  have HND := Lib.hid (fun W => rnamed_any W 1)
  have HV := Lib.hid (valid31_eq ⟨1, nm, ot, tx, n⟩)
  have HW1 := Lib.hid (fun W => rWord_any W nm (by omega))
  have HW2 := Lib.hid (fun W => rWord_any W ot (by omega))
  have HW3 := Lib.hid (fun W => rtext31_any W tx h3)
  simp only at HV
  have g3 : ((1 : Int) == 3) = false := rfl
  have g21 : ((1 : Int) == 21) = false := rfl
  have g6 : ((1 : Int) == 6) = false := rfl
  have g1 : ((1 : Int) == 1) = true := rfl
  rw [g3, g21, g6, g1] at HV
  generalize validC ⟨1, nm, ot, tx, n⟩ = vb at *
  generalize nameC 1 = fn at *
  rw [hnd] at HND HV
  simp only [Bool.false_eq_true, if_true, if_false, Bool.or_false, Bool.false_and] at HV
  clear h1 h2 h3 hnd
  go_enter Tryz.func16, Tryz.ntmps16
  go_wp2_with fail
  refine (HO.out _).mono ?_
  rintro e w1 ⟨rfl, hx⟩
  have HB := Lib.hid ((Blk.new w 31 #[Value.int .i64 1, str nm, str ot, str tx, Value.int .i64 n]).ext hx)
  have HX := Lib.hid (((Ext.refl w).alloc (.cells #[Value.int .i64 1, str nm, str ot, str tx, Value.int .i64 n] 31)).trans hx)
  clear hx HO
  have c0 := HB.out.cell 0
  have c1 := HB.out.cell 1
  have c2 := HB.out.cell 2
  have c3 := HB.out.cell 3
  have c4 := HB.out.cell 4
  have cz := HB.out.lt
  cases hfn : fn == []
  rotate_left
  · rw [hfn] at HV
    go_wp2_with fail
    go_ret
    rw [HV.out]
    exact ⟨by simp, HX.out⟩
  rw [hfn] at HV
  go_wp2_with fail
  refine (HND.out _).mono ?_
  rintro e w2 ⟨rfl, rfl⟩
  cases hw1 : wordB nm
  · rw [hw1] at HW1 HV
    go_wp2_with fail
    refine (HW1.out _).mono ?_
    rintro e w2 ⟨rfl, rfl⟩
    go_wp2_with fail
    go_ret
    rw [HV.out]
    exact ⟨by simp, HX.out⟩
  rw [hw1] at HW1 HV
  go_wp2_with fail
  refine (HW1.out _).mono ?_
  rintro e w2 ⟨rfl, rfl⟩
  go_wp2_with fail
  refine (HND.out _).mono ?_
  rintro e w2 ⟨rfl, rfl⟩
  cases hw2 : ot == []
  · rw [hw2] at HV
    go_wp2_with fail
    go_ret
    rw [HV.out]
    exact ⟨by simp, HX.out⟩
  rw [hw2] at HV
  go_wp2_with fail
  cases hw3 : textB tx
  · rw [hw3] at HW3 HV
    refine (HW3.out _).mono ?_
    rintro e w2 ⟨rfl, rfl⟩
    go_wp2_with fail
    go_ret
    rw [HV.out]
    exact ⟨by simp, HX.out⟩
  rw [hw3] at HW3 HV
  refine (HW3.out _).mono ?_
  rintro e w2 ⟨rfl, rfl⟩
  by_cases hn0 : n = 0
  · subst hn0
    rw [show ((0 : Int) == 0) = true from rfl] at HV
    go_wp2_with fail
    go_ret
    rw [HV.out]
    exact ⟨by simp, HX.out⟩
  rw [beq_eq_false_iff_ne.2 hn0] at HV
  go_wp2_with fail
  go_ret
  rw [HV.out]
  exact ⟨by simp [hn0], HX.out⟩
set_option maxHeartbeats 4000000 in
set_option maxRecDepth 100000 in
theorem rvalid31_t (w : World) (op : Int) (nm ot tx : List UInt8) (n : Int) (h1 : nm.length ≤ 1000000) (h2 : ot.length ≤ 1000000) (h3 : tx.length ≤ 1000000) (q0 : op ≠ 3) (q1 : op ≠ 21) (q2 : op ≠ 6) (q3 : op ≠ 1) (hnd : namedC op = true) :
    Calls Tryz.prog 16 #[.agg #[.int .i64 op, str nm, str ot, str tx, .int .i64 n]] w fun e w' => e = .returned (.bool (validC ⟨op, nm, ot, tx, n⟩)) ∧ Ext w w' := by
  have HO := Lib.hid (fun W => rname31_any W op)
  have HND := Lib.hid (fun W => rnamed_any W op)
  have HV := Lib.hid (valid31_eq ⟨op, nm, ot, tx, n⟩)
  have HW1 := Lib.hid (fun W => rWord_any W nm (by omega))
  have HW2 := Lib.hid (fun W => rWord_any W ot (by omega))
  have HW3 := Lib.hid (fun W => rtext31_any W tx h3)
  simp only at HV
  have g3 : (op == 3) = false := beq_eq_false_iff_ne.2 q0
  have g21 : (op == 21) = false := beq_eq_false_iff_ne.2 q1
  have g6 : (op == 6) = false := beq_eq_false_iff_ne.2 q2
  have g1 : (op == 1) = false := beq_eq_false_iff_ne.2 q3
  have p0 : ¬ op = 3 := q0
  have p1 : ¬ op = 21 := q1
  have p2 : ¬ op = 6 := q2
  have p3 : ¬ op = 1 := q3
  rw [g3, g21, g6, g1] at HV
  generalize validC ⟨op, nm, ot, tx, n⟩ = vb at *
  generalize nameC op = fn at *
  rw [hnd] at HND HV
  simp only [Bool.false_eq_true, if_true, if_false, Bool.or_false, Bool.false_and] at HV
  clear h1 h2 h3 hnd
  go_enter Tryz.func16, Tryz.ntmps16
  go_wp2_with fail
  refine (HO.out _).mono ?_
  rintro e w1 ⟨rfl, hx⟩
  have HB := Lib.hid ((Blk.new w 31 #[Value.int .i64 op, str nm, str ot, str tx, Value.int .i64 n]).ext hx)
  have HX := Lib.hid (((Ext.refl w).alloc (.cells #[Value.int .i64 op, str nm, str ot, str tx, Value.int .i64 n] 31)).trans hx)
  clear hx HO
  have c0 := HB.out.cell 0
  have c1 := HB.out.cell 1
  have c2 := HB.out.cell 2
  have c3 := HB.out.cell 3
  have c4 := HB.out.cell 4
  have cz := HB.out.lt
  cases hfn : fn == []
  rotate_left
  · rw [hfn] at HV
    go_wp2_with fail
    go_ret
    rw [HV.out]
    exact ⟨by simp, HX.out⟩
  rw [hfn] at HV
  go_wp2_with fail
  refine (HND.out _).mono ?_
  rintro e w2 ⟨rfl, rfl⟩
  cases hw1 : wordB nm
  · rw [hw1] at HW1 HV
    go_wp2_with fail
    refine (HW1.out _).mono ?_
    rintro e w2 ⟨rfl, rfl⟩
    go_wp2_with fail
    go_ret
    rw [HV.out]
    exact ⟨by simp, HX.out⟩
  rw [hw1] at HW1 HV
  go_wp2_with fail
  refine (HW1.out _).mono ?_
  rintro e w2 ⟨rfl, rfl⟩
  go_wp2_with fail
  refine (HND.out _).mono ?_
  rintro e w2 ⟨rfl, rfl⟩
  cases hw2 : ot == []
  · rw [hw2] at HV
    go_wp2_with fail
    go_ret
    rw [HV.out]
    exact ⟨by simp, HX.out⟩
  rw [hw2] at HV
  cases hw3 : tx == []
  · rw [hw3] at HV
    go_wp2_with fail
    go_ret
    rw [HV.out]
    exact ⟨by simp, HX.out⟩
  rw [hw3] at HV
  by_cases hn0 : n = 0
  · subst hn0
    rw [show ((0 : Int) == 0) = true from rfl] at HV
    go_wp2_with fail
    go_ret
    rw [HV.out]
    exact ⟨by simp, HX.out⟩
  rw [beq_eq_false_iff_ne.2 hn0] at HV
  go_wp2_with fail
  go_ret
  rw [HV.out]
  exact ⟨by simp [hn0], HX.out⟩
set_option maxHeartbeats 4000000 in
set_option maxRecDepth 100000 in
theorem rvalid31_f (w : World) (op : Int) (nm ot tx : List UInt8) (n : Int) (h1 : nm.length ≤ 1000000) (h2 : ot.length ≤ 1000000) (h3 : tx.length ≤ 1000000) (q0 : op ≠ 3) (q1 : op ≠ 21) (q2 : op ≠ 6) (q3 : op ≠ 1) (hnd : namedC op = false) :
    Calls Tryz.prog 16 #[.agg #[.int .i64 op, str nm, str ot, str tx, .int .i64 n]] w fun e w' => e = .returned (.bool (validC ⟨op, nm, ot, tx, n⟩)) ∧ Ext w w' := by
  have HO := Lib.hid (fun W => rname31_any W op)
  have HND := Lib.hid (fun W => rnamed_any W op)
  have HV := Lib.hid (valid31_eq ⟨op, nm, ot, tx, n⟩)
  have HW1 := Lib.hid (fun W => rWord_any W nm (by omega))
  have HW2 := Lib.hid (fun W => rWord_any W ot (by omega))
  have HW3 := Lib.hid (fun W => rtext31_any W tx h3)
  simp only at HV
  have g3 : (op == 3) = false := beq_eq_false_iff_ne.2 q0
  have g21 : (op == 21) = false := beq_eq_false_iff_ne.2 q1
  have g6 : (op == 6) = false := beq_eq_false_iff_ne.2 q2
  have g1 : (op == 1) = false := beq_eq_false_iff_ne.2 q3
  have p0 : ¬ op = 3 := q0
  have p1 : ¬ op = 21 := q1
  have p2 : ¬ op = 6 := q2
  have p3 : ¬ op = 1 := q3
  rw [g3, g21, g6, g1] at HV
  generalize validC ⟨op, nm, ot, tx, n⟩ = vb at *
  generalize nameC op = fn at *
  rw [hnd] at HND HV
  simp only [Bool.false_eq_true, if_false, Bool.or_false, Bool.false_and] at HV
  clear h1 h2 h3 hnd
  go_enter Tryz.func16, Tryz.ntmps16
  go_wp2_with fail
  refine (HO.out _).mono ?_
  rintro e w1 ⟨rfl, hx⟩
  have HB := Lib.hid ((Blk.new w 31 #[Value.int .i64 op, str nm, str ot, str tx, Value.int .i64 n]).ext hx)
  have HX := Lib.hid (((Ext.refl w).alloc (.cells #[Value.int .i64 op, str nm, str ot, str tx, Value.int .i64 n] 31)).trans hx)
  clear hx HO
  have c0 := HB.out.cell 0
  have c1 := HB.out.cell 1
  have c2 := HB.out.cell 2
  have c3 := HB.out.cell 3
  have c4 := HB.out.cell 4
  have cz := HB.out.lt
  cases hfn : fn == []
  rotate_left
  · rw [hfn] at HV
    go_wp2_with fail
    go_ret
    rw [HV.out]
    exact ⟨by simp, HX.out⟩
  rw [hfn] at HV
  go_wp2_with fail
  refine (HND.out _).mono ?_
  rintro e w2 ⟨rfl, rfl⟩
  go_wp2_with fail
  refine (HND.out _).mono ?_
  rintro e w2 ⟨rfl, rfl⟩
  cases hw1 : nm == []
  · rw [hw1] at HV
    go_wp2_with fail
    go_ret
    rw [HV.out]
    exact ⟨by simp, HX.out⟩
  rw [hw1] at HV
  cases hw2 : ot == []
  · rw [hw2] at HV
    go_wp2_with fail
    go_ret
    rw [HV.out]
    exact ⟨by simp, HX.out⟩
  rw [hw2] at HV
  cases hw3 : tx == []
  · rw [hw3] at HV
    go_wp2_with fail
    go_ret
    rw [HV.out]
    exact ⟨by simp, HX.out⟩
  rw [hw3] at HV
  by_cases hn0 : n = 0
  · subst hn0
    rw [show ((0 : Int) == 0) = true from rfl] at HV
    go_wp2_with fail
    go_ret
    rw [HV.out]
    exact ⟨by simp, HX.out⟩
  rw [beq_eq_false_iff_ne.2 hn0] at HV
  go_wp2_with fail
  go_ret
  rw [HV.out]
  exact ⟨by simp [hn0], HX.out⟩
theorem rvalid31_any (w : World) (c : Cmd) (h1 : c.name.length ≤ 1000000) (h2 : c.other.length ≤ 1000000) (h3 : c.text.length ≤ 1000000) :
    Calls Tryz.prog 16 #[cmdV c] w fun e w' => e = .returned (.bool (validC c)) ∧ Ext w w' := by
  obtain ⟨op, nm, ot, tx, n⟩ := c
  by_cases q3 : op = 3
  · subst q3; exact rvalid31_3 w _ nm ot tx n h1 h2 h3 rfl rfl
  by_cases q21 : op = 21
  · subst q21; exact rvalid31_21 w _ nm ot tx n h1 h2 h3 rfl rfl
  by_cases q6 : op = 6
  · subst q6; exact rvalid31_6 w _ nm ot tx n h1 h2 h3 rfl rfl
  by_cases q1 : op = 1
  · subst q1; exact rvalid31_1 w _ nm ot tx n h1 h2 h3 rfl rfl
  cases hnd : namedC op
  · exact rvalid31_f w op nm ot tx n h1 h2 h3 q3 q21 q6 q1 hnd
  · exact rvalid31_t w op nm ot tx n h1 h2 h3 q3 q21 q6 q1 hnd
end Big
end Go.Proofs.YtoehdoghghpmjaaGreatDoor
/- Words for lists of integers; what is as it was but for one block; a tape. -/
namespace Go.Proofs.YtoehdoghghpmjaaGreatDoor
namespace Big
open Go.RowKit
def di (x : Int) : Value := .int .i64 x
def IntsOk (l : List Int) : Prop := ∀ x ∈ l, -9223372036854775808 ≤ x ∧ x ≤ 9223372036854775807
/-- v reads as the list l of integers. -/
def ArrI (w : World) (v : Value) (l : List Int) : Prop := IntsOk l ∧ RArr w v (l.map di)
/-- Below B, but for block g, all is as it was. -/
structure KB (B g : Nat) (w w' : World) : Prop where
  os : w'.os = w.os
  tape : w'.tape = w.tape
  output : w'.output = w.output
  size : w.heap.size ≤ w'.heap.size
  block : ∀ k, k < B → k ≠ g → w'.heap[k]? = w.heap[k]?
section
variable {w w' w'' : World} {B B' g : Nat} {v : Value} {l : List Int}
theorem KB.refl (B g : Nat) (w : World) : KB B g w w := ⟨rfl, rfl, rfl, Nat.le_refl _, fun _ _ _ => rfl⟩
theorem KB.trans (h : KB B g w w') (k : KB B g w' w'') : KB B g w w'' :=
  ⟨k.os.trans h.os, k.tape.trans h.tape, k.output.trans h.output, Nat.le_trans h.size k.size, fun i h1 h2 => (k.block i h1 h2).trans (h.block i h1 h2)⟩
theorem KB.mono (h : KB B g w w') (hB : B' ≤ B) : KB B' g w w' := ⟨h.os, h.tape, h.output, h.size, fun k h1 h2 => h.block k (by omega) h2⟩
theorem KB.below (h : KB B g w w') (k : Below B w' w'') : KB B g w w'' := h.trans ⟨k.os, k.tape, k.output, k.size, fun i h1 _ => k.block i h1⟩
theorem KB.ext (h : KB B g w w') (k : Ext w' w'') (hB : B ≤ w'.heap.size) : KB B g w w'' := h.below (Below.mono k hB)
theorem KB.to_ext {w0 : World} (h : KB B g w w') (k : Ext w0 w) (hB : w0.heap.size ≤ B) (hg : w0.heap.size ≤ g) : Ext w0 w' :=
  ⟨h.os.trans k.os, h.tape.trans k.tape, h.output.trans k.output, Nat.le_trans k.size h.size, fun i hi => (h.block i (by omega) (by omega)).trans (k.block i hi)⟩
theorem KB.blk {t : TypeId} {cs : Array Value} {b : Nat} (h : KB B g w w') (hb : Blk w b t cs) (h1 : b < B) (h2 : b ≠ g) : Blk w' b t cs := (h.block b h1 h2).trans hb
theorem KB.set {p : Addr} (hp : p.block = g) (u : Value) : KB B g w (w.setCell p u) :=
  ⟨rfl, rfl, rfl, by simp [World.setCell], fun k _ h2 => Below.heap_setCell w p u k (by rw [hp]; exact h2)⟩
theorem KB.drewN (h : KB B g w w') (n : Nat) : KB B g w (w'.drewN n) := ⟨h.os, h.tape, h.output, h.size, h.block⟩
theorem RArr.kb {vs : List Value} (h : RArr w v vs) (hk : KB B g w w') (hv : ∀ b, v.ownBlock = some b → b < B ∧ b ≠ g) : RArr w' v vs := by
  obtain ⟨A, c, rfl, h2, h3, h4⟩ := h
  refine ⟨A, c, rfl, h2, h3, fun hp => ?_⟩
  obtain ⟨b, o, rfl, hlt, hc⟩ := h4 hp
  obtain ⟨h5, h6⟩ := hv b rfl
  refine ⟨b, o, rfl, Nat.lt_of_lt_of_le hlt hk.size, fun j u hj => ?_⟩
  have h7 := hc j u hj
  rw [← h7]
  exact World.cell?_of_block (a := ⟨b, o + j, none⟩) (hk.block b h5 h6)
theorem ArrI.ext (h : ArrI w v l) (hb : Ext w w') : ArrI w' v l := ⟨h.1, h.2.ext hb⟩
theorem ArrI.kb (h : ArrI w v l) (hk : KB B g w w') (hv : ∀ b, v.ownBlock = some b → b < B ∧ b ≠ g) : ArrI w' v l := ⟨h.1, h.2.kb hk hv⟩
theorem ArrI.open (h : ArrI w v l) : ∃ A c, v = .slice A l.length c ∧ l.length ≤ c ∧ c ≤ maxLen ∧
    (0 < l.length → ∃ b o, A = some ⟨b, o, none⟩ ∧ b < w.heap.size ∧ ∀ j (hj : j < l.length), w.cell? ⟨b, o + j, none⟩ = some (.int .i64 l[j])) := by
  obtain ⟨A, c, rfl, h2, h3, h4⟩ := h.2
  rw [List.length_map] at h2 h4
  refine ⟨A, c, by rw [List.length_map], h2, h3, fun hp => ?_⟩
  obtain ⟨b, o, rfl, hlt, hc⟩ := h4 hp
  exact ⟨b, o, rfl, hlt, fun j hj => hc j _ (by rw [List.getElem?_map, List.getElem?_eq_getElem hj]; rfl)⟩
theorem ArrI.lt (h : ArrI w v l) (hp : 0 < l.length) : ∀ b, v.ownBlock = some b → b < w.heap.size := by
  intro b hb
  obtain ⟨A, c, rfl, _, _, h4⟩ := h.open
  obtain ⟨b', o, rfl, hlt, _⟩ := h4 hp
  simp only [Value.ownBlock, Option.some.injEq] at hb
  omega
end
/-- What a tape gives next, and where it then stands. -/
def nextV (l : List Int) (a : Nat) (n : Int) : Int := if a < l.length then l.getD a 0 % n else 0
def nextA (l : List Int) (a : Nat) : Nat := if a < l.length then a + 1 else a
/-- The tape at block g: its list's value and the place; all its memory but g lies below B and is not g. -/
structure TapeAt (B g : Nat) (w : World) (L : Value) (l : List Int) (a : Nat) : Prop where
  blk : Blk w g 44 #[L, .int .i64 (a : Int)]
  arr : ArrI w L l
  off : 0 < l.length → ∀ b, L.ownBlock = some b → b < B ∧ b ≠ g
  lt : g < B
  pos : a ≤ l.length
  few : l.length ≤ 1000000
theorem nextV_range {l : List Int} {a : Nat} {n : Int} (hn : 1 ≤ n) : 0 ≤ nextV l a n ∧ nextV l a n < n := by
  unfold nextV
  split
  · exact ⟨Int.emod_nonneg _ (by omega), Int.emod_lt_of_pos _ (by omega)⟩
  · exact ⟨Int.le_refl _, by omega⟩
theorem nextA_le {l : List Int} {a : Nat} (h : a ≤ l.length) : nextA l a ≤ l.length := by unfold nextA; split <;> omega
theorem ArrI.nil_kb {w w' : World} {v : Value} {l : List Int} (h : ArrI w v l) (h0 : l.length = 0) (_hs : w.heap.size ≤ w'.heap.size) : ArrI w' v l := by
  refine ⟨h.1, ?_⟩
  obtain ⟨A, c, rfl, h2, h3, _⟩ := h.2
  exact ⟨A, c, rfl, h2, h3, fun hp => by rw [List.length_map] at hp; omega⟩
/-- The tape is kept where its own block and what lies below B are kept. -/
theorem TapeAt.kb {B g : Nat} {w w' : World} {L : Value} {l : List Int} {a a' : Nat} (h : TapeAt B g w L l a) (hk : KB B g w w') (hb : Blk w' g 44 #[L, .int .i64 (a' : Int)]) (ha : a' ≤ l.length) : TapeAt B g w' L l a' := by
  refine ⟨hb, ?_, h.off, h.lt, ha, h.few⟩
  rcases Nat.eq_zero_or_pos l.length with h0 | h0
  · exact h.arr.nil_kb h0 hk.size
  · exact h.arr.kb hk (h.off h0)
theorem TapeAt.below {B g : Nat} {w w' : World} {L : Value} {l : List Int} {a : Nat} (h : TapeAt B g w L l a) (hk : Below B w w') : TapeAt B g w' L l a :=
  h.kb ((KB.refl B g w).below hk) ((hk.block g h.lt).trans h.blk) h.pos
theorem TapeAt.mono {B B' g : Nat} {w : World} {L : Value} {l : List Int} {a : Nat} (h : TapeAt B g w L l a) (hB : B ≤ B') : TapeAt B' g w L l a :=
  ⟨h.blk, h.arr, fun h0 b hb => ⟨Nat.lt_of_lt_of_le (h.off h0 b hb).1 hB, (h.off h0 b hb).2⟩, Nat.lt_of_lt_of_le h.lt hB, h.pos, h.few⟩
end Big
end Go.Proofs.YtoehdoghghpmjaaGreatDoor
/- mill.Mod. -/
namespace Go.Proofs.YtoehdoghghpmjaaGreatDoor
namespace Big
open Go.RowKit

theorem tmod_mod (v n : Int) (hn : 1 ≤ n) : (if v.tmod n < 0 then v.tmod n + n else v.tmod n) = v % n := by
  have h := Int.tmod_eq_emod (a := v) (b := n)
  have h1 := Int.emod_nonneg v (show n ≠ 0 by omega)
  have h2 := Int.emod_lt_of_pos v (show 0 < n by omega)
  rw [h]
  split <;> split <;> omega
theorem mod_any (w : World) (v n : Int) (_h1 : -9223372036854775808 ≤ v) (_h2 : v ≤ 9223372036854775807) (hn : 1 ≤ n) (hn2 : n ≤ 4611686018427387904) :
    Calls Tryz.prog 11 #[.int .i64 v, .int .i64 n] w fun e w' => e = .returned (.int .i64 (v % n)) ∧ w = w' := by
  have hT := tmod_mod v n hn
  have hne : (n == 0) = false := by rw [beq_eq_false_iff_ne]; omega
  obtain ⟨r, hr⟩ : ∃ r, v.tmod n = r := ⟨_, rfl⟩
  rw [hr] at hT
  have hm1 := Int.emod_nonneg v (show n ≠ 0 by omega)
  have hm2 := Int.emod_lt_of_pos v (show 0 < n by omega)
  by_cases h0 : r < 0
  · rw [if_pos h0] at hT
    have hb1 : -n ≤ r := by omega
    have HT := Lib.hid hT
    clear hT hm1 hm2
    go_enter Tryz.func11, Tryz.ntmps11
    go_wp2_with fail
    go_ret
    exact ⟨congrArg (fun z => Ending.returned (.int .i64 z)) HT.out, rfl⟩
  · rw [if_neg h0] at hT
    have hb1 : r < n := by omega
    have HT := Lib.hid hT
    clear hT hm1 hm2
    go_enter Tryz.func11, Tryz.ntmps11
    go_wp2_with fail
    go_ret
    exact ⟨congrArg (fun z => Ending.returned (.int .i64 z)) HT.out, rfl⟩

end Big
end Go.Proofs.YtoehdoghghpmjaaGreatDoor
