import Derived.Test.YtoehdoghghpmjaaDoorM19
import Derived.Test.YtoehdoghghpmjaaDoorM18
/- The document's words of a line. -/
namespace Go.Proofs.YtoehdoghghpmjaaDoor
namespace Big
open Go.RowKit
theorem sp_step {l : List UInt8} (h : l ≠ []) (h2 : byteAt l 0 = 32) : sp (l.drop 1) = sp l := by
  cases l with
  | nil => exact absurd rfl h
  | cons c r =>
    have hc : c = 32 := UInt8.toNat_inj.1 h2
    subst hc
    rw [sp_space]; rfl
theorem sp_stop {l : List UInt8} (h : l = [] ∨ byteAt l 0 ≠ 32) : sp l = l := by
  cases l with
  | nil => rfl
  | cons c r =>
    rcases h with h | h
    · cases h
    · exact sp_cons (fun hc => h (by rw [hc]; rfl))
theorem fw_at {l : List UInt8} {i : Nat} (h : i < (fw l).length) : byteAt l i ≠ 32 := by
  have hs := rw_split l
  have hi : i < l.length := by have := fw_le l; omega
  rw [byteAt_eq l i hi]
  intro hc
  have h2 : l[i] = (fw l)[i] := by
    have h3 := congrArg (fun z => z[i]?) hs
    rw [List.getElem?_eq_getElem hi, List.getElem?_append_left h, List.getElem?_eq_getElem h] at h3
    exact Option.some.inj h3
  have h4 := fw_free l (fw l)[i] (List.getElem_mem h)
  apply h4
  rw [← h2]
  exact UInt8.toNat_inj.1 hc
theorem fw_stop {l : List UInt8} (h : (fw l).length < l.length) : byteAt l (fw l).length = 32 := by
  have hs := rw_split l
  rcases rw_head l with h1 | ⟨r, h1⟩
  · have := congrArg List.length hs
    rw [h1, List.append_nil] at this
    omega
  · rw [byteAt_eq l _ h]
    have h3 := congrArg (fun z => z[(fw l).length]?) hs
    rw [List.getElem?_eq_getElem h, List.getElem?_append_right (Nat.le_refl _), Nat.sub_self, h1] at h3
    have h4 : l[(fw l).length] = 32 := Option.some.inj h3
    rw [h4]; rfl
theorem fw_take (l : List UInt8) : l.take (fw l).length = fw l := by
  have h2 : ∀ a b : List UInt8, l = a ++ b → l.take a.length = a := fun a b h => by rw [h, List.take_left' rfl]
  exact h2 _ _ (rw_split l)
def strLen : Value → Nat
  | .string b => b.size
  | _ => 0
theorem strLen_str (l : List UInt8) : strLen (str l) = l.length := size_str l
set_option maxHeartbeats 2000000 in
set_option maxRecDepth 100000 in
theorem next31_any (w : World) (l : List UInt8) (hl : l.length ≤ 1000000) : Calls Tryd.prog 19 #[str l] w fun e w' => e = .returned (.tuple #[str (fw (sp l)), str (rw_ (sp l))]) ∧ Ext w w' := by
  obtain ⟨u, hu⟩ : ∃ u, u = sp l := ⟨_, rfl⟩
  rw [← hu]
  have HU := Lib.hid hu
  clear hu
  go_enter Tryd.func19, Tryd.ntmps19
  go_wp2_with fail
  go_loop [0] (fun s0 => ∃ x : List UInt8, x.length ≤ l.length ∧ s0 = str x ∧ Hid (sp x = u)) (fun s0 => strLen s0)
  case atStart => exact ⟨l, Nat.le_refl _, rfl, Lib.hid HU.out.symm⟩
  case round =>
    obtain ⟨x, hx, rfl, HX⟩ := hrel
    by_cases hc : 0 < x.length ∧ byteAt x 0 = 32
    · have hne : x ≠ [] := by intro he; rw [he] at hc; simp at hc
      have HX2 : Hid (sp x.tail = u) := Lib.hid (by rw [← List.drop_one]; exact (sp_step hne hc.2).trans HX.out)
      have h0 : (0 : Int) < (x.length : Int) := by omega
      have h1 : (1 : Int) ≤ (x.length : Int) := by omega
      have hb : ((byteAt x 0 : Int) == 32) = true := by rw [hc.2]; rfl
      have hdl : x.tail.length = x.length - 1 := List.length_tail
      have hdl2 : 0 < x.length := hc.1
      clear hc hne
      go_wp2_with fail
      go_round
      case rel => exact ⟨x.tail, by omega, rfl, HX2⟩
      case measure => rw [strLen_str, strLen_str]; omega
    · have HXU : Hid (x = u) := Lib.hid (by
        have h2 : sp x = x := sp_stop (by
          rcases Nat.eq_zero_or_pos x.length with h | h
          · exact .inl (List.eq_nil_of_length_eq_zero h)
          · exact .inr (fun h3 => hc ⟨h, h3⟩))
        rw [← h2]; exact HX.out)
      obtain ⟨n, hn⟩ : ∃ n, n = (fw x).length := ⟨_, rfl⟩
      have HN := Lib.hid hn
      have hnl : n ≤ x.length := by rw [hn]; exact fw_le x
      have hl2 : x.length ≤ 1000000 := by omega
      have HD : Hid (x.take n = fw u ∧ x.drop n = rw_ u) := Lib.hid (by rw [← HXU.out, hn]; exact ⟨fw_take x, rfl⟩)
      have hbr : ((0 : Int) < (x.length : Int) ∧ ((byteAt x 0 : Int) == 32) = false) ∨ ¬ (0 : Int) < (x.length : Int) := by
        rcases Nat.eq_zero_or_pos x.length with h | h
        · right; omega
        · left
          refine ⟨by omega, ?_⟩
          rw [beq_eq_false_iff_ne]
          intro h3
          exact hc ⟨h, by omega⟩
      clear hc hn HX HU hx
      rcases hbr with ⟨h1, h2⟩ | h1
      all_goals
        go_wp2_with fail
        go_loop [4] (fun s4 => ∃ i : Nat, i ≤ n ∧ s4 = .int .i64 (i : Int)) (fun s4 => n - (intOf s4).toNat)
        case atStart => exact ⟨0, Nat.zero_le _, rfl⟩
        case round =>
          obtain ⟨i, hi, rfl⟩ := hrel
          by_cases hlt : i < n
          · have hb := fw_at (l := x) (i := i) (by rw [← HN.out]; exact hlt)
            have hb2 : ((byteAt x i : Int) != 32) = true := by rw [bne_iff_ne]; omega
            have hil : (i : Int) < (x.length : Int) := by omega
            clear hb
            go_wp2_with fail
            go_round
            case rel => exact ⟨i + 1, by omega, by go_num⟩
            case measure => simp [intOf]; omega
          · obtain rfl : i = n := by omega
            have hbr2 : ((i : Int) < (x.length : Int) ∧ ((byteAt x i : Int) != 32) = false) ∨ ¬ (i : Int) < (x.length : Int) := by
              rcases Nat.lt_or_ge i x.length with h | h
              · left
                have := fw_stop (l := x) (by rw [← HN.out]; exact h)
                rw [← HN.out] at this
                exact ⟨by omega, by rw [this]; rfl⟩
              · right; omega
            have hil : (i : Int) ≤ (x.length : Int) := by omega
            have hi0 : (0 : Int) ≤ (i : Int) := by omega
            rcases hbr2 with ⟨h3, h4⟩ | h3
            all_goals
              go_wp2_with fail
              go_quiet (fail)
              go_wp2_with fail
              go_ret2
              rw [HD.out.1, HD.out.2]
              exact ⟨rfl, (Ext.refl w).drewN _⟩
theorem bare_step {l : List UInt8} (h : l ≠ []) (h2 : byteAt l (l.length - 1) = 32) : trimR (l.take (l.length - 1)) = trimR l := by
  rcases snoc_cases l with h3 | ⟨t, c, rfl⟩
  · exact absurd h3 h
  · have hl : (t ++ [c]).length - 1 = t.length := by simp
    rw [hl] at h2 ⊢
    have hc : c = 32 := by
      rw [byteAt_eq _ _ (by simp)] at h2
      rw [List.getElem_append_right (Nat.le_refl _)] at h2
      simp only [Nat.sub_self, List.getElem_singleton] at h2
      exact UInt8.toNat_inj.1 h2
    subst hc
    have := trimR_rep t 1
    rw [List.take_left' rfl]
    exact this.symm
theorem bare_stop {l : List UInt8} (h : l = [] ∨ byteAt l (l.length - 1) ≠ 32) : trimR l = l := by
  rcases snoc_cases l with h3 | ⟨t, c, rfl⟩
  · rw [h3]; rfl
  · refine trimR_last (fun hc => ?_)
    rcases h with h | h
    · simp at h
    · apply h
      have hl : (t ++ [c]).length - 1 = t.length := by simp
      rw [hl, byteAt_eq _ _ (by simp), List.getElem_append_right (Nat.le_refl _)]
      simp only [Nat.sub_self, List.getElem_singleton]
      rw [hc]; rfl
set_option maxHeartbeats 2000000 in
set_option maxRecDepth 100000 in
theorem bare31_any (w : World) (l : List UInt8) (hl : l.length ≤ 1000000) : Calls Tryd.prog 21 #[str l] w fun e w' => e = .returned (str (bareT l)) ∧ w = w' := by
  obtain ⟨u, hu⟩ : ∃ u, u = bareT l := ⟨_, rfl⟩
  rw [← hu]
  have HU := Lib.hid hu
  clear hu
  go_enter Tryd.func21, Tryd.ntmps21
  go_wp2_with fail
  go_loop [0] (fun s0 => ∃ x : List UInt8, x.length ≤ l.length ∧ s0 = str x ∧ Hid (bareT x = u)) (fun s0 => strLen s0)
  case atStart => exact ⟨l, Nat.le_refl _, rfl, Lib.hid HU.out.symm⟩
  case round =>
    obtain ⟨x, hx, rfl, HX⟩ := hrel
    by_cases hc : 0 < x.length ∧ byteAt x 0 = 32
    · have hne : x ≠ [] := by intro he; rw [he] at hc; simp at hc
      have HX2 : Hid (bareT x.tail = u) := Lib.hid (by rw [← HX.out, ← List.drop_one]; unfold bareT; rw [sp_step hne hc.2])
      have h0 : (0 : Int) < (x.length : Int) := by omega
      have h1 : (1 : Int) ≤ (x.length : Int) := by omega
      have hb : ((byteAt x 0 : Int) == 32) = true := by rw [hc.2]; rfl
      have hdl : x.tail.length = x.length - 1 := List.length_tail
      have hdl2 : 0 < x.length := hc.1
      clear hc hne
      go_wp2_with fail
      go_round
      case rel => exact ⟨x.tail, by omega, rfl, HX2⟩
      case measure => rw [strLen_str, strLen_str]; omega
    · have HXU : Hid (trimR x = u) := Lib.hid (by
        have h2 : sp x = x := sp_stop (by
          rcases Nat.eq_zero_or_pos x.length with h | h
          · exact .inl (List.eq_nil_of_length_eq_zero h)
          · exact .inr (fun h3 => hc ⟨h, h3⟩))
        have h3 := HX.out
        unfold bareT at h3
        rw [h2] at h3
        exact h3)
      have hl2 : x.length ≤ 1000000 := by omega
      have hbr : ((0 : Int) < (x.length : Int) ∧ ((byteAt x 0 : Int) == 32) = false) ∨ ¬ (0 : Int) < (x.length : Int) := by
        rcases Nat.eq_zero_or_pos x.length with h | h
        · right; omega
        · left
          refine ⟨by omega, ?_⟩
          rw [beq_eq_false_iff_ne]
          intro h3
          exact hc ⟨h, by omega⟩
      clear hc HX HU hx
      rcases hbr with ⟨h1, h2⟩ | h1
      all_goals
        go_wp2_with fail
        clear h1
        go_loop [0] (fun s0 => ∃ y : List UInt8, y.length ≤ 1000000 ∧ s0 = str y ∧ Hid (trimR y = u)) (fun s0 => strLen s0)
        case atStart => exact ⟨x, hl2, rfl, HXU⟩
        case round =>
          obtain ⟨y, hy, rfl, HY⟩ := hrel
          have hw : 0 < y.length → IntKind.i64.wrap ((y.length : Int) - 1) = ((y.length - 1 : Nat) : Int) := fun h => by rw [IntWalk.i64_in _ (by omega)]; omega
          by_cases hc : 0 < y.length ∧ byteAt y (y.length - 1) = 32
          · have hne : y ≠ [] := by intro he; rw [he] at hc; simp at hc
            have HY2 : Hid (trimR (y.take (y.length - 1)) = u) := Lib.hid ((bare_step hne hc.2).trans HY.out)
            have h0 : (0 : Int) < (y.length : Int) := by omega
            have hw1 := hw hc.1
            have hdl : (y.take (y.length - 1)).length = y.length - 1 := by rw [List.length_take]; omega
            obtain ⟨m, hm⟩ : ∃ m, m = y.length - 1 := ⟨_, rfl⟩
            have hml : m + 1 = y.length := by omega
            rw [← hm] at hw1 HY2 hdl hc
            have hb : ((byteAt y m : Int) == 32) = true := by rw [hc.2]; rfl
            have hi1 : (m : Int) < (y.length : Int) := by omega
            have hi2 : (0 : Int) ≤ (m : Int) := by omega
            have hi3 : (m : Int) ≤ (y.length : Int) := by omega
            clear hc hne hm hw
            go_wp2_with fail
            go_round
            case rel => exact ⟨y.take m, by omega, rfl, HY2⟩
            case measure => rw [strLen_str, strLen_str]; omega
          · have HYU : Hid (y = u) := Lib.hid (by
              have h2 : trimR y = y := bare_stop (by
                rcases Nat.eq_zero_or_pos y.length with h | h
                · exact .inl (List.eq_nil_of_length_eq_zero h)
                · exact .inr (fun h3 => hc ⟨h, h3⟩))
              rw [← h2]; exact HY.out)
            rcases Nat.eq_zero_or_pos y.length with h | h
            · have h0 : ¬ (0 : Int) < (y.length : Int) := by omega
              clear hc hw h
              go_wp2_with fail
              go_ret
              rw [HYU.out]
              exact ⟨rfl, rfl⟩
            · have h0 : (0 : Int) < (y.length : Int) := by omega
              have hw1 := hw h
              obtain ⟨m, hm⟩ : ∃ m, m = y.length - 1 := ⟨_, rfl⟩
              have hml : m + 1 = y.length := by omega
              rw [← hm] at hw1 hc
              have hb : ((byteAt y m : Int) == 32) = false := by
                rw [beq_eq_false_iff_ne]
                intro h3
                exact hc ⟨h, by omega⟩
              have hi1 : (m : Int) < (y.length : Int) := by omega
              have hi2 : (0 : Int) ≤ (m : Int) := by omega
              clear hc hw hm h
              go_wp2_with fail
              go_ret
              rw [HYU.out]
              exact ⟨rfl, rfl⟩
end Big
end Go.Proofs.YtoehdoghghpmjaaDoor
/- The document's text and Valid of commands. -/
namespace Go.Proofs.YtoehdoghghpmjaaDoor
namespace Big
open Go.RowKit
theorem head_at {l : List UInt8} (h : l ≠ []) : (l.head? == some 32) = decide (byteAt l 0 = 32) := by
  cases l with
  | nil => exact absurd rfl h
  | cons c r =>
    rw [Bool.eq_iff_iff]
    simp only [List.head?_cons, beq_iff_eq, Option.some.injEq, decide_eq_true_eq]
    exact ⟨fun e => by rw [e]; rfl, fun e => UInt8.toNat_inj.1 e⟩
theorem last_at {l : List UInt8} (h : l ≠ []) : (l.getLast? == some 32) = decide (byteAt l (l.length - 1) = 32) := by
  rcases snoc_cases l with h3 | ⟨t, c, rfl⟩
  · exact absurd h3 h
  · have hl : (t ++ [c]).length - 1 = t.length := by simp
    have hb : byteAt (t ++ [c]) t.length = c.toNat := by
      rw [byteAt_eq _ _ (by simp), List.getElem_append_right (Nat.le_refl _)]
      simp
    rw [hl, hb, List.getLast?_concat, Bool.eq_iff_iff]
    simp only [beq_iff_eq, Option.some.injEq, decide_eq_true_eq]
    exact ⟨fun e => by rw [e]; rfl, fun e => UInt8.toNat_inj.1 e⟩
set_option maxHeartbeats 1000000 in
set_option maxRecDepth 100000 in
theorem rtext31_any (w : World) (l : List UInt8) (hl : l.length ≤ 1000000) : Calls Tryd.prog 28 #[str l] w fun e w' => e = .returned (.bool (textB l)) ∧ w = w' := by
  by_cases h0 : l = []
  · subst h0
    have HR : Hid (textB [] = false) := Lib.hid rfl
    have he : (([] : List UInt8) == []) = true := rfl
    go_enter Tryd.func28, Tryd.ntmps28
    go_wp2_with fail
    go_ret
    rw [HR.out]
    exact ⟨rfl, rfl⟩
  have he : (l == []) = false := by cases l <;> simp_all
  have hpos : 0 < l.length := List.length_pos_iff.2 h0
  rcases Nat.lt_or_ge 400 l.length with h4 | h4
  · have HR : Hid (textB l = false) := Lib.hid (by unfold textB; rw [decide_eq_false (show ¬ l.length ≤ 400 by omega)]; simp)
    have hd : (400 : Int) < (l.length : Int) := by omega
    clear h0 h4
    go_enter Tryd.func28, Tryd.ntmps28
    go_wp2_with fail
    go_ret
    rw [HR.out]
    exact ⟨rfl, rfl⟩
  have HTB : Hid (textB l = (!(decide (byteAt l 0 = 32)) && !(decide (byteAt l (l.length - 1) = 32)) && l.all (fun c => printN c.toNat))) := Lib.hid (by
    unfold textB printN
    rw [he, decide_eq_true h4, head_at h0, last_at h0]
    simp only [Bool.not_false, Bool.true_and])
  have hd : ¬ (400 : Int) < (l.length : Int) := by omega
  have hw : IntKind.i64.wrap ((l.length : Int) - 1) = ((l.length - 1 : Nat) : Int) := by rw [IntWalk.i64_in _ (by omega)]; omega
  obtain ⟨m, hm⟩ : ∃ m, m = l.length - 1 := ⟨_, rfl⟩
  have hml : m + 1 = l.length := by omega
  rw [← hm] at hw HTB
  have hp0 : (0 : Int) < (l.length : Int) := by omega
  have hi1 : (m : Int) < (l.length : Int) := by omega
  have hi2 : (0 : Int) ≤ (m : Int) := by omega
  clear h0 hm h4
  by_cases hb0 : byteAt l 0 = 32
  · have HR : Hid (textB l = false) := Lib.hid (by rw [HTB.out, hb0]; simp)
    have hbb : ((byteAt l 0 : Int) == 32) = true := by rw [hb0]; rfl
    clear hb0
    go_enter Tryd.func28, Tryd.ntmps28
    go_wp2_with fail
    go_ret
    rw [HR.out]
    exact ⟨rfl, rfl⟩
  have hbb : ((byteAt l 0 : Int) == 32) = false := by rw [beq_eq_false_iff_ne]; omega
  by_cases hbm : byteAt l m = 32
  · have HR : Hid (textB l = false) := Lib.hid (by rw [HTB.out, hbm]; simp)
    have hbc : ((byteAt l m : Int) == 32) = true := by rw [hbm]; rfl
    clear hb0 hbm
    go_enter Tryd.func28, Tryd.ntmps28
    go_wp2_with fail
    go_ret
    rw [HR.out]
    exact ⟨rfl, rfl⟩
  have hbc : ((byteAt l m : Int) == 32) = false := by rw [beq_eq_false_iff_ne]; omega
  have HR : Hid (textB l = l.all (fun c => printN c.toNat)) := Lib.hid (by rw [HTB.out, decide_eq_false hb0, decide_eq_false hbm]; simp)
  clear hb0 hbm HTB
  go_enter Tryd.func28, Tryd.ntmps28
  go_wp2_with fail
  clear hbb hbc hw hml hi1 hi2
  go_loop [3] (fun s => ∃ i : Nat, i ≤ l.length ∧ s = .int .i64 (i : Int) ∧ Hid (∀ j, j < i → printN (byteAt l j) = true)) (fun s => l.length - (intOf s).toNat)
  case atStart => exact ⟨0, Nat.zero_le _, rfl, Lib.hid (fun j hj => by omega)⟩
  case round =>
    obtain ⟨i, hi, rfl, HA⟩ := hrel
    by_cases hlt : i < l.length
    · have hil : (i : Int) < (l.length : Int) := by omega
      rcases printN_cases (byteAt l i) with ⟨hp, c1⟩ | ⟨hp, c1, c2⟩ | ⟨hp, c1, c2⟩
      · have HF : Hid (textB l = false) := Lib.hid (by rw [HR.out]; exact all_print_false hlt hp)
        have c1' : (byteAt l i : Int) < 32 := by omega
        clear hp
        go_wp2_with fail
        go_ret
        rw [HF.out]
        exact ⟨rfl, rfl⟩
      · have HF : Hid (textB l = false) := Lib.hid (by rw [HR.out]; exact all_print_false hlt hp)
        have c1' : ¬ (byteAt l i : Int) < 32 := by omega
        have c2' : (126 : Int) < (byteAt l i : Int) := by omega
        clear hp
        go_wp2_with fail
        go_ret
        rw [HF.out]
        exact ⟨rfl, rfl⟩
      · have HN : Hid (∀ j, j < i + 1 → printN (byteAt l j) = true) := Lib.hid (fun j hj => by
          rcases Nat.lt_or_ge j i with h1 | h1
          · exact HA.out j h1
          · obtain rfl : j = i := by omega
            exact hp)
        have c1' : ¬ (byteAt l i : Int) < 32 := by omega
        have c2' : ¬ (126 : Int) < (byteAt l i : Int) := by omega
        clear hp
        go_wp2_with fail
        go_round
        case rel => exact ⟨i + 1, by omega, by go_num, HN⟩
        case measure => simp [intOf]; omega
    · obtain rfl : i = l.length := by omega
      have HF : Hid (textB l = true) := Lib.hid (by rw [HR.out]; exact all_print_true HA.out)
      go_wp2_with fail
      go_ret
      rw [HF.out]
      exact ⟨rfl, rfl⟩
theorem shape31 (op : Int) (h : 0 ≤ op ∧ op < 22) : (shapeC op = 3 ↔ op = 6) ∧ (shapeC op = 5 ↔ op = 1) ∧ ((shapeC op = 2 ∨ shapeC op = 4) ↔ (op = 3 ∨ op = 21)) := by
  obtain ⟨k, rfl⟩ := Int.eq_ofNat_of_zero_le h.1
  exact (show ∀ k : Fin 22, (shapeC ((k.val : Nat) : Int) = 3 ↔ ((k.val : Nat) : Int) = 6) ∧ (shapeC ((k.val : Nat) : Int) = 5 ↔ ((k.val : Nat) : Int) = 1) ∧ ((shapeC ((k.val : Nat) : Int) = 2 ∨ shapeC ((k.val : Nat) : Int) = 4) ↔ (((k.val : Nat) : Int) = 3 ∨ ((k.val : Nat) : Int) = 21)) by decide +kernel) ⟨k, by omega⟩
theorem valid31_eq (c : Cmd) : validC c = (!(nameC c.op == []) && (if namedC c.op then wordB c.name else c.name == []) && (if (c.op == 6) = true then wordB c.other else c.other == []) && (if (c.op == 1) = true then textB c.text else c.text == []) && (c.n == 0 || ((c.op == 3 || c.op == 21) && (decide (0 < c.n) && decide (c.n ≤ 9999))))) := by
  by_cases h : 0 ≤ c.op ∧ c.op < 22
  · obtain ⟨h3, h5, h24⟩ := shape31 c.op h
    unfold validC namedC
    simp only [h3, h5, h24, decide_eq_true_eq, beq_iff_eq]
    congr 1
    by_cases hn : c.op = 3 ∨ c.op = 21
    · rw [if_pos hn]
      have e : (c.op == 3 || c.op == 21) = true := by rcases hn with h | h <;> rw [h] <;> rfl
      rw [e, Bool.true_and, Bool.eq_iff_iff]
      simp only [decide_eq_true_eq, Bool.or_eq_true, beq_iff_eq, Bool.and_eq_true]
      omega
    · rw [if_neg hn]
      have e : (c.op == 3 || c.op == 21) = false := by
        simp only [not_or] at hn
        rw [beq_eq_false_iff_ne.2 hn.1, beq_eq_false_iff_ne.2 hn.2]; rfl
      rw [e, Bool.false_and, Bool.or_false]
  · have e : nameC c.op = [] := by unfold nameC; rw [if_neg h]
    unfold validC
    rw [e]
    simp
set_option maxHeartbeats 4000000 in
set_option maxRecDepth 100000 in
theorem rvalid31_3 (w : World) (op : Int) (nm ot tx : List UInt8) (n : Int) (h1 : nm.length ≤ 1000000) (h2 : ot.length ≤ 1000000) (h3 : tx.length ≤ 1000000) (q0 : op = 3) (hnd : namedC op = true) :
    Calls Tryd.prog 10 #[.agg #[.int .i64 op, str nm, str ot, str tx, .int .i64 n]] w fun e w' => e = .returned (.bool (validC ⟨op, nm, ot, tx, n⟩)) ∧ Ext w w' := by
  subst q0
  have HO := Lib.hid (fun W => rname31_any W 3)
  have HND := Lib.hid (fun W => rnamed_any W 3)
  have HV := Lib.hid (valid31_eq ⟨3, nm, ot, tx, n⟩)
  have HW1 := Lib.hid (fun W => rWord_any W nm (by omega))
  have HW2 := Lib.hid (fun W => rWord_any W ot (by omega))
  have HW3 := Lib.hid (fun W => rtext31_any W tx h3)
  simp only at HV
  have g3 : ((3 : Int) == 3) = true := rfl
  have g21 : ((3 : Int) == 21) = false := rfl
  have g6 : ((3 : Int) == 6) = false := rfl
  have g1 : ((3 : Int) == 1) = false := rfl
  rw [g3, g21, g6, g1] at HV
  generalize validC ⟨3, nm, ot, tx, n⟩ = vb at *
  generalize nameC 3 = fn at *
  rw [hnd] at HND HV
  simp only [Bool.false_eq_true, if_true, if_false, Bool.or_true, Bool.true_or, Bool.or_false, Bool.true_and, Bool.false_and] at HV
  clear h1 h2 h3 hnd
  go_enter Tryd.func10, Tryd.ntmps10
  go_wp2_with fail
  refine (HO.out _).mono ?_
  rintro e w1 ⟨rfl, hx⟩
  have HB := Lib.hid ((Blk.new w 27 #[Value.int .i64 3, str nm, str ot, str tx, Value.int .i64 n]).ext hx)
  have HX := Lib.hid (((Ext.refl w).alloc (.cells #[Value.int .i64 3, str nm, str ot, str tx, Value.int .i64 n] 27)).trans hx)
  clear hx HO
  have c0 := HB.out.cell 0
  have c1 := HB.out.cell 1
  have c2 := HB.out.cell 2
  have c3 := HB.out.cell 3
  have c4 := HB.out.cell 4
  have cz := HB.out.lt
  cases hfn : fn == []
  rotate_left
  · rw [hfn] at HV
    go_wp2_with fail
    go_ret
    rw [HV.out]
    exact ⟨by simp, HX.out⟩
  rw [hfn] at HV
  go_wp2_with fail
  refine (HND.out _).mono ?_
  rintro e w2 ⟨rfl, rfl⟩
  cases hw1 : wordB nm
  · rw [hw1] at HW1 HV
    go_wp2_with fail
    refine (HW1.out _).mono ?_
    rintro e w2 ⟨rfl, rfl⟩
    go_wp2_with fail
    go_ret
    rw [HV.out]
    exact ⟨by simp, HX.out⟩
  rw [hw1] at HW1 HV
  go_wp2_with fail
  refine (HW1.out _).mono ?_
  rintro e w2 ⟨rfl, rfl⟩
  go_wp2_with fail
  refine (HND.out _).mono ?_
  rintro e w2 ⟨rfl, rfl⟩
  cases hw2 : ot == []
  · rw [hw2] at HV
    go_wp2_with fail
    go_ret
    rw [HV.out]
    exact ⟨by simp, HX.out⟩
  rw [hw2] at HV
  cases hw3 : tx == []
  · rw [hw3] at HV
    go_wp2_with fail
    go_ret
    rw [HV.out]
    exact ⟨by simp, HX.out⟩
  rw [hw3] at HV
  by_cases hn0 : n = 0
  · subst hn0
    rw [show ((0 : Int) == 0) = true from rfl] at HV
    go_wp2_with fail
    go_ret
    rw [HV.out]
    exact ⟨by simp, HX.out⟩
  rw [beq_eq_false_iff_ne.2 hn0] at HV
  by_cases p1 : 0 < n
  · by_cases p2 : n ≤ 9999
    · rw [decide_eq_true p1, decide_eq_true p2] at HV
      go_wp2_with fail
      go_ret
      rw [HV.out]
      exact ⟨by simp, HX.out⟩
    · rw [decide_eq_true p1, decide_eq_false p2] at HV
      go_wp2_with fail
      go_ret
      rw [HV.out]
      exact ⟨by first | (simp [hn0]; done) | (simp [hn0]; omega), HX.out⟩
  · rw [decide_eq_false p1] at HV
    go_wp2_with fail
    go_ret
    rw [HV.out]
    exact ⟨by first | (simp [hn0]; done) | (simp [hn0]; omega), HX.out⟩
set_option maxHeartbeats 4000000 in
set_option maxRecDepth 100000 in
theorem rvalid31_21 (w : World) (op : Int) (nm ot tx : List UInt8) (n : Int) (h1 : nm.length ≤ 1000000) (h2 : ot.length ≤ 1000000) (h3 : tx.length ≤ 1000000) (q0 : op = 21) (hnd : namedC op = false) :
    Calls Tryd.prog 10 #[.agg #[.int .i64 op, str nm, str ot, str tx, .int .i64 n]] w fun e w' => e = .returned (.bool (validC ⟨op, nm, ot, tx, n⟩)) ∧ Ext w w' := by
  subst q0
  have HO := Lib.hid (fun W => rname31_any W 21)
  have HND := Lib.hid (fun W => rnamed_any W 21)
  have HV := Lib.hid (valid31_eq ⟨21, nm, ot, tx, n⟩)
  have HW1 := Lib.hid (fun W => rWord_any W nm (by omega))
  have HW2 := Lib.hid (fun W => rWord_any W ot (by omega))
  have HW3 := Lib.hid (fun W => rtext31_any W tx h3)
  simp only at HV
  have g3 : ((21 : Int) == 3) = false := rfl
  have g21 : ((21 : Int) == 21) = true := rfl
  have g6 : ((21 : Int) == 6) = false := rfl
  have g1 : ((21 : Int) == 1) = false := rfl
  rw [g3, g21, g6, g1] at HV
  generalize validC ⟨21, nm, ot, tx, n⟩ = vb at *
  generalize nameC 21 = fn at *
  rw [hnd] at HND HV
  simp only [Bool.false_eq_true, if_true, if_false, Bool.or_true, Bool.true_or, Bool.or_false, Bool.true_and, Bool.false_and] at HV
  clear h1 h2 h3 hnd
  go_enter Tryd.func10, Tryd.ntmps10
  go_wp2_with fail
  refine (HO.out _).mono ?_
  rintro e w1 ⟨rfl, hx⟩
  have HB := Lib.hid ((Blk.new w 27 #[Value.int .i64 21, str nm, str ot, str tx, Value.int .i64 n]).ext hx)
  have HX := Lib.hid (((Ext.refl w).alloc (.cells #[Value.int .i64 21, str nm, str ot, str tx, Value.int .i64 n] 27)).trans hx)
  clear hx HO
  have c0 := HB.out.cell 0
  have c1 := HB.out.cell 1
  have c2 := HB.out.cell 2
  have c3 := HB.out.cell 3
  have c4 := HB.out.cell 4
  have cz := HB.out.lt
  cases hfn : fn == []
  rotate_left
  · rw [hfn] at HV
    go_wp2_with fail
    go_ret
    rw [HV.out]
    exact ⟨by simp, HX.out⟩
  rw [hfn] at HV
  go_wp2_with fail
  refine (HND.out _).mono ?_
  rintro e w2 ⟨rfl, rfl⟩
  go_wp2_with fail
  refine (HND.out _).mono ?_
  rintro e w2 ⟨rfl, rfl⟩
  cases hw1 : nm == []
  · rw [hw1] at HV
    go_wp2_with fail
    go_ret
    rw [HV.out]
    exact ⟨by simp, HX.out⟩
  rw [hw1] at HV
  cases hw2 : ot == []
  · rw [hw2] at HV
    go_wp2_with fail
    go_ret
    rw [HV.out]
    exact ⟨by simp, HX.out⟩
  rw [hw2] at HV
  cases hw3 : tx == []
  · rw [hw3] at HV
    go_wp2_with fail
    go_ret
    rw [HV.out]
    exact ⟨by simp, HX.out⟩
  rw [hw3] at HV
  by_cases hn0 : n = 0
  · subst hn0
    rw [show ((0 : Int) == 0) = true from rfl] at HV
    go_wp2_with fail
    go_ret
    rw [HV.out]
    exact ⟨by simp, HX.out⟩
  rw [beq_eq_false_iff_ne.2 hn0] at HV
  by_cases p1 : 0 < n
  · by_cases p2 : n ≤ 9999
    · rw [decide_eq_true p1, decide_eq_true p2] at HV
      go_wp2_with fail
      go_ret
      rw [HV.out]
      exact ⟨by simp, HX.out⟩
    · rw [decide_eq_true p1, decide_eq_false p2] at HV
      go_wp2_with fail
      go_ret
      rw [HV.out]
      exact ⟨by first | (simp [hn0]; done) | (simp [hn0]; omega), HX.out⟩
  · rw [decide_eq_false p1] at HV
    go_wp2_with fail
    go_ret
    rw [HV.out]
    exact ⟨by first | (simp [hn0]; done) | (simp [hn0]; omega), HX.out⟩
set_option maxHeartbeats 4000000 in
set_option maxRecDepth 100000 in
theorem rvalid31_6 (w : World) (op : Int) (nm ot tx : List UInt8) (n : Int) (h1 : nm.length ≤ 1000000) (h2 : ot.length ≤ 1000000) (h3 : tx.length ≤ 1000000) (q0 : op = 6) (hnd : namedC op = true) :
    Calls Tryd.prog 10 #[.agg #[.int .i64 op, str nm, str ot, str tx, .int .i64 n]] w fun e w' => e = .returned (.bool (validC ⟨op, nm, ot, tx, n⟩)) ∧ Ext w w' := by
  subst q0
  have HO := Lib.hid (fun W => rname31_any W 6)
  have HND := Lib.hid (fun W => rnamed_any W 6)
  have HV := Lib.hid (valid31_eq ⟨6, nm, ot, tx, n⟩)
  have HW1 := Lib.hid (fun W => rWord_any W nm (by omega))
  have HW2 := Lib.hid (fun W => rWord_any W ot (by omega))
  have HW3 := Lib.hid (fun W => rtext31_any W tx h3)
  simp only at HV
  have g3 : ((6 : Int) == 3) = false := rfl
  have g21 : ((6 : Int) == 21) = false := rfl
  have g6 : ((6 : Int) == 6) = true := rfl
  have g1 : ((6 : Int) == 1) = false := rfl
  rw [g3, g21, g6, g1] at HV
  generalize validC ⟨6, nm, ot, tx, n⟩ = vb at *
  generalize nameC 6 = fn at *
  rw [hnd] at HND HV
  simp only [Bool.false_eq_true, if_true, if_false, Bool.or_true, Bool.true_or, Bool.or_false, Bool.true_and, Bool.false_and] at HV
  clear h1 h2 h3 hnd
  go_enter Tryd.func10, Tryd.ntmps10
  go_wp2_with fail
  refine (HO.out _).mono ?_
  rintro e w1 ⟨rfl, hx⟩
  have HB := Lib.hid ((Blk.new w 27 #[Value.int .i64 6, str nm, str ot, str tx, Value.int .i64 n]).ext hx)
  have HX := Lib.hid (((Ext.refl w).alloc (.cells #[Value.int .i64 6, str nm, str ot, str tx, Value.int .i64 n] 27)).trans hx)
  clear hx HO
  have c0 := HB.out.cell 0
  have c1 := HB.out.cell 1
  have c2 := HB.out.cell 2
  have c3 := HB.out.cell 3
  have c4 := HB.out.cell 4
  have cz := HB.out.lt
  cases hfn : fn == []
  rotate_left
  · rw [hfn] at HV
    go_wp2_with fail
    go_ret
    rw [HV.out]
    exact ⟨by simp, HX.out⟩
  rw [hfn] at HV
  go_wp2_with fail
  refine (HND.out _).mono ?_
  rintro e w2 ⟨rfl, rfl⟩
  cases hw1 : wordB nm
  · rw [hw1] at HW1 HV
    go_wp2_with fail
    refine (HW1.out _).mono ?_
    rintro e w2 ⟨rfl, rfl⟩
    go_wp2_with fail
    go_ret
    rw [HV.out]
    exact ⟨by simp, HX.out⟩
  rw [hw1] at HW1 HV
  go_wp2_with fail
  refine (HW1.out _).mono ?_
  rintro e w2 ⟨rfl, rfl⟩
  go_wp2_with fail
  refine (HND.out _).mono ?_
  rintro e w2 ⟨rfl, rfl⟩
  go_wp2_with fail
  cases hw2 : wordB ot
  · rw [hw2] at HW2 HV
    refine (HW2.out _).mono ?_
    rintro e w2 ⟨rfl, rfl⟩
    go_wp2_with fail
    go_ret
    rw [HV.out]
    exact ⟨by simp, HX.out⟩
  rw [hw2] at HW2 HV
  refine (HW2.out _).mono ?_
  rintro e w2 ⟨rfl, rfl⟩
  cases hw3 : tx == []
  · rw [hw3] at HV
    go_wp2_with fail
    go_ret
    rw [HV.out]
    exact ⟨by simp, HX.out⟩
  rw [hw3] at HV
  by_cases hn0 : n = 0
  · subst hn0
    rw [show ((0 : Int) == 0) = true from rfl] at HV
    go_wp2_with fail
    go_ret
    rw [HV.out]
    exact ⟨by simp, HX.out⟩
  rw [beq_eq_false_iff_ne.2 hn0] at HV
  go_wp2_with fail
  go_ret
  rw [HV.out]
  exact ⟨by simp [hn0], HX.out⟩
set_option maxHeartbeats 4000000 in
set_option maxRecDepth 100000 in
theorem rvalid31_1 (w : World) (op : Int) (nm ot tx : List UInt8) (n : Int) (h1 : nm.length ≤ 1000000) (h2 : ot.length ≤ 1000000) (h3 : tx.length ≤ 1000000) (q0 : op = 1) (hnd : namedC op = true) :
    Calls Tryd.prog 10 #[.agg #[.int .i64 op, str nm, str ot, str tx, .int .i64 n]] w fun e w' => e = .returned (.bool (validC ⟨op, nm, ot, tx, n⟩)) ∧ Ext w w' := by
  subst q0
  have HO := Lib.hid (fun W => rname31_any W 1)
  have HND := Lib.hid (fun W => rnamed_any W 1)
  have HV := Lib.hid (valid31_eq ⟨1, nm, ot, tx, n⟩)
  have HW1 := Lib.hid (fun W => rWord_any W nm (by omega))
  have HW2 := Lib.hid (fun W => rWord_any W ot (by omega))
  have HW3 := Lib.hid (fun W => rtext31_any W tx h3)
  simp only at HV
  have g3 : ((1 : Int) == 3) = false := rfl
  have g21 : ((1 : Int) == 21) = false := rfl
  have g6 : ((1 : Int) == 6) = false := rfl
  have g1 : ((1 : Int) == 1) = true := rfl
  rw [g3, g21, g6, g1] at HV
  generalize validC ⟨1, nm, ot, tx, n⟩ = vb at *
  generalize nameC 1 = fn at *
  rw [hnd] at HND HV
  simp only [Bool.false_eq_true, if_true, if_false, Bool.or_true, Bool.true_or, Bool.or_false, Bool.true_and, Bool.false_and] at HV
  clear h1 h2 h3 hnd
  go_enter Tryd.func10, Tryd.ntmps10
  go_wp2_with fail
  refine (HO.out _).mono ?_
  rintro e w1 ⟨rfl, hx⟩
  have HB := Lib.hid ((Blk.new w 27 #[Value.int .i64 1, str nm, str ot, str tx, Value.int .i64 n]).ext hx)
  have HX := Lib.hid (((Ext.refl w).alloc (.cells #[Value.int .i64 1, str nm, str ot, str tx, Value.int .i64 n] 27)).trans hx)
  clear hx HO
  have c0 := HB.out.cell 0
  have c1 := HB.out.cell 1
  have c2 := HB.out.cell 2
  have c3 := HB.out.cell 3
  have c4 := HB.out.cell 4
  have cz := HB.out.lt
  cases hfn : fn == []
  rotate_left
  · rw [hfn] at HV
    go_wp2_with fail
    go_ret
    rw [HV.out]
    exact ⟨by simp, HX.out⟩
  rw [hfn] at HV
  go_wp2_with fail
  refine (HND.out _).mono ?_
  rintro e w2 ⟨rfl, rfl⟩
  cases hw1 : wordB nm
  · rw [hw1] at HW1 HV
    go_wp2_with fail
    refine (HW1.out _).mono ?_
    rintro e w2 ⟨rfl, rfl⟩
    go_wp2_with fail
    go_ret
    rw [HV.out]
    exact ⟨by simp, HX.out⟩
  rw [hw1] at HW1 HV
  go_wp2_with fail
  refine (HW1.out _).mono ?_
  rintro e w2 ⟨rfl, rfl⟩
  go_wp2_with fail
  refine (HND.out _).mono ?_
  rintro e w2 ⟨rfl, rfl⟩
  cases hw2 : ot == []
  · rw [hw2] at HV
    go_wp2_with fail
    go_ret
    rw [HV.out]
    exact ⟨by simp, HX.out⟩
  rw [hw2] at HV
  go_wp2_with fail
  cases hw3 : textB tx
  · rw [hw3] at HW3 HV
    refine (HW3.out _).mono ?_
    rintro e w2 ⟨rfl, rfl⟩
    go_wp2_with fail
    go_ret
    rw [HV.out]
    exact ⟨by simp, HX.out⟩
  rw [hw3] at HW3 HV
  refine (HW3.out _).mono ?_
  rintro e w2 ⟨rfl, rfl⟩
  by_cases hn0 : n = 0
  · subst hn0
    rw [show ((0 : Int) == 0) = true from rfl] at HV
    go_wp2_with fail
    go_ret
    rw [HV.out]
    exact ⟨by simp, HX.out⟩
  rw [beq_eq_false_iff_ne.2 hn0] at HV
  go_wp2_with fail
  go_ret
  rw [HV.out]
  exact ⟨by simp [hn0], HX.out⟩
set_option maxHeartbeats 4000000 in
set_option maxRecDepth 100000 in
theorem rvalid31_t (w : World) (op : Int) (nm ot tx : List UInt8) (n : Int) (h1 : nm.length ≤ 1000000) (h2 : ot.length ≤ 1000000) (h3 : tx.length ≤ 1000000) (q0 : op ≠ 3) (q1 : op ≠ 21) (q2 : op ≠ 6) (q3 : op ≠ 1) (hnd : namedC op = true) :
    Calls Tryd.prog 10 #[.agg #[.int .i64 op, str nm, str ot, str tx, .int .i64 n]] w fun e w' => e = .returned (.bool (validC ⟨op, nm, ot, tx, n⟩)) ∧ Ext w w' := by
  have HO := Lib.hid (fun W => rname31_any W op)
  have HND := Lib.hid (fun W => rnamed_any W op)
  have HV := Lib.hid (valid31_eq ⟨op, nm, ot, tx, n⟩)
  have HW1 := Lib.hid (fun W => rWord_any W nm (by omega))
  have HW2 := Lib.hid (fun W => rWord_any W ot (by omega))
  have HW3 := Lib.hid (fun W => rtext31_any W tx h3)
  simp only at HV
  have g3 : (op == 3) = false := beq_eq_false_iff_ne.2 q0
  have g21 : (op == 21) = false := beq_eq_false_iff_ne.2 q1
  have g6 : (op == 6) = false := beq_eq_false_iff_ne.2 q2
  have g1 : (op == 1) = false := beq_eq_false_iff_ne.2 q3
  have p0 : ¬ op = 3 := q0
  have p1 : ¬ op = 21 := q1
  have p2 : ¬ op = 6 := q2
  have p3 : ¬ op = 1 := q3
  rw [g3, g21, g6, g1] at HV
  generalize validC ⟨op, nm, ot, tx, n⟩ = vb at *
  generalize nameC op = fn at *
  rw [hnd] at HND HV
  simp only [Bool.false_eq_true, if_true, if_false, Bool.or_true, Bool.true_or, Bool.or_false, Bool.true_and, Bool.false_and] at HV
  clear h1 h2 h3 hnd
  go_enter Tryd.func10, Tryd.ntmps10
  go_wp2_with fail
  refine (HO.out _).mono ?_
  rintro e w1 ⟨rfl, hx⟩
  have HB := Lib.hid ((Blk.new w 27 #[Value.int .i64 op, str nm, str ot, str tx, Value.int .i64 n]).ext hx)
  have HX := Lib.hid (((Ext.refl w).alloc (.cells #[Value.int .i64 op, str nm, str ot, str tx, Value.int .i64 n] 27)).trans hx)
  clear hx HO
  have c0 := HB.out.cell 0
  have c1 := HB.out.cell 1
  have c2 := HB.out.cell 2
  have c3 := HB.out.cell 3
  have c4 := HB.out.cell 4
  have cz := HB.out.lt
  cases hfn : fn == []
  rotate_left
  · rw [hfn] at HV
    go_wp2_with fail
    go_ret
    rw [HV.out]
    exact ⟨by simp, HX.out⟩
  rw [hfn] at HV
  go_wp2_with fail
  refine (HND.out _).mono ?_
  rintro e w2 ⟨rfl, rfl⟩
  cases hw1 : wordB nm
  · rw [hw1] at HW1 HV
    go_wp2_with fail
    refine (HW1.out _).mono ?_
    rintro e w2 ⟨rfl, rfl⟩
    go_wp2_with fail
    go_ret
    rw [HV.out]
    exact ⟨by simp, HX.out⟩
  rw [hw1] at HW1 HV
  go_wp2_with fail
  refine (HW1.out _).mono ?_
  rintro e w2 ⟨rfl, rfl⟩
  go_wp2_with fail
  refine (HND.out _).mono ?_
  rintro e w2 ⟨rfl, rfl⟩
  cases hw2 : ot == []
  · rw [hw2] at HV
    go_wp2_with fail
    go_ret
    rw [HV.out]
    exact ⟨by simp, HX.out⟩
  rw [hw2] at HV
  cases hw3 : tx == []
  · rw [hw3] at HV
    go_wp2_with fail
    go_ret
    rw [HV.out]
    exact ⟨by simp, HX.out⟩
  rw [hw3] at HV
  by_cases hn0 : n = 0
  · subst hn0
    rw [show ((0 : Int) == 0) = true from rfl] at HV
    go_wp2_with fail
    go_ret
    rw [HV.out]
    exact ⟨by simp, HX.out⟩
  rw [beq_eq_false_iff_ne.2 hn0] at HV
  go_wp2_with fail
  go_ret
  rw [HV.out]
  exact ⟨by simp [hn0], HX.out⟩
set_option maxHeartbeats 4000000 in
set_option maxRecDepth 100000 in
theorem rvalid31_f (w : World) (op : Int) (nm ot tx : List UInt8) (n : Int) (h1 : nm.length ≤ 1000000) (h2 : ot.length ≤ 1000000) (h3 : tx.length ≤ 1000000) (q0 : op ≠ 3) (q1 : op ≠ 21) (q2 : op ≠ 6) (q3 : op ≠ 1) (hnd : namedC op = false) :
    Calls Tryd.prog 10 #[.agg #[.int .i64 op, str nm, str ot, str tx, .int .i64 n]] w fun e w' => e = .returned (.bool (validC ⟨op, nm, ot, tx, n⟩)) ∧ Ext w w' := by
  have HO := Lib.hid (fun W => rname31_any W op)
  have HND := Lib.hid (fun W => rnamed_any W op)
  have HV := Lib.hid (valid31_eq ⟨op, nm, ot, tx, n⟩)
  have HW1 := Lib.hid (fun W => rWord_any W nm (by omega))
  have HW2 := Lib.hid (fun W => rWord_any W ot (by omega))
  have HW3 := Lib.hid (fun W => rtext31_any W tx h3)
  simp only at HV
  have g3 : (op == 3) = false := beq_eq_false_iff_ne.2 q0
  have g21 : (op == 21) = false := beq_eq_false_iff_ne.2 q1
  have g6 : (op == 6) = false := beq_eq_false_iff_ne.2 q2
  have g1 : (op == 1) = false := beq_eq_false_iff_ne.2 q3
  have p0 : ¬ op = 3 := q0
  have p1 : ¬ op = 21 := q1
  have p2 : ¬ op = 6 := q2
  have p3 : ¬ op = 1 := q3
  rw [g3, g21, g6, g1] at HV
  generalize validC ⟨op, nm, ot, tx, n⟩ = vb at *
  generalize nameC op = fn at *
  rw [hnd] at HND HV
  simp only [Bool.false_eq_true, if_true, if_false, Bool.or_true, Bool.true_or, Bool.or_false, Bool.true_and, Bool.false_and] at HV
  clear h1 h2 h3 hnd
  go_enter Tryd.func10, Tryd.ntmps10
  go_wp2_with fail
  refine (HO.out _).mono ?_
  rintro e w1 ⟨rfl, hx⟩
  have HB := Lib.hid ((Blk.new w 27 #[Value.int .i64 op, str nm, str ot, str tx, Value.int .i64 n]).ext hx)
  have HX := Lib.hid (((Ext.refl w).alloc (.cells #[Value.int .i64 op, str nm, str ot, str tx, Value.int .i64 n] 27)).trans hx)
  clear hx HO
  have c0 := HB.out.cell 0
  have c1 := HB.out.cell 1
  have c2 := HB.out.cell 2
  have c3 := HB.out.cell 3
  have c4 := HB.out.cell 4
  have cz := HB.out.lt
  cases hfn : fn == []
  rotate_left
  · rw [hfn] at HV
    go_wp2_with fail
    go_ret
    rw [HV.out]
    exact ⟨by simp, HX.out⟩
  rw [hfn] at HV
  go_wp2_with fail
  refine (HND.out _).mono ?_
  rintro e w2 ⟨rfl, rfl⟩
  go_wp2_with fail
  refine (HND.out _).mono ?_
  rintro e w2 ⟨rfl, rfl⟩
  cases hw1 : nm == []
  · rw [hw1] at HV
    go_wp2_with fail
    go_ret
    rw [HV.out]
    exact ⟨by simp, HX.out⟩
  rw [hw1] at HV
  cases hw2 : ot == []
  · rw [hw2] at HV
    go_wp2_with fail
    go_ret
    rw [HV.out]
    exact ⟨by simp, HX.out⟩
  rw [hw2] at HV
  cases hw3 : tx == []
  · rw [hw3] at HV
    go_wp2_with fail
    go_ret
    rw [HV.out]
    exact ⟨by simp, HX.out⟩
  rw [hw3] at HV
  by_cases hn0 : n = 0
  · subst hn0
    rw [show ((0 : Int) == 0) = true from rfl] at HV
    go_wp2_with fail
    go_ret
    rw [HV.out]
    exact ⟨by simp, HX.out⟩
  rw [beq_eq_false_iff_ne.2 hn0] at HV
  go_wp2_with fail
  go_ret
  rw [HV.out]
  exact ⟨by simp [hn0], HX.out⟩
theorem rvalid31_any (w : World) (c : Cmd) (h1 : c.name.length ≤ 1000000) (h2 : c.other.length ≤ 1000000) (h3 : c.text.length ≤ 1000000) :
    Calls Tryd.prog 10 #[cmdV c] w fun e w' => e = .returned (.bool (validC c)) ∧ Ext w w' := by
  obtain ⟨op, nm, ot, tx, n⟩ := c
  by_cases q3 : op = 3
  · subst q3; exact rvalid31_3 w _ nm ot tx n h1 h2 h3 rfl rfl
  by_cases q21 : op = 21
  · subst q21; exact rvalid31_21 w _ nm ot tx n h1 h2 h3 rfl rfl
  by_cases q6 : op = 6
  · subst q6; exact rvalid31_6 w _ nm ot tx n h1 h2 h3 rfl rfl
  by_cases q1 : op = 1
  · subst q1; exact rvalid31_1 w _ nm ot tx n h1 h2 h3 rfl rfl
  cases hnd : namedC op
  · exact rvalid31_f w op nm ot tx n h1 h2 h3 q3 q21 q6 q1 hnd
  · exact rvalid31_t w op nm ot tx n h1 h2 h3 q3 q21 q6 q1 hnd
end Big
end Go.Proofs.YtoehdoghghpmjaaDoor
/- The document's Uint and Int. -/
namespace Go.Proofs.YtoehdoghghpmjaaDoor
namespace Big
open Go.RowKit
theorem limbs_three {n : Nat} (h : 3 ≤ (limbs n).length) : 18446744073709551616 ≤ n := by
  by_cases h0 : n = 0
  · subst h0; rw [limbs_zero] at h; simp at h
  rw [limbs_pos n h0, List.length_cons] at h
  by_cases h1 : n / 4294967296 = 0
  · rw [h1, limbs_zero] at h; simp at h
  rw [limbs_pos _ h1, List.length_cons] at h
  by_cases h2 : n / 4294967296 / 4294967296 = 0
  · rw [h2, limbs_zero] at h; simp at h
  omega
set_option maxHeartbeats 1000000 in
set_option maxRecDepth 100000 in
theorem ruint_any (w : World) (v : Value) (n : Nat) (h : Arr w v (limbs n)) (hn : (limbs n).length ≤ 1073741824) :
    Calls Tryd.prog 41 #[v] w fun e w' => ((n < 18446744073709551616 ∧ e = .returned (.tuple #[.int .u64 (n : Int), .bool true])) ∨ (18446744073709551616 ≤ n ∧ e = .returned (.tuple #[.int .u64 0, .bool false]))) ∧ w = w' := by
  have hv := val_limbs n
  have h3 : 3 ≤ (limbs n).length → 18446744073709551616 ≤ n := limbs_three
  obtain ⟨xs, hxs⟩ : ∃ xs, xs = limbs n := ⟨_, rfl⟩
  rw [← hxs] at h hn hv h3
  clear hxs
  obtain ⟨hok, A, c, rfl, hc, hm, hcell⟩ := h.open
  have HCELL := Lib.hid hcell
  have HOK := Lib.hid hok
  have HV := Lib.hid hv
  have H3 := Lib.hid h3
  clear h hcell hok hv hm hc h3
  go_enter Tryd.func41, Tryd.ntmps41
  go_wp2_with fail
  go_loop [4, 9] (fun s4 s9 => ∃ i : Nat, i ≤ xs.length ∧ i ≤ 2 ∧ s9 = .int .i64 (i : Int) ∧ s4 = .int .u64 ((val (xs.take i) : Nat) : Int)) (fun _ s9 => xs.length - (intOf s9).toNat)
  case atStart => exact ⟨0, Nat.zero_le _, by omega, rfl, rfl⟩
  case round =>
    obtain ⟨i, hi, hi2, rfl, rfl⟩ := hrel
    by_cases hlt : i < xs.length
    · obtain ⟨b, o, rfl, hb, hcc⟩ := HCELL.out (by omega)
      have hx := hcc i hlt
      have hxlt : xs.getD i 0 < 4294967296 := HOK.out.get i
      have HVS := Lib.hid (val_take_succ xs i hlt)
      have hvt := val_take_lt HOK.out i
      generalize xs.getD i 0 = x at *
      generalize val (xs.take i) = V at *
      simp only [d32] at hx
      clear hcc
      have hil : (i : Int) < (xs.length : Int) := by omega
      have hi012 : i = 0 ∨ i = 1 ∨ i = 2 := by omega
      rcases hi012 with rfl | rfl | rfl
      · have e1 : IntKind.u64.wrap (x : Int) = (x : Int) := IntWalk.u64_in _ (by omega)
        have hV0 : V = 0 := by simpa using hvt
        rw [Nat.add_zero] at hx
        subst hV0
        go_wp2_with fail
        go_round
        case rel => exact ⟨1, by omega, by omega, by go_num, by rw [HVS.out]; simp⟩
        case measure => simp [intOf]; omega
      · rw [Nat.pow_one] at hvt HVS
        have e1 : IntKind.u64.wrap (x : Int) = (x : Int) := IntWalk.u64_in _ (by omega)
        have e2 : IntKind.u64.wrap ((x : Int) * 4294967296) = (x : Int) * 4294967296 := IntWalk.u64_in _ (by omega)
        have e3 : IntKind.u64.wrap ((V : Int) + (x : Int) * 4294967296) = (V : Int) + (x : Int) * 4294967296 := IntWalk.u64_in _ (by omega)
        go_wp2_with fail
        go_round
        case rel => exact ⟨2, by omega, by omega, by go_num, by rw [HVS.out]; simp; omega⟩
        case measure => simp [intOf]; omega
      · have HB : Hid (18446744073709551616 ≤ n) := Lib.hid (H3.out (by omega))
        go_wp2_with fail
        go_ret2
        exact ⟨.inr ⟨HB.out, rfl⟩, rfl⟩
    · obtain rfl : i = xs.length := by omega
      have hvt := val_take_lt HOK.out xs.length
      rw [List.take_length] at hvt
      rw [List.take_length, HV.out]
      have HB : Hid (n < 18446744073709551616) := Lib.hid (by
        rw [HV.out] at hvt
        have := Nat.pow_le_pow_right (show 1 ≤ 4294967296 by omega) hi2
        have e : (4294967296 : Nat) ^ 2 = 18446744073709551616 := by decide
        omega)
      clear hvt
      go_wp2_with fail
      go_ret2
      exact ⟨.inl ⟨HB.out, rfl⟩, rfl⟩
/-- What Int returns. -/
def RIntRes (z : Int) (v : Int) (ok : Bool) : Prop := (0 ≤ z → z ≤ 9223372036854775807 → ok = true ∧ v = z) ∧ (9223372036854775807 < z → ok = false) ∧ (z < 0 → ok = true → v < 0)
set_option maxHeartbeats 1000000 in
set_option maxRecDepth 100000 in
theorem rint_any (w : World) (v : Value) (z : Int) (h : ArrInt w v z) (hn : (limbs z.natAbs).length ≤ 1073741824) :
    Calls Tryd.prog 23 #[v] w fun e w' => ∃ (u : Int) (ok : Bool), e = .returned (.tuple #[.int .i64 u, .bool ok]) ∧ RIntRes z u ok ∧ Ext w w' := by
  have HA := Lib.hid h
  obtain ⟨m, rfl, hm⟩ := h
  have HU := Lib.hid (fun W hx => ruint_any W m z.natAbs (hm.ext (w' := W) hx) hn)
  obtain ⟨nl, A, c, rfl⟩ := hm.shape
  clear hn hm
  by_cases hz : z < 0
  · have hzd : decide (z < 0) = true := decide_eq_true hz
    rw [hzd]
    have HZ := Lib.hid hz
    obtain ⟨n, hn⟩ : ∃ n, n = z.natAbs := ⟨_, rfl⟩
    have HN := Lib.hid hn
    have hn0 : 0 < n := by omega
    rw [← hn] at HU
    clear HA hzd hz hn
    go_enter Tryd.func23, Tryd.ntmps23
    go_wp2_with fail
    refine (HU.out _ ((Ext.refl w).alloc _)).mono ?_
    rintro e w1 ⟨⟨hb, rfl⟩ | ⟨hb, rfl⟩, rfl⟩
    · have HX := Lib.hid ((Ext.refl w).alloc (.cells #[Value.bool true, Value.slice A nl c] 47))
      by_cases hr : 9223372036854775808 < n
      · have h1 : (9223372036854775808 : Int) < (n : Int) := by omega
        clear hr
        go_wp2_with fail
        go_ret2
        exact ⟨_, _, rfl, ⟨fun h => absurd HZ.out (by omega), fun _ => rfl, fun _ h => (by cases h)⟩, HX.out⟩
      · have h1 : ¬ (9223372036854775808 : Int) < (n : Int) := by omega
        have e1 : IntKind.u64.wrap (-(n : Int)) = -(n : Int) + 18446744073709551616 := by rw [IntKind.wrap_u64]; omega
        have e2 : IntKind.i64.wrap (-(n : Int) + 18446744073709551616) = -(n : Int) := by rw [IntKind.wrap_i64]; omega
        clear hr
        go_wp2_with fail
        go_ret2
        exact ⟨_, _, rfl, ⟨fun h => absurd HZ.out (by omega), fun h => absurd HZ.out (by omega), fun _ _ => (by omega)⟩, HX.out⟩
    · have HX := Lib.hid ((Ext.refl w).alloc (.cells #[Value.bool true, Value.slice A nl c] 47))
      clear hb
      go_wp2_with fail
      go_ret2
      exact ⟨_, _, rfl, ⟨fun h => absurd HZ.out (by omega), fun _ => rfl, fun _ h => (by cases h)⟩, HX.out⟩
  · have hzd : decide (z < 0) = false := decide_eq_false hz
    rw [hzd]
    obtain ⟨n, rfl⟩ := Int.eq_ofNat_of_zero_le (show 0 ≤ z by omega)
    rw [Int.natAbs_natCast] at HU
    clear HA hzd hz
    go_enter Tryd.func23, Tryd.ntmps23
    go_wp2_with fail
    refine (HU.out _ ((Ext.refl w).alloc _)).mono ?_
    rintro e w1 ⟨⟨hb, rfl⟩ | ⟨hb, rfl⟩, rfl⟩
    · have HX := Lib.hid ((Ext.refl w).alloc (.cells #[Value.bool false, Value.slice A nl c] 47))
      by_cases hr : 9223372036854775807 < n
      · have h1 : (9223372036854775807 : Int) < (n : Int) := by omega
        have HR := Lib.hid hr
        clear hr
        go_wp2_with fail
        go_ret2
        exact ⟨_, _, rfl, ⟨fun _ h => absurd HR.out (by omega), fun _ => rfl, fun h => by omega⟩, HX.out⟩
      · have h1 : ¬ (9223372036854775807 : Int) < (n : Int) := by omega
        have e2 : IntKind.i64.wrap (n : Int) = (n : Int) := IntWalk.i64_in _ (by omega)
        have HR := Lib.hid hr
        clear hr
        go_wp2_with fail
        go_ret2
        exact ⟨_, _, rfl, ⟨fun _ _ => ⟨rfl, rfl⟩, fun h => absurd HR.out (by omega), fun h => by omega⟩, HX.out⟩
    · have HX := Lib.hid ((Ext.refl w).alloc (.cells #[Value.bool false, Value.slice A nl c] 47))
      have HR := Lib.hid hb
      clear hb
      go_wp2_with fail
      go_ret2
      exact ⟨_, _, rfl, ⟨fun _ h => absurd HR.out (by omega), fun _ => rfl, fun h => by omega⟩, HX.out⟩
end Big
end Go.Proofs.YtoehdoghghpmjaaDoor
/- The document's Parse of commands. -/
namespace Go.Proofs.YtoehdoghghpmjaaDoor
namespace Big
open Go.RowKit
theorem natural_limb_len (s : List UInt8) : (limbs (natural s).1).length ≤ s.length := by
  unfold natural
  split
  · rw [limbs_zero]; simp
  · split
    · rw [limbs_zero]; simp
    · split
      · rw [limbs_zero]; simp
      · split
        · rename_i h
          exact limbs_len_pow (numOf_lt s h)
        · rw [limbs_zero]; simp
theorem parse_num (s : List UInt8) : (limbs (parseI s).1.natAbs).length ≤ s.length ∧ ((∃ z : Nat, parseI s = ((z : Int), 0) ∧ natural s = (z, 0)) ∨ (numW s = none ∧ ((parseI s).2 ≠ 0 ∨ (parseI s).1 < 0))) := by
  have hnone : (natural s).2 ≠ 0 → numW s = none := fun h => by unfold numW; rw [if_neg (fun h2 => h h2.1)]
  unfold parseI
  by_cases h1 : 20001 < s.length
  · rw [if_pos h1]
    refine ⟨by simp [limbs_zero], .inr ⟨hnone ?_, .inl (by simp)⟩⟩
    unfold natural; rw [if_pos h1]; simp
  · rw [if_neg h1]
    simp only
    cases s with
    | nil => exact ⟨by decide, .inr ⟨hnone (by decide), .inl (by decide)⟩⟩
    | cons c r =>
      by_cases hc : c = 45
      · subst hc
        have hn : (natural (45 :: r)).2 ≠ 0 := by
          unfold natural
          have ha : List.all ((45 : UInt8) :: r) isDig = false := by rw [List.all_cons]; rfl
          rw [ha]
          simp only [Bool.false_eq_true, if_false]
          (repeat' split) <;> simp
        have hh : ((List.head? ((45 : UInt8) :: r)) == some 45) = true := rfl
        rw [hh]
        simp only [if_true, List.tail_cons]
        have hl := natural_limb_len r
        split
        · exact ⟨by simp [limbs_zero], .inr ⟨hnone hn, .inl (by simp)⟩⟩
        · rename_i h2
          simp only [not_or, true_and] at h2
          refine ⟨?_, .inr ⟨hnone hn, .inr ?_⟩⟩
          · rw [natAbs_sgn, List.length_cons]; omega
          · have := h2.2
            unfold sgn
            simp only [if_true]
            omega
      · have hh : ((List.head? (c :: r)) == some 45) = false := by
          rw [beq_eq_false_iff_ne]
          intro h
          injection h with h
          exact hc h
        rw [hh]
        simp only [Bool.false_eq_true, if_false, false_and, or_false]
        have hl := natural_limb_len (c :: r)
        obtain ⟨n, e, hr⟩ : ∃ n e, natural (c :: r) = (n, e) := ⟨_, _, rfl⟩
        rw [hr] at hnone hl ⊢
        simp only at hnone hl ⊢
        split
        · rename_i h2
          exact ⟨by simp [limbs_zero], .inr ⟨hnone h2, .inl (by simp)⟩⟩
        · rename_i h2
          have h3 : e = 0 := by simpa using h2
          subst h3
          refine ⟨by rw [natAbs_sgn]; exact hl, .inl ⟨n, ?_, rfl⟩⟩
          unfold sgn
          simp
theorem lineR_none {s : List UInt8} (h : ¬ 500 < s.length) (h2 : opOf (fw (sp s)) = 0 ∨ readR (opOf (fw (sp s))) (rw_ (sp s)) = none) : lineR s = (none, 6) := by
  unfold lineR
  rw [if_neg h]
  by_cases h0 : opOf (fw (sp s)) = 0
  · rw [if_pos h0]
  · rw [if_neg h0, h2.resolve_left h0]
theorem lineR_some {s : List UInt8} {c : Cmd} (h : ¬ 500 < s.length) (h0 : opOf (fw (sp s)) ≠ 0) (h2 : readR (opOf (fw (sp s))) (rw_ (sp s)) = some c) : lineR s = (some c, 0) := by
  unfold lineR
  rw [if_neg h, if_neg h0, h2]
theorem shape_else (k : Nat) (hk : k < 22) (h3 : k ≠ 3) (h21 : k ≠ 21) (h6 : k ≠ 6) (h1 : k ≠ 1) : shapeC (k : Int) = if namedC (k : Int) then 1 else 0 := by
  have := (show ∀ k : Fin 22, k.val ≠ 3 → k.val ≠ 21 → k.val ≠ 6 → k.val ≠ 1 → shapeC ((k.val : Nat) : Int) = if namedC ((k.val : Nat) : Int) then 1 else 0 by decide +kernel) ⟨k, hk⟩
  exact this h3 h21 h6 h1
theorem readR_zero (r : List UInt8) : readR 0 r = none := by
  have h : ∀ a b c d, validC ⟨0, a, b, c, d⟩ = false := fun a b c d => by
    unfold validC
    simp only
    rw [show nameC 0 = [] from rfl]
    simp
  unfold readR
  simp only [show shapeC 0 = 0 from rfl, h]
  simp
theorem names_ne (k : Nat) (h1 : 1 ≤ k) (h2 : k < 22) : cmdNames.getD k [] ≠ [] :=
  (show ∀ k : Fin 22, 1 ≤ k.val → cmdNames.getD k.val [] ≠ [] by decide +kernel) ⟨k, h2⟩ h1
end Big
end Go.Proofs.YtoehdoghghpmjaaDoor
