import Derived.Test.YtbmmnpggadakdaaDoorW36
/- The reference's fields and joins; record.Join. -/
namespace Go.Proofs.YtbmmnpggadakdaaDoor
namespace Big
open Go.RowKit
theorem rfields_any (w : World) (l : List UInt8) (hl : l.length ≤ 1073741824) :
    Calls Tryd.prog 15 #[str l] w fun e w' => ∃ v, e = .returned v ∧ OwnS w.heap.size w' v (splitOn 32 l) ∧ Ext w w' := by
  go_enter Tryd.func15, Tryd.ntmps15
  go_wp2_with fail
  go_loopw [3, 4] (fun out i wr => ∃ (k : Nat) (t : List (List UInt8)) (x : List UInt8), k ≤ l.length ∧ i = .int .i64 k ∧ t.length ≤ k ∧ x.length ≤ k ∧ Hid (splitOn 32 (l.take k) = t ++ [x]) ∧ OwnS w.heap.size wr out (t ++ [x]) ∧ Ext w wr) (fun _ i _ => l.length - (intOf i).toNat)
  case atStart => exact ⟨0, [], [], by omega, rfl, by simp, by simp, rfl, OwnS.block (ls := [[]]) (Blk.new w _ _) (Nat.le_refl _) (by simp), (Ext.refl w).alloc _⟩
  case round =>
    obtain ⟨k, t, x, hk, rfl, ht, hx, HK, hown, hext⟩ := hrel
    have HO := Lib.hid hown
    by_cases hlt : k < l.length
    · have HB := Lib.hid (byteAt_eq l k hlt)
      have HT := Lib.hid (List.take_succ_eq_append_getElem hlt)
      by_cases hsp : l[k] = 32
      · have hb : ((byteAt l k : Int) == 32) = true := by rw [HB.out, hsp]; rfl
        have HN : Hid (splitOn 32 (l.take (k + 1)) = (t ++ [x]) ++ [[]]) := Lib.hid (by rw [HT.out, hsp, splitOn_snoc_same, HK.out])
        have HLIM := Lib.hid (show (t ++ [x]).length + [([] : List UInt8)].length ≤ 2147483648 by simp; omega)
        have hws := hext.size
        obtain ⟨n0, A0, c0, rfl⟩ := hown.arr.shape
        clear hown hsp
        go_wp2_with (at_builtin; go_must (refine wpList_appendS rfl _ _ rfl rfl (HO.out.ext ((Ext.refl _).alloc _)) rfl (ArrS.fresh1 _ []) HLIM.out (by simp; omega) ?_; intro v' w' hown' hgr hb1))
        go_roundw
        case rel => exact ⟨k + 1, t ++ [x], [], by omega, by go_num, by simp; omega, by simp, HN, hown', (hext.alloc _).more hb1⟩
        case measure => simp [intOf]; omega
      · have hb : ((byteAt l k : Int) == 32) = false := by
          rw [beq_eq_false_iff_ne, HB.out]
          intro e
          exact hsp (UInt8.toNat_inj.1 (by simpa using (by omega : l[k].toNat = 32)))
        have HN : Hid (splitOn 32 (l.take (k + 1)) = t ++ [x ++ [l[k]]]) := Lib.hid (by
          obtain ⟨t', x', h1, h2⟩ := splitOn_snoc_other 32 l[k] hsp (l.take k)
          rw [HK.out] at h1
          have := List.append_inj' h1 rfl
          obtain ⟨rfl, h3⟩ := this
          injection h3 with h3
          subst h3
          rw [HT.out, h2])
        obtain ⟨g, c0, hv, hg, hgl, hcell, hfz, hset⟩ := ROwn.at_ hown (i := t.length) (by simp)
        rw [List.length_map] at hv
        subst hv
        have hcell' : wr.cell? ⟨g, t.length, none⟩ = some (str x) := by rw [hcell]; simp
        have HSET : Hid (∀ y, OwnS w.heap.size (wr.setCell ⟨g, t.length, none⟩ (str y)) (.slice (some ⟨g, 0, none⟩) (t ++ [x]).length c0) (t ++ [y])) := Lib.hid (fun y => by
          have h1 := hset (str y)
          unfold OwnS
          have e : (List.map str (t ++ [x])).set t.length (str y) = List.map str (t ++ [y]) := by simp
          rw [← e]
          exact h1)
        have hsl : List.drop k (List.take (k + 1) l) = [l[k]] := by
          rw [HT.out, List.drop_append_of_le_length (by simp; omega), List.drop_of_length_le (by simp; omega)]
          rfl
        have hadd := run_add_str x [l[k]] (by simp; omega)
        have hlen : (t ++ [x]).length = t.length + 1 := by simp
        rw [hlen] at HSET
        have hxl : (x ++ [l[k]]).length ≤ k + 1 := by simp; omega
        generalize l[k] = b at *
        generalize x ++ [b] = y at *
        clear hown hsp hcell hset HO HT HB
        rw [hlen]
        clear hlen
        have hw5 : IntKind.i64.wrap (t.length : Int) = (t.length : Int) := IntWalk.i64_in _ (by omega)
        have hw6 : (0 : Int) ≤ (t.length : Int) := by omega
        have hw7 : (t.length : Int) < (t.length : Int) + 1 := by omega
        have hw3 : ((k : Int) + 1).toNat = k + 1 := by omega
        have hw4 : (k : Int) + 1 ≤ (l.length : Int) := by omega
        have HE := Lib.hid (hext.setCell (p := ⟨g, t.length, none⟩) (by omega) (str y))
        have HSY := Lib.hid (HSET.out y)
        clear HSET
        obtain ⟨s, hs⟩ : ∃ s, str y = .string s := ⟨_, rfl⟩
        rw [hs] at hadd HE HSY
        clear hs
        go_wp2_with fail
        go_region
        all_goals
          go_wp2_with fail
          go_roundw
          case rel => exact ⟨k + 1, t, y, by omega, by go_num, by omega, hxl, HN, HSY.out.ext ((Ext.refl _).drew), HE.out.drew⟩
          case measure => simp [intOf]; omega
    · obtain rfl : k = l.length := by omega
      have HF := Lib.hid (show splitOn 32 l = t ++ [x] by rw [← HK.out, List.take_of_length_le (Nat.le_refl _)])
      clear hown
      go_wp2_with fail
      go_ret
      rw [HF.out]
      exact ⟨_, rfl, HO.out, hext⟩
theorem join_snoc (c : UInt8) (y : List UInt8) : ∀ ls : List (List UInt8), ls ≠ [] → joinWith c (ls ++ [y]) = joinWith c ls ++ c :: y
  | [], h => absurd rfl h
  | [x], _ => rfl
  | x :: z :: r, _ => by
    rw [List.cons_append, List.cons_append, joinWith, joinWith]
    have := join_snoc c y (z :: r) (by simp)
    rw [List.cons_append] at this
    rw [this, List.append_assoc]
    rfl
theorem join_more (c : UInt8) (ls : List (List UInt8)) (k : Nat) (h : k < ls.length) (h0 : 0 < k) : joinWith c (ls.take (k + 1)) = joinWith c (ls.take k) ++ c :: ls[k] := by
  rw [List.take_succ_eq_append_getElem h, join_snoc]
  intro e
  have := congrArg List.length e
  rw [List.length_take, List.length_nil, Nat.min_eq_left (by omega)] at this
  omega
theorem join_one (c : UInt8) (ls : List (List UInt8)) (h : 0 < ls.length) : joinWith c (ls.take 1) = ls[0] := by
  cases ls with
  | nil => simp at h
  | cons x r => rfl
theorem join_take_le (c : UInt8) (ls : List (List UInt8)) (k : Nat) : (joinWith c (ls.take k)).length ≤ (joinWith c ls).length := by
  have key : ∀ n, k + n ≤ ls.length → (joinWith c (ls.take k)).length ≤ (joinWith c (ls.take (k + n))).length := by
    intro n
    induction n with
    | zero => intro _; exact Nat.le_refl _
    | succ n ih =>
      intro h
      refine Nat.le_trans (ih (by omega)) ?_
      by_cases h0 : k + n = 0
      · have e : joinWith c (ls.take (k + n)) = [] := by rw [h0]; rfl
        rw [e]; simp
      · rw [← Nat.add_assoc, join_more c ls (k + n) (by omega) (by omega), List.length_append]
        omega
  rcases Nat.lt_or_ge k ls.length with h | h
  · have := key (ls.length - k) (by omega)
    rw [show k + (ls.length - k) = ls.length by omega, List.take_of_length_le (Nat.le_refl _)] at this
    exact this
  · rw [List.take_of_length_le h]
    exact Nat.le_refl _
theorem rjoin_any (w : World) (v : Value) (ls : List (List UInt8)) (h : ArrS w v ls) (hn : ls.length ≤ 1073741824) (hlen : (joinWith 32 ls).length ≤ 1073741824) :
    Calls Tryd.prog 17 #[v] w fun e w' => e = .returned (str (joinWith 32 ls)) ∧ w = w' := by
  obtain ⟨A, c, rfl, hc, hm, hcell⟩ := h.open
  go_enter Tryd.func17, Tryd.ntmps17
  go_wp2_with fail
  have HC := Lib.hid hcell
  clear hcell hm hc h
  go_loop [3, 8] (fun s i => ∃ (k : Nat) (t : List UInt8), k ≤ ls.length ∧ i = .int .i64 k ∧ s = str t ∧ Hid (joinWith 32 (ls.take k) = t)) (fun _ i => ls.length - (intOf i).toNat)
  case atStart => exact ⟨0, [], by omega, rfl, rfl, rfl⟩
  case round =>
    obtain ⟨k, t, hk, rfl, rfl, HK⟩ := hrel
    by_cases hlt : k < ls.length
    · obtain ⟨b, o, rfl, hbk, hcell⟩ := HC.out (by omega)
      have hx := hcell k hlt
      clear hcell
      have hlim := Nat.le_trans (join_take_le 32 ls (k + 1)) hlen
      by_cases h0 : k = 0
      · subst h0
        have HN : Hid (joinWith 32 (ls.take 1) = ls[0]) := Lib.hid (by rw [join_one 32 ls hlt])
        have ht : t = [] := by rw [← HK.out]; rfl
        subst ht
        have hadd := run_add_str [] ls[0] (by have := HN.out; rw [← this]; simp only [List.length_nil, Nat.zero_add]; exact Nat.le_trans hlim (by omega))
        rw [List.nil_append] at hadd
        rw [Nat.add_zero] at hx
        have hgt : ¬ (0 : Int) < ((0 : Nat) : Int) := by omega
        generalize ls[0] = y at *
        go_wp2
        go_round
        case rel => exact ⟨1, y, by omega, rfl, rfl, HN⟩
        case measure => simp [intOf]; omega
      · have HN : Hid (joinWith 32 (ls.take (k + 1)) = t ++ [32] ++ ls[k]) := Lib.hid (by rw [join_more 32 ls k hlt (by omega), HK.out]; simp)
        have hb1 : (t ++ [32] ++ ls[k]).length ≤ 1073741824 := by rw [← HN.out]; exact hlim
        have hadd1 : ∀ W, (binOp .add 9 (str t) (.string ⟨#[32]⟩)).run Tryd.prog W = .ok (str (t ++ [32])) W := run_add_str t [32] (by simp at hb1 ⊢; omega)
        have hadd2 := run_add_str (t ++ [32]) ls[k] (by simp at hb1 ⊢; omega)
        have hgt : (0 : Int) < (k : Int) := by omega
        generalize t ++ [32] ++ ls[k] = t3 at *
        generalize t ++ [32] = t2 at *
        generalize ls[k] = y at *
        clear h0 hb1
        go_wp2
        go_round
        case rel => exact ⟨k + 1, t3, by omega, by go_num, rfl, HN⟩
        case measure => simp [intOf]; omega
    · obtain rfl : k = ls.length := by omega
      have HF := Lib.hid (show joinWith 32 ls = t by rw [← HK.out, List.take_of_length_le (Nat.le_refl _)])
      go_wp2
      go_ret
      rw [HF.out]
      exact ⟨rfl, rfl⟩
end Big
end Go.Proofs.YtbmmnpggadakdaaDoor
