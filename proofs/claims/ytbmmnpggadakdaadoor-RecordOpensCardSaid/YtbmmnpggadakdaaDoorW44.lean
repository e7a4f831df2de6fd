import Derived.Test.YtbmmnpggadakdaaDoorW35
import Derived.Test.YtbmmnpggadakdaaDoorW38
/- The lines of a text; what a sealed text is taken apart into: plain, and the reference's lines. -/
namespace Go.Proofs.YtbmmnpggadakdaaDoor
namespace Big
open Go.RowKit
theorem last_cases (l : List UInt8) : l = [] ∨ ∃ t c, l = t ++ [c] := by
  rcases List.eq_nil_or_concat l with h | ⟨t, c, h⟩
  · exact .inl h
  · exact .inr ⟨t, c, by simpa using h⟩
/-- The text without a last byte 10. -/
def wholeS (l : List UInt8) : List UInt8 := if l.getLast? = some 10 then l.dropLast else l
def endedS (l : List UInt8) : Bool := l.getLast? == some 10
theorem suffix_one (l : List UInt8) : Lib.hasSuffix l [10] = endedS l ∧ Lib.trimSuffix l [10] = wholeS l := by
  have h1 : Lib.hasSuffix l [10] = endedS l := by
    unfold Lib.hasSuffix endedS
    rcases last_cases l with rfl | ⟨t, c, rfl⟩
    · rfl
    · rw [List.getLast?_append, Bool.eq_iff_iff]
      simp only [List.isSuffixOf_iff_suffix, List.getLast?_singleton, Option.some_or, beq_iff_eq, Option.some.injEq]
      constructor
      · rintro ⟨u, hu⟩
        have := List.append_inj' hu rfl
        injection this.2 with h _
        exact h.symm
      · rintro rfl
        exact ⟨t, rfl⟩
  refine ⟨h1, ?_⟩
  unfold Lib.trimSuffix wholeS
  rw [h1]
  unfold endedS
  by_cases h : l.getLast? = some 10
  · rw [if_pos (by rw [h]; rfl), if_pos h, List.dropLast_eq_take]
    rfl
  · rw [if_neg (by rw [beq_iff_eq]; exact h), if_neg h]
/-- The pieces of a text: all but the last one, and the last one. -/
def lastS (l : List UInt8) : List UInt8 := ((splitOn 10 (wholeS l)).getLast?).getD []
theorem split_last (l : List UInt8) : ∃ t, splitOn 10 (wholeS l) = t ++ [lastS l] ∧ t = (splitOn 10 (wholeS l)).dropLast := by
  refine ⟨_, ?_, rfl⟩
  have hne := splitOn_ne 10 (wholeS l)
  unfold lastS
  rw [List.getLast?_eq_some_getLast hne, Option.getD_some]
  exact (List.dropLast_concat_getLast hne).symm
/-- What taking a text apart gives: the lines, how many, and the error code. -/
def openS (l : List UInt8) : List (List UInt8) × Nat × Nat :=
  if 33554432 < l.length then ([], 0, 7)
  else if l = [] then ([], 0, 20)
  else
    let n := (splitOn 10 (wholeS l)).length - 1
    let u := unhexS (Lib.trimPrefix (lastS l) [115, 117, 109, 32])
    if endedS l = true ∧ Lib.hasPrefix (lastS l) [115, 117, 109, 32] = true ∧ u.2 = 0 then
      (if u.1 = fnv (l.take ((wholeS l).length - (lastS l).length)) then ((splitOn 10 (wholeS l)).dropLast, n, 0) else ([], n, 19))
    else ([], n, 20)

/-- The reference's lines. -/
theorem lines_end (l : List UInt8) (hne : l ≠ []) (t : List (List UInt8)) (x : List UInt8) (h : splitOn 10 l = t ++ [x]) : (if x = [] then t else t ++ [x]) = splitOn 10 (wholeS l) := by
  rcases last_cases l with rfl | ⟨m, c, rfl⟩
  · exact absurd rfl hne
  · by_cases hc : c = 10
    · subst hc
      have hw : wholeS (m ++ [10]) = m := by unfold wholeS; simp
      rw [splitOn_snoc_same] at h
      have := List.append_inj' h rfl
      obtain ⟨h1, h2⟩ := this
      injection h2 with h2
      rw [if_pos h2.symm, hw, h1]
    · have hw : wholeS (m ++ [c]) = m ++ [c] := by unfold wholeS; simp [hc]
      obtain ⟨t', x', h1, h2⟩ := splitOn_snoc_other 10 c hc m
      rw [h2] at h
      have := List.append_inj' h rfl
      obtain ⟨h3, h4⟩ := this
      injection h4 with h4
      rw [if_neg (by rw [← h4]; simp), hw, h2, h3, h4]
theorem rlines_any (w : World) (l : List UInt8) (hne : l ≠ []) (hl : l.length ≤ 1073741824) :
    Calls Tryd.prog 35 #[str l] w fun e w' => ∃ v, e = .returned v ∧ OwnS w.heap.size w' v (splitOn 10 (wholeS l)) ∧ Ext w w' := by
  have HEND := Lib.hid (lines_end l hne)
  go_enter Tryd.func35, Tryd.ntmps35
  go_wp2_with fail
  go_loopw [3, 4, 5] (fun out fv i wr => ∃ (k from_ : Nat) (t : List (List UInt8)), k ≤ l.length ∧ from_ ≤ k ∧ i = .int .i64 k ∧ fv = .int .i64 from_ ∧ t.length ≤ k ∧ Hid (splitOn 10 (l.take k) = t ++ [(l.take k).drop from_]) ∧ OwnS w.heap.size wr out t ∧ Ext w wr) (fun _ _ i _ => l.length - (intOf i).toNat)
  case atStart => exact ⟨0, 0, [], by omega, by omega, rfl, rfl, by simp, rfl, OwnS.none_ _ _, Ext.refl _⟩
  case round =>
    obtain ⟨k, f, t, hk, hf, rfl, rfl, ht, HK, hown, hext⟩ := hrel
    have HO := Lib.hid hown
    obtain ⟨n0, A0, c0, rfl⟩ := hown.arr.shape
    have hws := hext.size
    clear hown
    by_cases hlt : k < l.length
    · have HB := Lib.hid (byteAt_eq l k hlt)
      have HT := Lib.hid (List.take_succ_eq_append_getElem hlt)
      have hf1 : (f : Int) ≤ (k : Int) := by omega
      have hk1 : (k : Int) ≤ (l.length : Int) := by omega
      by_cases hsp : l[k] = 10
      · have hb : ((byteAt l k : Int) == 10) = true := by rw [HB.out, hsp]; rfl
        have HN : Hid (splitOn 10 (l.take (k + 1)) = (t ++ [(l.take k).drop f]) ++ [(l.take (k + 1)).drop (k + 1)]) := Lib.hid (by
          have e0 : (l.take (k + 1)).drop (k + 1) = [] := List.drop_of_length_le (by simp; omega)
          rw [e0, HT.out, hsp, splitOn_snoc_same, HK.out])
        have HLEN := Lib.hid (show (t ++ [(l.take k).drop f]).length ≤ k + 1 by simp; omega)
        have HLIM := Lib.hid (show t.length + [(l.take k).drop f].length ≤ 2147483648 by rw [List.length_singleton]; omega)
        clear hsp
        go_wp2_with (at_builtin; go_must (refine wpList_appendS rfl _ _ rfl rfl (HO.out.ext ((Ext.refl _).alloc _)) rfl (ArrS.fresh1 wr ((l.take k).drop f)) HLIM.out (by simp; omega) ?_; intro v' w' hown' hgr hb1))
        · exfalso
          rcases h with h | h
          · exact (of_decide_eq_true h) rfl
          · exact absurd h (Nat.lt_irrefl 1)
        go_roundw
        case rel => exact ⟨k + 1, k + 1, t ++ [(l.take k).drop f], by omega, by omega, by go_num, by go_num, HLEN.out, HN, hown', (hext.alloc _).more hb1⟩
        case measure => simp [intOf]; omega
      · have hb : ((byteAt l k : Int) == 10) = false := by
          rw [beq_eq_false_iff_ne, HB.out]
          intro e
          exact hsp (UInt8.toNat_inj.1 (by simpa using (by omega : l[k].toNat = 10)))
        have HN : Hid (splitOn 10 (l.take (k + 1)) = t ++ [(l.take (k + 1)).drop f]) := Lib.hid (by
          obtain ⟨t', x', h1, h2⟩ := splitOn_snoc_other 10 l[k] hsp (l.take k)
          rw [HK.out] at h1
          have := List.append_inj' h1 rfl
          obtain ⟨rfl, h3⟩ := this
          injection h3 with h3
          rw [HT.out, h2, ← h3, List.drop_append_of_le_length (by simp; omega)])
        clear hsp
        go_wp2_with fail
        go_roundw
        case rel => exact ⟨k + 1, f, t, by omega, by omega, by go_num, rfl, by omega, HN, HO.out, hext⟩
        case measure => simp [intOf]; omega
    · obtain rfl : k = l.length := by omega
      have HX : Hid (splitOn 10 l = t ++ [l.drop f]) := Lib.hid (by
        have := HK.out
        rwa [List.take_of_length_le (Nat.le_refl _)] at this)
      have HF := Lib.hid (HEND.out t _ HX.out)
      by_cases hfl : f < l.length
      · have HF2 : Hid (t ++ [l.drop f] = splitOn 10 (wholeS l)) := Lib.hid (by
          rw [← HF.out, if_neg]
          intro e
          have := congrArg List.length e
          simp at this
          omega)
        have hf1 : (f : Int) ≤ (l.length : Int) := by omega
        have HLIM := Lib.hid (show t.length + [l.drop f].length ≤ 2147483648 by rw [List.length_singleton]; omega)
        go_wp2_with (at_builtin; go_must (refine wpList_appendS rfl _ _ rfl rfl (HO.out.ext ((Ext.refl _).alloc _)) rfl (ArrS.fresh1 wr (l.drop f)) HLIM.out (by simp; omega) ?_; intro v' w' hown' hgr hb1))
        · exfalso
          rcases h with h | h
          · exact (of_decide_eq_true h) rfl
          · exact absurd h (Nat.lt_irrefl 1)
        go_ret
        rw [← HF2.out]
        exact ⟨_, rfl, hown', (hext.alloc _).more hb1⟩
      · have HF2 : Hid (t = splitOn 10 (wholeS l)) := Lib.hid (by
          rw [← HF.out, if_pos]
          exact List.drop_of_length_le (by omega))
        go_wp2_with fail
        go_ret
        rw [← HF2.out]
        exact ⟨_, rfl, HO.out, hext⟩
end Big
end Go.Proofs.YtbmmnpggadakdaaDoor
