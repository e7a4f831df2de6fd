import Derived.Test.YtbmmnpggadakdaaDoorStr
import Derived.Test.YtbmmnpggadakdaaDoorWk
/- Words for lists of texts. -/
namespace Go.Proofs.YtbmmnpggadakdaaDoor
namespace Big
open Go.RowKit
theorem info_str : (Tryd.prog.info? 9).map (fun i => (i.zero, i.size, i.bytes)) = some (some (.string ⟨#[]⟩), 1, 16) := by kernel_rfl
/-- v reads as the list ls of texts. -/
def ArrS (w : World) (v : Value) (ls : List (List UInt8)) : Prop := RArr w v (ls.map str)
def OwnS (B : Nat) (w : World) (v : Value) (ls : List (List UInt8)) : Prop := ROwn 9 B w v (ls.map str)
section
variable {w w' : World} {v : Value} {ls : List (List UInt8)} {B B' : Nat}
theorem ArrS.ext (h : ArrS w v ls) (hb : Ext w w') : ArrS w' v ls := RArr.ext h hb
theorem OwnS.ext (h : OwnS B w v ls) (hb : Ext w w') : OwnS B w' v ls := ROwn.ext h hb
theorem OwnS.mono (h : OwnS B w v ls) (hB : B' ≤ B) : OwnS B' w v ls := ROwn.mono h hB
theorem OwnS.arr (h : OwnS B w v ls) : ArrS w v ls := ROwn.arr h
theorem OwnS.none_ (B : Nat) (w : World) : OwnS B w (.slice none 0 0) [] := ROwn.none_ _ B w
theorem map_str_get {j : Nat} (hj : j < ls.length) : (ls.map str)[j]? = some (str ls[j]) := by
  rw [List.getElem?_map, List.getElem?_eq_getElem hj]; rfl
theorem ArrS.open (h : ArrS w v ls) : ∃ A c, v = .slice A ls.length c ∧ ls.length ≤ c ∧ c ≤ maxLen ∧
    (0 < ls.length → ∃ b o, A = some ⟨b, o, none⟩ ∧ b < w.heap.size ∧ ∀ j (hj : j < ls.length), w.cell? ⟨b, o + j, none⟩ = some (str ls[j])) := by
  obtain ⟨A, c, rfl, h2, h3, h4⟩ := h
  rw [List.length_map] at h2 h4
  refine ⟨A, c, by rw [List.length_map], h2, h3, fun hp => ?_⟩
  obtain ⟨b, o, rfl, hlt, hc⟩ := h4 hp
  exact ⟨b, o, rfl, hlt, fun j hj => hc j _ (map_str_get hj)⟩
theorem ArrS.shape (h : ArrS w v ls) : ∃ n A c, v = .slice A n c := RArr.shape h
theorem ArrS.len {n c : Nat} {A : Option Addr} (h : ArrS w (.slice A n c) ls) : n = ls.length := by
  obtain ⟨A', c', he, _⟩ := h
  injection he with _ h2 _
  rw [h2, List.length_map]
theorem ones_str : ∀ u ∈ ls.map str, u.oneCell' = true := fun u hu => by
  obtain ⟨x, _, rfl⟩ := List.mem_map.1 hu
  rfl
/-- A slice over a whole block of texts. -/
theorem OwnS.block {g : Nat} (h : Blk w g 9 (ls.map str).toArray) (hg : B ≤ g) (hm : ls.length ≤ 2147483648) : OwnS B w (.slice (some ⟨g, 0, none⟩) ls.length ls.length) ls := by
  refine ⟨some ⟨g, 0, none⟩, ls.length, by rw [List.length_map], by rw [List.length_map]; omega, by unfold maxLen; omega, .inr ⟨g, _, rfl, hg, h, by simp, ?_⟩⟩
  rw [List.length_map]
  show (ls.map str).take ls.length = _
  rw [List.take_of_length_le (by simp)]
end
theorem wpList_appendS {w : World} {v src : Value} {xs ys : List (List UInt8)} {B : Nat} {ops : Array Oper} {rest : List Oper} {o : Oper} {a : Act} {Q : Exit → Act → World → Prop} (hgd : o.guard = none) (s x : Operand)
    (ho : o.op = .call { callee := .builtin .append, args := #[s, x], argTypes := #[27, 27] })
    (hs : a.eval s = v) (hown : OwnS B w v xs) (hx : a.eval x = src) (hsrc : ArrS w src ys) (hn : xs.length + ys.length ≤ 2147483648) (hbase : B ≤ w.heap.size)
    (h : ∀ v' w', OwnS B w' v' (xs ++ ys) → w.grownBy w' (rowOf v) → Below B w w' → wpList Tryd.prog ops Q rest (a.put o.dst v') w') : wpList Tryd.prog ops Q (o :: rest) a w := by
  obtain ⟨i0, hi, hz0, hz1, hz2⟩ := info_parts info_str
  refine wpList_append_any hgd s x 27 ho 9 i0 _ 16 Tryd.underlying27 hi hz0 hz1 hz2 rfl hs hown hx hsrc ones_str (by simp only [List.length_map]; unfold maxLen; omega) (by simp only [List.length_map]; omega) hbase (fun v' w' h1 h2 h3 => h v' w' ?_ h2 h3)
  unfold OwnS
  rw [List.map_append]
  exact h1
theorem ArrS.fresh1 (w : World) (l : List UInt8) : ArrS (w.alloc (.cells #[str l] 9)) (.slice (some ⟨w.heap.size, 0, none⟩) 1 1) [l] := RArr.one (by simp)

/-- Do two lists of texts agree up to k? -/
theorem take_step {ls ms : List (List UInt8)} {k : Nat} (h : ls.take k = ms.take k) (h1 : k < ls.length) (h2 : k < ms.length) (he : ls[k] = ms[k]) : ls.take (k + 1) = ms.take (k + 1) := by
  rw [List.take_succ_eq_append_getElem h1, List.take_succ_eq_append_getElem h2, h, he]

theorem sameTexts_any (w : World) (v u : Value) (ls ms : List (List UInt8)) (h : ArrS w v ls) (h' : ArrS w u ms) (hn : ls.length ≤ 1073741824) (hn' : ms.length ≤ 1073741824) :
    Calls Tryd.prog 14 #[v, u] w fun e w' => e = .returned (.bool (decide (ls = ms))) ∧ Ext w w' := by
  obtain ⟨A, c, rfl, hc, hm, hcell⟩ := h.open
  obtain ⟨A', c', rfl, hc', hm', hcell'⟩ := h'.open
  have HC := Lib.hid hcell
  have HC' := Lib.hid hcell'
  clear hcell hcell' hm hm' hc hc' h h'
  by_cases hl : ls.length = ms.length
  · have hb : ((ls.length : Int) != (ms.length : Int)) = false := by rw [hl]; simp
    have hb2 : ((ls.length : Int) == (ms.length : Int)) = true := by rw [hl]; simp
    have HL := Lib.hid hl
    clear hl
    go_enter Tryd.func14, Tryd.ntmps14
    go_wp2_with fail
    go_loopw [8] (fun i wr => ∃ k : Nat, k ≤ ls.length ∧ i = .int .i64 k ∧ Hid (ls.take k = ms.take k) ∧ Ext w wr) (fun i _ => ls.length - (intOf i).toNat)
    case atStart => exact ⟨0, by omega, rfl, rfl, Ext.refl _⟩
    case round =>
      obtain ⟨k, hk, rfl, HK, hext⟩ := hrel
      by_cases hlt : k < ls.length
      · have hlt2 : k < ms.length := by have := HL.out; omega
        obtain ⟨b, o, rfl, hbk, hcell⟩ := HC.out (by omega)
        obtain ⟨b', o', rfl, hbk', hcell'⟩ := HC'.out (by omega)
        have hx := (hext.cell hbk).trans (hcell k hlt)
        have hy := (hext.cell hbk').trans (hcell' k hlt2)
        have HST := Lib.hid (fun he => take_step HK.out hlt hlt2 he)
        have HNE : Hid (ls[k] ≠ ms[k] → decide (ls = ms) = false) := Lib.hid (fun he => by
          rw [decide_eq_false_iff_not]
          intro e
          subst e
          exact he rfl)
        clear hcell hcell'
        generalize ls[k] = x at *
        generalize ms[k] = y at *
        have HX := Lib.hid hext
        clear hext
        have h0 : (0 : Int) ≤ (k : Int) := by omega
        have h1 : (k : Int) < (ls.length : Int) := by omega
        have h2 : (k : Int) < (ms.length : Int) := by omega
        by_cases he : x = y
        · subst he
          have HT := Lib.hid (HST.out rfl)
          go_wp2_with fail
          go_quiet (fail)
          go_wp2_with fail
          go_roundw
          case rel => exact ⟨k + 1, by omega, by go_num, HT, HX.out.drewN _⟩
          case measure => simp [intOf]; omega
        · have hxy : (x == y) = false := by rw [beq_eq_false_iff_ne]; exact he
          have HD := Lib.hid (HNE.out he)
          clear he
          go_wp2_with fail
          go_quiet (fail)
          go_wp2_with fail
          go_ret
          rw [HD.out]
          exact ⟨rfl, HX.out.drewN _⟩
      · obtain rfl : k = ls.length := by omega
        have HD : Hid (decide (ls = ms) = true) := Lib.hid (by
          rw [decide_eq_true_iff]
          have h1 := HK.out
          rw [List.take_of_length_le (Nat.le_refl _), List.take_of_length_le (by rw [HL.out]; exact Nat.le_refl _)] at h1
          exact h1)
        go_wp2_with fail
        go_ret
        rw [HD.out]
        exact ⟨rfl, hext⟩
  · have hb : ((ls.length : Int) != (ms.length : Int)) = true := by rw [bne_iff_ne]; omega
    have hb2 : ((ls.length : Int) == (ms.length : Int)) = false := by rw [beq_eq_false_iff_ne]; omega
    have HD : Hid (decide (ls = ms) = false) := Lib.hid (by
      rw [decide_eq_false_iff_not]
      intro e
      exact hl (by rw [e]))
    clear hl
    go_enter Tryd.func14, Tryd.ntmps14
    go_wp2_with fail
    go_loopw [8] (fun i wr => i = .int .i64 0 ∧ Ext w wr) (fun i _ => ls.length - (intOf i).toNat)
    case atStart => exact ⟨rfl, Ext.refl _⟩
    case round =>
      obtain ⟨rfl, hext⟩ := hrel
      by_cases hlt : 0 < ls.length
      · have HX := Lib.hid hext
        clear hext
        go_wp2_with fail
        go_quiet (fail)
        go_wp2_with fail
        go_ret
        rw [HD.out]
        exact ⟨rfl, HX.out.drewN _⟩
      · go_wp2_with fail
        go_ret
        rw [HD.out]
        exact ⟨rfl, hext⟩
end Big
end Go.Proofs.YtbmmnpggadakdaaDoor
