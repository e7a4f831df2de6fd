import Derived.Test.YtbmmnpggadakdaaDoorW2
namespace Go.Proofs.YtbmmnpggadakdaaDoor
namespace Big
open Go.RowKit
theorem rtrim_any (w : World) (v : Value) (xs : List Nat) (h : Arr w v xs) (hn : xs.length ≤ 1073741824) :
    Calls Tryd.prog 61 #[v] w fun e w' => ∃ v', e = .returned v' ∧ Own w.heap.size w' v' (limbs (val xs)) ∧ Ext w w' := by
  have HA := Lib.hid h
  have HN := Lib.hid hn
  obtain ⟨hok, A, c, rfl, hc, hm, hcell⟩ := h.open
  clear h hn
  unfold maxLen at hm
  go_enter Tryd.func61, Tryd.ntmps61
  go_wp2
  go_loop [3] (fun n => ∃ k : Nat, k ≤ xs.length ∧ n = .int .i64 k ∧ ∀ i, k ≤ i → xs.getD i 0 = 0) (fun n => (intOf n).toNat)
  case atStart => exact ⟨_, Nat.le_refl _, rfl, fun i hi => by rw [List.getD_eq_getElem?_getD, List.getElem?_eq_none hi]; rfl⟩
  case round =>
    obtain ⟨k, hk, rfl, hz⟩ := hrel
    have HZ := Lib.hid hz; clear hz
    have HC := Lib.hid hcell; clear hcell
    have hfin : (0 < k → xs.getD (k - 1) 0 ≠ 0) → Arr w (.slice A k c) (limbs (val xs)) := fun ht => by
      have hs := size_top xs k hk HZ.out ht
      obtain ⟨A', c', he, ha⟩ := HA.out.take (size xs) (size_le xs)
      injection he with he1 he2 he3
      subst he1 he3
      rw [take_size hok, hs] at ha
      exact ha
    have HF := Lib.hid hfin; clear hfin
    have hlim : ([] : List Nat).length + (limbs (val xs)).length ≤ 2147483648 := by
      have := length_limbs_val hok
      have := HN.out
      simp; omega
    have HLIM := Lib.hid hlim; clear hlim
    have tail : ∀ (_ : 0 < k → xs.getD (k - 1) 0 ≠ 0), True := fun _ => trivial
    clear tail
    by_cases h0 : k = 0
    · subst h0
      have HX := Lib.hid (HF.out (by omega))
      go_wp2_with (at_builtin; go_must (refine wpList_append32 rfl _ _ rfl rfl (Own.empty w.heap.size _ _) rfl (HX.out.ext ((Ext.refl _).alloc _)) HLIM.out (by simp) ?_; intro v' w' hown hgr hb))
      go_ret
      exact ⟨_, rfl, hown, ((Ext.refl w).alloc _).more hb⟩
    · obtain ⟨b, o, rfl, hb, hcell⟩ := HC.out (by omega)
      have hx := hcell (k - 1) (by omega)
      clear hcell
      obtain ⟨m, rfl⟩ : ∃ m, k = m + 1 := ⟨k - 1, by omega⟩
      simp only [Nat.add_sub_cancel, d32] at hx
      by_cases hx0 : xs.getD m 0 = 0
      · have hxb : ((xs.getD m 0 : Int) == 0) = true := by rw [hx0]; rfl
        have HX := Lib.hid hx0; clear hx0
        obtain ⟨y, hy⟩ : ∃ y, xs.getD m 0 = y := ⟨_, rfl⟩
        rw [hy] at hx hxb
        clear hy
        go_wp2
        go_round
        case rel => exact ⟨m, by omega, by go_num, fun i hi => by
          rcases Nat.lt_or_ge m i with h1 | h1
          · exact HZ.out i h1
          · obtain rfl : i = m := by omega
            exact HX.out⟩
        case measure => simp [intOf]
      · have hxb : ((xs.getD m 0 : Int) == 0) = false := by rw [beq_eq_false_iff_ne]; omega
        have HX := Lib.hid (HF.out (fun _ => hx0))
        clear hx0
        obtain ⟨y, hy⟩ : ∃ y, xs.getD m 0 = y := ⟨_, rfl⟩
        rw [hy] at hx hxb
        clear hy
        go_wp2_with (at_builtin; go_must (refine wpList_append32 rfl _ _ rfl rfl (Own.empty w.heap.size _ _) rfl (HX.out.ext ((Ext.refl _).alloc _)) HLIM.out (by simp) ?_; intro v' w' hown hgr hb))
        go_ret
        exact ⟨_, rfl, hown, ((Ext.refl w).alloc _).more hb⟩
end Big
end Go.Proofs.YtbmmnpggadakdaaDoor
