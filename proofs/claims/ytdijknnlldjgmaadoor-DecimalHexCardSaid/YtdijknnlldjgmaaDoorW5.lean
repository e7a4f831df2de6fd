import Derived.Test.YtdijknnlldjgmaaDoorW2
namespace Go.Proofs.YtdijknnlldjgmaaDoor
namespace Big
open Go.RowKit

theorem rat_in (w : World) (v : Value) (xs : List Nat) (i : Int) (h : Arr w v xs) (h0 : 0 ≤ i) (h1 : i < xs.length) :
    Calls Tryd.prog 51 #[v, .int .i64 i] w fun e w' => e = .returned (.int .u64 (xs.getD i.toNat 0 : Nat)) ∧ w = w' := by
  obtain ⟨n, rfl⟩ := Int.eq_ofNat_of_zero_le h0
  rw [Int.toNat_natCast]
  obtain ⟨hok, A, c, rfl, hc, hm, hcell⟩ := h.open
  obtain ⟨b, o, rfl, hb, hcell⟩ := hcell (by omega)
  have hx := hcell n (by omega)
  clear hcell h hm
  have hxm := hok.get n
  obtain ⟨x, hxe⟩ : ∃ x, xs.getD n 0 = x := ⟨_, rfl⟩
  rw [hxe] at hx hxm ⊢
  clear hxe
  simp only [d32] at hx
  have hd : decide ((xs.length : Int) ≤ n) = false := by simp; omega
  have hd2 : decide (xs.length ≤ n) = false := by simp; omega
  go_enter Tryd.func51, Tryd.ntmps51
  go_wp2
  go_ret
  exact ⟨rfl, rfl⟩

theorem rat_out (w : World) (v : Value) (xs : List Nat) (i : Int) (h : Arr w v xs) (h1 : (xs.length : Int) ≤ i) :
    Calls Tryd.prog 51 #[v, .int .i64 i] w fun e w' => e = .returned (.int .u64 (xs.getD i.toNat 0 : Nat)) ∧ w = w' := by
  have hz : xs.getD i.toNat 0 = 0 := by rw [List.getD_eq_getElem?_getD, List.getElem?_eq_none (by omega)]; rfl
  rw [hz]
  obtain ⟨hok, A, c, rfl, hc, hm, hcell⟩ := h.open
  clear hcell h hm hz
  have hd : decide ((xs.length : Int) ≤ i) = true := by simp; omega
  have h0 : ¬ i < 0 := by omega
  go_enter Tryd.func51, Tryd.ntmps51
  go_wp2
  go_ret
  exact ⟨rfl, rfl⟩

theorem rat_any (w : World) (v : Value) (xs : List Nat) (i : Int) (h : Arr w v xs) (h0 : 0 ≤ i) :
    Calls Tryd.prog 51 #[v, .int .i64 i] w fun e w' => e = .returned (.int .u64 (xs.getD i.toNat 0 : Nat)) ∧ w = w' := by
  rcases Int.lt_or_le i xs.length with h1 | h1
  · exact rat_in w v xs i h h0 h1
  · exact rat_out w v xs i h h1

theorem rtrim_any (w : World) (v : Value) (xs : List Nat) (h : Arr w v xs) (hn : xs.length ≤ 1073741824) :
    Calls Tryd.prog 40 #[v] w fun e w' => ∃ v', e = .returned v' ∧ Own w.heap.size w' v' (limbs (val xs)) ∧ Ext w w' := by
  have HA := Lib.hid h
  have HN := Lib.hid hn
  obtain ⟨hok, A, c, rfl, hc, hm, hcell⟩ := h.open
  clear h hn
  unfold maxLen at hm
  go_enter Tryd.func40, Tryd.ntmps40
  go_wp2
  go_loop [3] (fun n => ∃ k : Nat, k ≤ xs.length ∧ n = .int .i64 k ∧ ∀ i, k ≤ i → xs.getD i 0 = 0) (fun n => (intOf n).toNat)
  case atStart => exact ⟨_, Nat.le_refl _, rfl, fun i hi => by rw [List.getD_eq_getElem?_getD, List.getElem?_eq_none hi]; rfl⟩
  case round =>
    obtain ⟨k, hk, rfl, hz⟩ := hrel
    have HZ := Lib.hid hz; clear hz
    have HC := Lib.hid hcell; clear hcell
    have hfin : (0 < k → xs.getD (k - 1) 0 ≠ 0) → Arr w (.slice A k c) (limbs (val xs)) := fun ht => by
      have hs := size_top xs k hk HZ.out ht
      obtain ⟨A', c', he, ha⟩ := HA.out.take (size xs) (size_le xs)
      injection he with he1 he2 he3
      subst he1 he3
      rw [take_size hok, hs] at ha
      exact ha
    have HF := Lib.hid hfin; clear hfin
    have hlim : ([] : List Nat).length + (limbs (val xs)).length ≤ 2147483648 := by
      have := length_limbs_val hok
      have := HN.out
      simp; omega
    have HLIM := Lib.hid hlim; clear hlim
    have tail : ∀ (_ : 0 < k → xs.getD (k - 1) 0 ≠ 0), True := fun _ => trivial
    clear tail
    by_cases h0 : k = 0
    · subst h0
      have HX := Lib.hid (HF.out (by omega))
      go_wp2_with (at_builtin; go_must (refine wpList_append32 rfl _ _ rfl rfl (Own.empty w.heap.size _ _) rfl (HX.out.ext ((Ext.refl _).alloc _)) HLIM.out (by simp) ?_; intro v' w' hown hgr hb))
      go_ret
      exact ⟨_, rfl, hown, ((Ext.refl w).alloc _).more hb⟩
    · obtain ⟨b, o, rfl, hb, hcell⟩ := HC.out (by omega)
      have hx := hcell (k - 1) (by omega)
      clear hcell
      obtain ⟨m, rfl⟩ : ∃ m, k = m + 1 := ⟨k - 1, by omega⟩
      simp only [Nat.add_sub_cancel, d32] at hx
      by_cases hx0 : xs.getD m 0 = 0
      · have hxb : ((xs.getD m 0 : Int) == 0) = true := by rw [hx0]; rfl
        have HX := Lib.hid hx0; clear hx0
        obtain ⟨y, hy⟩ : ∃ y, xs.getD m 0 = y := ⟨_, rfl⟩
        rw [hy] at hx hxb
        clear hy
        go_wp2
        go_round
        case rel => exact ⟨m, by omega, by go_num, fun i hi => by
          rcases Nat.lt_or_ge m i with h1 | h1
          · exact HZ.out i h1
          · obtain rfl : i = m := by omega
            exact HX.out⟩
        case measure => simp [intOf]
      · have hxb : ((xs.getD m 0 : Int) == 0) = false := by rw [beq_eq_false_iff_ne]; omega
        have HX := Lib.hid (HF.out (fun _ => hx0))
        clear hx0
        obtain ⟨y, hy⟩ : ∃ y, xs.getD m 0 = y := ⟨_, rfl⟩
        rw [hy] at hx hxb
        clear hy
        go_wp2_with (at_builtin; go_must (refine wpList_append32 rfl _ _ rfl rfl (Own.empty w.heap.size _ _) rfl (HX.out.ext ((Ext.refl _).alloc _)) HLIM.out (by simp) ?_; intro v' w' hown hgr hb))
        go_ret
        exact ⟨_, rfl, hown, ((Ext.refl w).alloc _).more hb⟩
end Big
end Go.Proofs.YtdijknnlldjgmaaDoor
