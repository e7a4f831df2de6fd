import Derived.Test.YtbmmnpggadakdaaDoorW1
namespace Go.Proofs.YtbmmnpggadakdaaDoor
namespace Big
open Go.RowKit

set_option maxRecDepth 100000 in
theorem clone_any (w : World) (v : Value) (xs : List Nat) (h : Arr w v xs) (hn : xs.length ≤ 1073741824) :
    Calls Tryd.prog 76 #[v] w fun e w' => ∃ v', e = .returned v' ∧ Own w.heap.size w' v' xs ∧ Ext w w' := by
  have HA := Lib.hid h
  obtain ⟨hok, A, c, rfl, hc, hm, hcell⟩ := h.open
  have HM := Lib.hid hm
  have HN := Lib.hid hn
  have HC := Lib.hid hcell
  clear h hm hn hcell
  obtain ⟨i0, hi, hz0, hz1, hz2⟩ := info_parts info_u32
  rcases A with _ | a
  · have h0 : xs = [] := by
      rcases Nat.eq_zero_or_pos xs.length with h | h
      · exact List.eq_nil_of_length_eq_zero h
      · obtain ⟨b, o, he, _⟩ := HC.out h
        cases he
    subst h0
    have hE := fun W c => Lib.run_eql_slice_nil (P := Tryd.prog) W 47 78 none 0 c 0 0 Tryd.underlying47
    go_enter Tryd.func76, Tryd.ntmps76
    go_wp2
    go_ret
    exact ⟨_, rfl, Own.none_ _ _, Ext.refl _⟩
  · have hE := fun W n c => Lib.run_eql_slice_nil (P := Tryd.prog) W 47 78 (some a) n c 0 0 Tryd.underlying47
    go_enter Tryd.func76, Tryd.ntmps76
    have hn0 : ([] : List Nat).length + xs.length ≤ 2147483648 := by have := HN.out; simp; omega
    have HN0 := Lib.hid hn0; clear hn0
    go_wp2_with (at_builtin; go_must (refine wpList_append32 rfl _ _ rfl rfl (Own.empty w.heap.size _ _) rfl (HA.out.ext ((Ext.refl _).alloc _)) HN0.out (by simp) ?_; intro v' w' hown hgr hb))
    go_ret
    exact ⟨_, rfl, hown, ((Ext.refl w).alloc _).more hb⟩

theorem trim_any (w : World) (v : Value) (xs : List Nat) (h : Arr w v xs) (hn : xs.length ≤ 1073741824) :
    Calls Tryd.prog 58 #[v] w fun e w' => ∃ v', e = .returned v' ∧ Own w.heap.size w' v' (limbs (val xs)) ∧ Ext w w' := by
  have HS := Lib.hid (size_any w v xs h)
  have hle := size_le xs
  have HT := Lib.hid (take_size h.ok)
  have HA := Lib.hid h
  have HN := Lib.hid hn
  obtain ⟨hok, A, c, rfl, hc, hm, hcell⟩ := h.open
  have HM := Lib.hid hm
  clear h hn hcell hm
  go_enter Tryd.func58, Tryd.ntmps58
  go_wp2_with fail
  refine HS.out.mono ?_
  rintro e w' ⟨rfl, rfl⟩
  go_wp2_with fail
  obtain ⟨A', c', he, ha⟩ := HA.out.take (size xs) hle
  injection he with he1 he2 he3
  subst he1 he3
  rw [HT.out] at ha
  have hc := clone_any w _ _ ha (Nat.le_trans (length_limbs_val hok) HN.out)
  refine hc.mono ?_
  rintro e w' ⟨v', rfl, ho, hx⟩
  go_wp2_with fail
  go_ret
  exact ⟨_, rfl, ho, hx⟩
end Big
end Go.Proofs.YtbmmnpggadakdaaDoor
