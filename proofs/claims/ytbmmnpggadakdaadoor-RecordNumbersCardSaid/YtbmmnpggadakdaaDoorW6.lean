import Derived.Test.YtbmmnpggadakdaaDoorW5
namespace Go.Proofs.YtbmmnpggadakdaaDoor
namespace Big
open Go.RowKit

theorem rsmall_any (w : World) (v : Value) (xs : List Nat) (m c : Nat) (h : Arr w v xs) (hn : xs.length ≤ 536870912) (hm : m < 4294967296) (hc : c < 4294967296) :
    Calls Tryd.prog 60 #[v, .int .u32 (m : Int), .int .u32 (c : Int)] w fun e w' => ∃ v', e = .returned v' ∧ Own w.heap.size w' v' (limbs (val xs * m + c)) ∧ Ext w w' := by
  have HA := Lib.hid h
  obtain ⟨hok, A, cap, rfl, hcap, hmx, hcell⟩ := h.open
  have HC := Lib.hid hcell
  clear h hcell hmx hcap
  go_enter Tryd.func60, Tryd.ntmps60
  go_wp2_with fail
  go_loopw [7, 8, 15] (fun out cy i wr => ∃ (k q : Nat) (ys : List Nat), k ≤ xs.length ∧ q < 4294967296 ∧ i = .int .i64 k ∧ cy = .int .u64 q ∧ ys.length = k ∧
      val ys + 4294967296 ^ k * q = val (xs.take k) * m + c ∧ Own w.heap.size wr out ys ∧ Ext w wr) (fun _ _ i _ => xs.length - (intOf i).toNat)
  case atStart => exact ⟨0, c, [], Nat.zero_le _, hc, rfl, rfl, rfl, by simp [val], Own.none_ _ _, Ext.refl w⟩
  case round =>
    obtain ⟨k, q, ys, hk, hq, rfl, rfl, hl, hv, hown, hext⟩ := hrel
    have HV := Lib.hid hv; clear hv
    have HL := Lib.hid hl; clear hl
    have hwr := hext.size
    by_cases hlt : k < xs.length
    · obtain ⟨b, o, rfl, hb, hcell⟩ := HC.out (by omega)
      have hx := (hext.cell hb).trans (hcell k hlt)
      clear hcell
      have hxm := hok.get k
      have HS := Lib.hid (small_step xs ys k m c q hlt HL.out HV.out)
      have hp := prod_le hxm hm
      obtain ⟨x, hxe⟩ : ∃ x, xs.getD k 0 = x := ⟨_, rfl⟩
      rw [hxe] at hx hxm hp HS
      clear hxe
      have hp' : (x : Int) * (m : Int) ≤ 18446744065119617025 := by rw [← Int.natCast_mul]; omega
      have hp0 : 0 ≤ (x : Int) * (m : Int) := by rw [← Int.natCast_mul]; omega
      have hy : (q + x * m) % 4294967296 < 4294967296 := Nat.mod_lt _ (by omega)
      have HY := Lib.hid hy; clear hy
      have HLIM := Lib.hid (show ys.length + [(q + x * m) % 4294967296].length ≤ 2147483648 by simp [HL.out]; omega)
      simp only [d32] at hx
      go_wp2_with (at_builtin; go_must (refine wpList_append32 rfl _ _ rfl rfl (hown.ext ((Ext.refl _).alloc _)) rfl (Arr.fresh1 _ ((q + x * m) % 4294967296) HY.out) HLIM.out (by simp; omega) ?_; intro v' w' hown' hgr hb))
      go_roundw
      case rel =>
        refine ⟨k + 1, (q + x * m) / 4294967296, _, by omega, Nat.div_lt_of_lt_mul (by omega), by go_num, by go_num, by simp [HL.out], HS.out, hown', (hext.alloc _).more hb⟩
      case measure => simp [intOf]; omega
    · obtain rfl : k = xs.length := by omega
      have HLIM := Lib.hid (show ys.length + [q].length ≤ 2147483648 by simp [HL.out]; omega)
      have hval : val (ys ++ [q]) = val xs * m + c := by
        rw [val_snoc, HL.out, HV.out, List.take_of_length_le (Nat.le_refl _)]
      have HVL := Lib.hid hval
      clear hval
      go_wp2_with (at_builtin; go_must (refine wpList_append32 rfl _ _ rfl rfl (hown.ext ((Ext.refl _).alloc _)) rfl (Arr.fresh1 _ q hq) HLIM.out (by simp; omega) ?_; intro v' w' hown' hgr hb))
      have HT := Lib.hid (rtrim_any _ _ _ hown'.arr (by simp [HL.out]; omega))
      rw [HVL.out] at HT
      refine HT.out.mono ?_
      rintro e w2 ⟨v2, rfl, ho, hx⟩
      go_wp2_with fail
      go_ret
      have he : Ext w w' := (hext.alloc _).more hb
      exact ⟨_, rfl, ho.mono he.size, he.trans hx⟩

end Big
end Go.Proofs.YtbmmnpggadakdaaDoor
