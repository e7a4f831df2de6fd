import Derived.Test.YtbmmnpggadakdaaDoorW2
namespace Go.Proofs.YtbmmnpggadakdaaDoor
namespace Big
open Go.RowKit

/-- What product.Small holds after k digits. -/
def SmallAt (w0 wr : World) (xs : List Nat) (m c k cy : Nat) : Prop :=
  ∃ ys : List Nat, ys.length = k ∧ Ok ys ∧ val ys + 4294967296 ^ k * cy = val (xs.take k) * m + c ∧
    Blk wr w0.heap.size 78 (cells (ys ++ List.replicate (xs.length + 1 - k) 0)) ∧ Ext w0 wr

theorem SmallAt.step {w0 wr : World} {xs ys : List Nat} {m c k q x : Nat} (hk : k < xs.length) (hl : ys.length = k) (hok : Ok ys)
    (hv : val (ys ++ [(q + x * m) % 4294967296]) + 4294967296 ^ (k + 1) * ((q + x * m) / 4294967296) = val (xs.take (k + 1)) * m + c)
    (hb : Blk wr w0.heap.size 78 (cells (ys ++ List.replicate (xs.length + 1 - k) 0))) (he : Ext w0 wr) :
    SmallAt w0 (wr.setCell ⟨w0.heap.size, k, none⟩ (d32 ((q + x * m) % 4294967296))) xs m c (k + 1) ((q + x * m) / 4294967296) := by
  refine ⟨ys ++ [(q + x * m) % 4294967296], by simp [hl], hok.snoc (Nat.mod_lt _ (by omega)), hv, ?_, he.setCell (Nat.le_refl _) _⟩
  have h1 := hb.set_ k (d32 ((q + x * m) % 4294967296))
  rw [set_cells, show xs.length + 1 - k = (xs.length - k) + 1 by omega] at h1
  have h2 := set_front ys (xs.length - k) ((q + x * m) % 4294967296)
  rw [hl] at h2
  rw [h2] at h1
  rw [show xs.length + 1 - (k + 1) = xs.length - k by omega]
  exact h1

theorem psmall_any (w : World) (v : Value) (xs : List Nat) (m c : Nat) (h : Arr w v xs) (hn : xs.length ≤ 536870912) (hm : m < 4294967296) (hc : c < 4294967296) :
    Calls Tryd.prog 57 #[v, .int .u32 (m : Int), .int .u32 (c : Int)] w fun e w' => ∃ v', e = .returned v' ∧ Own w.heap.size w' v' (limbs (val xs * m + c)) ∧ Ext w w' := by
  have HA := Lib.hid h
  obtain ⟨hok, A, cap, rfl, hcap, hmx, hcell⟩ := h.open
  have HM := Lib.hid hmx
  have HC := Lib.hid hcell
  have hmk := run_make32_succ xs.length (by omega)
  have HMK := Lib.hid hmk
  clear h hcell hmx hcap
  go_enter Tryd.func57, Tryd.ntmps57
  go_wp2_with fail
  clear hmk
  go_loopw [8, 19] (fun cy i wr => ∃ k q : Nat, k ≤ xs.length ∧ q < 4294967296 ∧ i = .int .i64 k ∧ cy = .int .u64 q ∧ SmallAt w wr xs m c k q) (fun _ i _ => xs.length - (intOf i).toNat)
  case atStart => exact ⟨0, c, Nat.zero_le _, hc, rfl, rfl, [], rfl, ok_nil, by simp [val], Blk.new _ _ _, (Ext.refl w).alloc _⟩
  case round =>
    obtain ⟨k, q, hk, hq, rfl, rfl, ys, hl, hok', hv, hblk, hext⟩ := hrel
    have HV := Lib.hid hv; clear hv
    have HB := Lib.hid hblk; clear hblk
    have HL := Lib.hid hl; clear hl
    by_cases hlt : k < xs.length
    · obtain ⟨b, o, rfl, hb, hcell⟩ := HC.out (by omega)
      have hx := (hext.cell hb).trans (hcell k hlt)
      have hst := HB.out.cell k
      have hfz := HB.out.frozen k
      rw [get_cells _ _ (by simp [HL.out]; omega)] at hst
      clear hcell
      have hxm := hok.get k
      have HS := Lib.hid (small_step xs ys k m c q hlt HL.out HV.out)
      have hp := prod_le hxm hm
      obtain ⟨x, hxe⟩ : ∃ x, xs.getD k 0 = x := ⟨_, rfl⟩
      rw [hxe] at hx hxm hp HS
      clear hxe
      have hp' : (x : Int) * (m : Int) ≤ 18446744065119617025 := by rw [← Int.natCast_mul]; omega
      have hp0 : 0 ≤ (x : Int) * (m : Int) := by rw [← Int.natCast_mul]; omega
      simp only [d32] at hx hst
      go_wp2
      go_round
      case rel =>
        refine ⟨k + 1, (q + x * m) / 4294967296, by omega, ?_, by go_num, by go_num, ?_⟩
        · exact Nat.div_lt_of_lt_mul (by omega)
        · exact SmallAt.step hlt HL.out hok' HS.out HB.out hext
      case measure => simp [intOf]; omega
    · obtain rfl : k = xs.length := by omega
      have hst := HB.out.cell xs.length
      have hfz := HB.out.frozen xs.length
      rw [get_cells _ _ (by simp [HL.out])] at hst
      have hlast : Own w.heap.size (wr.setCell ⟨w.heap.size, xs.length, none⟩ (d32 q)) (.slice (some ⟨w.heap.size, 0, none⟩) (xs.length + 1) (xs.length + 1)) (ys ++ [q]) := by
        have h1 := HB.out.set_ xs.length (d32 q)
        have h2 := set_front ys 0 q
        rw [HL.out] at h2
        rw [set_cells, show xs.length + 1 - xs.length = 0 + 1 by omega, h2] at h1
        have h3 := Own.block (B := w.heap.size) (hok'.snoc hq) (by simpa using h1) (Nat.le_refl _) (by simp [HL.out]; omega)
        simpa [HL.out] using h3
      have hval : val (ys ++ [q]) = val xs * m + c := by
        rw [val_snoc, HL.out, HV.out, List.take_of_length_le (Nat.le_refl _)]
      have HT := Lib.hid (trim_any _ _ _ hlast.arr (by simp [HL.out]; omega))
      rw [hval] at HT
      have HVL := Lib.hid hval
      have HO := Lib.hid hlast
      clear hval hlast
      simp only [d32] at hst
      go_wp2_with fail
      refine HT.out.mono ?_
      rintro e w' ⟨v', rfl, ho, hx⟩
      go_wp2_with fail
      go_ret
      have he : Ext w (wr.setCell ⟨w.heap.size, xs.length, none⟩ (d32 q)) := hext.setCell (Nat.le_refl _) _
      exact ⟨_, rfl, ho.mono he.size, he.trans hx⟩
end Big
end Go.Proofs.YtbmmnpggadakdaaDoor
