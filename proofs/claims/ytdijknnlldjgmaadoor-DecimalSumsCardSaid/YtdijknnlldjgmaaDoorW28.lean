import Derived.Test.YtdijknnlldjgmaaDoorW19
import Derived.Test.YtdijknnlldjgmaaDoorWk
/- nat.Add. -/
namespace Go.Proofs.YtdijknnlldjgmaaDoor
namespace Big
open Go.RowKit

/-- What nat.Add holds after k digits. -/
def AddAt (w0 wr : World) (xs ys : List Nat) (k cy : Nat) : Prop :=
  ∃ zs : List Nat, zs.length = k ∧ Ok zs ∧ val zs + 4294967296 ^ k * cy = val (xs.take k) + val (ys.take k) ∧
    Blk wr w0.heap.size 54 (cells (zs ++ List.replicate (xs.length + 1 - k) 0)) ∧ Ext w0 wr
theorem AddAt.step {w0 wr : World} {xs ys zs : List Nat} {k q t : Nat} (hk : k < xs.length) (hl : zs.length = k) (hok : Ok zs)
    (h : val zs + 4294967296 ^ k * q = val (xs.take k) + val (ys.take k)) (ht : t = q + xs.getD k 0 + ys.getD k 0)
    (hb : Blk wr w0.heap.size 54 (cells (zs ++ List.replicate (xs.length + 1 - k) 0))) (he : Ext w0 wr) :
    AddAt w0 (wr.setCell ⟨w0.heap.size, k, none⟩ (d32 (t % 4294967296))) xs ys (k + 1) (t / 4294967296) := by
  refine ⟨zs ++ [t % 4294967296], by simp [hl], hok.snoc (Nat.mod_lt _ (by omega)), add_step hl h ht, ?_, he.setCell (Nat.le_refl _) _⟩
  have h1 := hb.set_ k (d32 (t % 4294967296))
  rw [set_cells, show xs.length + 1 - k = (xs.length - k) + 1 by omega] at h1
  have h2 := set_front zs (xs.length - k) (t % 4294967296)
  rw [hl] at h2
  rw [h2] at h1
  rw [show xs.length + 1 - (k + 1) = xs.length - k by omega]
  exact h1

theorem add_ge (w : World) (v u : Value) (xs ys : List Nat) (h : Arr w v xs) (h' : Arr w u ys) (hn : xs.length ≤ 536870912) (hle : ys.length ≤ xs.length) :
    Calls Tryd.prog 41 #[v, u] w fun e w' => ∃ v', e = .returned v' ∧ Own w.heap.size w' v' (limbs (val xs + val ys)) ∧ Ext w w' := by
  obtain ⟨hok, A, cap, rfl, hcap, hmx, hcell⟩ := h.open
  obtain ⟨hok', A', cap', rfl, hcap', hmx', hcell'⟩ := h'.open
  have HC := Lib.hid hcell
  have HC' := Lib.hid hcell'
  have hmk := run_make32_succ xs.length (by omega)
  have hlt0 : ¬ (xs.length : Int) < (ys.length : Int) := by omega
  have HLE : ys.length ≤ xs.length := by omega
  clear h h' hcell hcell' hmx hmx' hcap hcap' hle
  go_enter Tryd.func41, Tryd.ntmps41
  go_wp2_with fail
  clear hmk
  go_loopw [6, 22] (fun cy i wr => ∃ k q : Nat, k ≤ xs.length ∧ q ≤ 1 ∧ i = .int .i64 k ∧ cy = .int .u64 q ∧ AddAt w wr xs ys k q) (fun _ i _ => xs.length - (intOf i).toNat)
  case atStart => exact ⟨0, 0, Nat.zero_le _, by omega, rfl, rfl, [], rfl, ok_nil, by simp [val], Blk.new _ _ _, (Ext.refl w).alloc _⟩
  case round =>
    obtain ⟨k, q, hk, hq, rfl, rfl, zs, hl, hokz, hv, hblk, hext⟩ := hrel
    have HV := Lib.hid hv; clear hv
    have HB := Lib.hid hblk; clear hblk
    have HL := Lib.hid hl; clear hl
    by_cases hlt : k < xs.length
    · obtain ⟨b, o, rfl, hb, hcell⟩ := HC.out (by omega)
      have hx := (hext.cell hb).trans (hcell k hlt)
      have hst := HB.out.cell k
      have hfz := HB.out.frozen k
      rw [get_cells _ _ (by simp [HL.out]; omega)] at hst
      clear hcell
      have hxm := hok.get k
      by_cases hk2 : k < ys.length
      · obtain ⟨b', o', rfl, hb', hcell'⟩ := HC'.out (by omega)
        have hy := (hext.cell hb').trans (hcell' k hk2)
        clear hcell'
        have hym := hok'.get k
        have HS := Lib.hid (fun t h => AddAt.step (t := t) hlt HL.out hokz HV.out h HB.out hext)
        obtain ⟨x, hxe⟩ : ∃ x, xs.getD k 0 = x := ⟨_, rfl⟩
        obtain ⟨y, hye⟩ : ∃ y, ys.getD k 0 = y := ⟨_, rfl⟩
        rw [hxe] at hx hxm HS
        rw [hye] at hy hym HS
        clear hxe hye
        simp only [d32] at hx hst hy
        go_wp2
        go_round
        case rel => exact ⟨k + 1, (q + x + y) / 4294967296, by omega, by omega, by go_num, by go_num, HS.out _ rfl⟩
        case measure => simp [intOf]; omega
      · have h0 : ys.getD k 0 = 0 := getD_ge ys k (by omega)
        have HS := Lib.hid (fun t h => AddAt.step (t := t) hlt HL.out hokz HV.out h HB.out hext)
        obtain ⟨x, hxe⟩ : ∃ x, xs.getD k 0 = x := ⟨_, rfl⟩
        rw [h0] at HS
        rw [hxe] at hx hxm HS
        clear hxe h0
        simp only [d32] at hx hst
        go_wp2
        go_round
        case rel => exact ⟨k + 1, (q + x) / 4294967296, by omega, by omega, by go_num, by go_num, HS.out _ rfl⟩
        case measure => simp [intOf]; omega
    · obtain rfl : k = xs.length := by omega
      have hst := HB.out.cell xs.length
      have hfz := HB.out.frozen xs.length
      rw [get_cells _ _ (by simp [HL.out])] at hst
      have hlast : Own w.heap.size (wr.setCell ⟨w.heap.size, xs.length, none⟩ (d32 q)) (.slice (some ⟨w.heap.size, 0, none⟩) (xs.length + 1) (xs.length + 1)) (zs ++ [q]) := by
        have h1 := HB.out.set_ xs.length (d32 q)
        have h2 := set_front zs 0 q
        rw [HL.out] at h2
        rw [set_cells, show xs.length + 1 - xs.length = 0 + 1 by omega, h2] at h1
        have h3 := Own.block (B := w.heap.size) (hokz.snoc (show q < 4294967296 by omega)) (by simpa using h1) (Nat.le_refl _) (by simp [HL.out]; omega)
        simpa [HL.out] using h3
      have hval : val (zs ++ [q]) = val xs + val ys := by
        rw [val_snoc, HL.out, HV.out, List.take_of_length_le (Nat.le_refl _), List.take_of_length_le HLE]
      have HT := Lib.hid (size_any _ _ _ hlast.arr)
      have hsz := size_le (zs ++ [q])
      rw [show (zs ++ [q]).length = xs.length + 1 by simp [HL.out]] at hsz
      obtain ⟨A1, c1, hv1, HO⟩ := hlast.take (size (zs ++ [q])) (by rw [show (zs ++ [q]).length = xs.length + 1 by simp [HL.out]]; exact hsz)
      rw [take_size hlast.ok, hval] at HO
      injection hv1 with hv1 hv3 hv2
      clear hv3
      subst hv1
      subst hv2
      have HO := Lib.hid HO
      generalize size (zs ++ [q]) = sz at *
      clear hval hlast
      simp only [d32] at hst
      go_wp2_with fail
      refine HT.out.mono ?_
      rintro e w' ⟨rfl, rfl⟩
      go_wp2_with fail
      go_ret
      exact ⟨_, rfl, HO.out, hext.setCell (Nat.le_refl _) _⟩

theorem add_lt (w : World) (v u : Value) (xs ys : List Nat) (h : Arr w v xs) (h' : Arr w u ys) (hn : xs.length ≤ 536870912) (hle : ys.length < xs.length) :
    Calls Tryd.prog 41 #[u, v] w fun e w' => ∃ v', e = .returned v' ∧ Own w.heap.size w' v' (limbs (val xs + val ys)) ∧ Ext w w' := by
  obtain ⟨hok, A, cap, rfl, hcap, hmx, hcell⟩ := h.open
  obtain ⟨hok', A', cap', rfl, hcap', hmx', hcell'⟩ := h'.open
  have HC := Lib.hid hcell
  have HC' := Lib.hid hcell'
  have hmk := run_make32_succ xs.length (by omega)
  have hlt0 : (ys.length : Int) < (xs.length : Int) := by omega
  have HLE : ys.length ≤ xs.length := by omega
  clear h h' hcell hcell' hmx hmx' hcap hcap' hle
  go_enter Tryd.func41, Tryd.ntmps41
  go_wp2_with fail
  clear hmk
  go_loopw [6, 22] (fun cy i wr => ∃ k q : Nat, k ≤ xs.length ∧ q ≤ 1 ∧ i = .int .i64 k ∧ cy = .int .u64 q ∧ AddAt w wr xs ys k q) (fun _ i _ => xs.length - (intOf i).toNat)
  case atStart => exact ⟨0, 0, Nat.zero_le _, by omega, rfl, rfl, [], rfl, ok_nil, by simp [val], Blk.new _ _ _, (Ext.refl w).alloc _⟩
  case round =>
    obtain ⟨k, q, hk, hq, rfl, rfl, zs, hl, hokz, hv, hblk, hext⟩ := hrel
    have HV := Lib.hid hv; clear hv
    have HB := Lib.hid hblk; clear hblk
    have HL := Lib.hid hl; clear hl
    by_cases hlt : k < xs.length
    · obtain ⟨b, o, rfl, hb, hcell⟩ := HC.out (by omega)
      have hx := (hext.cell hb).trans (hcell k hlt)
      have hst := HB.out.cell k
      have hfz := HB.out.frozen k
      rw [get_cells _ _ (by simp [HL.out]; omega)] at hst
      clear hcell
      have hxm := hok.get k
      by_cases hk2 : k < ys.length
      · obtain ⟨b', o', rfl, hb', hcell'⟩ := HC'.out (by omega)
        have hy := (hext.cell hb').trans (hcell' k hk2)
        clear hcell'
        have hym := hok'.get k
        have HS := Lib.hid (fun t h => AddAt.step (t := t) hlt HL.out hokz HV.out h HB.out hext)
        obtain ⟨x, hxe⟩ : ∃ x, xs.getD k 0 = x := ⟨_, rfl⟩
        obtain ⟨y, hye⟩ : ∃ y, ys.getD k 0 = y := ⟨_, rfl⟩
        rw [hxe] at hx hxm HS
        rw [hye] at hy hym HS
        clear hxe hye
        simp only [d32] at hx hst hy
        go_wp2
        go_round
        case rel => exact ⟨k + 1, (q + x + y) / 4294967296, by omega, by omega, by go_num, by go_num, HS.out _ rfl⟩
        case measure => simp [intOf]; omega
      · have h0 : ys.getD k 0 = 0 := getD_ge ys k (by omega)
        have HS := Lib.hid (fun t h => AddAt.step (t := t) hlt HL.out hokz HV.out h HB.out hext)
        obtain ⟨x, hxe⟩ : ∃ x, xs.getD k 0 = x := ⟨_, rfl⟩
        rw [h0] at HS
        rw [hxe] at hx hxm HS
        clear hxe h0
        simp only [d32] at hx hst
        go_wp2
        go_round
        case rel => exact ⟨k + 1, (q + x) / 4294967296, by omega, by omega, by go_num, by go_num, HS.out _ rfl⟩
        case measure => simp [intOf]; omega
    · obtain rfl : k = xs.length := by omega
      have hst := HB.out.cell xs.length
      have hfz := HB.out.frozen xs.length
      rw [get_cells _ _ (by simp [HL.out])] at hst
      have hlast : Own w.heap.size (wr.setCell ⟨w.heap.size, xs.length, none⟩ (d32 q)) (.slice (some ⟨w.heap.size, 0, none⟩) (xs.length + 1) (xs.length + 1)) (zs ++ [q]) := by
        have h1 := HB.out.set_ xs.length (d32 q)
        have h2 := set_front zs 0 q
        rw [HL.out] at h2
        rw [set_cells, show xs.length + 1 - xs.length = 0 + 1 by omega, h2] at h1
        have h3 := Own.block (B := w.heap.size) (hokz.snoc (show q < 4294967296 by omega)) (by simpa using h1) (Nat.le_refl _) (by simp [HL.out]; omega)
        simpa [HL.out] using h3
      have hval : val (zs ++ [q]) = val xs + val ys := by
        rw [val_snoc, HL.out, HV.out, List.take_of_length_le (Nat.le_refl _), List.take_of_length_le HLE]
      have HT := Lib.hid (size_any _ _ _ hlast.arr)
      have hsz := size_le (zs ++ [q])
      rw [show (zs ++ [q]).length = xs.length + 1 by simp [HL.out]] at hsz
      obtain ⟨A1, c1, hv1, HO⟩ := hlast.take (size (zs ++ [q])) (by rw [show (zs ++ [q]).length = xs.length + 1 by simp [HL.out]]; exact hsz)
      rw [take_size hlast.ok, hval] at HO
      injection hv1 with hv1 hv3 hv2
      clear hv3
      subst hv1
      subst hv2
      have HO := Lib.hid HO
      generalize size (zs ++ [q]) = sz at *
      clear hval hlast
      simp only [d32] at hst
      go_wp2_with fail
      refine HT.out.mono ?_
      rintro e w' ⟨rfl, rfl⟩
      go_wp2_with fail
      go_ret
      exact ⟨_, rfl, HO.out, hext.setCell (Nat.le_refl _) _⟩

theorem add_any (w : World) (v u : Value) (xs ys : List Nat) (h : Arr w v xs) (h' : Arr w u ys) (hn : xs.length ≤ 536870912) (hn' : ys.length ≤ 536870912) :
    Calls Tryd.prog 41 #[v, u] w fun e w' => ∃ v', e = .returned v' ∧ Own w.heap.size w' v' (limbs (val xs + val ys)) ∧ Ext w w' := by
  rcases Nat.lt_or_ge xs.length ys.length with hlt | hge
  · rw [Nat.add_comm]
    exact add_lt w u v ys xs h' h hn' hlt
  · exact add_ge w v u xs ys h h' hn hge
end Big
end Go.Proofs.YtdijknnlldjgmaaDoor
