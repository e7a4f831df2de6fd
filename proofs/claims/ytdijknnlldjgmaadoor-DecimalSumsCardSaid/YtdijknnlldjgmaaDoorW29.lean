import Derived.Test.YtdijknnlldjgmaaDoorW19
import Derived.Test.YtdijknnlldjgmaaDoorWk
/- product.Mul. -/
namespace Go.Proofs.YtdijknnlldjgmaaDoor
namespace Big
open Go.RowKit

/-- What product.Mul holds ahead of row i. -/
def MulAt (w0 wr : World) (xs ys : List Nat) (i : Nat) : Prop :=
  ∃ os : List Nat, os.length = xs.length + ys.length ∧ Ok os ∧ val os = val (xs.take i) * val ys ∧ (∀ j, i + ys.length ≤ j → os.getD j 0 = 0) ∧
    Blk wr w0.heap.size 54 (cells os) ∧ Ext w0 wr
/-- What it holds in row i ahead of column k. -/
def MulIn (w0 wr : World) (xs ys : List Nat) (i k c : Nat) : Prop :=
  ∃ os : List Nat, os.length = xs.length + ys.length ∧ Ok os ∧ val os + 4294967296 ^ (i + k) * c = val (xs.take i) * val ys + 4294967296 ^ i * (xs.getD i 0 * val (ys.take k)) ∧
    (∀ j, i + ys.length ≤ j → os.getD j 0 = 0) ∧ Blk wr w0.heap.size 54 (cells os) ∧ Ext w0 wr
theorem MulIn.step {w0 wr : World} {xs ys os : List Nat} {i k c t : Nat} (hi : i < xs.length) (hk : k < ys.length) (hl : os.length = xs.length + ys.length) (hok : Ok os)
    (h : val os + 4294967296 ^ (i + k) * c = val (xs.take i) * val ys + 4294967296 ^ i * (xs.getD i 0 * val (ys.take k)))
    (hz : ∀ j, i + ys.length ≤ j → os.getD j 0 = 0) (ht : t = c + (xs.getD i 0 * ys.getD k 0 + os.getD (i + k) 0))
    (hb : Blk wr w0.heap.size 54 (cells os)) (he : Ext w0 wr) :
    MulIn w0 (wr.setCell ⟨w0.heap.size, i + k, none⟩ (d32 (t % 4294967296))) xs ys i (k + 1) (t / 4294967296) := by
  refine ⟨os.set (i + k) (t % 4294967296), by simp [hl], hok.set _ (Nat.mod_lt _ (by omega)), mul_step (by omega) h ht, fun j hj => ?_, ?_, he.setCell (Nat.le_refl _) _⟩
  · rw [getD_set_ne _ _ _ _ (by omega)]
    exact hz j hj
  · have := hb.set_ (i + k) (d32 (t % 4294967296))
    rwa [set_cells] at this
theorem MulIn.done {w0 wr : World} {xs ys os : List Nat} {i c : Nat} (hi : i < xs.length) (hl : os.length = xs.length + ys.length) (hok : Ok os) (hc : c < 4294967296)
    (h : val os + 4294967296 ^ (i + ys.length) * c = val (xs.take i) * val ys + 4294967296 ^ i * (xs.getD i 0 * val (ys.take ys.length)))
    (hz : ∀ j, i + ys.length ≤ j → os.getD j 0 = 0)
    (hb : Blk wr w0.heap.size 54 (cells os)) (he : Ext w0 wr) :
    MulAt w0 (wr.setCell ⟨w0.heap.size, i + ys.length, none⟩ (d32 c)) xs ys (i + 1) := by
  refine ⟨os.set (i + ys.length) c, by simp [hl], hok.set _ hc, ?_, fun j hj => ?_, ?_, he.setCell (Nat.le_refl _) _⟩
  · rw [mul_row (by omega) (hz _ (Nat.le_refl _)) h, val_take', Nat.add_mul, Nat.mul_assoc, List.take_of_length_le (Nat.le_refl _)]
  · rw [getD_set_ne _ _ _ _ (by omega)]
    exact hz j (by omega)
  · have := hb.set_ (i + ys.length) (d32 c)
    rwa [set_cells] at this
theorem prod_le2 {x y : Nat} (hx : x < 4294967296) (hy : y < 4294967296) : x * y ≤ 18446744065119617025 :=
  Nat.mul_le_mul (show x ≤ 4294967295 by omega) (show y ≤ 4294967295 by omega)

set_option maxHeartbeats 1000000 in
theorem mul_any (w : World) (v u : Value) (xs ys : List Nat) (h : Arr w v xs) (h' : Arr w u ys) (hn : xs.length ≤ 268435456) (hn' : ys.length ≤ 268435456) :
    Calls Tryd.prog 43 #[v, u] w fun e w' => ∃ v', e = .returned v' ∧ Own w.heap.size w' v' (limbs (val xs * val ys)) ∧ Ext w w' := by
  obtain ⟨hok, A, cap, rfl, hcap, hmx, hcell⟩ := h.open
  obtain ⟨hok', A', cap', rfl, hcap', hmx', hcell'⟩ := h'.open
  have HC := Lib.hid hcell
  have HC' := Lib.hid hcell'
  have hmk := run_make32 (xs.length + ys.length) (by omega)
  simp only [Int.natCast_add] at hmk
  clear h h' hcell hcell' hmx hmx' hcap hcap'
  go_enter Tryd.func43, Tryd.ntmps43
  go_wp2_with fail
  clear hmk
  go_loopw [19] (fun i wr => ∃ k : Nat, k ≤ xs.length ∧ i = .int .i64 k ∧ MulAt w wr xs ys k) (fun i _ => xs.length - (intOf i).toNat)
  case atStart => exact ⟨0, Nat.zero_le _, rfl, List.replicate (xs.length + ys.length) 0, by simp, Ok.zeros _, by simp [val, val_zeros], fun j _ => by rw [List.getD_eq_getElem?_getD, List.getElem?_replicate]; split <;> rfl, Blk.new _ _ _, (Ext.refl w).alloc _⟩
  case round =>
    obtain ⟨i, hi, rfl, os, hl, hoko, hv, hz, hblk, hext⟩ := hrel
    have HV := Lib.hid hv; clear hv
    have HZ := Lib.hid hz; clear hz
    have HB := Lib.hid hblk; clear hblk
    have HL := Lib.hid hl; clear hl
    by_cases hlt : i < xs.length
    · obtain ⟨b, o, rfl, hb, hcell⟩ := HC.out (by omega)
      have hx := (hext.cell hb).trans (hcell i hlt)
      have HXC := Lib.hid hcell
      clear hcell
      have hxm := hok.get i
      obtain ⟨x, hxe⟩ : ∃ x, xs.getD i 0 = x := ⟨_, rfl⟩
      rw [hxe] at hx hxm
      have HXE := Lib.hid hxe
      clear hxe
      simp only [d32] at hx
      obtain ⟨wo, rfl⟩ : ∃ wo : World, wo = wr := ⟨_, rfl⟩
      go_wp2_with fail
      go_loopw [8, 26] (fun cy kk wr => ∃ k c : Nat, k ≤ ys.length ∧ c < 4294967296 ∧ kk = .int .i64 k ∧ cy = .int .u64 c ∧ MulIn w wr xs ys i k c) (fun _ kk _ => ys.length - (intOf kk).toNat)
      case atStart => exact ⟨0, 0, Nat.zero_le _, by omega, rfl, rfl, os, HL.out, hoko, by simp [val, HV.out], HZ.out, HB.out, hext⟩
      case round =>
        clear HV HZ HB HL hx hoko hext os
        obtain ⟨k, c, hk, hc, rfl, rfl, os, hl, hoko, hv, hz, hblk, hext⟩ := hrel
        have HV := Lib.hid hv; clear hv
        have HZ := Lib.hid hz; clear hz
        have HB := Lib.hid hblk; clear hblk
        have HL := Lib.hid hl; clear hl
        by_cases hlt2 : k < ys.length
        · obtain ⟨b', o', rfl, hb', hcell'⟩ := HC'.out (by omega)
          have hy := (hext.cell hb').trans (hcell' k hlt2)
          clear hcell'
          have hst := HB.out.cell (i + k)
          have hfz := HB.out.frozen (i + k)
          rw [get_cells _ _ (by rw [HL.out]; omega)] at hst
          have hym := hok'.get k
          have hom := hoko.get (i + k)
          have HS := Lib.hid (fun t h => MulIn.step (t := t) hlt hlt2 HL.out hoko HV.out HZ.out h HB.out hext)
          rw [HXE.out] at HS
          obtain ⟨y, hye⟩ : ∃ y, ys.getD k 0 = y := ⟨_, rfl⟩
          obtain ⟨z, hze⟩ : ∃ z, os.getD (i + k) 0 = z := ⟨_, rfl⟩
          rw [hye] at hy hym HS
          rw [hze] at hst hom HS
          clear hye hze
          have hp := prod_le2 hxm hym
          have hp' : (x : Int) * (y : Int) ≤ 18446744065119617025 := by rw [← Int.natCast_mul]; omega
          have hp0 : 0 ≤ (x : Int) * (y : Int) := by rw [← Int.natCast_mul]; omega
          simp only [d32] at hst hy
          go_wp2
          go_roundw
          case rel => exact ⟨k + 1, (c + (x * y + z)) / 4294967296, by omega, Nat.div_lt_of_lt_mul (by omega), by go_num, by go_num, HS.out _ rfl⟩
          case measure => simp [intOf]; omega
        · obtain rfl : k = ys.length := by omega
          have hst := HB.out.cell (i + ys.length)
          have hfz := HB.out.frozen (i + ys.length)
          rw [get_cells _ _ (by rw [HL.out]; omega)] at hst
          have HD := Lib.hid (MulIn.done hlt HL.out hoko hc HV.out HZ.out HB.out hext)
          generalize os.getD (i + ys.length) 0 = z at hst
          simp only [d32] at hst
          go_wp2
          go_roundw
          case rel => exact ⟨i + 1, by omega, by go_num, HD.out⟩
          case measure => simp [intOf]; omega
    · obtain rfl : i = xs.length := by omega
      have hlast : Own w.heap.size wr (.slice (some ⟨w.heap.size, 0, none⟩) (xs.length + ys.length) (xs.length + ys.length)) os := by
        have h3 := Own.block (B := w.heap.size) hoko HB.out (Nat.le_refl _) (by rw [HL.out]; omega)
        rwa [HL.out] at h3
      have HT := trim_any _ _ _ hlast.arr (by rw [HL.out]; omega)
      rw [HV.out, List.take_of_length_le (Nat.le_refl _)] at HT
      have HT := Lib.hid HT
      clear hlast
      go_wp2_with fail
      refine HT.out.mono ?_
      rintro e w' ⟨v', rfl, ho, hx⟩
      go_wp2_with fail
      go_ret
      exact ⟨_, rfl, ho.mono hext.size, hext.trans hx⟩
end Big
end Go.Proofs.YtdijknnlldjgmaaDoor
