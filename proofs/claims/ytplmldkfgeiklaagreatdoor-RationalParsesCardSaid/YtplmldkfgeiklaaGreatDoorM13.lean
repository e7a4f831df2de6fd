import Derived.Test.YtplmldkfgeiklaaGreatDoorM4
import Derived.Test.YtplmldkfgeiklaaGreatDoorM10
import Derived.Test.YtplmldkfgeiklaaGreatDoorM6
import Derived.Test.YtplmldkfgeiklaaGreatDoorM7
import Derived.Test.YtplmldkfgeiklaaGreatDoorM11
import Derived.Test.YtplmldkfgeiklaaGreatDoorM12
namespace Go.Proofs.YtplmldkfgeiklaaGreatDoor
namespace Big
open Go.RowKit

/-- What product.Small holds after k digits. -/
def SmallAt (w0 wr : World) (xs : List Nat) (m c k cy : Nat) : Prop :=
  ∃ ys : List Nat, ys.length = k ∧ Ok ys ∧ val ys + 4294967296 ^ k * cy = val (xs.take k) * m + c ∧
    Blk wr w0.heap.size 74 (cells (ys ++ List.replicate (xs.length + 1 - k) 0)) ∧ Ext w0 wr

theorem SmallAt.step {w0 wr : World} {xs ys : List Nat} {m c k q x : Nat} (hk : k < xs.length) (hl : ys.length = k) (hok : Ok ys)
    (hv : val (ys ++ [(q + x * m) % 4294967296]) + 4294967296 ^ (k + 1) * ((q + x * m) / 4294967296) = val (xs.take (k + 1)) * m + c)
    (hb : Blk wr w0.heap.size 74 (cells (ys ++ List.replicate (xs.length + 1 - k) 0))) (he : Ext w0 wr) :
    SmallAt w0 (wr.setCell ⟨w0.heap.size, k, none⟩ (d32 ((q + x * m) % 4294967296))) xs m c (k + 1) ((q + x * m) / 4294967296) := by
  refine ⟨ys ++ [(q + x * m) % 4294967296], by simp [hl], hok.snoc (Nat.mod_lt _ (by omega)), hv, ?_, he.setCell (Nat.le_refl _) _⟩
  have h1 := hb.set_ k (d32 ((q + x * m) % 4294967296))
  rw [set_cells, show xs.length + 1 - k = (xs.length - k) + 1 by omega] at h1
  have h2 := set_front ys (xs.length - k) ((q + x * m) % 4294967296)
  rw [hl] at h2
  rw [h2] at h1
  rw [show xs.length + 1 - (k + 1) = xs.length - k by omega]
  exact h1

theorem psmall_any (w : World) (v : Value) (xs : List Nat) (m c : Nat) (h : Arr w v xs) (hn : xs.length ≤ 536870912) (hm : m < 4294967296) (hc : c < 4294967296) :
    Calls Tryz.prog 115 #[v, .int .u32 (m : Int), .int .u32 (c : Int)] w fun e w' => ∃ v', e = .returned v' ∧ Own w.heap.size w' v' (limbs (val xs * m + c)) ∧ Ext w w' := by
  have HA := Lib.hid h
  obtain ⟨hok, A, cap, rfl, hcap, hmx, hcell⟩ := h.open
  have HM := Lib.hid hmx
  have HC := Lib.hid hcell
  have hmk := run_make32_succ xs.length (by omega)
  have HMK := Lib.hid hmk
  clear h hcell hmx hcap
  go_enter Tryz.func115, Tryz.ntmps115
  go_wp2_with fail
  clear hmk
  go_loopw [8, 19] (fun cy i wr => ∃ k q : Nat, k ≤ xs.length ∧ q < 4294967296 ∧ i = .int .i64 k ∧ cy = .int .u64 q ∧ SmallAt w wr xs m c k q) (fun _ i _ => xs.length - (intOf i).toNat)
  case atStart => exact ⟨0, c, Nat.zero_le _, hc, rfl, rfl, [], rfl, ok_nil, by simp [val], Blk.new _ _ _, (Ext.refl w).alloc _⟩
  case round =>
    obtain ⟨k, q, hk, hq, rfl, rfl, ys, hl, hok', hv, hblk, hext⟩ := hrel
    have HV := Lib.hid hv; clear hv
    have HB := Lib.hid hblk; clear hblk
    have HL := Lib.hid hl; clear hl
    by_cases hlt : k < xs.length
    · obtain ⟨b, o, rfl, hb, hcell⟩ := HC.out (by omega)
      have hx := (hext.cell hb).trans (hcell k hlt)
      have hst := HB.out.cell k
      have hfz := HB.out.frozen k
      rw [get_cells _ _ (by simp [HL.out]; omega)] at hst
      clear hcell
      have hxm := hok.get k
      have HS := Lib.hid (small_step xs ys k m c q hlt HL.out HV.out)
      have hp := prod_le hxm hm
      obtain ⟨x, hxe⟩ : ∃ x, xs.getD k 0 = x := ⟨_, rfl⟩
      rw [hxe] at hx hxm hp HS
      clear hxe
      have hp' : (x : Int) * (m : Int) ≤ 18446744065119617025 := by rw [← Int.natCast_mul]; omega
      have hp0 : 0 ≤ (x : Int) * (m : Int) := by rw [← Int.natCast_mul]; omega
      simp only [d32] at hx hst
      go_wp2
      go_round
      case rel =>
        refine ⟨k + 1, (q + x * m) / 4294967296, by omega, ?_, by go_num, by go_num, ?_⟩
        · exact Nat.div_lt_of_lt_mul (by omega)
        · exact SmallAt.step hlt HL.out hok' HS.out HB.out hext
      case measure => simp [intOf]; omega
    · obtain rfl : k = xs.length := by omega
      have hst := HB.out.cell xs.length
      have hfz := HB.out.frozen xs.length
      rw [get_cells _ _ (by simp [HL.out])] at hst
      have hlast : Own w.heap.size (wr.setCell ⟨w.heap.size, xs.length, none⟩ (d32 q)) (.slice (some ⟨w.heap.size, 0, none⟩) (xs.length + 1) (xs.length + 1)) (ys ++ [q]) := by
        have h1 := HB.out.set_ xs.length (d32 q)
        have h2 := set_front ys 0 q
        rw [HL.out] at h2
        rw [set_cells, show xs.length + 1 - xs.length = 0 + 1 by omega, h2] at h1
        have h3 := Own.block (B := w.heap.size) (hok'.snoc hq) (by simpa using h1) (Nat.le_refl _) (by simp [HL.out]; omega)
        simpa [HL.out] using h3
      have hval : val (ys ++ [q]) = val xs * m + c := by
        rw [val_snoc, HL.out, HV.out, List.take_of_length_le (Nat.le_refl _)]
      have HT := Lib.hid (trim_any _ _ _ hlast.arr (by simp [HL.out]; omega))
      rw [hval] at HT
      have HVL := Lib.hid hval
      have HO := Lib.hid hlast
      clear hval hlast
      simp only [d32] at hst
      go_wp2_with fail
      refine HT.out.mono ?_
      rintro e w' ⟨v', rfl, ho, hx⟩
      go_wp2_with fail
      go_ret
      have he : Ext w (wr.setCell ⟨w.heap.size, xs.length, none⟩ (d32 q)) := hext.setCell (Nat.le_refl _) _
      exact ⟨_, rfl, ho.mono he.size, he.trans hx⟩
end Big
end Go.Proofs.YtplmldkfgeiklaaGreatDoor
/- root.Lowest, rational.scaled. -/
namespace Go.Proofs.YtplmldkfgeiklaaGreatDoor
namespace Big
open Go.RowKit
theorem lowest_zero (w : World) (v u : Value) (ys : List Nat) (h' : Arr w u ys) (hn' : ys.length ≤ 134217728) (hy : val ys = 0) :
    Calls Tryz.prog 133 #[v, u] w fun e w' => e = .returned (.tuple #[.slice none 0 0, .slice none 0 0, .bool false]) ∧ w = w' := by
  have HB := Lib.hid (bits_any w u ys h' hn')
  rw [bitsN_zero.2 hy] at HB
  clear h' hy
  go_enter Tryz.func133, Tryz.ntmps133
  go_wp2_with fail
  refine HB.out.mono ?_
  rintro e w1 ⟨rfl, rfl⟩
  go_wp2_with fail
  go_ret3
  exact ⟨rfl, rfl⟩
theorem limbs_div (X g : Nat) : (limbs (X / g)).length ≤ (limbs X).length := limbs_mono (Nat.div_le_self _ _)
/-- What root.Lowest promises. -/
def LowPost (X Y : Nat) (w : World) (e : Ending) (w' : World) : Prop :=
  ∃ v' u', e = .returned (.tuple #[v', u', .bool true]) ∧ Own w.heap.size w' v' (limbs (X / Nat.gcd X Y)) ∧ Own w.heap.size w' u' (limbs (Y / Nat.gcd X Y)) ∧ Ext w w'
theorem lowest_any (w : World) (v u : Value) (xs ys : List Nat) (h : Arr w v xs) (h' : Arr w u ys) (hn : xs.length ≤ 134217728) (hn' : ys.length ≤ 134217728) (hy : val ys ≠ 0) :
    Calls Tryz.prog 133 #[v, u] w (LowPost (val xs) (val ys) w) := by
  have HB := Lib.hid (bits_any w u ys h' hn')
  have hb0 : bitsN (val ys) ≠ 0 := fun e => hy (bitsN_zero.1 e)
  have HG := Lib.hid (gcd_any w v u xs ys h h' hn hn')
  have hgl : (limbs (Nat.gcd (val xs) (val ys))).length ≤ 134217728 := Nat.le_trans (limbs_mono (Nat.gcd_le_right _ (Nat.pos_of_ne_zero hy))) (Nat.le_trans (length_limbs_val h'.ok) hn')
  have hg0 : Nat.gcd (val xs) (val ys) ≠ 0 := fun e => hy (Nat.gcd_eq_zero_iff.1 e).2
  have HD1 := Lib.hid (fun W z hx a => qdivmod_any W v z xs (limbs (Nat.gcd (val xs) (val ys))) (h.ext hx) a hn hgl (by rw [val_limbs]; exact hg0))
  have HD2 := Lib.hid (fun W z hx a => qdivmod_any W u z ys (limbs (Nat.gcd (val xs) (val ys))) (h'.ext hx) a hn' hgl (by rw [val_limbs]; exact hg0))
  rw [val_limbs] at HD1 HD2
  obtain ⟨nv, Av, cv, rfl⟩ := h.shape
  obtain ⟨nu, Au, cu, rfl⟩ := h'.shape
  generalize val xs = X at *
  generalize val ys = Y at *
  have hbb : ((bitsN Y : Int) == 0) = false := by rw [beq_eq_false_iff_ne]; omega
  generalize bitsN Y = bY at *
  clear h h' hn hn' hy hg0 hgl hb0
  go_enter Tryz.func133, Tryz.ntmps133
  go_wp2_with fail
  refine HB.out.mono ?_
  rintro e w1 ⟨rfl, rfl⟩
  go_wp2_with fail
  refine HG.out.mono ?_
  rintro e w1 ⟨v1, rfl, ho1, hx1⟩
  have HX1 := Lib.hid hx1
  have HO1 := Lib.hid ho1
  obtain ⟨n1, A1, c1, rfl⟩ := ho1.shape
  clear ho1 hx1
  go_wp2_with fail
  refine (HD1.out _ _ HX1.out HO1.out.arr).mono ?_
  rintro e w2 ⟨v2, u2, rfl, ho2, hr2, hx2⟩
  have HX2 := Lib.hid (HX1.out.trans hx2)
  have HO2 := Lib.hid (ho2.mono HX1.out.size)
  have HO1' := Lib.hid (HO1.out.ext hx2)
  obtain ⟨n2, A2, c2, rfl⟩ := ho2.shape
  obtain ⟨n2', A2', c2', rfl⟩ := hr2.shape
  clear ho2 hr2 hx2
  go_wp2_with fail
  refine (HD2.out _ _ HX2.out HO1'.out.arr).mono ?_
  rintro e w3 ⟨v3, u3, rfl, ho3, hr3, hx3⟩
  have HX3 := Lib.hid (HX2.out.trans hx3)
  have HO3 := Lib.hid (ho3.mono HX2.out.size)
  have HO2' := Lib.hid (HO2.out.ext hx3)
  obtain ⟨n3, A3, c3, rfl⟩ := ho3.shape
  obtain ⟨n3', A3', c3', rfl⟩ := hr3.shape
  clear ho3 hr3 hx3
  go_wp2_with fail
  go_ret3
  exact ⟨_, _, rfl, HO2'.out, HO3.out, HX3.out⟩

/-- What rational.scaled promises. -/
def ScaledPost (xs : List Nat) (m n : Nat) (w : World) (e : Ending) (w' : World) : Prop :=
  ∃ v' zs, e = .returned v' ∧ Arr w' v' zs ∧ val zs = val xs * m ^ n ∧ zs.length ≤ xs.length + n ∧ Ext w w'
/-- What it holds with k steps to come. -/
def ScaledAt (w wr : World) (xs : List Nat) (m n k : Nat) (v : Value) : Prop :=
  ∃ zs, Arr wr v zs ∧ val zs * m ^ k = val xs * m ^ n ∧ zs.length + k ≤ xs.length + n ∧ Ext w wr
theorem ScaledAt.shape {w wr : World} {xs : List Nat} {m n k : Nat} {v : Value} (h : ScaledAt w wr xs m n k v) : ∃ n A c, v = .slice A n c := by
  obtain ⟨zs, h1, _⟩ := h
  exact h1.shape
theorem ScaledAt.step {w wr w' : World} {xs zs : List Nat} {m n k j a : Nat} {v : Value} (hk : k = j + a) (ha : 1 ≤ a) (hv : val zs * m ^ k = val xs * m ^ n) (hl : zs.length + k ≤ xs.length + n) (hx : Ext w wr) (hok : Ok zs)
    (ho : Own wr.heap.size w' v (limbs (val zs * m ^ a + 0))) (hm : m ^ a < 4294967296) (hx' : Ext wr w') : ScaledAt w w' xs m n j v := by
  refine ⟨_, ho.arr, ?_, ?_, hx.trans hx'⟩
  · rw [val_limbs, Nat.add_zero, Nat.mul_assoc, ← Nat.pow_add, Nat.add_comm a j, ← hk, hv]
  · have := length_limbs_mul hok hm (c := 0) (by omega)
    omega
theorem scaled_5 (w : World) (v : Value) (xs : List Nat) (n : Nat) (h : Arr w v xs) (hn : xs.length ≤ 67108864) (hn' : n ≤ 67108864) :
    Calls Tryz.prog 66 #[v, .int .u32 5, .int .i64 (n : Int)] w (ScaledPost xs 5 n w) := by
  have HA := Lib.hid h
  obtain ⟨nv, Av, cv, rfl⟩ := h.shape
  clear h
  go_enter Tryz.func66, Tryz.ntmps66
  go_wp2_with fail
  go_loopw [0, 2] (fun s0 s2 wr => ∃ k : Nat, k ≤ n ∧ s2 = .int .i64 (k : Int) ∧ ScaledAt w wr xs 5 n k s0) (fun _ s2 _ => (intOf s2).toNat)
  case atStart => exact ⟨n, Nat.le_refl _, rfl, xs, HA.out, rfl, Nat.le_refl _, Ext.refl _⟩
  case round =>
    obtain ⟨k, hk, rfl, hat⟩ := hrel
    obtain ⟨ns, As, cs, rfl⟩ := hat.shape
    have HAT := Lib.hid hat
    obtain ⟨zs, ha, hv, hl, hx⟩ := hat
    have hzl : zs.length ≤ 536870912 := by omega
    by_cases h9 : 9 ≤ k
    · obtain ⟨j, rfl⟩ : ∃ j, k = j + 9 := ⟨k - 9, by omega⟩
      have HP := Lib.hid (psmall_any wr _ zs 1953125 0 ha hzl (by decide) (by decide))
      rw [show ((1953125 : Nat) : Int) = 1953125 from rfl, show ((0 : Nat) : Int) = 0 from rfl] at HP
      have HST := Lib.hid (fun w' v' ho hx' => ScaledAt.step (w' := w') (v := v') (j := j) (a := 9) rfl (by omega) hv hl hx ha.ok ho (by decide) hx')
      rw [show (5 : Nat) ^ 9 = 1953125 from rfl] at HST
      clear ha hv hl hx
      go_wp2_with fail
      refine HP.out.mono ?_
      rintro e w2 ⟨v2, rfl, ho2, hx2⟩
      have HS2 := Lib.hid (HST.out _ _ ho2 hx2)
      obtain ⟨n2, A2, c2, rfl⟩ := ho2.shape
      clear ho2 hx2
      go_wp2_with fail
      go_roundw
      case rel => exact ⟨j, by omega, by go_num, HS2.out⟩
      case measure => simp [intOf]; omega
    · clear ha hv hl hx hzl
      go_wp2_with fail
      go_loopw [0, 2] (fun s0 s2 wr => ∃ k : Nat, k ≤ n ∧ s2 = .int .i64 (k : Int) ∧ ScaledAt w wr xs 5 n k s0) (fun _ s2 _ => (intOf s2).toNat)
      case atStart => exact ⟨k, hk, rfl, HAT.out⟩
      case round =>
        clear hk h9 HAT
        obtain ⟨k, hk, rfl, hat⟩ := hrel
        obtain ⟨ns, As, cs, rfl⟩ := hat.shape
        have HAT := Lib.hid hat
        obtain ⟨zs, ha, hv, hl, hx⟩ := hat
        have hzl : zs.length ≤ 536870912 := by omega
        rcases Nat.eq_zero_or_pos k with h0 | h0
        · subst h0
          have HF : Hid (ScaledPost xs 5 n w (.returned (.slice As ns cs)) wr) := Lib.hid ⟨_, zs, rfl, ha, by rw [← hv]; simp, by omega, hx⟩
          clear ha hv hl hx hzl
          go_wp2_with fail
          go_ret
          exact HF.out
        · obtain ⟨j, rfl⟩ : ∃ j, k = j + 1 := ⟨k - 1, by omega⟩
          have HP := Lib.hid (psmall_any wr _ zs 5 0 ha hzl (by decide) (by decide))
          rw [show ((5 : Nat) : Int) = 5 from rfl, show ((0 : Nat) : Int) = 0 from rfl] at HP
          have HST := Lib.hid (fun w' v' ho hx' => ScaledAt.step (w' := w') (v := v') (j := j) (a := 1) rfl (by omega) hv hl hx ha.ok ho (by decide) hx')
          rw [Nat.pow_one] at HST
          clear ha hv hl hx
          go_wp2_with fail
          refine HP.out.mono ?_
          rintro e w2 ⟨v2, rfl, ho2, hx2⟩
          have HS2 := Lib.hid (HST.out _ _ ho2 hx2)
          obtain ⟨n2, A2, c2, rfl⟩ := ho2.shape
          clear ho2 hx2
          go_wp2_with fail
          go_roundw
          case rel => exact ⟨j, by omega, by go_num, HS2.out⟩
          case measure => simp [intOf]
theorem scaled_10 (w : World) (v : Value) (xs : List Nat) (n : Nat) (h : Arr w v xs) (hn : xs.length ≤ 67108864) (hn' : n ≤ 67108864) :
    Calls Tryz.prog 66 #[v, .int .u32 10, .int .i64 (n : Int)] w (ScaledPost xs 10 n w) := by
  have HA := Lib.hid h
  obtain ⟨nv, Av, cv, rfl⟩ := h.shape
  clear h
  go_enter Tryz.func66, Tryz.ntmps66
  go_wp2_with fail
  go_loopw [0, 2] (fun s0 s2 wr => ∃ k : Nat, k ≤ n ∧ s2 = .int .i64 (k : Int) ∧ ScaledAt w wr xs 10 n k s0) (fun _ s2 _ => (intOf s2).toNat)
  case atStart => exact ⟨n, Nat.le_refl _, rfl, xs, HA.out, rfl, Nat.le_refl _, Ext.refl _⟩
  case round =>
    obtain ⟨k, hk, rfl, hat⟩ := hrel
    obtain ⟨ns, As, cs, rfl⟩ := hat.shape
    have HAT := Lib.hid hat
    obtain ⟨zs, ha, hv, hl, hx⟩ := hat
    have hzl : zs.length ≤ 536870912 := by omega
    by_cases h9 : 9 ≤ k
    · obtain ⟨j, rfl⟩ : ∃ j, k = j + 9 := ⟨k - 9, by omega⟩
      have HP := Lib.hid (psmall_any wr _ zs 1000000000 0 ha hzl (by decide) (by decide))
      rw [show ((1000000000 : Nat) : Int) = 1000000000 from rfl, show ((0 : Nat) : Int) = 0 from rfl] at HP
      have HST := Lib.hid (fun w' v' ho hx' => ScaledAt.step (w' := w') (v := v') (j := j) (a := 9) rfl (by omega) hv hl hx ha.ok ho (by decide) hx')
      rw [show (10 : Nat) ^ 9 = 1000000000 from rfl] at HST
      clear ha hv hl hx
      go_wp2_with fail
      refine HP.out.mono ?_
      rintro e w2 ⟨v2, rfl, ho2, hx2⟩
      have HS2 := Lib.hid (HST.out _ _ ho2 hx2)
      obtain ⟨n2, A2, c2, rfl⟩ := ho2.shape
      clear ho2 hx2
      go_wp2_with fail
      go_roundw
      case rel => exact ⟨j, by omega, by go_num, HS2.out⟩
      case measure => simp [intOf]; omega
    · clear ha hv hl hx hzl
      go_wp2_with fail
      go_loopw [0, 2] (fun s0 s2 wr => ∃ k : Nat, k ≤ n ∧ s2 = .int .i64 (k : Int) ∧ ScaledAt w wr xs 10 n k s0) (fun _ s2 _ => (intOf s2).toNat)
      case atStart => exact ⟨k, hk, rfl, HAT.out⟩
      case round =>
        clear hk h9 HAT
        obtain ⟨k, hk, rfl, hat⟩ := hrel
        obtain ⟨ns, As, cs, rfl⟩ := hat.shape
        have HAT := Lib.hid hat
        obtain ⟨zs, ha, hv, hl, hx⟩ := hat
        have hzl : zs.length ≤ 536870912 := by omega
        rcases Nat.eq_zero_or_pos k with h0 | h0
        · subst h0
          have HF : Hid (ScaledPost xs 10 n w (.returned (.slice As ns cs)) wr) := Lib.hid ⟨_, zs, rfl, ha, by rw [← hv]; simp, by omega, hx⟩
          clear ha hv hl hx hzl
          go_wp2_with fail
          go_ret
          exact HF.out
        · obtain ⟨j, rfl⟩ : ∃ j, k = j + 1 := ⟨k - 1, by omega⟩
          have HP := Lib.hid (psmall_any wr _ zs 10 0 ha hzl (by decide) (by decide))
          rw [show ((10 : Nat) : Int) = 10 from rfl, show ((0 : Nat) : Int) = 0 from rfl] at HP
          have HST := Lib.hid (fun w' v' ho hx' => ScaledAt.step (w' := w') (v := v') (j := j) (a := 1) rfl (by omega) hv hl hx ha.ok ho (by decide) hx')
          rw [Nat.pow_one] at HST
          clear ha hv hl hx
          go_wp2_with fail
          refine HP.out.mono ?_
          rintro e w2 ⟨v2, rfl, ho2, hx2⟩
          have HS2 := Lib.hid (HST.out _ _ ho2 hx2)
          obtain ⟨n2, A2, c2, rfl⟩ := ho2.shape
          clear ho2 hx2
          go_wp2_with fail
          go_roundw
          case rel => exact ⟨j, by omega, by go_num, HS2.out⟩
          case measure => simp [intOf]
end Big
end Go.Proofs.YtplmldkfgeiklaaGreatDoor
/- rational.lowest. -/
namespace Go.Proofs.YtplmldkfgeiklaaGreatDoor
namespace Big
open Go.RowKit
set_option maxRecDepth 100000 in
theorem lowestR_any (w : World) (v u : Value) (z : Int) (ys : List Nat) (h : ArrInt w v z) (h' : Arr w u ys) (hn : (limbs z.natAbs).length ≤ 134217728) (hn' : ys.length ≤ 134217728) (hy : val ys ≠ 0) :
    Calls Tryz.prog 76 #[v, u] w fun e w' => ∃ v', e = .returned v' ∧ IsRat w.heap.size w' v' (lowN z (val ys)) (lowD z (val ys)) ∧ Ext w w' := by
  have HA := Lib.hid h
  have HB := Lib.hid h'
  obtain ⟨b, n, A, c, rfl⟩ := h.shape
  have HL := Lib.hid (fun W hx => lowest_any W (.slice A n c) u (limbs z.natAbs) ys (h.mag.ext hx) (h'.ext hx) hn hn' hy)
  rw [val_limbs] at HL
  have HI := Lib.hid (fun W m a => inat_any W b m (limbs (z.natAbs / Nat.gcd z.natAbs (val ys))) a (Nat.le_trans (limbs_div _ _) (by omega)))
  rw [val_limbs] at HI
  have HS := Lib.hid h.sign
  clear h h'
  go_enter Tryz.func76, Tryz.ntmps76
  go_wp2_with fail
  have hb0 := (Blk.new w 24 #[Value.bool b, Value.slice A n c]).alloc (.cells #[Value.bool false, Value.slice none 0 0, Value.slice none 0 0] 26)
  have hb1 := Blk.new (w.alloc (.cells #[Value.bool b, Value.slice A n c] 24)) 26 #[Value.bool false, Value.slice none 0 0, Value.slice none 0 0]
  have hxo := ((Ext.refl w).alloc (.cells #[Value.bool b, Value.slice A n c] 24)).alloc (.cells #[Value.bool false, Value.slice none 0 0, Value.slice none 0 0] 26)
  have hszo : w.heap.size + 1 < ((w.alloc (.cells #[Value.bool b, Value.slice A n c] 24)).alloc (.cells #[Value.bool false, Value.slice none 0 0, Value.slice none 0 0] 26)).heap.size := by simp
  simp only [World.size_alloc] at hb1
  generalize (w.alloc (.cells #[Value.bool b, Value.slice A n c] 24)).alloc (.cells #[Value.bool false, Value.slice none 0 0, Value.slice none 0 0] 26) = wo at *
  refine (HL.out _ hxo).mono ?_
  rintro e w1 ⟨v1, u1, rfl, ho1, hr1, hx1⟩
  have hk0 := hb0.ext hx1
  have hk1 := hb1.ext hx1
  have HO1 := Lib.hid ho1
  have HR1 := Lib.hid hr1
  obtain ⟨n1, A1, c1, rfl⟩ := ho1.shape
  obtain ⟨n2, A2, c2, rfl⟩ := hr1.shape
  obtain ⟨h0, h1, _, _, _⟩ := hk0.two
  have HK1 := Lib.hid hk1
  have HX1 := Lib.hid (hxo.trans hx1)
  have HSZ := Lib.hid hx1.size
  clear hb0 hb1 hx1 ho1 hr1 hk0 hk1 hxo
  go_wp2_with fail
  refine (HI.out _ _ HO1.out.arr).mono ?_
  rintro e w2 ⟨v2, rfl, hi2, hx2⟩
  have HI2 := Lib.hid hi2
  have HR2 := Lib.hid (HR1.out.ext hx2)
  have hk1 := HK1.out.ext hx2
  obtain ⟨b3, n3, A3, c3, rfl⟩ := hi2.shape
  obtain ⟨k0, k1, k2, f0, f1, f2, hgz⟩ := hk1.three
  have HX2 := Lib.hid (HX1.out.trans hx2)
  have HK2 := Lib.hid hk1
  clear hi2 hx2 hk1
  go_wp2_with fail
  obtain ⟨hr0, hr1, hr2⟩ := three_set HK2.out (.bool b3) (.slice A3 n3 c3) (.slice A2 n2 c2)
  refine bodyPost_ret (v := .agg #[.bool b3, .slice A3 n3 c3, .slice A2 n2 c2]) (by simp [results, Tryz.results76, go_sem, hr0, hr1, hr2]) rfl ?_
  have hfin : IsRat wo.heap.size w2 (.agg #[.bool b3, .slice A3 n3 c3, .slice A2 n2 c2]) (lowN z (val ys)) (lowD z (val ys)) := IsRat.mk (by
    have h1 := HI2.out.mono HSZ.out
    rw [HS.out] at h1
    exact h1) HR2.out
  exact ⟨_, rfl, hfin.put hszo (by omega), ((HX2.out.setCell (Nat.le_succ _) _).setCell (Nat.le_succ _) _).setCell (Nat.le_succ _) _⟩
end Big
end Go.Proofs.YtplmldkfgeiklaaGreatDoor
/- Fractions, the program's side. Printed by a program. -/
namespace Go.Proofs.YtplmldkfgeiklaaGreatDoor
namespace Big
open Go.RowKit
theorem final22 {w : World} {g g' : Nat} {a b c d u0 u1 u2 u3 : Value}
    (h0 : ((((w.setCell ⟨g, 0, none⟩ a).setCell ⟨g, 1, none⟩ b).setCell ⟨g', 0, none⟩ c).setCell ⟨g', 1, none⟩ d).cell? ⟨g, 0, none⟩ = some u0)
    (h1 : ((((w.setCell ⟨g, 0, none⟩ a).setCell ⟨g, 1, none⟩ b).setCell ⟨g', 0, none⟩ c).setCell ⟨g', 1, none⟩ d).cell? ⟨g, 1, none⟩ = some u1)
    (h2 : ((((w.setCell ⟨g, 0, none⟩ a).setCell ⟨g, 1, none⟩ b).setCell ⟨g', 0, none⟩ c).setCell ⟨g', 1, none⟩ d).cell? ⟨g', 0, none⟩ = some u2)
    (h3 : ((((w.setCell ⟨g, 0, none⟩ a).setCell ⟨g, 1, none⟩ b).setCell ⟨g', 0, none⟩ c).setCell ⟨g', 1, none⟩ d).cell? ⟨g', 1, none⟩ = some u3) (hne : g ≠ g') :
    ((((w.setCell ⟨g, 0, none⟩ a).setCell ⟨g, 1, none⟩ b).setCell ⟨g', 0, none⟩ c).setCell ⟨g', 1, none⟩ d).cell? ⟨g, 0, none⟩ = some a ∧
    ((((w.setCell ⟨g, 0, none⟩ a).setCell ⟨g, 1, none⟩ b).setCell ⟨g', 0, none⟩ c).setCell ⟨g', 1, none⟩ d).cell? ⟨g, 1, none⟩ = some b ∧
    ((((w.setCell ⟨g, 0, none⟩ a).setCell ⟨g, 1, none⟩ b).setCell ⟨g', 0, none⟩ c).setCell ⟨g', 1, none⟩ d).cell? ⟨g', 0, none⟩ = some c ∧
    ((((w.setCell ⟨g, 0, none⟩ a).setCell ⟨g, 1, none⟩ b).setCell ⟨g', 0, none⟩ c).setCell ⟨g', 1, none⟩ d).cell? ⟨g', 1, none⟩ = some d := by
  obtain ⟨_, k0⟩ := cell_before h0
  obtain ⟨_, k0⟩ := cell_before k0
  obtain ⟨_, k0⟩ := cell_before k0
  obtain ⟨_, k0⟩ := cell_before k0
  obtain ⟨_, k1⟩ := cell_before h1
  obtain ⟨_, k1⟩ := cell_before k1
  obtain ⟨_, k1⟩ := cell_before k1
  obtain ⟨_, k2⟩ := cell_before h2
  obtain ⟨_, k2⟩ := cell_before k2
  obtain ⟨_, k3⟩ := cell_before h3
  refine ⟨?_, ?_, ?_, World.cell?_setCell_same _ _ _ k3⟩
  · rw [World.cell?_setCell_other _ _ _ _ (by intro e; injection e with e; exact hne e.symm), World.cell?_setCell_other _ _ _ _ (by intro e; injection e with e; exact hne e.symm), World.cell?_setCell_other _ _ _ _ (by intro e; injection e with _ e; cases e)]
    exact World.cell?_setCell_same _ _ _ k0
  · rw [World.cell?_setCell_other _ _ _ _ (by intro e; injection e with e; exact hne e.symm), World.cell?_setCell_other _ _ _ _ (by intro e; injection e with e; exact hne e.symm)]
    exact World.cell?_setCell_same _ _ _ k1
  · rw [World.cell?_setCell_other _ _ _ _ (by intro e; injection e with _ e; cases e)]
    exact World.cell?_setCell_same _ _ _ k2
theorem keptD6 {w w1 w2 : World} {g g' b0 o0 b1 o1 b2 o2 b3 o3 b4 o4 b5 o5 : Nat} {u0 u1 u2 u3 u4 u5 : Value} (h : Ext w w1 ∧ w1.cell? ⟨b0, o0, none⟩ = some u0 ∧ w1.cell? ⟨b1, o1, none⟩ = some u1 ∧ w1.cell? ⟨b2, o2, none⟩ = some u2 ∧ w1.cell? ⟨b3, o3, none⟩ = some u3 ∧ w1.cell? ⟨b4, o4, none⟩ = some u4 ∧ w1.cell? ⟨b5, o5, none⟩ = some u5 ∧ w1.cell? ⟨g, 0, none⟩ = some (was w1 g 0) ∧ w1.cell? ⟨g, 1, none⟩ = some (was w1 g 1) ∧ w1.cell? ⟨g', 0, none⟩ = some (was w1 g' 0) ∧ w1.cell? ⟨g', 1, none⟩ = some (was w1 g' 1) ∧ w1.frozen? ⟨g, 0, none⟩ = false ∧ w1.frozen? ⟨g, 1, none⟩ = false ∧ w1.frozen? ⟨g', 0, none⟩ = false ∧ w1.frozen? ⟨g', 1, none⟩ = false) (hx : Ext w1 w2) : Ext w w2 ∧ w2.cell? ⟨b0, o0, none⟩ = some u0 ∧ w2.cell? ⟨b1, o1, none⟩ = some u1 ∧ w2.cell? ⟨b2, o2, none⟩ = some u2 ∧ w2.cell? ⟨b3, o3, none⟩ = some u3 ∧ w2.cell? ⟨b4, o4, none⟩ = some u4 ∧ w2.cell? ⟨b5, o5, none⟩ = some u5 ∧ w2.cell? ⟨g, 0, none⟩ = some (was w2 g 0) ∧ w2.cell? ⟨g, 1, none⟩ = some (was w2 g 1) ∧ w2.cell? ⟨g', 0, none⟩ = some (was w2 g' 0) ∧ w2.cell? ⟨g', 1, none⟩ = some (was w2 g' 1) ∧ w2.frozen? ⟨g, 0, none⟩ = false ∧ w2.frozen? ⟨g, 1, none⟩ = false ∧ w2.frozen? ⟨g', 0, none⟩ = false ∧ w2.frozen? ⟨g', 1, none⟩ = false :=
  ⟨h.1.trans hx, hx.keep h.2.1, hx.keep h.2.2.1, hx.keep h.2.2.2.1, hx.keep h.2.2.2.2.1, hx.keep h.2.2.2.2.2.1, hx.keep h.2.2.2.2.2.2.1, was_some (hx.keep h.2.2.2.2.2.2.2.1), was_some (hx.keep h.2.2.2.2.2.2.2.2.1), was_some (hx.keep h.2.2.2.2.2.2.2.2.2.1), was_some (hx.keep h.2.2.2.2.2.2.2.2.2.2.1), hx.keepf h.2.2.2.2.2.2.2.1 h.2.2.2.2.2.2.2.2.2.2.2.1, hx.keepf h.2.2.2.2.2.2.2.2.1 h.2.2.2.2.2.2.2.2.2.2.2.2.1, hx.keepf h.2.2.2.2.2.2.2.2.2.1 h.2.2.2.2.2.2.2.2.2.2.2.2.2.1, hx.keepf h.2.2.2.2.2.2.2.2.2.2.1 h.2.2.2.2.2.2.2.2.2.2.2.2.2.2⟩
theorem keptD6_set {w w1 : World} {g g' g0 b0 o0 b1 o1 b2 o2 b3 o3 b4 o4 b5 o5 : Nat} {u0 u1 u2 u3 u4 u5 : Value} {x0 x1 : Value} (h : Ext w w1 ∧ w1.cell? ⟨b0, o0, none⟩ = some u0 ∧ w1.cell? ⟨b1, o1, none⟩ = some u1 ∧ w1.cell? ⟨b2, o2, none⟩ = some u2 ∧ w1.cell? ⟨b3, o3, none⟩ = some u3 ∧ w1.cell? ⟨b4, o4, none⟩ = some u4 ∧ w1.cell? ⟨b5, o5, none⟩ = some u5 ∧ w1.cell? ⟨g, 0, none⟩ = some (was w1 g 0) ∧ w1.cell? ⟨g, 1, none⟩ = some (was w1 g 1) ∧ w1.cell? ⟨g', 0, none⟩ = some (was w1 g' 0) ∧ w1.cell? ⟨g', 1, none⟩ = some (was w1 g' 1) ∧ w1.frozen? ⟨g, 0, none⟩ = false ∧ w1.frozen? ⟨g, 1, none⟩ = false ∧ w1.frozen? ⟨g', 0, none⟩ = false ∧ w1.frozen? ⟨g', 1, none⟩ = false) (hg : w.heap.size ≤ g0) (n0 : b0 ≠ g0) (n1 : b1 ≠ g0) (n2 : b2 ≠ g0) (n3 : b3 ≠ g0) (n4 : b4 ≠ g0) (n5 : b5 ≠ g0) : Ext w ((w1.setCell ⟨g0, 0, none⟩ x0).setCell ⟨g0, 1, none⟩ x1) ∧ ((w1.setCell ⟨g0, 0, none⟩ x0).setCell ⟨g0, 1, none⟩ x1).cell? ⟨b0, o0, none⟩ = some u0 ∧ ((w1.setCell ⟨g0, 0, none⟩ x0).setCell ⟨g0, 1, none⟩ x1).cell? ⟨b1, o1, none⟩ = some u1 ∧ ((w1.setCell ⟨g0, 0, none⟩ x0).setCell ⟨g0, 1, none⟩ x1).cell? ⟨b2, o2, none⟩ = some u2 ∧ ((w1.setCell ⟨g0, 0, none⟩ x0).setCell ⟨g0, 1, none⟩ x1).cell? ⟨b3, o3, none⟩ = some u3 ∧ ((w1.setCell ⟨g0, 0, none⟩ x0).setCell ⟨g0, 1, none⟩ x1).cell? ⟨b4, o4, none⟩ = some u4 ∧ ((w1.setCell ⟨g0, 0, none⟩ x0).setCell ⟨g0, 1, none⟩ x1).cell? ⟨b5, o5, none⟩ = some u5 ∧ ((w1.setCell ⟨g0, 0, none⟩ x0).setCell ⟨g0, 1, none⟩ x1).cell? ⟨g, 0, none⟩ = some (was ((w1.setCell ⟨g0, 0, none⟩ x0).setCell ⟨g0, 1, none⟩ x1) g 0) ∧ ((w1.setCell ⟨g0, 0, none⟩ x0).setCell ⟨g0, 1, none⟩ x1).cell? ⟨g, 1, none⟩ = some (was ((w1.setCell ⟨g0, 0, none⟩ x0).setCell ⟨g0, 1, none⟩ x1) g 1) ∧ ((w1.setCell ⟨g0, 0, none⟩ x0).setCell ⟨g0, 1, none⟩ x1).cell? ⟨g', 0, none⟩ = some (was ((w1.setCell ⟨g0, 0, none⟩ x0).setCell ⟨g0, 1, none⟩ x1) g' 0) ∧ ((w1.setCell ⟨g0, 0, none⟩ x0).setCell ⟨g0, 1, none⟩ x1).cell? ⟨g', 1, none⟩ = some (was ((w1.setCell ⟨g0, 0, none⟩ x0).setCell ⟨g0, 1, none⟩ x1) g' 1) ∧ ((w1.setCell ⟨g0, 0, none⟩ x0).setCell ⟨g0, 1, none⟩ x1).frozen? ⟨g, 0, none⟩ = false ∧ ((w1.setCell ⟨g0, 0, none⟩ x0).setCell ⟨g0, 1, none⟩ x1).frozen? ⟨g, 1, none⟩ = false ∧ ((w1.setCell ⟨g0, 0, none⟩ x0).setCell ⟨g0, 1, none⟩ x1).frozen? ⟨g', 0, none⟩ = false ∧ ((w1.setCell ⟨g0, 0, none⟩ x0).setCell ⟨g0, 1, none⟩ x1).frozen? ⟨g', 1, none⟩ = false := by
  obtain ⟨_, k0⟩ := set_was (g := g0) (i := 0) (u := x0) h.2.2.2.2.2.2.2.1
  obtain ⟨_, k0⟩ := set_was (g := g0) (i := 1) (u := x1) k0
  obtain ⟨_, k1⟩ := set_was (g := g0) (i := 0) (u := x0) h.2.2.2.2.2.2.2.2.1
  obtain ⟨_, k1⟩ := set_was (g := g0) (i := 1) (u := x1) k1
  obtain ⟨_, k2⟩ := set_was (g := g0) (i := 0) (u := x0) h.2.2.2.2.2.2.2.2.2.1
  obtain ⟨_, k2⟩ := set_was (g := g0) (i := 1) (u := x1) k2
  obtain ⟨_, k3⟩ := set_was (g := g0) (i := 0) (u := x0) h.2.2.2.2.2.2.2.2.2.2.1
  obtain ⟨_, k3⟩ := set_was (g := g0) (i := 1) (u := x1) k3
  exact ⟨(h.1.setCell hg _).setCell hg _, set_far (set_far h.2.1 n0) n0, set_far (set_far h.2.2.1 n1) n1, set_far (set_far h.2.2.2.1 n2) n2, set_far (set_far h.2.2.2.2.1 n3) n3, set_far (set_far h.2.2.2.2.2.1 n4) n4, set_far (set_far h.2.2.2.2.2.2.1 n5) n5, was_some k0, was_some k1, was_some k2, was_some k3, set_fz (set_fz h.2.2.2.2.2.2.2.2.2.2.2.1), set_fz (set_fz h.2.2.2.2.2.2.2.2.2.2.2.2.1), set_fz (set_fz h.2.2.2.2.2.2.2.2.2.2.2.2.2.1), set_fz (set_fz h.2.2.2.2.2.2.2.2.2.2.2.2.2.2)⟩
set_option maxRecDepth 100000 in
theorem signR_any (w : World) (v0 : Value) (p : Int) (q : Nat) (h0 : ArrRat w v0 p q) (n0 : (limbs p.natAbs).length ≤ 1000000) (m0 : (limbs q).length ≤ 1000000) :
    Calls Tryz.prog 27 #[v0] w fun e w' => e = .returned (.int .i64 (sgZ p)) ∧ Ext w w' := by
  have H0 := Lib.hid h0
  have HSG := Lib.hid (fun W v a => isign_any W v p a (by omega))
  obtain ⟨b0, l0, A0, c0, k0, D0, e0, rfl⟩ := h0.shape
  clear h0
  go_enter Tryz.func27, Tryz.ntmps27
  go_wp2_with fail
  have hb0 := (Blk.new w 26 #[Value.bool b0, Value.slice A0 l0 c0, Value.slice D0 k0 e0])
  have hxo := ((Ext.refl w).alloc (.cells #[Value.bool b0, Value.slice A0 l0 c0, Value.slice D0 k0 e0] 26))
  have hszo : w.heap.size + 1 = (w.alloc (.cells #[Value.bool b0, Value.slice A0 l0 c0, Value.slice D0 k0 e0] 26)).heap.size := by simp
  generalize w.alloc (.cells #[Value.bool b0, Value.slice A0 l0 c0, Value.slice D0 k0 e0] 26) = wo at *
  have HB0 := Lib.hid hb0
  have HX := Lib.hid hxo
  have HZ : Hid (w.heap.size + 1 ≤ wo.heap.size) := Lib.hid (by omega)
  clear hxo hszo hb0
  refine (HSG.out _ _ (H0.out.int.ext HX.out)).mono ?_
  rintro e w1 ⟨rfl, hx0⟩
  have HX := Lib.hid (HX.out.trans hx0)
  have HZ0 := Lib.hid hx0.size
  have HB0 := Lib.hid (HB0.out.ext hx0)
  clear hx0
  obtain ⟨u0_0_0, u0_0_1, u0_0_2, u0_0_3, u0_0_4, u0_0_5, u0_0_6⟩ := HB0.out.three
  go_wp2_with fail
  go_ret
  exact ⟨rfl, HX.out⟩
set_option maxRecDepth 100000 in
theorem negR_any (w : World) (v0 : Value) (p : Int) (q : Nat) (h0 : ArrRat w v0 p q) (n0 : (limbs p.natAbs).length ≤ 1000000) (m0 : (limbs q).length ≤ 1000000) :
    Calls Tryz.prog 28 #[v0] w fun e w' => ∃ v', e = .returned v' ∧ IsRat w.heap.size w' v' (-p) (q) ∧ Ext w w' := by
  have H0 := Lib.hid h0
  have HNG := Lib.hid (fun W v a => ineg_any W v p a (by omega))
  have HTR := Lib.hid (fun W m a => trim_any W m (limbs q) a (by omega))
  rw [val_limbs] at HTR
  obtain ⟨b0, l0, A0, c0, k0, D0, e0, rfl⟩ := h0.shape
  clear h0
  go_enter Tryz.func28, Tryz.ntmps28
  go_wp2_with fail
  have hb0 := ((Blk.new w 26 #[Value.bool b0, Value.slice A0 l0 c0, Value.slice D0 k0 e0]).alloc (.cells #[Value.bool false, Value.slice none 0 0, Value.slice none 0 0] 26))
  have hb1 := (Blk.new (w.alloc (.cells #[Value.bool b0, Value.slice A0 l0 c0, Value.slice D0 k0 e0] 26)) 26 #[Value.bool false, Value.slice none 0 0, Value.slice none 0 0])
  have hxo := (((Ext.refl w).alloc (.cells #[Value.bool b0, Value.slice A0 l0 c0, Value.slice D0 k0 e0] 26)).alloc (.cells #[Value.bool false, Value.slice none 0 0, Value.slice none 0 0] 26))
  have hszo : w.heap.size + 1 + 1 = ((w.alloc (.cells #[Value.bool b0, Value.slice A0 l0 c0, Value.slice D0 k0 e0] 26)).alloc (.cells #[Value.bool false, Value.slice none 0 0, Value.slice none 0 0] 26)).heap.size := by simp
  simp only [World.size_alloc] at hb1
  generalize (w.alloc (.cells #[Value.bool b0, Value.slice A0 l0 c0, Value.slice D0 k0 e0] 26)).alloc (.cells #[Value.bool false, Value.slice none 0 0, Value.slice none 0 0] 26) = wo at *
  obtain ⟨q0_0, q0_1, q0_2, _, _, _, _⟩ := hb0.three
  obtain ⟨t0, t1, t2, s0, s1, s2, hgz⟩ := hb1.three
  clear hb0 hb1
  go_region_held3 (fun w' => Ext w w' ∧ w'.cell? ⟨w.heap.size, 0, none⟩ = some (Value.bool b0) ∧ w'.cell? ⟨w.heap.size, 1, none⟩ = some (Value.slice A0 l0 c0) ∧ w'.cell? ⟨w.heap.size, 2, none⟩ = some (Value.slice D0 k0 e0) ∧ w'.cell? ⟨w.heap.size + 1, 0, none⟩ = some (was w' (w.heap.size + 1) 0) ∧ w'.cell? ⟨w.heap.size + 1, 1, none⟩ = some (was w' (w.heap.size + 1) 1) ∧ w'.cell? ⟨w.heap.size + 1, 2, none⟩ = some (was w' (w.heap.size + 1) 2) ∧ w'.frozen? ⟨w.heap.size + 1, 0, none⟩ = false ∧ w'.frozen? ⟨w.heap.size + 1, 1, none⟩ = false ∧ w'.frozen? ⟨w.heap.size + 1, 2, none⟩ = false)
    (first | (exact ⟨hxo.drew, q0_0, q0_1, q0_2, was_some (w := wo.drew) t0, was_some (w := wo.drew) t1, was_some (w := wo.drew) t2, s0, s1, s2⟩) | (exact keptS3_3 (by assumption) (by assumption)) | (exact keptS3_3_set (by assumption) (by omega) (by omega) (by omega) (by omega)))
    (first
      | (go_at_call 87; have hchk1 := hz0; refine (HTR.out _ _ (H0.out.den.ext (And.left (by assumption)))).mono ?_; rintro e w2 ⟨r1, rfl, hi1, hx1⟩; have hz1 := hx1.size; have R0 := Lib.hid (R0.out.ext hx1); have R1 := Lib.hid hi1; obtain ⟨g1, G1, j1, rfl⟩ := hi1.shape)
      | (go_at_call 86; refine (HNG.out _ _ (H0.out.int.ext (And.left (by assumption)))).mono ?_; rintro e w1 ⟨r0, rfl, hi0, hx0⟩; have hz0 := hx0.size; have R0 := Lib.hid hi0; obtain ⟨f0, g0, G0, j0, rfl⟩ := hi0.shape))
  all_goals go_wp2_with fail
  rename_i hS
  obtain ⟨hE, _, _, _, hc0, hc1, hc2, _, _, _⟩ := hS
  simp only [World.size_drew] at hz0
  obtain ⟨hr0, hr1, hr2⟩ := final3 hc0 hc1 hc2
  refine bodyPost_ret (v := .agg #[.bool f0, .slice G0 g0 j0, .slice G1 g1 j1]) (by simp [results, Tryz.results28, go_sem, hr0, hr1, hr2]) rfl ?_
  exact ⟨_, rfl, IsRat.put (w1 := wo.drew) (IsRat.mk R0.out (R1.out.mono (by simp only [World.size_drew]; omega))) (by simp only [World.size_drew]; omega) (by simp only [World.size_drew]; omega), hE⟩
set_option maxRecDepth 100000 in
theorem invR_any (w : World) (v0 : Value) (p : Int) (q : Nat) (h0 : ArrRat w v0 p q) (n0 : (limbs p.natAbs).length ≤ 1000000) (m0 : (limbs q).length ≤ 1000000) :
    Calls Tryz.prog 99 #[v0] w fun e w' => ∃ v', e = .returned v' ∧ IsRat w.heap.size w' v' (invP p q) (p.natAbs) ∧ Ext w w' := by
  have H0 := Lib.hid h0
  have HI := Lib.hid (fun W m a => inat_any W (decide (p < 0)) m (limbs q) a (by omega))
  rw [val_limbs] at HI
  have HTR := Lib.hid (fun W m a => trim_any W m (limbs p.natAbs) a (by omega))
  rw [val_limbs] at HTR
  obtain ⟨b0, l0, A0, c0, k0, D0, e0, rfl⟩ := h0.shape
  have hs0 := h0.sign
  have HS0 := Lib.hid hs0
  rw [← hs0] at HI
  clear h0 hs0
  go_enter Tryz.func99, Tryz.ntmps99
  go_wp2_with fail
  have hb0 := ((Blk.new w 26 #[Value.bool b0, Value.slice A0 l0 c0, Value.slice D0 k0 e0]).alloc (.cells #[Value.bool false, Value.slice none 0 0, Value.slice none 0 0] 26))
  have hb1 := (Blk.new (w.alloc (.cells #[Value.bool b0, Value.slice A0 l0 c0, Value.slice D0 k0 e0] 26)) 26 #[Value.bool false, Value.slice none 0 0, Value.slice none 0 0])
  have hxo := (((Ext.refl w).alloc (.cells #[Value.bool b0, Value.slice A0 l0 c0, Value.slice D0 k0 e0] 26)).alloc (.cells #[Value.bool false, Value.slice none 0 0, Value.slice none 0 0] 26))
  have hszo : w.heap.size + 1 + 1 = ((w.alloc (.cells #[Value.bool b0, Value.slice A0 l0 c0, Value.slice D0 k0 e0] 26)).alloc (.cells #[Value.bool false, Value.slice none 0 0, Value.slice none 0 0] 26)).heap.size := by simp
  simp only [World.size_alloc] at hb1
  generalize (w.alloc (.cells #[Value.bool b0, Value.slice A0 l0 c0, Value.slice D0 k0 e0] 26)).alloc (.cells #[Value.bool false, Value.slice none 0 0, Value.slice none 0 0] 26) = wo at *
  obtain ⟨q0_0, q0_1, q0_2, _, _, _, _⟩ := hb0.three
  obtain ⟨t0, t1, t2, s0, s1, s2, hgz⟩ := hb1.three
  clear hb0 hb1
  go_region_held3 (fun w' => Ext w w' ∧ w'.cell? ⟨w.heap.size, 0, none⟩ = some (Value.bool b0) ∧ w'.cell? ⟨w.heap.size, 1, none⟩ = some (Value.slice A0 l0 c0) ∧ w'.cell? ⟨w.heap.size, 2, none⟩ = some (Value.slice D0 k0 e0) ∧ w'.cell? ⟨w.heap.size + 1, 0, none⟩ = some (was w' (w.heap.size + 1) 0) ∧ w'.cell? ⟨w.heap.size + 1, 1, none⟩ = some (was w' (w.heap.size + 1) 1) ∧ w'.cell? ⟨w.heap.size + 1, 2, none⟩ = some (was w' (w.heap.size + 1) 2) ∧ w'.frozen? ⟨w.heap.size + 1, 0, none⟩ = false ∧ w'.frozen? ⟨w.heap.size + 1, 1, none⟩ = false ∧ w'.frozen? ⟨w.heap.size + 1, 2, none⟩ = false)
    (first | (exact ⟨hxo.drew, q0_0, q0_1, q0_2, was_some (w := wo.drew) t0, was_some (w := wo.drew) t1, was_some (w := wo.drew) t2, s0, s1, s2⟩) | (exact keptS3_3 (by assumption) (by assumption)) | (exact keptS3_3_set (by assumption) (by omega) (by omega) (by omega) (by omega)))
    (first
      | (go_at_call 87; have hchk1 := hz0; refine (HTR.out _ _ (H0.out.num.ext (And.left (by assumption)))).mono ?_; rintro e w2 ⟨r1, rfl, hi1, hx1⟩; have hz1 := hx1.size; have R0 := Lib.hid (R0.out.ext hx1); have R1 := Lib.hid hi1; obtain ⟨g1, G1, j1, rfl⟩ := hi1.shape)
      | (go_at_call 77; refine (HI.out _ _ (H0.out.den.ext (And.left (by assumption)))).mono ?_; rintro e w1 ⟨r0, rfl, hi0, hx0⟩; have hz0 := hx0.size; have R0 := Lib.hid hi0; obtain ⟨f0, g0, G0, j0, rfl⟩ := hi0.shape))
  all_goals go_wp2_with fail
  rename_i hS
  obtain ⟨hE, _, _, _, hc0, hc1, hc2, _, _, _⟩ := hS
  simp only [World.size_drew] at hz0
  obtain ⟨hr0, hr1, hr2⟩ := final3 hc0 hc1 hc2
  refine bodyPost_ret (v := .agg #[.bool f0, .slice G0 g0 j0, .slice G1 g1 j1]) (by simp [results, Tryz.results99, go_sem, hr0, hr1, hr2]) rfl ?_
  have hR := R0.out
  rw [show sgn b0 q = invP p q by rw [HS0.out]; rfl] at hR
  exact ⟨_, rfl, IsRat.put (w1 := wo.drew) (IsRat.mk hR (R1.out.mono (by simp only [World.size_drew]; omega))) (by simp only [World.size_drew]; omega) (by simp only [World.size_drew]; omega), hE⟩
set_option maxRecDepth 100000 in
theorem mulR_any (w : World) (v0 : Value) (p : Int) (q : Nat) (h0 : ArrRat w v0 p q) (n0 : (limbs p.natAbs).length ≤ 1000000) (m0 : (limbs q).length ≤ 1000000) (v1 : Value) (r : Int) (s : Nat) (h1 : ArrRat w v1 r s) (n1 : (limbs r.natAbs).length ≤ 1000000) (m1 : (limbs s).length ≤ 1000000) (hq : 0 < q) (hs : 0 < s) :
    Calls Tryz.prog 25 #[v0, v1] w fun e w' => ∃ v', e = .returned v' ∧ IsRat w.heap.size w' v' (mulP p q r s) (mulQ p q r s) ∧ Ext w w' := by
  have H0 := Lib.hid h0
  have H1 := Lib.hid h1
  have HM := Lib.hid (fun W v u a b => imul_any W v u p r a b (by omega) (by omega))
  have HMD := Lib.hid (fun W m m' a b => mul_any W m m' (limbs q) (limbs s) a b (by omega) (by omega))
  rw [val_limbs, val_limbs] at HMD
  have HLW := Lib.hid (fun W v u a b => lowestR_any W v u (p * r) (limbs (q * s)) a b (by have := limbs_mulzz n0 n1; omega) (by have := limbs_muln m0 m1; omega) (by rw [val_limbs]; exact Nat.pos_iff_ne_zero.1 (Nat.mul_pos hq hs)))
  rw [val_limbs] at HLW
  obtain ⟨b0, l0, A0, c0, k0, D0, e0, rfl⟩ := h0.shape
  obtain ⟨b1, l1, A1, c1, k1, D1, e1, rfl⟩ := h1.shape
  clear h0 h1
  go_enter Tryz.func25, Tryz.ntmps25
  go_wp2_with fail
  have hb0 := (((Blk.new w 26 #[Value.bool b0, Value.slice A0 l0 c0, Value.slice D0 k0 e0]).alloc (.cells #[Value.bool b1, Value.slice A1 l1 c1, Value.slice D1 k1 e1] 26)).alloc (.cells #[Value.bool false, Value.slice none 0 0, Value.slice none 0 0] 26))
  have hb1 := ((Blk.new (w.alloc (.cells #[Value.bool b0, Value.slice A0 l0 c0, Value.slice D0 k0 e0] 26)) 26 #[Value.bool b1, Value.slice A1 l1 c1, Value.slice D1 k1 e1]).alloc (.cells #[Value.bool false, Value.slice none 0 0, Value.slice none 0 0] 26))
  have hb2 := (Blk.new ((w.alloc (.cells #[Value.bool b0, Value.slice A0 l0 c0, Value.slice D0 k0 e0] 26)).alloc (.cells #[Value.bool b1, Value.slice A1 l1 c1, Value.slice D1 k1 e1] 26)) 26 #[Value.bool false, Value.slice none 0 0, Value.slice none 0 0])
  have hxo := ((((Ext.refl w).alloc (.cells #[Value.bool b0, Value.slice A0 l0 c0, Value.slice D0 k0 e0] 26)).alloc (.cells #[Value.bool b1, Value.slice A1 l1 c1, Value.slice D1 k1 e1] 26)).alloc (.cells #[Value.bool false, Value.slice none 0 0, Value.slice none 0 0] 26))
  have hszo : w.heap.size + 1 + 1 + 1 = (((w.alloc (.cells #[Value.bool b0, Value.slice A0 l0 c0, Value.slice D0 k0 e0] 26)).alloc (.cells #[Value.bool b1, Value.slice A1 l1 c1, Value.slice D1 k1 e1] 26)).alloc (.cells #[Value.bool false, Value.slice none 0 0, Value.slice none 0 0] 26)).heap.size := by simp
  simp only [World.size_alloc] at hb1 hb2
  generalize ((w.alloc (.cells #[Value.bool b0, Value.slice A0 l0 c0, Value.slice D0 k0 e0] 26)).alloc (.cells #[Value.bool b1, Value.slice A1 l1 c1, Value.slice D1 k1 e1] 26)).alloc (.cells #[Value.bool false, Value.slice none 0 0, Value.slice none 0 0] 26) = wo at *
  obtain ⟨q0_0, q0_1, q0_2, _, _, _, _⟩ := hb0.three
  obtain ⟨q1_0, q1_1, q1_2, _, _, _, _⟩ := hb1.three
  obtain ⟨t0, t1, t2, s0, s1, s2, hgz⟩ := hb2.three
  clear hb0 hb1 hb2
  go_region_held3 (fun w' => Ext w w' ∧ w'.cell? ⟨w.heap.size, 0, none⟩ = some (Value.bool b0) ∧ w'.cell? ⟨w.heap.size, 1, none⟩ = some (Value.slice A0 l0 c0) ∧ w'.cell? ⟨w.heap.size, 2, none⟩ = some (Value.slice D0 k0 e0) ∧ w'.cell? ⟨w.heap.size + 1, 0, none⟩ = some (Value.bool b1) ∧ w'.cell? ⟨w.heap.size + 1, 1, none⟩ = some (Value.slice A1 l1 c1) ∧ w'.cell? ⟨w.heap.size + 1, 2, none⟩ = some (Value.slice D1 k1 e1) ∧ w'.cell? ⟨w.heap.size + 1 + 1, 0, none⟩ = some (was w' (w.heap.size + 1 + 1) 0) ∧ w'.cell? ⟨w.heap.size + 1 + 1, 1, none⟩ = some (was w' (w.heap.size + 1 + 1) 1) ∧ w'.cell? ⟨w.heap.size + 1 + 1, 2, none⟩ = some (was w' (w.heap.size + 1 + 1) 2) ∧ w'.frozen? ⟨w.heap.size + 1 + 1, 0, none⟩ = false ∧ w'.frozen? ⟨w.heap.size + 1 + 1, 1, none⟩ = false ∧ w'.frozen? ⟨w.heap.size + 1 + 1, 2, none⟩ = false)
    (first | (exact ⟨hxo.drew, q0_0, q0_1, q0_2, q1_0, q1_1, q1_2, was_some (w := wo.drew) t0, was_some (w := wo.drew) t1, was_some (w := wo.drew) t2, s0, s1, s2⟩) | (exact keptS6_3 (by assumption) (by assumption)) | (exact keptS6_3_set (by assumption) (by omega) (by omega) (by omega) (by omega) (by omega) (by omega) (by omega)))
    (first
      | (go_at_call 76; have hchk2 := hz1; refine (HLW.out _ _ _ R0.out.arr R1.out.arr).mono ?_; rintro e w3 ⟨r2, rfl, hi2, hx2⟩; have hz2 := hx2.size; have R0 := Lib.hid (R0.out.ext hx2); have R1 := Lib.hid (R1.out.ext hx2); have R2 := Lib.hid hi2; obtain ⟨f2, g2, G2, j2, y2, Y2, z2, rfl⟩ := hi2.shape)
      | (go_at_call 83; have hchk1 := hz0; refine (HMD.out _ _ _ (H0.out.den.ext (And.left (by assumption))) (H1.out.den.ext (And.left (by assumption)))).mono ?_; rintro e w2 ⟨r1, rfl, hi1, hx1⟩; have hz1 := hx1.size; have R0 := Lib.hid (R0.out.ext hx1); have R1 := Lib.hid hi1; obtain ⟨g1, G1, j1, rfl⟩ := hi1.shape)
      | (go_at_call 82; refine (HM.out _ _ _ (H0.out.int.ext (And.left (by assumption))) (H1.out.int.ext (And.left (by assumption)))).mono ?_; rintro e w1 ⟨r0, rfl, hi0, hx0⟩; have hz0 := hx0.size; have R0 := Lib.hid hi0; obtain ⟨f0, g0, G0, j0, rfl⟩ := hi0.shape))
  all_goals go_wp2_with fail
  rename_i hS
  obtain ⟨hE, _, _, _, _, _, _, hc0, hc1, hc2, _, _, _⟩ := hS
  simp only [World.size_drew] at hz0
  obtain ⟨hr0, hr1, hr2⟩ := final3 hc0 hc1 hc2
  refine bodyPost_ret (v := .agg #[.bool f2, .slice G2 g2 j2, .slice Y2 y2 z2]) (by simp [results, Tryz.results25, go_sem, hr0, hr1, hr2]) rfl ?_
  exact ⟨_, rfl, R2.out.put (by omega) (by omega), hE⟩
set_option maxHeartbeats 2000000 in
set_option maxRecDepth 100000 in
theorem cross_any (w : World) (v0 : Value) (p : Int) (q : Nat) (h0 : ArrRat w v0 p q) (n0 : (limbs p.natAbs).length ≤ 1000000) (m0 : (limbs q).length ≤ 1000000) (v1 : Value) (r : Int) (s : Nat) (h1 : ArrRat w v1 r s) (n1 : (limbs r.natAbs).length ≤ 1000000) (m1 : (limbs s).length ≤ 1000000) :
    Calls Tryz.prog 101 #[v0, v1] w fun e w' => ∃ v' u', e = .returned (.tuple #[v', u']) ∧ IsInt w.heap.size w' v' (p * (s : Int)) ∧ IsInt w.heap.size w' u' (r * (q : Int)) ∧ Ext w w' := by
  have H0 := Lib.hid h0
  have H1 := Lib.hid h1
  have HN0 := Lib.hid (fun W m a => inat_any W false m (limbs q) a (by omega))
  rw [val_limbs, show sgn false q = (q : Int) from rfl] at HN0
  have HN1 := Lib.hid (fun W m a => inat_any W false m (limbs s) a (by omega))
  rw [val_limbs, show sgn false s = (s : Int) from rfl] at HN1
  have HM0 := Lib.hid (fun W v u a b => imul_any W v u p (s : Int) a b (by omega) (by rw [limbs_nat_cast]; omega))
  have HM1 := Lib.hid (fun W v u a b => imul_any W v u r (q : Int) a b (by omega) (by rw [limbs_nat_cast]; omega))
  obtain ⟨b0, l0, A0, c0, k0, D0, e0, rfl⟩ := h0.shape
  obtain ⟨b1, l1, A1, c1, k1, D1, e1, rfl⟩ := h1.shape
  clear h0 h1
  go_enter Tryz.func101, Tryz.ntmps101
  go_wp2_with fail
  have hb0 := ((((Blk.new w 26 #[Value.bool b0, Value.slice A0 l0 c0, Value.slice D0 k0 e0]).alloc (.cells #[Value.bool b1, Value.slice A1 l1 c1, Value.slice D1 k1 e1] 26)).alloc (.cells #[Value.bool false, Value.slice none 0 0] 24)).alloc (.cells #[Value.bool false, Value.slice none 0 0] 24))
  have hb1 := (((Blk.new (w.alloc (.cells #[Value.bool b0, Value.slice A0 l0 c0, Value.slice D0 k0 e0] 26)) 26 #[Value.bool b1, Value.slice A1 l1 c1, Value.slice D1 k1 e1]).alloc (.cells #[Value.bool false, Value.slice none 0 0] 24)).alloc (.cells #[Value.bool false, Value.slice none 0 0] 24))
  have hb2 := ((Blk.new ((w.alloc (.cells #[Value.bool b0, Value.slice A0 l0 c0, Value.slice D0 k0 e0] 26)).alloc (.cells #[Value.bool b1, Value.slice A1 l1 c1, Value.slice D1 k1 e1] 26)) 24 #[Value.bool false, Value.slice none 0 0]).alloc (.cells #[Value.bool false, Value.slice none 0 0] 24))
  have hb3 := (Blk.new (((w.alloc (.cells #[Value.bool b0, Value.slice A0 l0 c0, Value.slice D0 k0 e0] 26)).alloc (.cells #[Value.bool b1, Value.slice A1 l1 c1, Value.slice D1 k1 e1] 26)).alloc (.cells #[Value.bool false, Value.slice none 0 0] 24)) 24 #[Value.bool false, Value.slice none 0 0])
  have hxo := (((((Ext.refl w).alloc (.cells #[Value.bool b0, Value.slice A0 l0 c0, Value.slice D0 k0 e0] 26)).alloc (.cells #[Value.bool b1, Value.slice A1 l1 c1, Value.slice D1 k1 e1] 26)).alloc (.cells #[Value.bool false, Value.slice none 0 0] 24)).alloc (.cells #[Value.bool false, Value.slice none 0 0] 24))
  have hszo : w.heap.size + 1 + 1 + 1 + 1 = ((((w.alloc (.cells #[Value.bool b0, Value.slice A0 l0 c0, Value.slice D0 k0 e0] 26)).alloc (.cells #[Value.bool b1, Value.slice A1 l1 c1, Value.slice D1 k1 e1] 26)).alloc (.cells #[Value.bool false, Value.slice none 0 0] 24)).alloc (.cells #[Value.bool false, Value.slice none 0 0] 24)).heap.size := by simp
  simp only [World.size_alloc] at hb1 hb2 hb3
  generalize (((w.alloc (.cells #[Value.bool b0, Value.slice A0 l0 c0, Value.slice D0 k0 e0] 26)).alloc (.cells #[Value.bool b1, Value.slice A1 l1 c1, Value.slice D1 k1 e1] 26)).alloc (.cells #[Value.bool false, Value.slice none 0 0] 24)).alloc (.cells #[Value.bool false, Value.slice none 0 0] 24) = wo at *
  obtain ⟨q0_0, q0_1, q0_2, _, _, _, _⟩ := hb0.three
  obtain ⟨q1_0, q1_1, q1_2, _, _, _, _⟩ := hb1.three
  obtain ⟨t20, t21, s20, s21, hgz2⟩ := hb2.two
  obtain ⟨t30, t31, s30, s31, hgz3⟩ := hb3.two
  clear hb0 hb1 hb2 hb3
  go_region_held3 (fun w' => Ext w w' ∧ w'.cell? ⟨w.heap.size, 0, none⟩ = some (Value.bool b0) ∧ w'.cell? ⟨w.heap.size, 1, none⟩ = some (Value.slice A0 l0 c0) ∧ w'.cell? ⟨w.heap.size, 2, none⟩ = some (Value.slice D0 k0 e0) ∧ w'.cell? ⟨w.heap.size + 1, 0, none⟩ = some (Value.bool b1) ∧ w'.cell? ⟨w.heap.size + 1, 1, none⟩ = some (Value.slice A1 l1 c1) ∧ w'.cell? ⟨w.heap.size + 1, 2, none⟩ = some (Value.slice D1 k1 e1) ∧ w'.cell? ⟨w.heap.size + 1 + 1, 0, none⟩ = some (was w' (w.heap.size + 1 + 1) 0) ∧ w'.cell? ⟨w.heap.size + 1 + 1, 1, none⟩ = some (was w' (w.heap.size + 1 + 1) 1) ∧ w'.cell? ⟨w.heap.size + 1 + 1 + 1, 0, none⟩ = some (was w' (w.heap.size + 1 + 1 + 1) 0) ∧ w'.cell? ⟨w.heap.size + 1 + 1 + 1, 1, none⟩ = some (was w' (w.heap.size + 1 + 1 + 1) 1) ∧ w'.frozen? ⟨w.heap.size + 1 + 1, 0, none⟩ = false ∧ w'.frozen? ⟨w.heap.size + 1 + 1, 1, none⟩ = false ∧ w'.frozen? ⟨w.heap.size + 1 + 1 + 1, 0, none⟩ = false ∧ w'.frozen? ⟨w.heap.size + 1 + 1 + 1, 1, none⟩ = false)
    (first | (exact ⟨hxo.drew, q0_0, q0_1, q0_2, q1_0, q1_1, q1_2, was_some (w := wo.drew) t20, was_some (w := wo.drew) t21, was_some (w := wo.drew) t30, was_some (w := wo.drew) t31, s20, s21, s30, s31⟩) | (exact keptD6 (by assumption) (by assumption)) | (exact keptD6_set (by assumption) (by omega) (by omega) (by omega) (by omega) (by omega) (by omega) (by omega)))
    (first
      | (go_at_call 82; have hchk3 := hz2; refine (HM1.out _ _ _ (H1.out.int.ext (And.left (by assumption))) R2.out.arr).mono ?_; rintro e w4 ⟨r3, rfl, hi3, hx3⟩; have hz3 := hx3.size; have R0 := Lib.hid (R0.out.ext hx3); have R1 := Lib.hid (R1.out.ext hx3); have R2 := Lib.hid (R2.out.ext hx3); have R3 := Lib.hid hi3; obtain ⟨f3, g3, G3, j3, rfl⟩ := hi3.shape)
      | (go_at_call 77; have hchk2 := hz1; refine (HN0.out _ _ (H0.out.den.ext (And.left (by assumption)))).mono ?_; rintro e w3 ⟨r2, rfl, hi2, hx2⟩; have hz2 := hx2.size; have R0 := Lib.hid (R0.out.ext hx2); have R1 := Lib.hid (R1.out.ext hx2); have R2 := Lib.hid hi2; obtain ⟨f2, g2, G2, j2, rfl⟩ := hi2.shape)
      | (go_at_call 82; have hchk1 := hz0; refine (HM0.out _ _ _ (H0.out.int.ext (And.left (by assumption))) R0.out.arr).mono ?_; rintro e w2 ⟨r1, rfl, hi1, hx1⟩; have hz1 := hx1.size; have R0 := Lib.hid (R0.out.ext hx1); have R1 := Lib.hid hi1; obtain ⟨f1, g1, G1, j1, rfl⟩ := hi1.shape)
      | (go_at_call 77; refine (HN1.out _ _ (H1.out.den.ext (And.left (by assumption)))).mono ?_; rintro e w1 ⟨r0, rfl, hi0, hx0⟩; have hz0 := hx0.size; have R0 := Lib.hid hi0; obtain ⟨f0, g0, G0, j0, rfl⟩ := hi0.shape))
  all_goals go_wp2_with fail
  rename_i hS
  obtain ⟨hE, _, _, _, _, _, _, c0, c1, c2, c3, _, _, _, _⟩ := hS
  simp only [World.size_drew] at hz0
  obtain ⟨hr0, hr1, hr2, hr3⟩ := final22 c0 c1 c2 c3 (by omega)
  refine bodyPost_ret (v := .tuple #[.agg #[.bool f1, .slice G1 g1 j1], .agg #[.bool f3, .slice G3 g3 j3]]) (by simp only [results, Tryz.results101, hr0, hr1, hr2, hr3, go_sem]; simp [hr0, hr1, hr2, hr3, go_sem]) rfl ?_
  exact ⟨_, _, rfl, ((((R1.out.far (show w.heap.size + 1 + 1 < _ by omega) _).far (show w.heap.size + 1 + 1 < _ by omega) _).far (show w.heap.size + 1 + 1 + 1 < _ by omega) _).far (show w.heap.size + 1 + 1 + 1 < _ by omega) _).mono (by omega), ((((R3.out.far (show w.heap.size + 1 + 1 < _ by omega) _).far (show w.heap.size + 1 + 1 < _ by omega) _).far (show w.heap.size + 1 + 1 + 1 < _ by omega) _).far (show w.heap.size + 1 + 1 + 1 < _ by omega) _).mono (by omega), hE⟩
end Big
end Go.Proofs.YtplmldkfgeiklaaGreatDoor
