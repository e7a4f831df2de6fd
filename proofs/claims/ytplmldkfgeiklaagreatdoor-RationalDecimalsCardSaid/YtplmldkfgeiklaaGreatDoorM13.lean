import Derived.Test.YtplmldkfgeiklaaGreatDoorM10
import Derived.Test.YtplmldkfgeiklaaGreatDoorM12
import Derived.Test.YtplmldkfgeiklaaGreatDoorM6
import Derived.Test.YtplmldkfgeiklaaGreatDoorM7
import Derived.Test.YtplmldkfgeiklaaGreatDoorM11
/- root.Lowest, rational.scaled. -/
namespace Go.Proofs.YtplmldkfgeiklaaGreatDoor
namespace Big
open Go.RowKit
theorem lowest_zero (w : World) (v u : Value) (ys : List Nat) (h' : Arr w u ys) (hn' : ys.length ≤ 134217728) (hy : val ys = 0) :
    Calls Tryz.prog 133 #[v, u] w fun e w' => e = .returned (.tuple #[.slice none 0 0, .slice none 0 0, .bool false]) ∧ w = w' := by
  have HB := Lib.hid (bits_any w u ys h' hn')
  rw [bitsN_zero.2 hy] at HB
  clear h' hy
  go_enter Tryz.func133, Tryz.ntmps133
  go_wp2_with fail
  refine HB.out.mono ?_
  rintro e w1 ⟨rfl, rfl⟩
  go_wp2_with fail
  go_ret3
  exact ⟨rfl, rfl⟩
theorem limbs_div (X g : Nat) : (limbs (X / g)).length ≤ (limbs X).length := limbs_mono (Nat.div_le_self _ _)
/-- What root.Lowest promises. -/
def LowPost (X Y : Nat) (w : World) (e : Ending) (w' : World) : Prop :=
  ∃ v' u', e = .returned (.tuple #[v', u', .bool true]) ∧ Own w.heap.size w' v' (limbs (X / Nat.gcd X Y)) ∧ Own w.heap.size w' u' (limbs (Y / Nat.gcd X Y)) ∧ Ext w w'
theorem lowest_any (w : World) (v u : Value) (xs ys : List Nat) (h : Arr w v xs) (h' : Arr w u ys) (hn : xs.length ≤ 134217728) (hn' : ys.length ≤ 134217728) (hy : val ys ≠ 0) :
    Calls Tryz.prog 133 #[v, u] w (LowPost (val xs) (val ys) w) := by
  have HB := Lib.hid (bits_any w u ys h' hn')
  have hb0 : bitsN (val ys) ≠ 0 := fun e => hy (bitsN_zero.1 e)
  have HG := Lib.hid (gcd_any w v u xs ys h h' hn hn')
  have hgl : (limbs (Nat.gcd (val xs) (val ys))).length ≤ 134217728 := Nat.le_trans (limbs_mono (Nat.gcd_le_right _ (Nat.pos_of_ne_zero hy))) (Nat.le_trans (length_limbs_val h'.ok) hn')
  have hg0 : Nat.gcd (val xs) (val ys) ≠ 0 := fun e => hy (Nat.gcd_eq_zero_iff.1 e).2
  have HD1 := Lib.hid (fun W z hx a => qdivmod_any W v z xs (limbs (Nat.gcd (val xs) (val ys))) (h.ext hx) a hn hgl (by rw [val_limbs]; exact hg0))
  have HD2 := Lib.hid (fun W z hx a => qdivmod_any W u z ys (limbs (Nat.gcd (val xs) (val ys))) (h'.ext hx) a hn' hgl (by rw [val_limbs]; exact hg0))
  rw [val_limbs] at HD1 HD2
  obtain ⟨nv, Av, cv, rfl⟩ := h.shape
  obtain ⟨nu, Au, cu, rfl⟩ := h'.shape
  generalize val xs = X at *
  generalize val ys = Y at *
  have hbb : ((bitsN Y : Int) == 0) = false := by rw [beq_eq_false_iff_ne]; omega
  generalize bitsN Y = bY at *
  clear h h' hn hn' hy hg0 hgl hb0
  go_enter Tryz.func133, Tryz.ntmps133
  go_wp2_with fail
  refine HB.out.mono ?_
  rintro e w1 ⟨rfl, rfl⟩
  go_wp2_with fail
  refine HG.out.mono ?_
  rintro e w1 ⟨v1, rfl, ho1, hx1⟩
  have HX1 := Lib.hid hx1
  have HO1 := Lib.hid ho1
  obtain ⟨n1, A1, c1, rfl⟩ := ho1.shape
  clear ho1 hx1
  go_wp2_with fail
  refine (HD1.out _ _ HX1.out HO1.out.arr).mono ?_
  rintro e w2 ⟨v2, u2, rfl, ho2, hr2, hx2⟩
  have HX2 := Lib.hid (HX1.out.trans hx2)
  have HO2 := Lib.hid (ho2.mono HX1.out.size)
  have HO1' := Lib.hid (HO1.out.ext hx2)
  obtain ⟨n2, A2, c2, rfl⟩ := ho2.shape
  obtain ⟨n2', A2', c2', rfl⟩ := hr2.shape
  clear ho2 hr2 hx2
  go_wp2_with fail
  refine (HD2.out _ _ HX2.out HO1'.out.arr).mono ?_
  rintro e w3 ⟨v3, u3, rfl, ho3, hr3, hx3⟩
  have HX3 := Lib.hid (HX2.out.trans hx3)
  have HO3 := Lib.hid (ho3.mono HX2.out.size)
  have HO2' := Lib.hid (HO2.out.ext hx3)
  obtain ⟨n3, A3, c3, rfl⟩ := ho3.shape
  obtain ⟨n3', A3', c3', rfl⟩ := hr3.shape
  clear ho3 hr3 hx3
  go_wp2_with fail
  go_ret3
  exact ⟨_, _, rfl, HO2'.out, HO3.out, HX3.out⟩

/-- What rational.scaled promises. -/
def ScaledPost (xs : List Nat) (m n : Nat) (w : World) (e : Ending) (w' : World) : Prop :=
  ∃ v' zs, e = .returned v' ∧ Arr w' v' zs ∧ val zs = val xs * m ^ n ∧ zs.length ≤ xs.length + n ∧ Ext w w'
/-- What it holds with k steps to come. -/
def ScaledAt (w wr : World) (xs : List Nat) (m n k : Nat) (v : Value) : Prop :=
  ∃ zs, Arr wr v zs ∧ val zs * m ^ k = val xs * m ^ n ∧ zs.length + k ≤ xs.length + n ∧ Ext w wr
theorem ScaledAt.shape {w wr : World} {xs : List Nat} {m n k : Nat} {v : Value} (h : ScaledAt w wr xs m n k v) : ∃ n A c, v = .slice A n c := by
  obtain ⟨zs, h1, _⟩ := h
  exact h1.shape
theorem ScaledAt.step {w wr w' : World} {xs zs : List Nat} {m n k j a : Nat} {v : Value} (hk : k = j + a) (ha : 1 ≤ a) (hv : val zs * m ^ k = val xs * m ^ n) (hl : zs.length + k ≤ xs.length + n) (hx : Ext w wr) (hok : Ok zs)
    (ho : Own wr.heap.size w' v (limbs (val zs * m ^ a + 0))) (hm : m ^ a < 4294967296) (hx' : Ext wr w') : ScaledAt w w' xs m n j v := by
  refine ⟨_, ho.arr, ?_, ?_, hx.trans hx'⟩
  · rw [val_limbs, Nat.add_zero, Nat.mul_assoc, ← Nat.pow_add, Nat.add_comm a j, ← hk, hv]
  · have := length_limbs_mul hok hm (c := 0) (by omega)
    omega
theorem scaled_5 (w : World) (v : Value) (xs : List Nat) (n : Nat) (h : Arr w v xs) (hn : xs.length ≤ 67108864) (hn' : n ≤ 67108864) :
    Calls Tryz.prog 66 #[v, .int .u32 5, .int .i64 (n : Int)] w (ScaledPost xs 5 n w) := by
  have HA := Lib.hid h
  obtain ⟨nv, Av, cv, rfl⟩ := h.shape
  clear h
  go_enter Tryz.func66, Tryz.ntmps66
  go_wp2_with fail
  go_loopw [0, 2] (fun s0 s2 wr => ∃ k : Nat, k ≤ n ∧ s2 = .int .i64 (k : Int) ∧ ScaledAt w wr xs 5 n k s0) (fun _ s2 _ => (intOf s2).toNat)
  case atStart => exact ⟨n, Nat.le_refl _, rfl, xs, HA.out, rfl, Nat.le_refl _, Ext.refl _⟩
  case round =>
    obtain ⟨k, hk, rfl, hat⟩ := hrel
    obtain ⟨ns, As, cs, rfl⟩ := hat.shape
    have HAT := Lib.hid hat
    obtain ⟨zs, ha, hv, hl, hx⟩ := hat
    have hzl : zs.length ≤ 536870912 := by omega
    by_cases h9 : 9 ≤ k
    · obtain ⟨j, rfl⟩ : ∃ j, k = j + 9 := ⟨k - 9, by omega⟩
      have HP := Lib.hid (psmall_any wr _ zs 1953125 0 ha hzl (by decide) (by decide))
      rw [show ((1953125 : Nat) : Int) = 1953125 from rfl, show ((0 : Nat) : Int) = 0 from rfl] at HP
      have HST := Lib.hid (fun w' v' ho hx' => ScaledAt.step (w' := w') (v := v') (j := j) (a := 9) rfl (by omega) hv hl hx ha.ok ho (by decide) hx')
      rw [show (5 : Nat) ^ 9 = 1953125 from rfl] at HST
      clear ha hv hl hx
      go_wp2_with fail
      refine HP.out.mono ?_
      rintro e w2 ⟨v2, rfl, ho2, hx2⟩
      have HS2 := Lib.hid (HST.out _ _ ho2 hx2)
      obtain ⟨n2, A2, c2, rfl⟩ := ho2.shape
      clear ho2 hx2
      go_wp2_with fail
      go_roundw
      case rel => exact ⟨j, by omega, by go_num, HS2.out⟩
      case measure => simp [intOf]; omega
    · clear ha hv hl hx hzl
      go_wp2_with fail
      go_loopw [0, 2] (fun s0 s2 wr => ∃ k : Nat, k ≤ n ∧ s2 = .int .i64 (k : Int) ∧ ScaledAt w wr xs 5 n k s0) (fun _ s2 _ => (intOf s2).toNat)
      case atStart => exact ⟨k, hk, rfl, HAT.out⟩
      case round =>
        clear hk h9 HAT
        obtain ⟨k, hk, rfl, hat⟩ := hrel
        obtain ⟨ns, As, cs, rfl⟩ := hat.shape
        have HAT := Lib.hid hat
        obtain ⟨zs, ha, hv, hl, hx⟩ := hat
        have hzl : zs.length ≤ 536870912 := by omega
        rcases Nat.eq_zero_or_pos k with h0 | h0
        · subst h0
          have HF : Hid (ScaledPost xs 5 n w (.returned (.slice As ns cs)) wr) := Lib.hid ⟨_, zs, rfl, ha, by rw [← hv]; simp, by omega, hx⟩
          clear ha hv hl hx hzl
          go_wp2_with fail
          go_ret
          exact HF.out
        · obtain ⟨j, rfl⟩ : ∃ j, k = j + 1 := ⟨k - 1, by omega⟩
          have HP := Lib.hid (psmall_any wr _ zs 5 0 ha hzl (by decide) (by decide))
          rw [show ((5 : Nat) : Int) = 5 from rfl, show ((0 : Nat) : Int) = 0 from rfl] at HP
          have HST := Lib.hid (fun w' v' ho hx' => ScaledAt.step (w' := w') (v := v') (j := j) (a := 1) rfl (by omega) hv hl hx ha.ok ho (by decide) hx')
          rw [Nat.pow_one] at HST
          clear ha hv hl hx
          go_wp2_with fail
          refine HP.out.mono ?_
          rintro e w2 ⟨v2, rfl, ho2, hx2⟩
          have HS2 := Lib.hid (HST.out _ _ ho2 hx2)
          obtain ⟨n2, A2, c2, rfl⟩ := ho2.shape
          clear ho2 hx2
          go_wp2_with fail
          go_roundw
          case rel => exact ⟨j, by omega, by go_num, HS2.out⟩
          case measure => simp [intOf]
theorem scaled_10 (w : World) (v : Value) (xs : List Nat) (n : Nat) (h : Arr w v xs) (hn : xs.length ≤ 67108864) (hn' : n ≤ 67108864) :
    Calls Tryz.prog 66 #[v, .int .u32 10, .int .i64 (n : Int)] w (ScaledPost xs 10 n w) := by
  have HA := Lib.hid h
  obtain ⟨nv, Av, cv, rfl⟩ := h.shape
  clear h
  go_enter Tryz.func66, Tryz.ntmps66
  go_wp2_with fail
  go_loopw [0, 2] (fun s0 s2 wr => ∃ k : Nat, k ≤ n ∧ s2 = .int .i64 (k : Int) ∧ ScaledAt w wr xs 10 n k s0) (fun _ s2 _ => (intOf s2).toNat)
  case atStart => exact ⟨n, Nat.le_refl _, rfl, xs, HA.out, rfl, Nat.le_refl _, Ext.refl _⟩
  case round =>
    obtain ⟨k, hk, rfl, hat⟩ := hrel
    obtain ⟨ns, As, cs, rfl⟩ := hat.shape
    have HAT := Lib.hid hat
    obtain ⟨zs, ha, hv, hl, hx⟩ := hat
    have hzl : zs.length ≤ 536870912 := by omega
    by_cases h9 : 9 ≤ k
    · obtain ⟨j, rfl⟩ : ∃ j, k = j + 9 := ⟨k - 9, by omega⟩
      have HP := Lib.hid (psmall_any wr _ zs 1000000000 0 ha hzl (by decide) (by decide))
      rw [show ((1000000000 : Nat) : Int) = 1000000000 from rfl, show ((0 : Nat) : Int) = 0 from rfl] at HP
      have HST := Lib.hid (fun w' v' ho hx' => ScaledAt.step (w' := w') (v := v') (j := j) (a := 9) rfl (by omega) hv hl hx ha.ok ho (by decide) hx')
      rw [show (10 : Nat) ^ 9 = 1000000000 from rfl] at HST
      clear ha hv hl hx
      go_wp2_with fail
      refine HP.out.mono ?_
      rintro e w2 ⟨v2, rfl, ho2, hx2⟩
      have HS2 := Lib.hid (HST.out _ _ ho2 hx2)
      obtain ⟨n2, A2, c2, rfl⟩ := ho2.shape
      clear ho2 hx2
      go_wp2_with fail
      go_roundw
      case rel => exact ⟨j, by omega, by go_num, HS2.out⟩
      case measure => simp [intOf]; omega
    · clear ha hv hl hx hzl
      go_wp2_with fail
      go_loopw [0, 2] (fun s0 s2 wr => ∃ k : Nat, k ≤ n ∧ s2 = .int .i64 (k : Int) ∧ ScaledAt w wr xs 10 n k s0) (fun _ s2 _ => (intOf s2).toNat)
      case atStart => exact ⟨k, hk, rfl, HAT.out⟩
      case round =>
        clear hk h9 HAT
        obtain ⟨k, hk, rfl, hat⟩ := hrel
        obtain ⟨ns, As, cs, rfl⟩ := hat.shape
        have HAT := Lib.hid hat
        obtain ⟨zs, ha, hv, hl, hx⟩ := hat
        have hzl : zs.length ≤ 536870912 := by omega
        rcases Nat.eq_zero_or_pos k with h0 | h0
        · subst h0
          have HF : Hid (ScaledPost xs 10 n w (.returned (.slice As ns cs)) wr) := Lib.hid ⟨_, zs, rfl, ha, by rw [← hv]; simp, by omega, hx⟩
          clear ha hv hl hx hzl
          go_wp2_with fail
          go_ret
          exact HF.out
        · obtain ⟨j, rfl⟩ : ∃ j, k = j + 1 := ⟨k - 1, by omega⟩
          have HP := Lib.hid (psmall_any wr _ zs 10 0 ha hzl (by decide) (by decide))
          rw [show ((10 : Nat) : Int) = 10 from rfl, show ((0 : Nat) : Int) = 0 from rfl] at HP
          have HST := Lib.hid (fun w' v' ho hx' => ScaledAt.step (w' := w') (v := v') (j := j) (a := 1) rfl (by omega) hv hl hx ha.ok ho (by decide) hx')
          rw [Nat.pow_one] at HST
          clear ha hv hl hx
          go_wp2_with fail
          refine HP.out.mono ?_
          rintro e w2 ⟨v2, rfl, ho2, hx2⟩
          have HS2 := Lib.hid (HST.out _ _ ho2 hx2)
          obtain ⟨n2, A2, c2, rfl⟩ := ho2.shape
          clear ho2 hx2
          go_wp2_with fail
          go_roundw
          case rel => exact ⟨j, by omega, by go_num, HS2.out⟩
          case measure => simp [intOf]
end Big
end Go.Proofs.YtplmldkfgeiklaaGreatDoor
/- rational.lowest. -/
namespace Go.Proofs.YtplmldkfgeiklaaGreatDoor
namespace Big
open Go.RowKit
set_option maxRecDepth 100000 in
theorem lowestR_any (w : World) (v u : Value) (z : Int) (ys : List Nat) (h : ArrInt w v z) (h' : Arr w u ys) (hn : (limbs z.natAbs).length ≤ 134217728) (hn' : ys.length ≤ 134217728) (hy : val ys ≠ 0) :
    Calls Tryz.prog 76 #[v, u] w fun e w' => ∃ v', e = .returned v' ∧ IsRat w.heap.size w' v' (lowN z (val ys)) (lowD z (val ys)) ∧ Ext w w' := by
  have HA := Lib.hid h
  have HB := Lib.hid h'
  obtain ⟨b, n, A, c, rfl⟩ := h.shape
  have HL := Lib.hid (fun W hx => lowest_any W (.slice A n c) u (limbs z.natAbs) ys (h.mag.ext hx) (h'.ext hx) hn hn' hy)
  rw [val_limbs] at HL
  have HI := Lib.hid (fun W m a => inat_any W b m (limbs (z.natAbs / Nat.gcd z.natAbs (val ys))) a (Nat.le_trans (limbs_div _ _) (by omega)))
  rw [val_limbs] at HI
  have HS := Lib.hid h.sign
  clear h h'
  go_enter Tryz.func76, Tryz.ntmps76
  go_wp2_with fail
  have hb0 := (Blk.new w 24 #[Value.bool b, Value.slice A n c]).alloc (.cells #[Value.bool false, Value.slice none 0 0, Value.slice none 0 0] 26)
  have hb1 := Blk.new (w.alloc (.cells #[Value.bool b, Value.slice A n c] 24)) 26 #[Value.bool false, Value.slice none 0 0, Value.slice none 0 0]
  have hxo := ((Ext.refl w).alloc (.cells #[Value.bool b, Value.slice A n c] 24)).alloc (.cells #[Value.bool false, Value.slice none 0 0, Value.slice none 0 0] 26)
  have hszo : w.heap.size + 1 < ((w.alloc (.cells #[Value.bool b, Value.slice A n c] 24)).alloc (.cells #[Value.bool false, Value.slice none 0 0, Value.slice none 0 0] 26)).heap.size := by simp
  simp only [World.size_alloc] at hb1
  generalize (w.alloc (.cells #[Value.bool b, Value.slice A n c] 24)).alloc (.cells #[Value.bool false, Value.slice none 0 0, Value.slice none 0 0] 26) = wo at *
  refine (HL.out _ hxo).mono ?_
  rintro e w1 ⟨v1, u1, rfl, ho1, hr1, hx1⟩
  have hk0 := hb0.ext hx1
  have hk1 := hb1.ext hx1
  have HO1 := Lib.hid ho1
  have HR1 := Lib.hid hr1
  obtain ⟨n1, A1, c1, rfl⟩ := ho1.shape
  obtain ⟨n2, A2, c2, rfl⟩ := hr1.shape
  obtain ⟨h0, h1, _, _, _⟩ := hk0.two
  have HK1 := Lib.hid hk1
  have HX1 := Lib.hid (hxo.trans hx1)
  have HSZ := Lib.hid hx1.size
  clear hb0 hb1 hx1 ho1 hr1 hk0 hk1 hxo
  go_wp2_with fail
  refine (HI.out _ _ HO1.out.arr).mono ?_
  rintro e w2 ⟨v2, rfl, hi2, hx2⟩
  have HI2 := Lib.hid hi2
  have HR2 := Lib.hid (HR1.out.ext hx2)
  have hk1 := HK1.out.ext hx2
  obtain ⟨b3, n3, A3, c3, rfl⟩ := hi2.shape
  obtain ⟨k0, k1, k2, f0, f1, f2, hgz⟩ := hk1.three
  have HX2 := Lib.hid (HX1.out.trans hx2)
  have HK2 := Lib.hid hk1
  clear hi2 hx2 hk1
  go_wp2_with fail
  obtain ⟨hr0, hr1, hr2⟩ := three_set HK2.out (.bool b3) (.slice A3 n3 c3) (.slice A2 n2 c2)
  refine bodyPost_ret (v := .agg #[.bool b3, .slice A3 n3 c3, .slice A2 n2 c2]) (by simp [results, Tryz.results76, go_sem, hr0, hr1, hr2]) rfl ?_
  have hfin : IsRat wo.heap.size w2 (.agg #[.bool b3, .slice A3 n3 c3, .slice A2 n2 c2]) (lowN z (val ys)) (lowD z (val ys)) := IsRat.mk (by
    have h1 := HI2.out.mono HSZ.out
    rw [HS.out] at h1
    exact h1) HR2.out
  exact ⟨_, rfl, hfin.put hszo (by omega), ((HX2.out.setCell (Nat.le_succ _) _).setCell (Nat.le_succ _) _).setCell (Nat.le_succ _) _⟩
end Big
end Go.Proofs.YtplmldkfgeiklaaGreatDoor
/- Fractions, the program's side. Printed by a program. -/
namespace Go.Proofs.YtplmldkfgeiklaaGreatDoor
namespace Big
open Go.RowKit
theorem final22 {w : World} {g g' : Nat} {a b c d u0 u1 u2 u3 : Value}
    (h0 : ((((w.setCell ⟨g, 0, none⟩ a).setCell ⟨g, 1, none⟩ b).setCell ⟨g', 0, none⟩ c).setCell ⟨g', 1, none⟩ d).cell? ⟨g, 0, none⟩ = some u0)
    (h1 : ((((w.setCell ⟨g, 0, none⟩ a).setCell ⟨g, 1, none⟩ b).setCell ⟨g', 0, none⟩ c).setCell ⟨g', 1, none⟩ d).cell? ⟨g, 1, none⟩ = some u1)
    (h2 : ((((w.setCell ⟨g, 0, none⟩ a).setCell ⟨g, 1, none⟩ b).setCell ⟨g', 0, none⟩ c).setCell ⟨g', 1, none⟩ d).cell? ⟨g', 0, none⟩ = some u2)
    (h3 : ((((w.setCell ⟨g, 0, none⟩ a).setCell ⟨g, 1, none⟩ b).setCell ⟨g', 0, none⟩ c).setCell ⟨g', 1, none⟩ d).cell? ⟨g', 1, none⟩ = some u3) (hne : g ≠ g') :
    ((((w.setCell ⟨g, 0, none⟩ a).setCell ⟨g, 1, none⟩ b).setCell ⟨g', 0, none⟩ c).setCell ⟨g', 1, none⟩ d).cell? ⟨g, 0, none⟩ = some a ∧
    ((((w.setCell ⟨g, 0, none⟩ a).setCell ⟨g, 1, none⟩ b).setCell ⟨g', 0, none⟩ c).setCell ⟨g', 1, none⟩ d).cell? ⟨g, 1, none⟩ = some b ∧
    ((((w.setCell ⟨g, 0, none⟩ a).setCell ⟨g, 1, none⟩ b).setCell ⟨g', 0, none⟩ c).setCell ⟨g', 1, none⟩ d).cell? ⟨g', 0, none⟩ = some c ∧
    ((((w.setCell ⟨g, 0, none⟩ a).setCell ⟨g, 1, none⟩ b).setCell ⟨g', 0, none⟩ c).setCell ⟨g', 1, none⟩ d).cell? ⟨g', 1, none⟩ = some d := by
  obtain ⟨_, k0⟩ := cell_before h0
  obtain ⟨_, k0⟩ := cell_before k0
  obtain ⟨_, k0⟩ := cell_before k0
  obtain ⟨_, k0⟩ := cell_before k0
  obtain ⟨_, k1⟩ := cell_before h1
  obtain ⟨_, k1⟩ := cell_before k1
  obtain ⟨_, k1⟩ := cell_before k1
  obtain ⟨_, k2⟩ := cell_before h2
  obtain ⟨_, k2⟩ := cell_before k2
  obtain ⟨_, k3⟩ := cell_before h3
  refine ⟨?_, ?_, ?_, World.cell?_setCell_same _ _ _ k3⟩
  · rw [World.cell?_setCell_other _ _ _ _ (by intro e; injection e with e; exact hne e.symm), World.cell?_setCell_other _ _ _ _ (by intro e; injection e with e; exact hne e.symm), World.cell?_setCell_other _ _ _ _ (by intro e; injection e with _ e; cases e)]
    exact World.cell?_setCell_same _ _ _ k0
  · rw [World.cell?_setCell_other _ _ _ _ (by intro e; injection e with e; exact hne e.symm), World.cell?_setCell_other _ _ _ _ (by intro e; injection e with e; exact hne e.symm)]
    exact World.cell?_setCell_same _ _ _ k1
  · rw [World.cell?_setCell_other _ _ _ _ (by intro e; injection e with _ e; cases e)]
    exact World.cell?_setCell_same _ _ _ k2
theorem keptD6 {w w1 w2 : World} {g g' b0 o0 b1 o1 b2 o2 b3 o3 b4 o4 b5 o5 : Nat} {u0 u1 u2 u3 u4 u5 : Value} (h : Ext w w1 ∧ w1.cell? ⟨b0, o0, none⟩ = some u0 ∧ w1.cell? ⟨b1, o1, none⟩ = some u1 ∧ w1.cell? ⟨b2, o2, none⟩ = some u2 ∧ w1.cell? ⟨b3, o3, none⟩ = some u3 ∧ w1.cell? ⟨b4, o4, none⟩ = some u4 ∧ w1.cell? ⟨b5, o5, none⟩ = some u5 ∧ w1.cell? ⟨g, 0, none⟩ = some (was w1 g 0) ∧ w1.cell? ⟨g, 1, none⟩ = some (was w1 g 1) ∧ w1.cell? ⟨g', 0, none⟩ = some (was w1 g' 0) ∧ w1.cell? ⟨g', 1, none⟩ = some (was w1 g' 1) ∧ w1.frozen? ⟨g, 0, none⟩ = false ∧ w1.frozen? ⟨g, 1, none⟩ = false ∧ w1.frozen? ⟨g', 0, none⟩ = false ∧ w1.frozen? ⟨g', 1, none⟩ = false) (hx : Ext w1 w2) : Ext w w2 ∧ w2.cell? ⟨b0, o0, none⟩ = some u0 ∧ w2.cell? ⟨b1, o1, none⟩ = some u1 ∧ w2.cell? ⟨b2, o2, none⟩ = some u2 ∧ w2.cell? ⟨b3, o3, none⟩ = some u3 ∧ w2.cell? ⟨b4, o4, none⟩ = some u4 ∧ w2.cell? ⟨b5, o5, none⟩ = some u5 ∧ w2.cell? ⟨g, 0, none⟩ = some (was w2 g 0) ∧ w2.cell? ⟨g, 1, none⟩ = some (was w2 g 1) ∧ w2.cell? ⟨g', 0, none⟩ = some (was w2 g' 0) ∧ w2.cell? ⟨g', 1, none⟩ = some (was w2 g' 1) ∧ w2.frozen? ⟨g, 0, none⟩ = false ∧ w2.frozen? ⟨g, 1, none⟩ = false ∧ w2.frozen? ⟨g', 0, none⟩ = false ∧ w2.frozen? ⟨g', 1, none⟩ = false :=
  ⟨h.1.trans hx, hx.keep h.2.1, hx.keep h.2.2.1, hx.keep h.2.2.2.1, hx.keep h.2.2.2.2.1, hx.keep h.2.2.2.2.2.1, hx.keep h.2.2.2.2.2.2.1, was_some (hx.keep h.2.2.2.2.2.2.2.1), was_some (hx.keep h.2.2.2.2.2.2.2.2.1), was_some (hx.keep h.2.2.2.2.2.2.2.2.2.1), was_some (hx.keep h.2.2.2.2.2.2.2.2.2.2.1), hx.keepf h.2.2.2.2.2.2.2.1 h.2.2.2.2.2.2.2.2.2.2.2.1, hx.keepf h.2.2.2.2.2.2.2.2.1 h.2.2.2.2.2.2.2.2.2.2.2.2.1, hx.keepf h.2.2.2.2.2.2.2.2.2.1 h.2.2.2.2.2.2.2.2.2.2.2.2.2.1, hx.keepf h.2.2.2.2.2.2.2.2.2.2.1 h.2.2.2.2.2.2.2.2.2.2.2.2.2.2⟩
theorem keptD6_set {w w1 : World} {g g' g0 b0 o0 b1 o1 b2 o2 b3 o3 b4 o4 b5 o5 : Nat} {u0 u1 u2 u3 u4 u5 : Value} {x0 x1 : Value} (h : Ext w w1 ∧ w1.cell? ⟨b0, o0, none⟩ = some u0 ∧ w1.cell? ⟨b1, o1, none⟩ = some u1 ∧ w1.cell? ⟨b2, o2, none⟩ = some u2 ∧ w1.cell? ⟨b3, o3, none⟩ = some u3 ∧ w1.cell? ⟨b4, o4, none⟩ = some u4 ∧ w1.cell? ⟨b5, o5, none⟩ = some u5 ∧ w1.cell? ⟨g, 0, none⟩ = some (was w1 g 0) ∧ w1.cell? ⟨g, 1, none⟩ = some (was w1 g 1) ∧ w1.cell? ⟨g', 0, none⟩ = some (was w1 g' 0) ∧ w1.cell? ⟨g', 1, none⟩ = some (was w1 g' 1) ∧ w1.frozen? ⟨g, 0, none⟩ = false ∧ w1.frozen? ⟨g, 1, none⟩ = false ∧ w1.frozen? ⟨g', 0, none⟩ = false ∧ w1.frozen? ⟨g', 1, none⟩ = false) (hg : w.heap.size ≤ g0) (n0 : b0 ≠ g0) (n1 : b1 ≠ g0) (n2 : b2 ≠ g0) (n3 : b3 ≠ g0) (n4 : b4 ≠ g0) (n5 : b5 ≠ g0) : Ext w ((w1.setCell ⟨g0, 0, none⟩ x0).setCell ⟨g0, 1, none⟩ x1) ∧ ((w1.setCell ⟨g0, 0, none⟩ x0).setCell ⟨g0, 1, none⟩ x1).cell? ⟨b0, o0, none⟩ = some u0 ∧ ((w1.setCell ⟨g0, 0, none⟩ x0).setCell ⟨g0, 1, none⟩ x1).cell? ⟨b1, o1, none⟩ = some u1 ∧ ((w1.setCell ⟨g0, 0, none⟩ x0).setCell ⟨g0, 1, none⟩ x1).cell? ⟨b2, o2, none⟩ = some u2 ∧ ((w1.setCell ⟨g0, 0, none⟩ x0).setCell ⟨g0, 1, none⟩ x1).cell? ⟨b3, o3, none⟩ = some u3 ∧ ((w1.setCell ⟨g0, 0, none⟩ x0).setCell ⟨g0, 1, none⟩ x1).cell? ⟨b4, o4, none⟩ = some u4 ∧ ((w1.setCell ⟨g0, 0, none⟩ x0).setCell ⟨g0, 1, none⟩ x1).cell? ⟨b5, o5, none⟩ = some u5 ∧ ((w1.setCell ⟨g0, 0, none⟩ x0).setCell ⟨g0, 1, none⟩ x1).cell? ⟨g, 0, none⟩ = some (was ((w1.setCell ⟨g0, 0, none⟩ x0).setCell ⟨g0, 1, none⟩ x1) g 0) ∧ ((w1.setCell ⟨g0, 0, none⟩ x0).setCell ⟨g0, 1, none⟩ x1).cell? ⟨g, 1, none⟩ = some (was ((w1.setCell ⟨g0, 0, none⟩ x0).setCell ⟨g0, 1, none⟩ x1) g 1) ∧ ((w1.setCell ⟨g0, 0, none⟩ x0).setCell ⟨g0, 1, none⟩ x1).cell? ⟨g', 0, none⟩ = some (was ((w1.setCell ⟨g0, 0, none⟩ x0).setCell ⟨g0, 1, none⟩ x1) g' 0) ∧ ((w1.setCell ⟨g0, 0, none⟩ x0).setCell ⟨g0, 1, none⟩ x1).cell? ⟨g', 1, none⟩ = some (was ((w1.setCell ⟨g0, 0, none⟩ x0).setCell ⟨g0, 1, none⟩ x1) g' 1) ∧ ((w1.setCell ⟨g0, 0, none⟩ x0).setCell ⟨g0, 1, none⟩ x1).frozen? ⟨g, 0, none⟩ = false ∧ ((w1.setCell ⟨g0, 0, none⟩ x0).setCell ⟨g0, 1, none⟩ x1).frozen? ⟨g, 1, none⟩ = false ∧ ((w1.setCell ⟨g0, 0, none⟩ x0).setCell ⟨g0, 1, none⟩ x1).frozen? ⟨g', 0, none⟩ = false ∧ ((w1.setCell ⟨g0, 0, none⟩ x0).setCell ⟨g0, 1, none⟩ x1).frozen? ⟨g', 1, none⟩ = false := by
  obtain ⟨_, k0⟩ := set_was (g := g0) (i := 0) (u := x0) h.2.2.2.2.2.2.2.1
  obtain ⟨_, k0⟩ := set_was (g := g0) (i := 1) (u := x1) k0
  obtain ⟨_, k1⟩ := set_was (g := g0) (i := 0) (u := x0) h.2.2.2.2.2.2.2.2.1
  obtain ⟨_, k1⟩ := set_was (g := g0) (i := 1) (u := x1) k1
  obtain ⟨_, k2⟩ := set_was (g := g0) (i := 0) (u := x0) h.2.2.2.2.2.2.2.2.2.1
  obtain ⟨_, k2⟩ := set_was (g := g0) (i := 1) (u := x1) k2
  obtain ⟨_, k3⟩ := set_was (g := g0) (i := 0) (u := x0) h.2.2.2.2.2.2.2.2.2.2.1
  obtain ⟨_, k3⟩ := set_was (g := g0) (i := 1) (u := x1) k3
  exact ⟨(h.1.setCell hg _).setCell hg _, set_far (set_far h.2.1 n0) n0, set_far (set_far h.2.2.1 n1) n1, set_far (set_far h.2.2.2.1 n2) n2, set_far (set_far h.2.2.2.2.1 n3) n3, set_far (set_far h.2.2.2.2.2.1 n4) n4, set_far (set_far h.2.2.2.2.2.2.1 n5) n5, was_some k0, was_some k1, was_some k2, was_some k3, set_fz (set_fz h.2.2.2.2.2.2.2.2.2.2.2.1), set_fz (set_fz h.2.2.2.2.2.2.2.2.2.2.2.2.1), set_fz (set_fz h.2.2.2.2.2.2.2.2.2.2.2.2.2.1), set_fz (set_fz h.2.2.2.2.2.2.2.2.2.2.2.2.2.2)⟩
set_option maxRecDepth 100000 in
theorem signR_any (w : World) (v0 : Value) (p : Int) (q : Nat) (h0 : ArrRat w v0 p q) (n0 : (limbs p.natAbs).length ≤ 1000000) (_m0 : (limbs q).length ≤ 1000000) :
    Calls Tryz.prog 27 #[v0] w fun e w' => e = .returned (.int .i64 (sgZ p)) ∧ Ext w w' := by
  have H0 := Lib.hid h0
  have HSG := Lib.hid (fun W v a => isign_any W v p a (by omega))
  obtain ⟨b0, l0, A0, c0, k0, D0, e0, rfl⟩ := h0.shape
  clear h0
  go_enter Tryz.func27, Tryz.ntmps27
  go_wp2_with fail
  have hb0 := (Blk.new w 26 #[Value.bool b0, Value.slice A0 l0 c0, Value.slice D0 k0 e0])
  have hxo := ((Ext.refl w).alloc (.cells #[Value.bool b0, Value.slice A0 l0 c0, Value.slice D0 k0 e0] 26))
  have hszo : w.heap.size + 1 = (w.alloc (.cells #[Value.bool b0, Value.slice A0 l0 c0, Value.slice D0 k0 e0] 26)).heap.size := by simp
  generalize w.alloc (.cells #[Value.bool b0, Value.slice A0 l0 c0, Value.slice D0 k0 e0] 26) = wo at *
  have HB0 := Lib.hid hb0
  have HX := Lib.hid hxo
  have HZ : Hid (w.heap.size + 1 ≤ wo.heap.size) := Lib.hid (by omega)
  clear hxo hszo hb0
  refine (HSG.out _ _ (H0.out.int.ext HX.out)).mono ?_
  rintro e w1 ⟨rfl, hx0⟩
  have HX := Lib.hid (HX.out.trans hx0)
  have HZ0 := Lib.hid hx0.size
  have HB0 := Lib.hid (HB0.out.ext hx0)
  clear hx0
  obtain ⟨u0_0_0, u0_0_1, u0_0_2, u0_0_3, u0_0_4, u0_0_5, u0_0_6⟩ := HB0.out.three
  go_wp2_with fail
  go_ret
  exact ⟨rfl, HX.out⟩
set_option maxRecDepth 100000 in
theorem negR_any (w : World) (v0 : Value) (p : Int) (q : Nat) (h0 : ArrRat w v0 p q) (n0 : (limbs p.natAbs).length ≤ 1000000) (m0 : (limbs q).length ≤ 1000000) :
    Calls Tryz.prog 28 #[v0] w fun e w' => ∃ v', e = .returned v' ∧ IsRat w.heap.size w' v' (-p) (q) ∧ Ext w w' := by
  have H0 := Lib.hid h0
  have HNG := Lib.hid (fun W v a => ineg_any W v p a (by omega))
  have HTR := Lib.hid (fun W m a => trim_any W m (limbs q) a (by omega))
  rw [val_limbs] at HTR
  obtain ⟨b0, l0, A0, c0, k0, D0, e0, rfl⟩ := h0.shape
  clear h0
  go_enter Tryz.func28, Tryz.ntmps28
  go_wp2_with fail
  have hb0 := ((Blk.new w 26 #[Value.bool b0, Value.slice A0 l0 c0, Value.slice D0 k0 e0]).alloc (.cells #[Value.bool false, Value.slice none 0 0, Value.slice none 0 0] 26))
  have hb1 := (Blk.new (w.alloc (.cells #[Value.bool b0, Value.slice A0 l0 c0, Value.slice D0 k0 e0] 26)) 26 #[Value.bool false, Value.slice none 0 0, Value.slice none 0 0])
  have hxo := (((Ext.refl w).alloc (.cells #[Value.bool b0, Value.slice A0 l0 c0, Value.slice D0 k0 e0] 26)).alloc (.cells #[Value.bool false, Value.slice none 0 0, Value.slice none 0 0] 26))
  have hszo : w.heap.size + 1 + 1 = ((w.alloc (.cells #[Value.bool b0, Value.slice A0 l0 c0, Value.slice D0 k0 e0] 26)).alloc (.cells #[Value.bool false, Value.slice none 0 0, Value.slice none 0 0] 26)).heap.size := by simp
  simp only [World.size_alloc] at hb1
  generalize (w.alloc (.cells #[Value.bool b0, Value.slice A0 l0 c0, Value.slice D0 k0 e0] 26)).alloc (.cells #[Value.bool false, Value.slice none 0 0, Value.slice none 0 0] 26) = wo at *
  obtain ⟨q0_0, q0_1, q0_2, _, _, _, _⟩ := hb0.three
  obtain ⟨t0, t1, t2, s0, s1, s2, hgz⟩ := hb1.three
  clear hb0 hb1
  go_region_held3 (fun w' => Ext w w' ∧ w'.cell? ⟨w.heap.size, 0, none⟩ = some (Value.bool b0) ∧ w'.cell? ⟨w.heap.size, 1, none⟩ = some (Value.slice A0 l0 c0) ∧ w'.cell? ⟨w.heap.size, 2, none⟩ = some (Value.slice D0 k0 e0) ∧ w'.cell? ⟨w.heap.size + 1, 0, none⟩ = some (was w' (w.heap.size + 1) 0) ∧ w'.cell? ⟨w.heap.size + 1, 1, none⟩ = some (was w' (w.heap.size + 1) 1) ∧ w'.cell? ⟨w.heap.size + 1, 2, none⟩ = some (was w' (w.heap.size + 1) 2) ∧ w'.frozen? ⟨w.heap.size + 1, 0, none⟩ = false ∧ w'.frozen? ⟨w.heap.size + 1, 1, none⟩ = false ∧ w'.frozen? ⟨w.heap.size + 1, 2, none⟩ = false)
    (first | (exact ⟨hxo.drew, q0_0, q0_1, q0_2, was_some (w := wo.drew) t0, was_some (w := wo.drew) t1, was_some (w := wo.drew) t2, s0, s1, s2⟩) | (exact keptS3_3 (by assumption) (by assumption)) | (exact keptS3_3_set (by assumption) (by omega) (by omega) (by omega) (by omega)))
    (first
      | (go_at_call 87; have hchk1 := hz0; refine (HTR.out _ _ (H0.out.den.ext (And.left (by assumption)))).mono ?_; rintro e w2 ⟨r1, rfl, hi1, hx1⟩; have hz1 := hx1.size; have R0 := Lib.hid (R0.out.ext hx1); have R1 := Lib.hid hi1; obtain ⟨g1, G1, j1, rfl⟩ := hi1.shape)
      | (go_at_call 86; refine (HNG.out _ _ (H0.out.int.ext (And.left (by assumption)))).mono ?_; rintro e w1 ⟨r0, rfl, hi0, hx0⟩; have hz0 := hx0.size; have R0 := Lib.hid hi0; obtain ⟨f0, g0, G0, j0, rfl⟩ := hi0.shape))
  all_goals go_wp2_with fail
  rename_i hS
  obtain ⟨hE, _, _, _, hc0, hc1, hc2, _, _, _⟩ := hS
  simp only [World.size_drew] at hz0
  obtain ⟨hr0, hr1, hr2⟩ := final3 hc0 hc1 hc2
  refine bodyPost_ret (v := .agg #[.bool f0, .slice G0 g0 j0, .slice G1 g1 j1]) (by simp [results, Tryz.results28, go_sem, hr0, hr1, hr2]) rfl ?_
  exact ⟨_, rfl, IsRat.put (w1 := wo.drew) (IsRat.mk R0.out (R1.out.mono (by simp only [World.size_drew]; omega))) (by simp only [World.size_drew]; omega) (by simp only [World.size_drew]; omega), hE⟩
set_option maxRecDepth 100000 in
theorem invR_any (w : World) (v0 : Value) (p : Int) (q : Nat) (h0 : ArrRat w v0 p q) (n0 : (limbs p.natAbs).length ≤ 1000000) (m0 : (limbs q).length ≤ 1000000) :
    Calls Tryz.prog 99 #[v0] w fun e w' => ∃ v', e = .returned v' ∧ IsRat w.heap.size w' v' (invP p q) (p.natAbs) ∧ Ext w w' := by
  have H0 := Lib.hid h0
  have HI := Lib.hid (fun W m a => inat_any W (decide (p < 0)) m (limbs q) a (by omega))
  rw [val_limbs] at HI
  have HTR := Lib.hid (fun W m a => trim_any W m (limbs p.natAbs) a (by omega))
  rw [val_limbs] at HTR
  obtain ⟨b0, l0, A0, c0, k0, D0, e0, rfl⟩ := h0.shape
  have hs0 := h0.sign
  have HS0 := Lib.hid hs0
  rw [← hs0] at HI
  clear h0 hs0
  go_enter Tryz.func99, Tryz.ntmps99
  go_wp2_with fail
  have hb0 := ((Blk.new w 26 #[Value.bool b0, Value.slice A0 l0 c0, Value.slice D0 k0 e0]).alloc (.cells #[Value.bool false, Value.slice none 0 0, Value.slice none 0 0] 26))
  have hb1 := (Blk.new (w.alloc (.cells #[Value.bool b0, Value.slice A0 l0 c0, Value.slice D0 k0 e0] 26)) 26 #[Value.bool false, Value.slice none 0 0, Value.slice none 0 0])
  have hxo := (((Ext.refl w).alloc (.cells #[Value.bool b0, Value.slice A0 l0 c0, Value.slice D0 k0 e0] 26)).alloc (.cells #[Value.bool false, Value.slice none 0 0, Value.slice none 0 0] 26))
  have hszo : w.heap.size + 1 + 1 = ((w.alloc (.cells #[Value.bool b0, Value.slice A0 l0 c0, Value.slice D0 k0 e0] 26)).alloc (.cells #[Value.bool false, Value.slice none 0 0, Value.slice none 0 0] 26)).heap.size := by simp
  simp only [World.size_alloc] at hb1
  generalize (w.alloc (.cells #[Value.bool b0, Value.slice A0 l0 c0, Value.slice D0 k0 e0] 26)).alloc (.cells #[Value.bool false, Value.slice none 0 0, Value.slice none 0 0] 26) = wo at *
  obtain ⟨q0_0, q0_1, q0_2, _, _, _, _⟩ := hb0.three
  obtain ⟨t0, t1, t2, s0, s1, s2, hgz⟩ := hb1.three
  clear hb0 hb1
  go_region_held3 (fun w' => Ext w w' ∧ w'.cell? ⟨w.heap.size, 0, none⟩ = some (Value.bool b0) ∧ w'.cell? ⟨w.heap.size, 1, none⟩ = some (Value.slice A0 l0 c0) ∧ w'.cell? ⟨w.heap.size, 2, none⟩ = some (Value.slice D0 k0 e0) ∧ w'.cell? ⟨w.heap.size + 1, 0, none⟩ = some (was w' (w.heap.size + 1) 0) ∧ w'.cell? ⟨w.heap.size + 1, 1, none⟩ = some (was w' (w.heap.size + 1) 1) ∧ w'.cell? ⟨w.heap.size + 1, 2, none⟩ = some (was w' (w.heap.size + 1) 2) ∧ w'.frozen? ⟨w.heap.size + 1, 0, none⟩ = false ∧ w'.frozen? ⟨w.heap.size + 1, 1, none⟩ = false ∧ w'.frozen? ⟨w.heap.size + 1, 2, none⟩ = false)
    (first | (exact ⟨hxo.drew, q0_0, q0_1, q0_2, was_some (w := wo.drew) t0, was_some (w := wo.drew) t1, was_some (w := wo.drew) t2, s0, s1, s2⟩) | (exact keptS3_3 (by assumption) (by assumption)) | (exact keptS3_3_set (by assumption) (by omega) (by omega) (by omega) (by omega)))
    (first
      | (go_at_call 87; have hchk1 := hz0; refine (HTR.out _ _ (H0.out.num.ext (And.left (by assumption)))).mono ?_; rintro e w2 ⟨r1, rfl, hi1, hx1⟩; have hz1 := hx1.size; have R0 := Lib.hid (R0.out.ext hx1); have R1 := Lib.hid hi1; obtain ⟨g1, G1, j1, rfl⟩ := hi1.shape)
      | (go_at_call 77; refine (HI.out _ _ (H0.out.den.ext (And.left (by assumption)))).mono ?_; rintro e w1 ⟨r0, rfl, hi0, hx0⟩; have hz0 := hx0.size; have R0 := Lib.hid hi0; obtain ⟨f0, g0, G0, j0, rfl⟩ := hi0.shape))
  all_goals go_wp2_with fail
  rename_i hS
  obtain ⟨hE, _, _, _, hc0, hc1, hc2, _, _, _⟩ := hS
  simp only [World.size_drew] at hz0
  obtain ⟨hr0, hr1, hr2⟩ := final3 hc0 hc1 hc2
  refine bodyPost_ret (v := .agg #[.bool f0, .slice G0 g0 j0, .slice G1 g1 j1]) (by simp [results, Tryz.results99, go_sem, hr0, hr1, hr2]) rfl ?_
  have hR := R0.out
  rw [show sgn b0 q = invP p q by rw [HS0.out]; rfl] at hR
  exact ⟨_, rfl, IsRat.put (w1 := wo.drew) (IsRat.mk hR (R1.out.mono (by simp only [World.size_drew]; omega))) (by simp only [World.size_drew]; omega) (by simp only [World.size_drew]; omega), hE⟩
set_option maxRecDepth 100000 in
theorem mulR_any (w : World) (v0 : Value) (p : Int) (q : Nat) (h0 : ArrRat w v0 p q) (n0 : (limbs p.natAbs).length ≤ 1000000) (m0 : (limbs q).length ≤ 1000000) (v1 : Value) (r : Int) (s : Nat) (h1 : ArrRat w v1 r s) (n1 : (limbs r.natAbs).length ≤ 1000000) (m1 : (limbs s).length ≤ 1000000) (hq : 0 < q) (hs : 0 < s) :
    Calls Tryz.prog 25 #[v0, v1] w fun e w' => ∃ v', e = .returned v' ∧ IsRat w.heap.size w' v' (mulP p q r s) (mulQ p q r s) ∧ Ext w w' := by
  have H0 := Lib.hid h0
  have H1 := Lib.hid h1
  have HM := Lib.hid (fun W v u a b => imul_any W v u p r a b (by omega) (by omega))
  have HMD := Lib.hid (fun W m m' a b => mul_any W m m' (limbs q) (limbs s) a b (by omega) (by omega))
  rw [val_limbs, val_limbs] at HMD
  have HLW := Lib.hid (fun W v u a b => lowestR_any W v u (p * r) (limbs (q * s)) a b (by have := limbs_mulzz n0 n1; omega) (by have := limbs_muln m0 m1; omega) (by rw [val_limbs]; exact Nat.pos_iff_ne_zero.1 (Nat.mul_pos hq hs)))
  rw [val_limbs] at HLW
  obtain ⟨b0, l0, A0, c0, k0, D0, e0, rfl⟩ := h0.shape
  obtain ⟨b1, l1, A1, c1, k1, D1, e1, rfl⟩ := h1.shape
  clear h0 h1
  go_enter Tryz.func25, Tryz.ntmps25
  go_wp2_with fail
  have hb0 := (((Blk.new w 26 #[Value.bool b0, Value.slice A0 l0 c0, Value.slice D0 k0 e0]).alloc (.cells #[Value.bool b1, Value.slice A1 l1 c1, Value.slice D1 k1 e1] 26)).alloc (.cells #[Value.bool false, Value.slice none 0 0, Value.slice none 0 0] 26))
  have hb1 := ((Blk.new (w.alloc (.cells #[Value.bool b0, Value.slice A0 l0 c0, Value.slice D0 k0 e0] 26)) 26 #[Value.bool b1, Value.slice A1 l1 c1, Value.slice D1 k1 e1]).alloc (.cells #[Value.bool false, Value.slice none 0 0, Value.slice none 0 0] 26))
  have hb2 := (Blk.new ((w.alloc (.cells #[Value.bool b0, Value.slice A0 l0 c0, Value.slice D0 k0 e0] 26)).alloc (.cells #[Value.bool b1, Value.slice A1 l1 c1, Value.slice D1 k1 e1] 26)) 26 #[Value.bool false, Value.slice none 0 0, Value.slice none 0 0])
  have hxo := ((((Ext.refl w).alloc (.cells #[Value.bool b0, Value.slice A0 l0 c0, Value.slice D0 k0 e0] 26)).alloc (.cells #[Value.bool b1, Value.slice A1 l1 c1, Value.slice D1 k1 e1] 26)).alloc (.cells #[Value.bool false, Value.slice none 0 0, Value.slice none 0 0] 26))
  have hszo : w.heap.size + 1 + 1 + 1 = (((w.alloc (.cells #[Value.bool b0, Value.slice A0 l0 c0, Value.slice D0 k0 e0] 26)).alloc (.cells #[Value.bool b1, Value.slice A1 l1 c1, Value.slice D1 k1 e1] 26)).alloc (.cells #[Value.bool false, Value.slice none 0 0, Value.slice none 0 0] 26)).heap.size := by simp
  simp only [World.size_alloc] at hb1 hb2
  generalize ((w.alloc (.cells #[Value.bool b0, Value.slice A0 l0 c0, Value.slice D0 k0 e0] 26)).alloc (.cells #[Value.bool b1, Value.slice A1 l1 c1, Value.slice D1 k1 e1] 26)).alloc (.cells #[Value.bool false, Value.slice none 0 0, Value.slice none 0 0] 26) = wo at *
  obtain ⟨q0_0, q0_1, q0_2, _, _, _, _⟩ := hb0.three
  obtain ⟨q1_0, q1_1, q1_2, _, _, _, _⟩ := hb1.three
  obtain ⟨t0, t1, t2, s0, s1, s2, hgz⟩ := hb2.three
  clear hb0 hb1 hb2
  go_region_held3 (fun w' => Ext w w' ∧ w'.cell? ⟨w.heap.size, 0, none⟩ = some (Value.bool b0) ∧ w'.cell? ⟨w.heap.size, 1, none⟩ = some (Value.slice A0 l0 c0) ∧ w'.cell? ⟨w.heap.size, 2, none⟩ = some (Value.slice D0 k0 e0) ∧ w'.cell? ⟨w.heap.size + 1, 0, none⟩ = some (Value.bool b1) ∧ w'.cell? ⟨w.heap.size + 1, 1, none⟩ = some (Value.slice A1 l1 c1) ∧ w'.cell? ⟨w.heap.size + 1, 2, none⟩ = some (Value.slice D1 k1 e1) ∧ w'.cell? ⟨w.heap.size + 1 + 1, 0, none⟩ = some (was w' (w.heap.size + 1 + 1) 0) ∧ w'.cell? ⟨w.heap.size + 1 + 1, 1, none⟩ = some (was w' (w.heap.size + 1 + 1) 1) ∧ w'.cell? ⟨w.heap.size + 1 + 1, 2, none⟩ = some (was w' (w.heap.size + 1 + 1) 2) ∧ w'.frozen? ⟨w.heap.size + 1 + 1, 0, none⟩ = false ∧ w'.frozen? ⟨w.heap.size + 1 + 1, 1, none⟩ = false ∧ w'.frozen? ⟨w.heap.size + 1 + 1, 2, none⟩ = false)
    (first | (exact ⟨hxo.drew, q0_0, q0_1, q0_2, q1_0, q1_1, q1_2, was_some (w := wo.drew) t0, was_some (w := wo.drew) t1, was_some (w := wo.drew) t2, s0, s1, s2⟩) | (exact keptS6_3 (by assumption) (by assumption)) | (exact keptS6_3_set (by assumption) (by omega) (by omega) (by omega) (by omega) (by omega) (by omega) (by omega)))
    (first
      | (go_at_call 76; have hchk2 := hz1; refine (HLW.out _ _ _ R0.out.arr R1.out.arr).mono ?_; rintro e w3 ⟨r2, rfl, hi2, hx2⟩; have hz2 := hx2.size; have R0 := Lib.hid (R0.out.ext hx2); have R1 := Lib.hid (R1.out.ext hx2); have R2 := Lib.hid hi2; obtain ⟨f2, g2, G2, j2, y2, Y2, z2, rfl⟩ := hi2.shape)
      | (go_at_call 83; have hchk1 := hz0; refine (HMD.out _ _ _ (H0.out.den.ext (And.left (by assumption))) (H1.out.den.ext (And.left (by assumption)))).mono ?_; rintro e w2 ⟨r1, rfl, hi1, hx1⟩; have hz1 := hx1.size; have R0 := Lib.hid (R0.out.ext hx1); have R1 := Lib.hid hi1; obtain ⟨g1, G1, j1, rfl⟩ := hi1.shape)
      | (go_at_call 82; refine (HM.out _ _ _ (H0.out.int.ext (And.left (by assumption))) (H1.out.int.ext (And.left (by assumption)))).mono ?_; rintro e w1 ⟨r0, rfl, hi0, hx0⟩; have hz0 := hx0.size; have R0 := Lib.hid hi0; obtain ⟨f0, g0, G0, j0, rfl⟩ := hi0.shape))
  all_goals go_wp2_with fail
  rename_i hS
  obtain ⟨hE, _, _, _, _, _, _, hc0, hc1, hc2, _, _, _⟩ := hS
  simp only [World.size_drew] at hz0
  obtain ⟨hr0, hr1, hr2⟩ := final3 hc0 hc1 hc2
  refine bodyPost_ret (v := .agg #[.bool f2, .slice G2 g2 j2, .slice Y2 y2 z2]) (by simp [results, Tryz.results25, go_sem, hr0, hr1, hr2]) rfl ?_
  exact ⟨_, rfl, R2.out.put (by omega) (by omega), hE⟩
set_option maxHeartbeats 2000000 in
set_option maxRecDepth 100000 in
theorem cross_any (w : World) (v0 : Value) (p : Int) (q : Nat) (h0 : ArrRat w v0 p q) (n0 : (limbs p.natAbs).length ≤ 1000000) (m0 : (limbs q).length ≤ 1000000) (v1 : Value) (r : Int) (s : Nat) (h1 : ArrRat w v1 r s) (n1 : (limbs r.natAbs).length ≤ 1000000) (m1 : (limbs s).length ≤ 1000000) :
    Calls Tryz.prog 101 #[v0, v1] w fun e w' => ∃ v' u', e = .returned (.tuple #[v', u']) ∧ IsInt w.heap.size w' v' (p * (s : Int)) ∧ IsInt w.heap.size w' u' (r * (q : Int)) ∧ Ext w w' := by
  have H0 := Lib.hid h0
  have H1 := Lib.hid h1
  have HN0 := Lib.hid (fun W m a => inat_any W false m (limbs q) a (by omega))
  rw [val_limbs, show sgn false q = (q : Int) from rfl] at HN0
  have HN1 := Lib.hid (fun W m a => inat_any W false m (limbs s) a (by omega))
  rw [val_limbs, show sgn false s = (s : Int) from rfl] at HN1
  have HM0 := Lib.hid (fun W v u a b => imul_any W v u p (s : Int) a b (by omega) (by rw [limbs_nat_cast]; omega))
  have HM1 := Lib.hid (fun W v u a b => imul_any W v u r (q : Int) a b (by omega) (by rw [limbs_nat_cast]; omega))
  obtain ⟨b0, l0, A0, c0, k0, D0, e0, rfl⟩ := h0.shape
  obtain ⟨b1, l1, A1, c1, k1, D1, e1, rfl⟩ := h1.shape
  clear h0 h1
  go_enter Tryz.func101, Tryz.ntmps101
  go_wp2_with fail
  have hb0 := ((((Blk.new w 26 #[Value.bool b0, Value.slice A0 l0 c0, Value.slice D0 k0 e0]).alloc (.cells #[Value.bool b1, Value.slice A1 l1 c1, Value.slice D1 k1 e1] 26)).alloc (.cells #[Value.bool false, Value.slice none 0 0] 24)).alloc (.cells #[Value.bool false, Value.slice none 0 0] 24))
  have hb1 := (((Blk.new (w.alloc (.cells #[Value.bool b0, Value.slice A0 l0 c0, Value.slice D0 k0 e0] 26)) 26 #[Value.bool b1, Value.slice A1 l1 c1, Value.slice D1 k1 e1]).alloc (.cells #[Value.bool false, Value.slice none 0 0] 24)).alloc (.cells #[Value.bool false, Value.slice none 0 0] 24))
  have hb2 := ((Blk.new ((w.alloc (.cells #[Value.bool b0, Value.slice A0 l0 c0, Value.slice D0 k0 e0] 26)).alloc (.cells #[Value.bool b1, Value.slice A1 l1 c1, Value.slice D1 k1 e1] 26)) 24 #[Value.bool false, Value.slice none 0 0]).alloc (.cells #[Value.bool false, Value.slice none 0 0] 24))
  have hb3 := (Blk.new (((w.alloc (.cells #[Value.bool b0, Value.slice A0 l0 c0, Value.slice D0 k0 e0] 26)).alloc (.cells #[Value.bool b1, Value.slice A1 l1 c1, Value.slice D1 k1 e1] 26)).alloc (.cells #[Value.bool false, Value.slice none 0 0] 24)) 24 #[Value.bool false, Value.slice none 0 0])
  have hxo := (((((Ext.refl w).alloc (.cells #[Value.bool b0, Value.slice A0 l0 c0, Value.slice D0 k0 e0] 26)).alloc (.cells #[Value.bool b1, Value.slice A1 l1 c1, Value.slice D1 k1 e1] 26)).alloc (.cells #[Value.bool false, Value.slice none 0 0] 24)).alloc (.cells #[Value.bool false, Value.slice none 0 0] 24))
  have hszo : w.heap.size + 1 + 1 + 1 + 1 = ((((w.alloc (.cells #[Value.bool b0, Value.slice A0 l0 c0, Value.slice D0 k0 e0] 26)).alloc (.cells #[Value.bool b1, Value.slice A1 l1 c1, Value.slice D1 k1 e1] 26)).alloc (.cells #[Value.bool false, Value.slice none 0 0] 24)).alloc (.cells #[Value.bool false, Value.slice none 0 0] 24)).heap.size := by simp
  simp only [World.size_alloc] at hb1 hb2 hb3
  generalize (((w.alloc (.cells #[Value.bool b0, Value.slice A0 l0 c0, Value.slice D0 k0 e0] 26)).alloc (.cells #[Value.bool b1, Value.slice A1 l1 c1, Value.slice D1 k1 e1] 26)).alloc (.cells #[Value.bool false, Value.slice none 0 0] 24)).alloc (.cells #[Value.bool false, Value.slice none 0 0] 24) = wo at *
  obtain ⟨q0_0, q0_1, q0_2, _, _, _, _⟩ := hb0.three
  obtain ⟨q1_0, q1_1, q1_2, _, _, _, _⟩ := hb1.three
  obtain ⟨t20, t21, s20, s21, hgz2⟩ := hb2.two
  obtain ⟨t30, t31, s30, s31, hgz3⟩ := hb3.two
  clear hb0 hb1 hb2 hb3
  go_region_held3 (fun w' => Ext w w' ∧ w'.cell? ⟨w.heap.size, 0, none⟩ = some (Value.bool b0) ∧ w'.cell? ⟨w.heap.size, 1, none⟩ = some (Value.slice A0 l0 c0) ∧ w'.cell? ⟨w.heap.size, 2, none⟩ = some (Value.slice D0 k0 e0) ∧ w'.cell? ⟨w.heap.size + 1, 0, none⟩ = some (Value.bool b1) ∧ w'.cell? ⟨w.heap.size + 1, 1, none⟩ = some (Value.slice A1 l1 c1) ∧ w'.cell? ⟨w.heap.size + 1, 2, none⟩ = some (Value.slice D1 k1 e1) ∧ w'.cell? ⟨w.heap.size + 1 + 1, 0, none⟩ = some (was w' (w.heap.size + 1 + 1) 0) ∧ w'.cell? ⟨w.heap.size + 1 + 1, 1, none⟩ = some (was w' (w.heap.size + 1 + 1) 1) ∧ w'.cell? ⟨w.heap.size + 1 + 1 + 1, 0, none⟩ = some (was w' (w.heap.size + 1 + 1 + 1) 0) ∧ w'.cell? ⟨w.heap.size + 1 + 1 + 1, 1, none⟩ = some (was w' (w.heap.size + 1 + 1 + 1) 1) ∧ w'.frozen? ⟨w.heap.size + 1 + 1, 0, none⟩ = false ∧ w'.frozen? ⟨w.heap.size + 1 + 1, 1, none⟩ = false ∧ w'.frozen? ⟨w.heap.size + 1 + 1 + 1, 0, none⟩ = false ∧ w'.frozen? ⟨w.heap.size + 1 + 1 + 1, 1, none⟩ = false)
    (first | (exact ⟨hxo.drew, q0_0, q0_1, q0_2, q1_0, q1_1, q1_2, was_some (w := wo.drew) t20, was_some (w := wo.drew) t21, was_some (w := wo.drew) t30, was_some (w := wo.drew) t31, s20, s21, s30, s31⟩) | (exact keptD6 (by assumption) (by assumption)) | (exact keptD6_set (by assumption) (by omega) (by omega) (by omega) (by omega) (by omega) (by omega) (by omega)))
    (first
      | (go_at_call 82; have hchk3 := hz2; refine (HM1.out _ _ _ (H1.out.int.ext (And.left (by assumption))) R2.out.arr).mono ?_; rintro e w4 ⟨r3, rfl, hi3, hx3⟩; have hz3 := hx3.size; have R0 := Lib.hid (R0.out.ext hx3); have R1 := Lib.hid (R1.out.ext hx3); have R2 := Lib.hid (R2.out.ext hx3); have R3 := Lib.hid hi3; obtain ⟨f3, g3, G3, j3, rfl⟩ := hi3.shape)
      | (go_at_call 77; have hchk2 := hz1; refine (HN0.out _ _ (H0.out.den.ext (And.left (by assumption)))).mono ?_; rintro e w3 ⟨r2, rfl, hi2, hx2⟩; have hz2 := hx2.size; have R0 := Lib.hid (R0.out.ext hx2); have R1 := Lib.hid (R1.out.ext hx2); have R2 := Lib.hid hi2; obtain ⟨f2, g2, G2, j2, rfl⟩ := hi2.shape)
      | (go_at_call 82; have hchk1 := hz0; refine (HM0.out _ _ _ (H0.out.int.ext (And.left (by assumption))) R0.out.arr).mono ?_; rintro e w2 ⟨r1, rfl, hi1, hx1⟩; have hz1 := hx1.size; have R0 := Lib.hid (R0.out.ext hx1); have R1 := Lib.hid hi1; obtain ⟨f1, g1, G1, j1, rfl⟩ := hi1.shape)
      | (go_at_call 77; refine (HN1.out _ _ (H1.out.den.ext (And.left (by assumption)))).mono ?_; rintro e w1 ⟨r0, rfl, hi0, hx0⟩; have hz0 := hx0.size; have R0 := Lib.hid hi0; obtain ⟨f0, g0, G0, j0, rfl⟩ := hi0.shape))
  all_goals go_wp2_with fail
  rename_i hS
  obtain ⟨hE, _, _, _, _, _, _, c0, c1, c2, c3, _, _, _, _⟩ := hS
  simp only [World.size_drew] at hz0
  obtain ⟨hr0, hr1, hr2, hr3⟩ := final22 c0 c1 c2 c3 (by omega)
  refine bodyPost_ret (v := .tuple #[.agg #[.bool f1, .slice G1 g1 j1], .agg #[.bool f3, .slice G3 g3 j3]]) (by simp only [results, Tryz.results101, go_sem]; simp [hr0, hr1, hr2, hr3, go_sem]) rfl ?_
  exact ⟨_, _, rfl, ((((R1.out.far (show w.heap.size + 1 + 1 < _ by omega) _).far (show w.heap.size + 1 + 1 < _ by omega) _).far (show w.heap.size + 1 + 1 + 1 < _ by omega) _).far (show w.heap.size + 1 + 1 + 1 < _ by omega) _).mono (by omega), ((((R3.out.far (show w.heap.size + 1 + 1 < _ by omega) _).far (show w.heap.size + 1 + 1 < _ by omega) _).far (show w.heap.size + 1 + 1 + 1 < _ by omega) _).far (show w.heap.size + 1 + 1 + 1 < _ by omega) _).mono (by omega), hE⟩
end Big
end Go.Proofs.YtplmldkfgeiklaaGreatDoor
/- Fractions: the program's Cmp, Add, Sub, Div, Make, Of; the document's Div, Same, Of. Printed by a program. -/
namespace Go.Proofs.YtplmldkfgeiklaaGreatDoor
namespace Big
open Go.RowKit
theorem make_low2 (x y : Int) : lowN (sgn (decide (x < 0) != decide (y < 0)) x.natAbs) y.natAbs = makeN x y ∧ lowD (sgn (decide (x < 0) != decide (y < 0)) x.natAbs) y.natAbs = makeD x y := by
  unfold lowN lowD makeN makeD
  rw [natAbs_sgn]
  refine ⟨?_, rfl⟩
  generalize (decide (x < 0) != decide (y < 0)) = b
  rcases Nat.eq_zero_or_pos x.natAbs with h | h
  · rw [h, Nat.zero_div]
    cases b <;> rfl
  · rw [sgn_neg]
    cases b <;> simp [h]
theorem makeQ (p : Int) (q : Nat) (r : Int) (s : Nat) (hq : 0 < q) (hs : 0 < s) : makeN (p * (s : Int)) ((q : Int) * r) = mulP p q (invP r s) r.natAbs ∧ makeD (p * (s : Int)) ((q : Int) * r) = mulQ p q (invP r s) r.natAbs := by
  have h1 : (p * (s : Int)).natAbs = (p * invP r s).natAbs := by
    unfold invP
    rw [Int.natAbs_mul, Int.natAbs_mul, natAbs_sgn, Int.natAbs_natCast]
  have h2 : ((q : Int) * r).natAbs = q * r.natAbs := by rw [Int.natAbs_mul, Int.natAbs_natCast]
  unfold makeN makeD mulP mulQ lowN lowD
  rw [h1, h2]
  refine ⟨?_, rfl⟩
  have key : ∀ (b b' : Bool) (n : Nat), (n = 0 ∨ b = b') → sgn b n = sgn b' n := by
    intro b b' n h
    rcases h with rfl | rfl
    · cases b <;> cases b' <;> rfl
    · rfl
  refine key _ _ _ ?_
  by_cases hp : p = 0
  · left
    subst hp
    rw [Int.zero_mul]
    exact Nat.zero_div _
  right
  have e1 : decide (p * (s : Int) < 0) = decide (p < 0) := by
    rw [decide_eq_decide]
    constructor
    · intro h
      rcases Int.lt_or_le p 0 with h0 | h0
      · exact h0
      · have := Int.mul_nonneg h0 (show (0 : Int) ≤ s by omega); omega
    · intro h; exact Int.mul_neg_of_neg_of_pos h (by omega)
  have e2 : decide ((q : Int) * r < 0) = decide (r < 0) := by
    rw [decide_eq_decide]
    constructor
    · intro h
      rcases Int.lt_or_le r 0 with h0 | h0
      · exact h0
      · have := Int.mul_nonneg (show (0 : Int) ≤ q by omega) h0; omega
    · intro h; exact Int.mul_neg_of_pos_of_neg (by omega) h
  rw [e1, e2]
  have hs1 : (0 : Int) < s := by omega
  by_cases hr : r < 0
  · rw [show invP r s = -(s : Int) by unfold invP; rw [decide_eq_true hr]; rfl, decide_eq_true hr]
    rcases Int.lt_or_gt_of_ne hp with h0 | h0
    · rw [decide_eq_true h0, decide_eq_false (by have := Int.mul_pos_of_neg_of_neg h0 (show -(s : Int) < 0 by omega); omega)]; rfl
    · rw [decide_eq_false (by omega), decide_eq_true (Int.mul_neg_of_pos_of_neg h0 (by omega))]; rfl
  · rw [show invP r s = (s : Int) by unfold invP; rw [decide_eq_false hr]; rfl, decide_eq_false hr]
    rw [e1]
    cases decide (p < 0) <;> rfl
theorem iof_any (w : World) (z : Int) (h1 : -9223372036854775808 ≤ z) (h2 : z ≤ 9223372036854775807) :
    Calls Tryz.prog 35 #[.int .i64 z] w fun e w' => ∃ v', e = .returned v' ∧ IsInt w.heap.size w' v' z ∧ Ext w w' := by
  rcases Int.lt_or_le z 0 with h | h
  · exact iof_neg w z h h1
  · obtain ⟨n, rfl⟩ := Int.eq_ofNat_of_zero_le h
    exact iof_pos w n (by omega)
set_option maxRecDepth 100000 in
theorem cmpR_any (w : World) (v0 : Value) (p : Int) (q : Nat) (h0 : ArrRat w v0 p q) (n0 : (limbs p.natAbs).length ≤ 1000000) (m0 : (limbs q).length ≤ 1000000) (v1 : Value) (r : Int) (s : Nat) (h1 : ArrRat w v1 r s) (n1 : (limbs r.natAbs).length ≤ 1000000) (m1 : (limbs s).length ≤ 1000000) :
    Calls Tryz.prog 48 #[v0, v1] w fun e w' => e = .returned (.int .i64 (cmpZ (p * (s : Int)) (r * (q : Int)))) ∧ Ext w w' := by
  have H0 := Lib.hid h0
  have H1 := Lib.hid h1
  have HCR := Lib.hid (fun W v u a b => cross_any W v p q a n0 m0 u r s b n1 m1)
  have HCM := Lib.hid (fun W v u a b => icmp_any W v u (p * (s : Int)) (r * (q : Int)) a b (by have := limbs_mulz n0 m1; omega) (by have := limbs_mulz n1 m0; omega))
  obtain ⟨b0, l0, A0, c0, k0, D0, e0, rfl⟩ := h0.shape
  obtain ⟨b1, l1, A1, c1, k1, D1, e1, rfl⟩ := h1.shape
  clear h0 h1
  go_enter Tryz.func48, Tryz.ntmps48
  go_wp2_with fail
  have hb0 := ((Blk.new w 26 #[Value.bool b0, Value.slice A0 l0 c0, Value.slice D0 k0 e0]).alloc (.cells #[Value.bool b1, Value.slice A1 l1 c1, Value.slice D1 k1 e1] 26))
  have hb1 := (Blk.new (w.alloc (.cells #[Value.bool b0, Value.slice A0 l0 c0, Value.slice D0 k0 e0] 26)) 26 #[Value.bool b1, Value.slice A1 l1 c1, Value.slice D1 k1 e1])
  have hxo := (((Ext.refl w).alloc (.cells #[Value.bool b0, Value.slice A0 l0 c0, Value.slice D0 k0 e0] 26)).alloc (.cells #[Value.bool b1, Value.slice A1 l1 c1, Value.slice D1 k1 e1] 26))
  have hszo : w.heap.size + 1 + 1 = ((w.alloc (.cells #[Value.bool b0, Value.slice A0 l0 c0, Value.slice D0 k0 e0] 26)).alloc (.cells #[Value.bool b1, Value.slice A1 l1 c1, Value.slice D1 k1 e1] 26)).heap.size := by simp
  simp only [World.size_alloc] at hb1
  generalize (w.alloc (.cells #[Value.bool b0, Value.slice A0 l0 c0, Value.slice D0 k0 e0] 26)).alloc (.cells #[Value.bool b1, Value.slice A1 l1 c1, Value.slice D1 k1 e1] 26) = wo at *
  have HB0 := Lib.hid hb0
  have HB1 := Lib.hid hb1
  have HX := Lib.hid hxo
  have HZ : Hid (w.heap.size + 1 + 1 ≤ wo.heap.size) := Lib.hid (by omega)
  clear hxo hszo hb0 hb1
  refine (HCR.out _ _ _ (H0.out.ext HX.out) (H1.out.ext HX.out)).mono ?_
  rintro e w1 ⟨r0, r1, rfl, hi0, hi1, hx0⟩
  have HX1 := Lib.hid (HX.out.trans hx0)
  have HZ1 := Lib.hid hx0.size
  have R0 := Lib.hid hi0
  have R1 := Lib.hid hi1
  have HB0 := Lib.hid (HB0.out.ext hx0)
  have HB1 := Lib.hid (HB1.out.ext hx0)
  obtain ⟨f0, g0, G0, j0, rfl⟩ := hi0.shape
  obtain ⟨f1, g1, G1, j1, rfl⟩ := hi1.shape
  clear hi0 hi1 hx0
  go_wp2_with fail
  refine (HCM.out _ _ _ ((R0.out.ext ((Ext.refl _).alloc _)).ext ((Ext.refl _).alloc _)).arr ((R1.out.ext ((Ext.refl _).alloc _)).ext ((Ext.refl _).alloc _)).arr).mono ?_
  rintro e w2 ⟨rfl, hx2⟩
  go_wp2_with fail
  go_ret
  exact ⟨rfl, ((HX1.out.alloc _).alloc _).trans hx2⟩
set_option maxRecDepth 100000 in
theorem addR_any (w : World) (v0 : Value) (p : Int) (q : Nat) (h0 : ArrRat w v0 p q) (n0 : (limbs p.natAbs).length ≤ 1000000) (m0 : (limbs q).length ≤ 1000000) (v1 : Value) (r : Int) (s : Nat) (h1 : ArrRat w v1 r s) (n1 : (limbs r.natAbs).length ≤ 1000000) (m1 : (limbs s).length ≤ 1000000) (hq : 0 < q) (hs : 0 < s) :
    Calls Tryz.prog 42 #[v0, v1] w fun e w' => ∃ v', e = .returned v' ∧ IsRat w.heap.size w' v' (addP p q r s) (addQ p q r s) ∧ Ext w w' := by
  have H0 := Lib.hid h0
  have H1 := Lib.hid h1
  have HCR := Lib.hid (fun W v u a b => cross_any W v p q a n0 m0 u r s b n1 m1)
  have HAD := Lib.hid (fun W v u a b => iadd_any W v u (p * (s : Int)) (r * (q : Int)) a b (by have := limbs_mulz n0 m1; omega) (by have := limbs_mulz n1 m0; omega))
  have HMD := Lib.hid (fun W m m' a b => mul_any W m m' (limbs q) (limbs s) a b (by omega) (by omega))
  rw [val_limbs, val_limbs] at HMD
  have HLW := Lib.hid (fun W v u a b => lowestR_any W v u (p * (s : Int) + r * (q : Int)) (limbs (q * s)) a b (by have := limbs_add7 (limbs_mulz n0 m1) (limbs_mulz n1 m0); omega) (by have := limbs_muln m0 m1; omega) (by rw [val_limbs]; exact Nat.pos_iff_ne_zero.1 (Nat.mul_pos hq hs)))
  rw [val_limbs] at HLW
  obtain ⟨b0, l0, A0, c0, k0, D0, e0, rfl⟩ := h0.shape
  obtain ⟨b1, l1, A1, c1, k1, D1, e1, rfl⟩ := h1.shape
  clear h0 h1
  go_enter Tryz.func42, Tryz.ntmps42
  go_wp2_with fail
  have hb0 := (((Blk.new w 26 #[Value.bool b0, Value.slice A0 l0 c0, Value.slice D0 k0 e0]).alloc (.cells #[Value.bool b1, Value.slice A1 l1 c1, Value.slice D1 k1 e1] 26)).alloc (.cells #[Value.bool false, Value.slice none 0 0, Value.slice none 0 0] 26))
  have hb1 := ((Blk.new (w.alloc (.cells #[Value.bool b0, Value.slice A0 l0 c0, Value.slice D0 k0 e0] 26)) 26 #[Value.bool b1, Value.slice A1 l1 c1, Value.slice D1 k1 e1]).alloc (.cells #[Value.bool false, Value.slice none 0 0, Value.slice none 0 0] 26))
  have hb2 := (Blk.new ((w.alloc (.cells #[Value.bool b0, Value.slice A0 l0 c0, Value.slice D0 k0 e0] 26)).alloc (.cells #[Value.bool b1, Value.slice A1 l1 c1, Value.slice D1 k1 e1] 26)) 26 #[Value.bool false, Value.slice none 0 0, Value.slice none 0 0])
  have hxo := ((((Ext.refl w).alloc (.cells #[Value.bool b0, Value.slice A0 l0 c0, Value.slice D0 k0 e0] 26)).alloc (.cells #[Value.bool b1, Value.slice A1 l1 c1, Value.slice D1 k1 e1] 26)).alloc (.cells #[Value.bool false, Value.slice none 0 0, Value.slice none 0 0] 26))
  have hszo : w.heap.size + 1 + 1 + 1 = (((w.alloc (.cells #[Value.bool b0, Value.slice A0 l0 c0, Value.slice D0 k0 e0] 26)).alloc (.cells #[Value.bool b1, Value.slice A1 l1 c1, Value.slice D1 k1 e1] 26)).alloc (.cells #[Value.bool false, Value.slice none 0 0, Value.slice none 0 0] 26)).heap.size := by simp
  simp only [World.size_alloc] at hb1 hb2
  generalize ((w.alloc (.cells #[Value.bool b0, Value.slice A0 l0 c0, Value.slice D0 k0 e0] 26)).alloc (.cells #[Value.bool b1, Value.slice A1 l1 c1, Value.slice D1 k1 e1] 26)).alloc (.cells #[Value.bool false, Value.slice none 0 0, Value.slice none 0 0] 26) = wo at *
  have HB0 := Lib.hid hb0
  have HB1 := Lib.hid hb1
  have HB2 := Lib.hid hb2
  have HX := Lib.hid hxo
  have HZ : Hid (w.heap.size + 1 + 1 + 1 ≤ wo.heap.size) := Lib.hid (by omega)
  clear hxo hszo hb0 hb1 hb2
  refine (HCR.out _ _ _ (H0.out.ext HX.out) (H1.out.ext HX.out)).mono ?_
  rintro e w1 ⟨r0, r1, rfl, hi0, hi1, hx0⟩
  have HX1 := Lib.hid (HX.out.trans hx0)
  have HZ1 := Lib.hid hx0.size
  have R0 := Lib.hid hi0
  have R1 := Lib.hid hi1
  have HB0 := Lib.hid (HB0.out.ext hx0)
  have HB1 := Lib.hid (HB1.out.ext hx0)
  have HB2 := Lib.hid (HB2.out.ext hx0)
  obtain ⟨f0, g0, G0, j0, rfl⟩ := hi0.shape
  obtain ⟨f1, g1, G1, j1, rfl⟩ := hi1.shape
  clear hi0 hi1 hx0
  go_wp2_with fail
  have hba := (Blk.new w1 24 #[Value.bool f0, Value.slice G0 g0 j0]).alloc (.cells #[Value.bool f1, Value.slice G1 g1 j1] 24)
  have hbb := Blk.new (w1.alloc (.cells #[Value.bool f0, Value.slice G0 g0 j0] 24)) 24 #[Value.bool f1, Value.slice G1 g1 j1]
  have hxa := ((Ext.refl w1).alloc (.cells #[Value.bool f0, Value.slice G0 g0 j0] 24)).alloc (.cells #[Value.bool f1, Value.slice G1 g1 j1] 24)
  simp only [World.size_alloc] at hbb
  have hza := hxa.size
  generalize (w1.alloc (.cells #[Value.bool f0, Value.slice G0 g0 j0] 24)).alloc (.cells #[Value.bool f1, Value.slice G1 g1 j1] 24) = wz at *
  have hxz := HX1.out.trans hxa
  have R0 := Lib.hid (R0.out.ext hxa.drew)
  have R1 := Lib.hid (R1.out.ext hxa.drew)
  have hx_ := HB0.out.ext hxa
  have hy_ := HB1.out.ext hxa
  have hr_ := HB2.out.ext hxa
  have hzw : w.heap.size + 1 + 1 + 1 ≤ w1.heap.size := Nat.le_trans HZ.out HZ1.out
  obtain ⟨_, _, qx, _⟩ := hx_.three
  obtain ⟨_, _, qy, _⟩ := hy_.three
  obtain ⟨t0, t1, t2, s0, s1, s2, hgz⟩ := hr_.three
  obtain ⟨qa0, qa1, _⟩ := hba.two
  obtain ⟨qb0, qb1, _⟩ := hbb.two
  clear hx_ hy_ hr_ hba hbb hxa HB0 HB1 HB2 HX HX1 HZ HZ1
  go_region_held3 (fun w' => Ext w w' ∧ w'.cell? ⟨w.heap.size, 2, none⟩ = some (Value.slice D0 k0 e0) ∧ w'.cell? ⟨w.heap.size + 1, 2, none⟩ = some (Value.slice D1 k1 e1) ∧ w'.cell? ⟨w1.heap.size, 0, none⟩ = some (Value.bool f0) ∧ w'.cell? ⟨w1.heap.size, 1, none⟩ = some (Value.slice G0 g0 j0) ∧ w'.cell? ⟨w1.heap.size + 1, 0, none⟩ = some (Value.bool f1) ∧ w'.cell? ⟨w1.heap.size + 1, 1, none⟩ = some (Value.slice G1 g1 j1) ∧ w'.cell? ⟨w.heap.size + 1 + 1, 0, none⟩ = some (was w' (w.heap.size + 1 + 1) 0) ∧ w'.cell? ⟨w.heap.size + 1 + 1, 1, none⟩ = some (was w' (w.heap.size + 1 + 1) 1) ∧ w'.cell? ⟨w.heap.size + 1 + 1, 2, none⟩ = some (was w' (w.heap.size + 1 + 1) 2) ∧ w'.frozen? ⟨w.heap.size + 1 + 1, 0, none⟩ = false ∧ w'.frozen? ⟨w.heap.size + 1 + 1, 1, none⟩ = false ∧ w'.frozen? ⟨w.heap.size + 1 + 1, 2, none⟩ = false)
    (first | (exact ⟨hxz.drew, qx, qy, qa0, qa1, qb0, qb1, was_some (w := wz.drew) t0, was_some (w := wz.drew) t1, was_some (w := wz.drew) t2, s0, s1, s2⟩) | (exact keptS6_3 (by assumption) (by assumption)) | (exact keptS6_3_set (by assumption) (by omega) (by omega) (by omega) (by omega) (by omega) (by omega) (by omega)))
    (first
      | (go_at_call 76; have hchk4 := hz3; refine (HLW.out _ _ _ R2.out.arr R3.out.arr).mono ?_; rintro e w4 ⟨r4, rfl, hi4, hx4⟩; have hz4 := hx4.size; have R2 := Lib.hid (R2.out.ext hx4); have R3 := Lib.hid (R3.out.ext hx4); have R4 := Lib.hid hi4; obtain ⟨f4, g4, G4, j4, y4, Y4, z4, rfl⟩ := hi4.shape)
      | (go_at_call 83; have hchk3 := hz2; refine (HMD.out _ _ _ (H0.out.den.ext (And.left (by assumption))) (H1.out.den.ext (And.left (by assumption)))).mono ?_; rintro e w3 ⟨r3, rfl, hi3, hx3⟩; have hz3 := hx3.size; have R2 := Lib.hid (R2.out.ext hx3); have R3 := Lib.hid hi3; obtain ⟨g3, G3, j3, rfl⟩ := hi3.shape)
      | (go_at_call 102; refine (HAD.out _ _ _ R0.out.arr R1.out.arr).mono ?_; rintro e w2 ⟨r2, rfl, hi2, hx2⟩; have hz2 := hx2.size; have R2 := Lib.hid hi2; obtain ⟨f2, g2, G2, j2, rfl⟩ := hi2.shape))
  all_goals go_wp2_with fail
  rename_i hS
  obtain ⟨hE, _, _, _, _, _, _, c0, c1, c2, _, _, _⟩ := hS
  simp only [World.size_drew] at hz2
  obtain ⟨hr0, hr1, hr2⟩ := final3 c0 c1 c2
  refine bodyPost_ret (v := .agg #[.bool f4, .slice G4 g4 j4, .slice Y4 y4 z4]) (by simp [results, Tryz.results42, go_sem, hr0, hr1, hr2]) rfl ?_
  exact ⟨_, rfl, R4.out.put (by omega) (by omega), hE⟩
set_option maxRecDepth 100000 in
theorem subR_any (w : World) (v0 : Value) (p : Int) (q : Nat) (h0 : ArrRat w v0 p q) (n0 : (limbs p.natAbs).length ≤ 1000000) (m0 : (limbs q).length ≤ 1000000) (v1 : Value) (r : Int) (s : Nat) (h1 : ArrRat w v1 r s) (n1 : (limbs r.natAbs).length ≤ 1000000) (m1 : (limbs s).length ≤ 1000000) (hq : 0 < q) (hs : 0 < s) :
    Calls Tryz.prog 44 #[v0, v1] w fun e w' => ∃ v', e = .returned v' ∧ IsRat w.heap.size w' v' (addP p q (-r) s) (addQ p q (-r) s) ∧ Ext w w' := by
  have H0 := Lib.hid h0
  have H1 := Lib.hid h1
  have HNG := Lib.hid (fun W v a => negR_any W v r s a n1 m1)
  have HAD := Lib.hid (fun W v u a b => addR_any W v p q a n0 m0 u (-r) s b (by rw [Int.natAbs_neg]; exact n1) m1 hq hs)
  obtain ⟨b0, l0, A0, c0, k0, D0, e0, rfl⟩ := h0.shape
  obtain ⟨b1, l1, A1, c1, k1, D1, e1, rfl⟩ := h1.shape
  clear h0 h1
  go_enter Tryz.func44, Tryz.ntmps44
  go_wp2_with fail
  have hb0 := (((Blk.new w 26 #[Value.bool b0, Value.slice A0 l0 c0, Value.slice D0 k0 e0]).alloc (.cells #[Value.bool b1, Value.slice A1 l1 c1, Value.slice D1 k1 e1] 26)).alloc (.cells #[Value.bool false, Value.slice none 0 0, Value.slice none 0 0] 26))
  have hb1 := ((Blk.new (w.alloc (.cells #[Value.bool b0, Value.slice A0 l0 c0, Value.slice D0 k0 e0] 26)) 26 #[Value.bool b1, Value.slice A1 l1 c1, Value.slice D1 k1 e1]).alloc (.cells #[Value.bool false, Value.slice none 0 0, Value.slice none 0 0] 26))
  have hb2 := (Blk.new ((w.alloc (.cells #[Value.bool b0, Value.slice A0 l0 c0, Value.slice D0 k0 e0] 26)).alloc (.cells #[Value.bool b1, Value.slice A1 l1 c1, Value.slice D1 k1 e1] 26)) 26 #[Value.bool false, Value.slice none 0 0, Value.slice none 0 0])
  have hxo := ((((Ext.refl w).alloc (.cells #[Value.bool b0, Value.slice A0 l0 c0, Value.slice D0 k0 e0] 26)).alloc (.cells #[Value.bool b1, Value.slice A1 l1 c1, Value.slice D1 k1 e1] 26)).alloc (.cells #[Value.bool false, Value.slice none 0 0, Value.slice none 0 0] 26))
  have hszo : w.heap.size + 1 + 1 + 1 = (((w.alloc (.cells #[Value.bool b0, Value.slice A0 l0 c0, Value.slice D0 k0 e0] 26)).alloc (.cells #[Value.bool b1, Value.slice A1 l1 c1, Value.slice D1 k1 e1] 26)).alloc (.cells #[Value.bool false, Value.slice none 0 0, Value.slice none 0 0] 26)).heap.size := by simp
  simp only [World.size_alloc] at hb1 hb2
  generalize ((w.alloc (.cells #[Value.bool b0, Value.slice A0 l0 c0, Value.slice D0 k0 e0] 26)).alloc (.cells #[Value.bool b1, Value.slice A1 l1 c1, Value.slice D1 k1 e1] 26)).alloc (.cells #[Value.bool false, Value.slice none 0 0, Value.slice none 0 0] 26) = wo at *
  obtain ⟨q0_0, q0_1, q0_2, _, _, _, _⟩ := hb0.three
  obtain ⟨q1_0, q1_1, q1_2, _, _, _, _⟩ := hb1.three
  obtain ⟨t0, t1, t2, s0, s1, s2, hgz⟩ := hb2.three
  clear hb0 hb1 hb2
  go_region_held3 (fun w' => Ext w w' ∧ w'.cell? ⟨w.heap.size, 0, none⟩ = some (Value.bool b0) ∧ w'.cell? ⟨w.heap.size, 1, none⟩ = some (Value.slice A0 l0 c0) ∧ w'.cell? ⟨w.heap.size, 2, none⟩ = some (Value.slice D0 k0 e0) ∧ w'.cell? ⟨w.heap.size + 1, 0, none⟩ = some (Value.bool b1) ∧ w'.cell? ⟨w.heap.size + 1, 1, none⟩ = some (Value.slice A1 l1 c1) ∧ w'.cell? ⟨w.heap.size + 1, 2, none⟩ = some (Value.slice D1 k1 e1) ∧ w'.cell? ⟨w.heap.size + 1 + 1, 0, none⟩ = some (was w' (w.heap.size + 1 + 1) 0) ∧ w'.cell? ⟨w.heap.size + 1 + 1, 1, none⟩ = some (was w' (w.heap.size + 1 + 1) 1) ∧ w'.cell? ⟨w.heap.size + 1 + 1, 2, none⟩ = some (was w' (w.heap.size + 1 + 1) 2) ∧ w'.frozen? ⟨w.heap.size + 1 + 1, 0, none⟩ = false ∧ w'.frozen? ⟨w.heap.size + 1 + 1, 1, none⟩ = false ∧ w'.frozen? ⟨w.heap.size + 1 + 1, 2, none⟩ = false)
    (first | (exact ⟨hxo.drew, q0_0, q0_1, q0_2, q1_0, q1_1, q1_2, was_some (w := wo.drew) t0, was_some (w := wo.drew) t1, was_some (w := wo.drew) t2, s0, s1, s2⟩) | (exact keptS6_3 (by assumption) (by assumption)) | (exact keptS6_3_set (by assumption) (by omega) (by omega) (by omega) (by omega) (by omega) (by omega) (by omega)))
    (first
      | (go_at_call 42; have hchk1 := hz0; refine (HAD.out _ _ _ (H0.out.ext (And.left (by assumption))) R0.out.arr).mono ?_; rintro e w2 ⟨r1, rfl, hi1, hx1⟩; have hz1 := hx1.size; have R0 := Lib.hid (R0.out.ext hx1); have R1 := Lib.hid hi1; obtain ⟨f1, g1, G1, j1, y1, Y1, z1, rfl⟩ := hi1.shape)
      | (go_at_call 28; refine (HNG.out _ _ (H1.out.ext (And.left (by assumption)))).mono ?_; rintro e w1 ⟨r0, rfl, hi0, hx0⟩; have hz0 := hx0.size; have R0 := Lib.hid hi0; obtain ⟨f0, g0, G0, j0, y0, Y0, z0, rfl⟩ := hi0.shape))
  all_goals go_wp2_with fail
  rename_i hS
  obtain ⟨hE, _, _, _, _, _, _, hc0, hc1, hc2, _, _, _⟩ := hS
  simp only [World.size_drew] at hz0
  obtain ⟨hr0, hr1, hr2⟩ := final3 hc0 hc1 hc2
  refine bodyPost_ret (v := .agg #[.bool f1, .slice G1 g1 j1, .slice Y1 y1 z1]) (by simp [results, Tryz.results44, go_sem, hr0, hr1, hr2]) rfl ?_
  exact ⟨_, rfl, R1.out.put (by omega) (by omega), hE⟩
set_option maxRecDepth 100000 in
theorem divR_zero (w : World) (v0 : Value) (p : Int) (q : Nat) (h0 : ArrRat w v0 p q) (_n0 : (limbs p.natAbs).length ≤ 1000000) (_m0 : (limbs q).length ≤ 1000000) (v1 : Value) (r : Int) (s : Nat) (h1 : ArrRat w v1 r s) (n1 : (limbs r.natAbs).length ≤ 1000000) (m1 : (limbs s).length ≤ 1000000) (hr : r = 0) :
    Calls Tryz.prog 43 #[v0, v1] w fun e w' => ∃ v', e = .returned (.tuple #[v', .int .i64 2]) ∧ IsRat w.heap.size w' v' (0) (0) ∧ Ext w w' := by
  have H0 := Lib.hid h0
  have H1 := Lib.hid h1
  have HSG := Lib.hid (fun W v a => signR_any W v r s a n1 m1)
  have hsg : (sgZ r == 0) = true := by rw [hr]; rfl
  obtain ⟨b0, l0, A0, c0, k0, D0, e0, rfl⟩ := h0.shape
  obtain ⟨b1, l1, A1, c1, k1, D1, e1, rfl⟩ := h1.shape
  generalize sgZ r = sg at *
  clear h0 h1 hr
  go_enter Tryz.func43, Tryz.ntmps43
  go_wp2_with fail
  have hb0 := (((Blk.new w 26 #[Value.bool b0, Value.slice A0 l0 c0, Value.slice D0 k0 e0]).alloc (.cells #[Value.bool b1, Value.slice A1 l1 c1, Value.slice D1 k1 e1] 26)).alloc (.cells #[Value.bool false, Value.slice none 0 0, Value.slice none 0 0] 26))
  have hb1 := ((Blk.new (w.alloc (.cells #[Value.bool b0, Value.slice A0 l0 c0, Value.slice D0 k0 e0] 26)) 26 #[Value.bool b1, Value.slice A1 l1 c1, Value.slice D1 k1 e1]).alloc (.cells #[Value.bool false, Value.slice none 0 0, Value.slice none 0 0] 26))
  have hb2 := (Blk.new ((w.alloc (.cells #[Value.bool b0, Value.slice A0 l0 c0, Value.slice D0 k0 e0] 26)).alloc (.cells #[Value.bool b1, Value.slice A1 l1 c1, Value.slice D1 k1 e1] 26)) 26 #[Value.bool false, Value.slice none 0 0, Value.slice none 0 0])
  have hxo := ((((Ext.refl w).alloc (.cells #[Value.bool b0, Value.slice A0 l0 c0, Value.slice D0 k0 e0] 26)).alloc (.cells #[Value.bool b1, Value.slice A1 l1 c1, Value.slice D1 k1 e1] 26)).alloc (.cells #[Value.bool false, Value.slice none 0 0, Value.slice none 0 0] 26))
  have hszo : w.heap.size + 1 + 1 + 1 = (((w.alloc (.cells #[Value.bool b0, Value.slice A0 l0 c0, Value.slice D0 k0 e0] 26)).alloc (.cells #[Value.bool b1, Value.slice A1 l1 c1, Value.slice D1 k1 e1] 26)).alloc (.cells #[Value.bool false, Value.slice none 0 0, Value.slice none 0 0] 26)).heap.size := by simp
  simp only [World.size_alloc] at hb1 hb2
  generalize ((w.alloc (.cells #[Value.bool b0, Value.slice A0 l0 c0, Value.slice D0 k0 e0] 26)).alloc (.cells #[Value.bool b1, Value.slice A1 l1 c1, Value.slice D1 k1 e1] 26)).alloc (.cells #[Value.bool false, Value.slice none 0 0, Value.slice none 0 0] 26) = wo at *
  have HB0 := Lib.hid hb0
  have HB1 := Lib.hid hb1
  have HB2 := Lib.hid hb2
  have HX := Lib.hid hxo
  have HZ : Hid (w.heap.size + 1 + 1 + 1 ≤ wo.heap.size) := Lib.hid (by omega)
  clear hxo hszo hb0 hb1 hb2
  refine (HSG.out _ _ (H1.out.ext HX.out)).mono ?_
  rintro e w1 ⟨rfl, hx0⟩
  have HX := Lib.hid (HX.out.trans hx0)
  have HZ0 := Lib.hid hx0.size
  have HB0 := Lib.hid (HB0.out.ext hx0)
  have HB1 := Lib.hid (HB1.out.ext hx0)
  have HB2 := Lib.hid (HB2.out.ext hx0)
  clear hx0
  obtain ⟨u0_0_0, u0_0_1, u0_0_2, u0_0_3, u0_0_4, u0_0_5, u0_0_6⟩ := HB0.out.three
  obtain ⟨u0_1_0, u0_1_1, u0_1_2, u0_1_3, u0_1_4, u0_1_5, u0_1_6⟩ := HB1.out.three
  obtain ⟨u0_2_0, u0_2_1, u0_2_2, u0_2_3, u0_2_4, u0_2_5, u0_2_6⟩ := HB2.out.three
  go_wp2_with fail
  obtain ⟨hr0, hr1, hr2⟩ := three_set HB2.out (.bool false) (.slice none 0 0) (.slice none 0 0)
  refine bodyPost_ret (v := .tuple #[.agg #[.bool false, .slice none 0 0, .slice none 0 0], .int .i64 2]) (by simp [results, Tryz.results43, go_sem, hr0, hr1, hr2]) rfl ?_
  exact ⟨_, rfl, IsRat.zero _ _, ((HX.out.setCell (Nat.le_trans (Nat.le_succ _) (Nat.le_succ _)) _).setCell (Nat.le_trans (Nat.le_succ _) (Nat.le_succ _)) _).setCell (Nat.le_trans (Nat.le_succ _) (Nat.le_succ _)) _⟩
set_option maxRecDepth 100000 in
theorem divR_pos (w : World) (v0 : Value) (p : Int) (q : Nat) (h0 : ArrRat w v0 p q) (n0 : (limbs p.natAbs).length ≤ 1000000) (m0 : (limbs q).length ≤ 1000000) (v1 : Value) (r : Int) (s : Nat) (h1 : ArrRat w v1 r s) (n1 : (limbs r.natAbs).length ≤ 1000000) (m1 : (limbs s).length ≤ 1000000) (hq : 0 < q) (hr : r ≠ 0) :
    Calls Tryz.prog 43 #[v0, v1] w fun e w' => ∃ v', e = .returned (.tuple #[v', .int .i64 0]) ∧ IsRat w.heap.size w' v' (mulP p q (invP r s) r.natAbs) (mulQ p q (invP r s) r.natAbs) ∧ Ext w w' := by
  have H0 := Lib.hid h0
  have H1 := Lib.hid h1
  have HSG := Lib.hid (fun W v a => signR_any W v r s a n1 m1)
  have hsg : (sgZ r == 0) = false := by rw [beq_eq_false_iff_ne]; unfold sgZ; split <;> (try split) <;> omega
  have HIV := Lib.hid (fun W v a => invR_any W v r s a n1 m1)
  have HM := Lib.hid (fun W v u a b => mulR_any W v p q a n0 m0 u (invP r s) r.natAbs b (by unfold invP; rw [natAbs_sgn]; exact m1) n1 hq (by omega))
  obtain ⟨b0, l0, A0, c0, k0, D0, e0, rfl⟩ := h0.shape
  obtain ⟨b1, l1, A1, c1, k1, D1, e1, rfl⟩ := h1.shape
  generalize sgZ r = sg at *
  clear h0 h1 hr
  go_enter Tryz.func43, Tryz.ntmps43
  go_wp2_with fail
  have hb0 := (((Blk.new w 26 #[Value.bool b0, Value.slice A0 l0 c0, Value.slice D0 k0 e0]).alloc (.cells #[Value.bool b1, Value.slice A1 l1 c1, Value.slice D1 k1 e1] 26)).alloc (.cells #[Value.bool false, Value.slice none 0 0, Value.slice none 0 0] 26))
  have hb1 := ((Blk.new (w.alloc (.cells #[Value.bool b0, Value.slice A0 l0 c0, Value.slice D0 k0 e0] 26)) 26 #[Value.bool b1, Value.slice A1 l1 c1, Value.slice D1 k1 e1]).alloc (.cells #[Value.bool false, Value.slice none 0 0, Value.slice none 0 0] 26))
  have hb2 := (Blk.new ((w.alloc (.cells #[Value.bool b0, Value.slice A0 l0 c0, Value.slice D0 k0 e0] 26)).alloc (.cells #[Value.bool b1, Value.slice A1 l1 c1, Value.slice D1 k1 e1] 26)) 26 #[Value.bool false, Value.slice none 0 0, Value.slice none 0 0])
  have hxo := ((((Ext.refl w).alloc (.cells #[Value.bool b0, Value.slice A0 l0 c0, Value.slice D0 k0 e0] 26)).alloc (.cells #[Value.bool b1, Value.slice A1 l1 c1, Value.slice D1 k1 e1] 26)).alloc (.cells #[Value.bool false, Value.slice none 0 0, Value.slice none 0 0] 26))
  have hszo : w.heap.size + 1 + 1 + 1 = (((w.alloc (.cells #[Value.bool b0, Value.slice A0 l0 c0, Value.slice D0 k0 e0] 26)).alloc (.cells #[Value.bool b1, Value.slice A1 l1 c1, Value.slice D1 k1 e1] 26)).alloc (.cells #[Value.bool false, Value.slice none 0 0, Value.slice none 0 0] 26)).heap.size := by simp
  simp only [World.size_alloc] at hb1 hb2
  generalize ((w.alloc (.cells #[Value.bool b0, Value.slice A0 l0 c0, Value.slice D0 k0 e0] 26)).alloc (.cells #[Value.bool b1, Value.slice A1 l1 c1, Value.slice D1 k1 e1] 26)).alloc (.cells #[Value.bool false, Value.slice none 0 0, Value.slice none 0 0] 26) = wo at *
  refine (HSG.out _ _ (H1.out.ext hxo)).mono ?_
  rintro e wl ⟨rfl, hxl⟩
  have hb0 := hb0.ext hxl
  have hb1 := hb1.ext hxl
  have hb2 := hb2.ext hxl
  have hxo := hxo.trans hxl
  have hzl := hxl.size
  go_wp2_with fail
  obtain ⟨q0_0, q0_1, q0_2, _, _, _, _⟩ := hb0.three
  obtain ⟨q1_0, q1_1, q1_2, _, _, _, _⟩ := hb1.three
  obtain ⟨t0, t1, t2, s0, s1, s2, hgz⟩ := hb2.three
  clear hb0 hb1 hb2
  go_region_held3 (fun w' => Ext w w' ∧ w'.cell? ⟨w.heap.size, 0, none⟩ = some (Value.bool b0) ∧ w'.cell? ⟨w.heap.size, 1, none⟩ = some (Value.slice A0 l0 c0) ∧ w'.cell? ⟨w.heap.size, 2, none⟩ = some (Value.slice D0 k0 e0) ∧ w'.cell? ⟨w.heap.size + 1, 0, none⟩ = some (Value.bool b1) ∧ w'.cell? ⟨w.heap.size + 1, 1, none⟩ = some (Value.slice A1 l1 c1) ∧ w'.cell? ⟨w.heap.size + 1, 2, none⟩ = some (Value.slice D1 k1 e1) ∧ w'.cell? ⟨w.heap.size + 1 + 1, 0, none⟩ = some (was w' (w.heap.size + 1 + 1) 0) ∧ w'.cell? ⟨w.heap.size + 1 + 1, 1, none⟩ = some (was w' (w.heap.size + 1 + 1) 1) ∧ w'.cell? ⟨w.heap.size + 1 + 1, 2, none⟩ = some (was w' (w.heap.size + 1 + 1) 2) ∧ w'.frozen? ⟨w.heap.size + 1 + 1, 0, none⟩ = false ∧ w'.frozen? ⟨w.heap.size + 1 + 1, 1, none⟩ = false ∧ w'.frozen? ⟨w.heap.size + 1 + 1, 2, none⟩ = false)
    (first | (exact ⟨hxo.drew, q0_0, q0_1, q0_2, q1_0, q1_1, q1_2, was_some (w := wl.drew) t0, was_some (w := wl.drew) t1, was_some (w := wl.drew) t2, s0, s1, s2⟩) | (exact keptS6_3 (by assumption) (by assumption)) | (exact keptS6_3_set (by assumption) (by omega) (by omega) (by omega) (by omega) (by omega) (by omega) (by omega)))
    (first
      | (go_at_call 25; have hchk1 := hz0; refine (HM.out _ _ _ (H0.out.ext (And.left (by assumption))) R0.out.arr).mono ?_; rintro e w2 ⟨r1, rfl, hi1, hx1⟩; have hz1 := hx1.size; have R0 := Lib.hid (R0.out.ext hx1); have R1 := Lib.hid hi1; obtain ⟨f1, g1, G1, j1, y1, Y1, z1, rfl⟩ := hi1.shape)
      | (go_at_call 99; refine (HIV.out _ _ (H1.out.ext (And.left (by assumption)))).mono ?_; rintro e w1 ⟨r0, rfl, hi0, hx0⟩; have hz0 := hx0.size; have R0 := Lib.hid hi0; obtain ⟨f0, g0, G0, j0, y0, Y0, z0, rfl⟩ := hi0.shape))
  all_goals go_wp2_with fail
  rename_i hS
  obtain ⟨hE, _, _, _, _, _, _, hc0, hc1, hc2, _, _, _⟩ := hS
  simp only [World.size_drew] at hz0
  obtain ⟨hr0, hr1, hr2⟩ := final3 hc0 hc1 hc2
  refine bodyPost_ret (v := .tuple #[.agg #[.bool f1, .slice G1 g1 j1, .slice Y1 y1 z1], .int .i64 0]) (by simp [results, Tryz.results43, go_sem, hr0, hr1, hr2]) rfl ?_
  exact ⟨_, rfl, R1.out.put (by omega) (by omega), hE⟩
set_option maxRecDepth 100000 in
theorem pmake_zero (w : World) (v0 : Value) (x : Int) (h0 : ArrInt w v0 x) (_n0 : (limbs x.natAbs).length ≤ 1000000) (v1 : Value) (y : Int) (h1 : ArrInt w v1 y) (n1 : (limbs y.natAbs).length ≤ 1000000) (hy : y = 0) :
    Calls Tryz.prog 30 #[v0, v1] w fun e w' => ∃ v', e = .returned (.tuple #[v', .int .i64 2]) ∧ IsRat w.heap.size w' v' (0) (0) ∧ Ext w w' := by
  have H0 := Lib.hid h0
  have H1 := Lib.hid h1
  have HSG := Lib.hid (fun W v a => isign_any W v y a (by omega))
  have hsg : (sgZ y == 0) = true := by rw [hy]; rfl
  obtain ⟨b0, l0, A0, c0, rfl⟩ := h0.shape
  obtain ⟨b1, l1, A1, c1, rfl⟩ := h1.shape
  generalize sgZ y = sg at *
  clear h0 h1 hy
  go_enter Tryz.func30, Tryz.ntmps30
  go_wp2_with fail
  have hb0 := (((Blk.new w 24 #[Value.bool b0, Value.slice A0 l0 c0]).alloc (.cells #[Value.bool b1, Value.slice A1 l1 c1] 24)).alloc (.cells #[Value.bool false, Value.slice none 0 0, Value.slice none 0 0] 26))
  have hb1 := ((Blk.new (w.alloc (.cells #[Value.bool b0, Value.slice A0 l0 c0] 24)) 24 #[Value.bool b1, Value.slice A1 l1 c1]).alloc (.cells #[Value.bool false, Value.slice none 0 0, Value.slice none 0 0] 26))
  have hb2 := (Blk.new ((w.alloc (.cells #[Value.bool b0, Value.slice A0 l0 c0] 24)).alloc (.cells #[Value.bool b1, Value.slice A1 l1 c1] 24)) 26 #[Value.bool false, Value.slice none 0 0, Value.slice none 0 0])
  have hxo := ((((Ext.refl w).alloc (.cells #[Value.bool b0, Value.slice A0 l0 c0] 24)).alloc (.cells #[Value.bool b1, Value.slice A1 l1 c1] 24)).alloc (.cells #[Value.bool false, Value.slice none 0 0, Value.slice none 0 0] 26))
  have hszo : w.heap.size + 1 + 1 + 1 = (((w.alloc (.cells #[Value.bool b0, Value.slice A0 l0 c0] 24)).alloc (.cells #[Value.bool b1, Value.slice A1 l1 c1] 24)).alloc (.cells #[Value.bool false, Value.slice none 0 0, Value.slice none 0 0] 26)).heap.size := by simp
  simp only [World.size_alloc] at hb1 hb2
  generalize ((w.alloc (.cells #[Value.bool b0, Value.slice A0 l0 c0] 24)).alloc (.cells #[Value.bool b1, Value.slice A1 l1 c1] 24)).alloc (.cells #[Value.bool false, Value.slice none 0 0, Value.slice none 0 0] 26) = wo at *
  have HB0 := Lib.hid hb0
  have HB1 := Lib.hid hb1
  have HB2 := Lib.hid hb2
  have HX := Lib.hid hxo
  have HZ : Hid (w.heap.size + 1 + 1 + 1 ≤ wo.heap.size) := Lib.hid (by omega)
  clear hxo hszo hb0 hb1 hb2
  refine (HSG.out _ _ (H1.out.ext HX.out)).mono ?_
  rintro e w1 ⟨rfl, hx0⟩
  have HX := Lib.hid (HX.out.trans hx0)
  have HZ0 := Lib.hid hx0.size
  have HB0 := Lib.hid (HB0.out.ext hx0)
  have HB1 := Lib.hid (HB1.out.ext hx0)
  have HB2 := Lib.hid (HB2.out.ext hx0)
  clear hx0
  obtain ⟨u0_0_0, u0_0_1, u0_0_2, u0_0_3, u0_0_4⟩ := HB0.out.two
  obtain ⟨u0_1_0, u0_1_1, u0_1_2, u0_1_3, u0_1_4⟩ := HB1.out.two
  obtain ⟨u0_2_0, u0_2_1, u0_2_2, u0_2_3, u0_2_4, u0_2_5, u0_2_6⟩ := HB2.out.three
  go_wp2_with fail
  obtain ⟨hr0, hr1, hr2⟩ := three_set HB2.out (.bool false) (.slice none 0 0) (.slice none 0 0)
  refine bodyPost_ret (v := .tuple #[.agg #[.bool false, .slice none 0 0, .slice none 0 0], .int .i64 2]) (by simp [results, Tryz.results30, go_sem, hr0, hr1, hr2]) rfl ?_
  exact ⟨_, rfl, IsRat.zero _ _, ((HX.out.setCell (Nat.le_trans (Nat.le_succ _) (Nat.le_succ _)) _).setCell (Nat.le_trans (Nat.le_succ _) (Nat.le_succ _)) _).setCell (Nat.le_trans (Nat.le_succ _) (Nat.le_succ _)) _⟩
set_option maxRecDepth 100000 in
theorem pmake_pos (w : World) (v0 : Value) (x : Int) (h0 : ArrInt w v0 x) (n0 : (limbs x.natAbs).length ≤ 1000000) (v1 : Value) (y : Int) (h1 : ArrInt w v1 y) (n1 : (limbs y.natAbs).length ≤ 1000000) (hy : y ≠ 0) :
    Calls Tryz.prog 30 #[v0, v1] w fun e w' => ∃ v', e = .returned (.tuple #[v', .int .i64 0]) ∧ IsRat w.heap.size w' v' (makeN x y) (makeD x y) ∧ Ext w w' := by
  have H0 := Lib.hid h0
  have H1 := Lib.hid h1
  have HSG := Lib.hid (fun W v a => isign_any W v y a (by omega))
  have hsg : (sgZ y == 0) = false := by rw [beq_eq_false_iff_ne]; unfold sgZ; split <;> (try split) <;> omega
  have HI := Lib.hid (fun W m a => inat_any W (decide (x < 0) != decide (y < 0)) m (limbs x.natAbs) a (by omega))
  rw [val_limbs] at HI
  have HLW := Lib.hid (fun W v u a b => lowestR_any W v u (sgn (decide (x < 0) != decide (y < 0)) x.natAbs) (limbs y.natAbs) a b (by rw [natAbs_sgn]; omega) (by omega) (by rw [val_limbs]; omega))
  rw [val_limbs, (make_low2 x y).1, (make_low2 x y).2] at HLW
  obtain ⟨b0, l0, A0, c0, rfl⟩ := h0.shape
  obtain ⟨b1, l1, A1, c1, rfl⟩ := h1.shape
  have hs0 := h0.sign
  have hs1 := h1.sign
  rw [← hs0, ← hs1] at HI HLW
  generalize sgZ y = sg at *
  clear h0 h1 hy hs0 hs1
  go_enter Tryz.func30, Tryz.ntmps30
  go_wp2_with fail
  have hb0 := (((Blk.new w 24 #[Value.bool b0, Value.slice A0 l0 c0]).alloc (.cells #[Value.bool b1, Value.slice A1 l1 c1] 24)).alloc (.cells #[Value.bool false, Value.slice none 0 0, Value.slice none 0 0] 26))
  have hb1 := ((Blk.new (w.alloc (.cells #[Value.bool b0, Value.slice A0 l0 c0] 24)) 24 #[Value.bool b1, Value.slice A1 l1 c1]).alloc (.cells #[Value.bool false, Value.slice none 0 0, Value.slice none 0 0] 26))
  have hb2 := (Blk.new ((w.alloc (.cells #[Value.bool b0, Value.slice A0 l0 c0] 24)).alloc (.cells #[Value.bool b1, Value.slice A1 l1 c1] 24)) 26 #[Value.bool false, Value.slice none 0 0, Value.slice none 0 0])
  have hxo := ((((Ext.refl w).alloc (.cells #[Value.bool b0, Value.slice A0 l0 c0] 24)).alloc (.cells #[Value.bool b1, Value.slice A1 l1 c1] 24)).alloc (.cells #[Value.bool false, Value.slice none 0 0, Value.slice none 0 0] 26))
  have hszo : w.heap.size + 1 + 1 + 1 = (((w.alloc (.cells #[Value.bool b0, Value.slice A0 l0 c0] 24)).alloc (.cells #[Value.bool b1, Value.slice A1 l1 c1] 24)).alloc (.cells #[Value.bool false, Value.slice none 0 0, Value.slice none 0 0] 26)).heap.size := by simp
  simp only [World.size_alloc] at hb1 hb2
  generalize ((w.alloc (.cells #[Value.bool b0, Value.slice A0 l0 c0] 24)).alloc (.cells #[Value.bool b1, Value.slice A1 l1 c1] 24)).alloc (.cells #[Value.bool false, Value.slice none 0 0, Value.slice none 0 0] 26) = wo at *
  refine (HSG.out _ _ (H1.out.ext hxo)).mono ?_
  rintro e wl ⟨rfl, hxl⟩
  have hb0 := hb0.ext hxl
  have hb1 := hb1.ext hxl
  have hb2 := hb2.ext hxl
  have hxo := hxo.trans hxl
  have hzl := hxl.size
  go_wp2_with fail
  obtain ⟨q0_0, q0_1, _, _, _⟩ := hb0.two
  obtain ⟨q1_0, q1_1, _, _, _⟩ := hb1.two
  obtain ⟨t0, t1, t2, s0, s1, s2, hgz⟩ := hb2.three
  clear hb0 hb1 hb2
  go_region_held3 (fun w' => Ext w w' ∧ w'.cell? ⟨w.heap.size, 0, none⟩ = some (Value.bool b0) ∧ w'.cell? ⟨w.heap.size, 1, none⟩ = some (Value.slice A0 l0 c0) ∧ w'.cell? ⟨w.heap.size + 1, 0, none⟩ = some (Value.bool b1) ∧ w'.cell? ⟨w.heap.size + 1, 1, none⟩ = some (Value.slice A1 l1 c1) ∧ w'.cell? ⟨w.heap.size + 1 + 1, 0, none⟩ = some (was w' (w.heap.size + 1 + 1) 0) ∧ w'.cell? ⟨w.heap.size + 1 + 1, 1, none⟩ = some (was w' (w.heap.size + 1 + 1) 1) ∧ w'.cell? ⟨w.heap.size + 1 + 1, 2, none⟩ = some (was w' (w.heap.size + 1 + 1) 2) ∧ w'.frozen? ⟨w.heap.size + 1 + 1, 0, none⟩ = false ∧ w'.frozen? ⟨w.heap.size + 1 + 1, 1, none⟩ = false ∧ w'.frozen? ⟨w.heap.size + 1 + 1, 2, none⟩ = false)
    (first | (exact ⟨hxo.drew, q0_0, q0_1, q1_0, q1_1, was_some (w := wl.drew) t0, was_some (w := wl.drew) t1, was_some (w := wl.drew) t2, s0, s1, s2⟩) | (exact keptS4_3 (by assumption) (by assumption)) | (exact keptS4_3_set (by assumption) (by omega) (by omega) (by omega) (by omega) (by omega)))
    (first
      | (go_at_call 76; have hchk1 := hz0; refine (HLW.out _ _ _ R0.out.arr (H1.out.mag.ext (And.left (by assumption)))).mono ?_; rintro e w2 ⟨r1, rfl, hi1, hx1⟩; have hz1 := hx1.size; have R0 := Lib.hid (R0.out.ext hx1); have R1 := Lib.hid hi1; obtain ⟨f1, g1, G1, j1, y1, Y1, z1, rfl⟩ := hi1.shape)
      | (go_at_call 77; refine (HI.out _ _ (H0.out.mag.ext (And.left (by assumption)))).mono ?_; rintro e w1 ⟨r0, rfl, hi0, hx0⟩; have hz0 := hx0.size; have R0 := Lib.hid hi0; obtain ⟨f0, g0, G0, j0, rfl⟩ := hi0.shape))
  all_goals go_wp2_with fail
  rename_i hS
  obtain ⟨hE, _, _, _, _, hc0, hc1, hc2, _, _, _⟩ := hS
  simp only [World.size_drew] at hz0
  obtain ⟨hr0, hr1, hr2⟩ := final3 hc0 hc1 hc2
  refine bodyPost_ret (v := .tuple #[.agg #[.bool f1, .slice G1 g1 j1, .slice Y1 y1 z1], .int .i64 0]) (by simp [results, Tryz.results30, go_sem, hr0, hr1, hr2]) rfl ?_
  exact ⟨_, rfl, R1.out.put (by omega) (by omega), hE⟩
set_option maxRecDepth 100000 in
theorem rdivR_zero (w : World) (v0 : Value) (p : Int) (q : Nat) (h0 : ArrRat w v0 p q) (n0 : (limbs p.natAbs).length ≤ 1000000) (m0 : (limbs q).length ≤ 1000000) (v1 : Value) (r : Int) (s : Nat) (h1 : ArrRat w v1 r s) (n1 : (limbs r.natAbs).length ≤ 1000000) (m1 : (limbs s).length ≤ 1000000) (hr : r = 0) :
    Calls Tryz.prog 17 #[v0, v1] w fun e w' => ∃ v', e = .returned (.tuple #[v', .int .i64 2]) ∧ IsRat w.heap.size w' v' (0) (0) ∧ Ext w w' := by
  have H0 := Lib.hid h0
  have H1 := Lib.hid h1
  have HD0 := Lib.hid (fun W v a => rden_any W v p q a n0 m0)
  have HD1 := Lib.hid (fun W v a => rden_any W v r s a n1 m1)
  have HM0 := Lib.hid (fun W v u a b => rmul5_any W v p a (by omega) u (s : Int) b (by rw [limbs_nat_cast]; omega))
  have HM1 := Lib.hid (fun W v u a b => rmul5_any W v (q : Int) a (by rw [limbs_nat_cast]; omega) u r b (by omega))
  have HMK := Lib.hid (fun W v u (a : ArrInt W v (p * (s : Int))) (b : ArrInt W u ((q : Int) * r)) => rmake_zero W v u (p * (s : Int)) a (by rw [hr, Int.mul_zero] at b; exact b))
  obtain ⟨b0, l0, A0, c0, k0, D0, e0, rfl⟩ := h0.shape
  obtain ⟨b1, l1, A1, c1, k1, D1, e1, rfl⟩ := h1.shape
  clear h0 h1
  go_enter Tryz.func17, Tryz.ntmps17
  go_wp2_with fail
  have hb0 := (((Blk.new w 26 #[Value.bool b0, Value.slice A0 l0 c0, Value.slice D0 k0 e0]).alloc (.cells #[Value.bool b1, Value.slice A1 l1 c1, Value.slice D1 k1 e1] 26)).alloc (.cells #[Value.bool false, Value.slice none 0 0, Value.slice none 0 0] 26))
  have hb1 := ((Blk.new (w.alloc (.cells #[Value.bool b0, Value.slice A0 l0 c0, Value.slice D0 k0 e0] 26)) 26 #[Value.bool b1, Value.slice A1 l1 c1, Value.slice D1 k1 e1]).alloc (.cells #[Value.bool false, Value.slice none 0 0, Value.slice none 0 0] 26))
  have hb2 := (Blk.new ((w.alloc (.cells #[Value.bool b0, Value.slice A0 l0 c0, Value.slice D0 k0 e0] 26)).alloc (.cells #[Value.bool b1, Value.slice A1 l1 c1, Value.slice D1 k1 e1] 26)) 26 #[Value.bool false, Value.slice none 0 0, Value.slice none 0 0])
  have hxo := ((((Ext.refl w).alloc (.cells #[Value.bool b0, Value.slice A0 l0 c0, Value.slice D0 k0 e0] 26)).alloc (.cells #[Value.bool b1, Value.slice A1 l1 c1, Value.slice D1 k1 e1] 26)).alloc (.cells #[Value.bool false, Value.slice none 0 0, Value.slice none 0 0] 26))
  have hszo : w.heap.size + 1 + 1 + 1 = (((w.alloc (.cells #[Value.bool b0, Value.slice A0 l0 c0, Value.slice D0 k0 e0] 26)).alloc (.cells #[Value.bool b1, Value.slice A1 l1 c1, Value.slice D1 k1 e1] 26)).alloc (.cells #[Value.bool false, Value.slice none 0 0, Value.slice none 0 0] 26)).heap.size := by simp
  simp only [World.size_alloc] at hb1 hb2
  generalize ((w.alloc (.cells #[Value.bool b0, Value.slice A0 l0 c0, Value.slice D0 k0 e0] 26)).alloc (.cells #[Value.bool b1, Value.slice A1 l1 c1, Value.slice D1 k1 e1] 26)).alloc (.cells #[Value.bool false, Value.slice none 0 0, Value.slice none 0 0] 26) = wo at *
  obtain ⟨q0_0, q0_1, q0_2, _, _, _, _⟩ := hb0.three
  obtain ⟨q1_0, q1_1, q1_2, _, _, _, _⟩ := hb1.three
  obtain ⟨t0, t1, t2, s0, s1, s2, hgz⟩ := hb2.three
  clear hb0 hb1 hb2
  go_region_held3 (fun w' => Ext w w' ∧ w'.cell? ⟨w.heap.size, 0, none⟩ = some (Value.bool b0) ∧ w'.cell? ⟨w.heap.size, 1, none⟩ = some (Value.slice A0 l0 c0) ∧ w'.cell? ⟨w.heap.size, 2, none⟩ = some (Value.slice D0 k0 e0) ∧ w'.cell? ⟨w.heap.size + 1, 0, none⟩ = some (Value.bool b1) ∧ w'.cell? ⟨w.heap.size + 1, 1, none⟩ = some (Value.slice A1 l1 c1) ∧ w'.cell? ⟨w.heap.size + 1, 2, none⟩ = some (Value.slice D1 k1 e1) ∧ w'.cell? ⟨w.heap.size + 1 + 1, 0, none⟩ = some (was w' (w.heap.size + 1 + 1) 0) ∧ w'.cell? ⟨w.heap.size + 1 + 1, 1, none⟩ = some (was w' (w.heap.size + 1 + 1) 1) ∧ w'.cell? ⟨w.heap.size + 1 + 1, 2, none⟩ = some (was w' (w.heap.size + 1 + 1) 2) ∧ w'.frozen? ⟨w.heap.size + 1 + 1, 0, none⟩ = false ∧ w'.frozen? ⟨w.heap.size + 1 + 1, 1, none⟩ = false ∧ w'.frozen? ⟨w.heap.size + 1 + 1, 2, none⟩ = false)
    (first | (exact ⟨hxo.drew, q0_0, q0_1, q0_2, q1_0, q1_1, q1_2, was_some (w := wo.drew) t0, was_some (w := wo.drew) t1, was_some (w := wo.drew) t2, s0, s1, s2⟩) | (exact keptS6_3 (by assumption) (by assumption)) | (exact keptS6_3_set (by assumption) (by omega) (by omega) (by omega) (by omega) (by omega) (by omega) (by omega)))
    (first
      | (go_at_call 31; have hchk4 := hz3; refine (HMK.out _ _ _ R1.out.arr R3.out.arr).mono ?_; rintro e w5 ⟨r4, rfl, hi4, hx4⟩; have hz4 := hx4.size; have R0 := Lib.hid (R0.out.ext hx4); have R1 := Lib.hid (R1.out.ext hx4); have R2 := Lib.hid (R2.out.ext hx4); have R3 := Lib.hid (R3.out.ext hx4); have R4 := Lib.hid hi4; obtain ⟨f4, g4, G4, j4, y4, Y4, z4, rfl⟩ := hi4.shape)
      | (go_at_call 58; have hchk3 := hz2; refine (HM1.out _ _ _ R2.out.arr (H1.out.int.ext (And.left (by assumption)))).mono ?_; rintro e w4 ⟨r3, rfl, hi3, hx3⟩; have hz3 := hx3.size; have R0 := Lib.hid (R0.out.ext hx3); have R1 := Lib.hid (R1.out.ext hx3); have R2 := Lib.hid (R2.out.ext hx3); have R3 := Lib.hid hi3; obtain ⟨f3, g3, G3, j3, rfl⟩ := hi3.shape)
      | (go_at_call 59; have hchk2 := hz1; refine (HD0.out _ _ (H0.out.ext (And.left (by assumption)))).mono ?_; rintro e w3 ⟨r2, rfl, hi2, hx2⟩; have hz2 := hx2.size; have R0 := Lib.hid (R0.out.ext hx2); have R1 := Lib.hid (R1.out.ext hx2); have R2 := Lib.hid hi2; obtain ⟨f2, g2, G2, j2, rfl⟩ := hi2.shape)
      | (go_at_call 58; have hchk1 := hz0; refine (HM0.out _ _ _ (H0.out.int.ext (And.left (by assumption))) R0.out.arr).mono ?_; rintro e w2 ⟨r1, rfl, hi1, hx1⟩; have hz1 := hx1.size; have R0 := Lib.hid (R0.out.ext hx1); have R1 := Lib.hid hi1; obtain ⟨f1, g1, G1, j1, rfl⟩ := hi1.shape)
      | (go_at_call 59; refine (HD1.out _ _ (H1.out.ext (And.left (by assumption)))).mono ?_; rintro e w1 ⟨r0, rfl, hi0, hx0⟩; have hz0 := hx0.size; have R0 := Lib.hid hi0; obtain ⟨f0, g0, G0, j0, rfl⟩ := hi0.shape))
  all_goals go_wp2_with fail
  rename_i hS
  obtain ⟨hE, _, _, _, _, _, _, hc0, hc1, hc2, _, _, _⟩ := hS
  simp only [World.size_drew] at hz0
  obtain ⟨hr0, hr1, hr2⟩ := final3 hc0 hc1 hc2
  refine bodyPost_ret (v := .tuple #[.agg #[.bool f4, .slice G4 g4 j4, .slice Y4 y4 z4], .int .i64 2]) (by simp [results, Tryz.results17, go_sem, hr0, hr1, hr2]) rfl ?_
  exact ⟨_, rfl, R4.out.put (by omega) (by omega), hE⟩
set_option maxRecDepth 100000 in
theorem rdivR_pos (w : World) (v0 : Value) (p : Int) (q : Nat) (h0 : ArrRat w v0 p q) (n0 : (limbs p.natAbs).length ≤ 1000000) (m0 : (limbs q).length ≤ 1000000) (v1 : Value) (r : Int) (s : Nat) (h1 : ArrRat w v1 r s) (n1 : (limbs r.natAbs).length ≤ 1000000) (m1 : (limbs s).length ≤ 1000000) (hq : 0 < q) (hs : 0 < s) (hr : r ≠ 0) :
    Calls Tryz.prog 17 #[v0, v1] w fun e w' => ∃ v', e = .returned (.tuple #[v', .int .i64 0]) ∧ IsRat w.heap.size w' v' (mulP p q (invP r s) r.natAbs) (mulQ p q (invP r s) r.natAbs) ∧ Ext w w' := by
  have H0 := Lib.hid h0
  have H1 := Lib.hid h1
  have HD0 := Lib.hid (fun W v a => rden_any W v p q a n0 m0)
  have HD1 := Lib.hid (fun W v a => rden_any W v r s a n1 m1)
  have HM0 := Lib.hid (fun W v u a b => rmul5_any W v p a (by omega) u (s : Int) b (by rw [limbs_nat_cast]; omega))
  have HM1 := Lib.hid (fun W v u a b => rmul5_any W v (q : Int) a (by rw [limbs_nat_cast]; omega) u r b (by omega))
  have HMK := Lib.hid (fun W v u a b => rmake_any W v u (p * (s : Int)) ((q : Int) * r) a b (by have := limbs_mulz n0 m1; omega) (by rw [Int.natAbs_mul, Int.natAbs_natCast]; have := limbs_muln m0 n1; omega) (Int.mul_ne_zero (by omega) hr))
  rw [(makeQ p q r s hq hs).1, (makeQ p q r s hq hs).2] at HMK
  obtain ⟨b0, l0, A0, c0, k0, D0, e0, rfl⟩ := h0.shape
  obtain ⟨b1, l1, A1, c1, k1, D1, e1, rfl⟩ := h1.shape
  clear h0 h1
  go_enter Tryz.func17, Tryz.ntmps17
  go_wp2_with fail
  have hb0 := (((Blk.new w 26 #[Value.bool b0, Value.slice A0 l0 c0, Value.slice D0 k0 e0]).alloc (.cells #[Value.bool b1, Value.slice A1 l1 c1, Value.slice D1 k1 e1] 26)).alloc (.cells #[Value.bool false, Value.slice none 0 0, Value.slice none 0 0] 26))
  have hb1 := ((Blk.new (w.alloc (.cells #[Value.bool b0, Value.slice A0 l0 c0, Value.slice D0 k0 e0] 26)) 26 #[Value.bool b1, Value.slice A1 l1 c1, Value.slice D1 k1 e1]).alloc (.cells #[Value.bool false, Value.slice none 0 0, Value.slice none 0 0] 26))
  have hb2 := (Blk.new ((w.alloc (.cells #[Value.bool b0, Value.slice A0 l0 c0, Value.slice D0 k0 e0] 26)).alloc (.cells #[Value.bool b1, Value.slice A1 l1 c1, Value.slice D1 k1 e1] 26)) 26 #[Value.bool false, Value.slice none 0 0, Value.slice none 0 0])
  have hxo := ((((Ext.refl w).alloc (.cells #[Value.bool b0, Value.slice A0 l0 c0, Value.slice D0 k0 e0] 26)).alloc (.cells #[Value.bool b1, Value.slice A1 l1 c1, Value.slice D1 k1 e1] 26)).alloc (.cells #[Value.bool false, Value.slice none 0 0, Value.slice none 0 0] 26))
  have hszo : w.heap.size + 1 + 1 + 1 = (((w.alloc (.cells #[Value.bool b0, Value.slice A0 l0 c0, Value.slice D0 k0 e0] 26)).alloc (.cells #[Value.bool b1, Value.slice A1 l1 c1, Value.slice D1 k1 e1] 26)).alloc (.cells #[Value.bool false, Value.slice none 0 0, Value.slice none 0 0] 26)).heap.size := by simp
  simp only [World.size_alloc] at hb1 hb2
  generalize ((w.alloc (.cells #[Value.bool b0, Value.slice A0 l0 c0, Value.slice D0 k0 e0] 26)).alloc (.cells #[Value.bool b1, Value.slice A1 l1 c1, Value.slice D1 k1 e1] 26)).alloc (.cells #[Value.bool false, Value.slice none 0 0, Value.slice none 0 0] 26) = wo at *
  obtain ⟨q0_0, q0_1, q0_2, _, _, _, _⟩ := hb0.three
  obtain ⟨q1_0, q1_1, q1_2, _, _, _, _⟩ := hb1.three
  obtain ⟨t0, t1, t2, s0, s1, s2, hgz⟩ := hb2.three
  clear hb0 hb1 hb2
  go_region_held3 (fun w' => Ext w w' ∧ w'.cell? ⟨w.heap.size, 0, none⟩ = some (Value.bool b0) ∧ w'.cell? ⟨w.heap.size, 1, none⟩ = some (Value.slice A0 l0 c0) ∧ w'.cell? ⟨w.heap.size, 2, none⟩ = some (Value.slice D0 k0 e0) ∧ w'.cell? ⟨w.heap.size + 1, 0, none⟩ = some (Value.bool b1) ∧ w'.cell? ⟨w.heap.size + 1, 1, none⟩ = some (Value.slice A1 l1 c1) ∧ w'.cell? ⟨w.heap.size + 1, 2, none⟩ = some (Value.slice D1 k1 e1) ∧ w'.cell? ⟨w.heap.size + 1 + 1, 0, none⟩ = some (was w' (w.heap.size + 1 + 1) 0) ∧ w'.cell? ⟨w.heap.size + 1 + 1, 1, none⟩ = some (was w' (w.heap.size + 1 + 1) 1) ∧ w'.cell? ⟨w.heap.size + 1 + 1, 2, none⟩ = some (was w' (w.heap.size + 1 + 1) 2) ∧ w'.frozen? ⟨w.heap.size + 1 + 1, 0, none⟩ = false ∧ w'.frozen? ⟨w.heap.size + 1 + 1, 1, none⟩ = false ∧ w'.frozen? ⟨w.heap.size + 1 + 1, 2, none⟩ = false)
    (first | (exact ⟨hxo.drew, q0_0, q0_1, q0_2, q1_0, q1_1, q1_2, was_some (w := wo.drew) t0, was_some (w := wo.drew) t1, was_some (w := wo.drew) t2, s0, s1, s2⟩) | (exact keptS6_3 (by assumption) (by assumption)) | (exact keptS6_3_set (by assumption) (by omega) (by omega) (by omega) (by omega) (by omega) (by omega) (by omega)))
    (first
      | (go_at_call 31; have hchk4 := hz3; refine (HMK.out _ _ _ R1.out.arr R3.out.arr).mono ?_; rintro e w5 ⟨r4, rfl, hi4, hx4⟩; have hz4 := hx4.size; have R0 := Lib.hid (R0.out.ext hx4); have R1 := Lib.hid (R1.out.ext hx4); have R2 := Lib.hid (R2.out.ext hx4); have R3 := Lib.hid (R3.out.ext hx4); have R4 := Lib.hid hi4; obtain ⟨f4, g4, G4, j4, y4, Y4, z4, rfl⟩ := hi4.shape)
      | (go_at_call 58; have hchk3 := hz2; refine (HM1.out _ _ _ R2.out.arr (H1.out.int.ext (And.left (by assumption)))).mono ?_; rintro e w4 ⟨r3, rfl, hi3, hx3⟩; have hz3 := hx3.size; have R0 := Lib.hid (R0.out.ext hx3); have R1 := Lib.hid (R1.out.ext hx3); have R2 := Lib.hid (R2.out.ext hx3); have R3 := Lib.hid hi3; obtain ⟨f3, g3, G3, j3, rfl⟩ := hi3.shape)
      | (go_at_call 59; have hchk2 := hz1; refine (HD0.out _ _ (H0.out.ext (And.left (by assumption)))).mono ?_; rintro e w3 ⟨r2, rfl, hi2, hx2⟩; have hz2 := hx2.size; have R0 := Lib.hid (R0.out.ext hx2); have R1 := Lib.hid (R1.out.ext hx2); have R2 := Lib.hid hi2; obtain ⟨f2, g2, G2, j2, rfl⟩ := hi2.shape)
      | (go_at_call 58; have hchk1 := hz0; refine (HM0.out _ _ _ (H0.out.int.ext (And.left (by assumption))) R0.out.arr).mono ?_; rintro e w2 ⟨r1, rfl, hi1, hx1⟩; have hz1 := hx1.size; have R0 := Lib.hid (R0.out.ext hx1); have R1 := Lib.hid hi1; obtain ⟨f1, g1, G1, j1, rfl⟩ := hi1.shape)
      | (go_at_call 59; refine (HD1.out _ _ (H1.out.ext (And.left (by assumption)))).mono ?_; rintro e w1 ⟨r0, rfl, hi0, hx0⟩; have hz0 := hx0.size; have R0 := Lib.hid hi0; obtain ⟨f0, g0, G0, j0, rfl⟩ := hi0.shape))
  all_goals go_wp2_with fail
  rename_i hS
  obtain ⟨hE, _, _, _, _, _, _, hc0, hc1, hc2, _, _, _⟩ := hS
  simp only [World.size_drew] at hz0
  obtain ⟨hr0, hr1, hr2⟩ := final3 hc0 hc1 hc2
  refine bodyPost_ret (v := .tuple #[.agg #[.bool f4, .slice G4 g4 j4, .slice Y4 y4 z4], .int .i64 0]) (by simp [results, Tryz.results17, go_sem, hr0, hr1, hr2]) rfl ?_
  exact ⟨_, rfl, R4.out.put (by omega) (by omega), hE⟩
set_option maxRecDepth 100000 in
theorem rsameR_t (w : World) (v0 : Value) (p : Int) (q : Nat) (h0 : ArrRat w v0 p q) (n0 : (limbs p.natAbs).length ≤ 100000000) (m0 : (limbs q).length ≤ 100000000) (v1 : Value) (r : Int) (s : Nat) (h1 : ArrRat w v1 r s) (n1 : (limbs r.natAbs).length ≤ 100000000) (m1 : (limbs s).length ≤ 100000000) (hpr : p = r) :
    Calls Tryz.prog 22 #[v0, v1] w fun e w' => e = .returned (.bool (decide (q = s))) ∧ Ext w w' := by
  have H0 := Lib.hid h0
  have H1 := Lib.hid h1
  have HS1 := Lib.hid (fun W v u a b => same5_any W v u p r a b (by omega) (by omega))
  rw [decide_eq_true hpr] at HS1
  have HS2 := Lib.hid (fun W m m' a b => rsame_limbs W m m' q s a b (by omega) (by omega))
  obtain ⟨b0, l0, A0, c0, k0, D0, e0, rfl⟩ := h0.shape
  obtain ⟨b1, l1, A1, c1, k1, D1, e1, rfl⟩ := h1.shape
  clear h0 h1 hpr
  go_enter Tryz.func22, Tryz.ntmps22
  go_wp2_with fail
  have hb0 := ((Blk.new w 26 #[Value.bool b0, Value.slice A0 l0 c0, Value.slice D0 k0 e0]).alloc (.cells #[Value.bool b1, Value.slice A1 l1 c1, Value.slice D1 k1 e1] 26))
  have hb1 := (Blk.new (w.alloc (.cells #[Value.bool b0, Value.slice A0 l0 c0, Value.slice D0 k0 e0] 26)) 26 #[Value.bool b1, Value.slice A1 l1 c1, Value.slice D1 k1 e1])
  have hxo := (((Ext.refl w).alloc (.cells #[Value.bool b0, Value.slice A0 l0 c0, Value.slice D0 k0 e0] 26)).alloc (.cells #[Value.bool b1, Value.slice A1 l1 c1, Value.slice D1 k1 e1] 26))
  have hszo : w.heap.size + 1 + 1 = ((w.alloc (.cells #[Value.bool b0, Value.slice A0 l0 c0, Value.slice D0 k0 e0] 26)).alloc (.cells #[Value.bool b1, Value.slice A1 l1 c1, Value.slice D1 k1 e1] 26)).heap.size := by simp
  simp only [World.size_alloc] at hb1
  generalize (w.alloc (.cells #[Value.bool b0, Value.slice A0 l0 c0, Value.slice D0 k0 e0] 26)).alloc (.cells #[Value.bool b1, Value.slice A1 l1 c1, Value.slice D1 k1 e1] 26) = wo at *
  have HB0 := Lib.hid hb0
  have HB1 := Lib.hid hb1
  have HX := Lib.hid hxo
  have HZ : Hid (w.heap.size + 1 + 1 ≤ wo.heap.size) := Lib.hid (by omega)
  clear hxo hszo hb0 hb1
  refine (HS1.out _ _ _ (H0.out.int.ext HX.out) (H1.out.int.ext HX.out)).mono ?_
  rintro e w1 ⟨rfl, hx0⟩
  have HX := Lib.hid (HX.out.trans hx0)
  have HZ0 := Lib.hid hx0.size
  have HB0 := Lib.hid (HB0.out.ext hx0)
  have HB1 := Lib.hid (HB1.out.ext hx0)
  clear hx0
  obtain ⟨u0_0_0, u0_0_1, u0_0_2, u0_0_3, u0_0_4, u0_0_5, u0_0_6⟩ := HB0.out.three
  obtain ⟨u0_1_0, u0_1_1, u0_1_2, u0_1_3, u0_1_4, u0_1_5, u0_1_6⟩ := HB1.out.three
  go_wp2_with fail
  refine (HS2.out _ _ _ (H0.out.den.ext HX.out) (H1.out.den.ext HX.out)).mono ?_
  rintro e w2 ⟨rfl, rfl⟩
  obtain ⟨u1_0_0, u1_0_1, u1_0_2, u1_0_3, u1_0_4, u1_0_5, u1_0_6⟩ := HB0.out.three
  obtain ⟨u1_1_0, u1_1_1, u1_1_2, u1_1_3, u1_1_4, u1_1_5, u1_1_6⟩ := HB1.out.three
  go_wp2_with fail
  go_ret
  exact ⟨rfl, HX.out⟩
set_option maxRecDepth 100000 in
theorem rsameR_f (w : World) (v0 : Value) (p : Int) (q : Nat) (h0 : ArrRat w v0 p q) (n0 : (limbs p.natAbs).length ≤ 100000000) (_m0 : (limbs q).length ≤ 100000000) (v1 : Value) (r : Int) (s : Nat) (h1 : ArrRat w v1 r s) (n1 : (limbs r.natAbs).length ≤ 100000000) (_m1 : (limbs s).length ≤ 100000000) (hpr : ¬ p = r) :
    Calls Tryz.prog 22 #[v0, v1] w fun e w' => e = .returned (.bool false) ∧ Ext w w' := by
  have H0 := Lib.hid h0
  have H1 := Lib.hid h1
  have HS1 := Lib.hid (fun W v u a b => same5_any W v u p r a b (by omega) (by omega))
  rw [decide_eq_false hpr] at HS1
  obtain ⟨b0, l0, A0, c0, k0, D0, e0, rfl⟩ := h0.shape
  obtain ⟨b1, l1, A1, c1, k1, D1, e1, rfl⟩ := h1.shape
  clear h0 h1 hpr
  go_enter Tryz.func22, Tryz.ntmps22
  go_wp2_with fail
  have hb0 := ((Blk.new w 26 #[Value.bool b0, Value.slice A0 l0 c0, Value.slice D0 k0 e0]).alloc (.cells #[Value.bool b1, Value.slice A1 l1 c1, Value.slice D1 k1 e1] 26))
  have hb1 := (Blk.new (w.alloc (.cells #[Value.bool b0, Value.slice A0 l0 c0, Value.slice D0 k0 e0] 26)) 26 #[Value.bool b1, Value.slice A1 l1 c1, Value.slice D1 k1 e1])
  have hxo := (((Ext.refl w).alloc (.cells #[Value.bool b0, Value.slice A0 l0 c0, Value.slice D0 k0 e0] 26)).alloc (.cells #[Value.bool b1, Value.slice A1 l1 c1, Value.slice D1 k1 e1] 26))
  have hszo : w.heap.size + 1 + 1 = ((w.alloc (.cells #[Value.bool b0, Value.slice A0 l0 c0, Value.slice D0 k0 e0] 26)).alloc (.cells #[Value.bool b1, Value.slice A1 l1 c1, Value.slice D1 k1 e1] 26)).heap.size := by simp
  simp only [World.size_alloc] at hb1
  generalize (w.alloc (.cells #[Value.bool b0, Value.slice A0 l0 c0, Value.slice D0 k0 e0] 26)).alloc (.cells #[Value.bool b1, Value.slice A1 l1 c1, Value.slice D1 k1 e1] 26) = wo at *
  have HB0 := Lib.hid hb0
  have HB1 := Lib.hid hb1
  have HX := Lib.hid hxo
  have HZ : Hid (w.heap.size + 1 + 1 ≤ wo.heap.size) := Lib.hid (by omega)
  clear hxo hszo hb0 hb1
  refine (HS1.out _ _ _ (H0.out.int.ext HX.out) (H1.out.int.ext HX.out)).mono ?_
  rintro e w1 ⟨rfl, hx0⟩
  have HX := Lib.hid (HX.out.trans hx0)
  have HZ0 := Lib.hid hx0.size
  have HB0 := Lib.hid (HB0.out.ext hx0)
  have HB1 := Lib.hid (HB1.out.ext hx0)
  clear hx0
  obtain ⟨u0_0_0, u0_0_1, u0_0_2, u0_0_3, u0_0_4, u0_0_5, u0_0_6⟩ := HB0.out.three
  obtain ⟨u0_1_0, u0_1_1, u0_1_2, u0_1_3, u0_1_4, u0_1_5, u0_1_6⟩ := HB1.out.three
  go_wp2_with fail
  go_ret
  exact ⟨rfl, HX.out⟩
theorem rsameR_any (w : World) (v : Value) (p : Int) (q : Nat) (h : ArrRat w v p q) (n0 : (limbs p.natAbs).length ≤ 100000000) (m0 : (limbs q).length ≤ 100000000) (u : Value) (r : Int) (s : Nat) (h' : ArrRat w u r s) (n1 : (limbs r.natAbs).length ≤ 100000000) (m1 : (limbs s).length ≤ 100000000) :
    Calls Tryz.prog 22 #[v, u] w fun e w' => e = .returned (.bool (decide (p = r ∧ q = s))) ∧ Ext w w' := by
  by_cases hpr : p = r
  · rw [show decide (p = r ∧ q = s) = decide (q = s) by rw [decide_eq_decide]; exact ⟨And.right, fun e => ⟨hpr, e⟩⟩]
    exact rsameR_t w v p q h n0 m0 u r s h' n1 m1 hpr
  · rw [show decide (p = r ∧ q = s) = false from decide_eq_false (fun e => hpr e.1)]
    exact rsameR_f w v p q h n0 m0 u r s h' n1 m1 hpr
theorem limbs_u64 {n : Nat} (h : n < 18446744073709551616) : (limbs n).length ≤ 2 := length_limbs_le (Nat.lt_of_lt_of_le h (by decide))
set_option maxRecDepth 100000 in
theorem rof5_pos (w : World) (n : Nat) (hn : n < 9223372036854775808) :
    Calls Tryz.prog 57 #[.int .i64 (n : Int)] w fun e w' => ∃ v', e = .returned v' ∧ IsInt w.heap.size w' v' ((n : Int)) ∧ Ext w w' := by
  have HOF := Lib.hid (fun W => rof_any W n (by omega))
  have HI := Lib.hid (fun W m a => rnat_any W false m (limbs n) a (by have := limbs_u64 (show n < 18446744073709551616 by omega); omega))
  rw [val_limbs, show sgn false n = (n : Int) from rfl] at HI
  have hz : ¬ (n : Int) < 0 := by omega
  go_enter Tryz.func57, Tryz.ntmps57
  go_wp2_with fail
  have hb0 := (Blk.new w 24 #[Value.bool false, Value.slice none 0 0])
  have hxo := ((Ext.refl w).alloc (.cells #[Value.bool false, Value.slice none 0 0] 24))
  have hszo : w.heap.size + 1 = (w.alloc (.cells #[Value.bool false, Value.slice none 0 0] 24)).heap.size := by simp
  generalize w.alloc (.cells #[Value.bool false, Value.slice none 0 0] 24) = wo at *
  have HB0 := Lib.hid hb0
  have HX := Lib.hid hxo
  have HZ : Hid (w.heap.size + 1 ≤ wo.heap.size) := Lib.hid (by omega)
  clear hxo hszo hb0
  refine (HOF.out _).mono ?_
  rintro e w1 ⟨r0, rfl, hi0, hx0⟩
  have HX := Lib.hid (HX.out.trans hx0)
  have HZ0 := Lib.hid hx0.size
  have HB0 := Lib.hid (HB0.out.ext hx0)
  have R0 := Lib.hid hi0
  obtain ⟨g0, G0, j0, rfl⟩ := hi0.shape
  clear hx0 hi0
  obtain ⟨u0_0_0, u0_0_1, u0_0_2, u0_0_3, u0_0_4⟩ := HB0.out.two
  go_wp2_with fail
  refine (HI.out _ _ R0.out.arr).mono ?_
  rintro e w2 ⟨r1, rfl, hi1, hx1⟩
  have HX := Lib.hid (HX.out.trans hx1)
  have HZ1 := Lib.hid hx1.size
  have HB0 := Lib.hid (HB0.out.ext hx1)
  have R0 := Lib.hid (R0.out.ext hx1)
  have R1 := Lib.hid hi1
  obtain ⟨f1, g1, G1, j1, rfl⟩ := hi1.shape
  clear hx1 hi1
  obtain ⟨u1_0_0, u1_0_1, u1_0_2, u1_0_3, u1_0_4⟩ := HB0.out.two
  go_wp2_with fail
  obtain ⟨hr0, hr1⟩ := two_set' HB0.out (.bool f1) (.slice G1 g1 j1)
  refine bodyPost_ret (v := .agg #[.bool f1, .slice G1 g1 j1]) (by simp [results, Tryz.results57, go_sem, hr0, hr1]) rfl ?_
  exact ⟨_, rfl, R1.out.put (by have := HZ.out; have := HZ0.out; omega) (by have := HZ.out; have := HZ0.out; omega), (HX.out.setCell (Nat.le_refl _) _).setCell (Nat.le_refl _) _⟩
set_option maxRecDepth 100000 in
theorem rof5_neg (w : World) (n : Nat) (h1 : 1 ≤ n) (hn : n ≤ 9223372036854775808) :
    Calls Tryz.prog 57 #[.int .i64 (-(n : Int))] w fun e w' => ∃ v', e = .returned v' ∧ IsInt w.heap.size w' v' (-(n : Int)) ∧ Ext w w' := by
  have HOF := Lib.hid (fun W => rof_any W n (by omega))
  have HI := Lib.hid (fun W m a => rnat_any W true m (limbs n) a (by have := limbs_u64 (show n < 18446744073709551616 by omega); omega))
  rw [val_limbs, show sgn true n = -(n : Int) from rfl] at HI
  have hz : -(n : Int) < 0 := by omega
  have hw : ∀ x : Int, IntKind.u64.wrap x = x % 18446744073709551616 := fun x => by simp [IntKind.wrap, IntKind.bits, IntKind.signed]
  have hwn : IntKind.u64.wrap (-IntKind.u64.wrap (-(n : Int))) = (n : Int) := by rw [hw, hw]; omega
  clear hw
  go_enter Tryz.func57, Tryz.ntmps57
  go_wp2_with fail
  have hb0 := (Blk.new w 24 #[Value.bool false, Value.slice none 0 0])
  have hxo := ((Ext.refl w).alloc (.cells #[Value.bool false, Value.slice none 0 0] 24))
  have hszo : w.heap.size + 1 = (w.alloc (.cells #[Value.bool false, Value.slice none 0 0] 24)).heap.size := by simp
  generalize w.alloc (.cells #[Value.bool false, Value.slice none 0 0] 24) = wo at *
  have HB0 := Lib.hid hb0
  have HX := Lib.hid hxo
  have HZ : Hid (w.heap.size + 1 ≤ wo.heap.size) := Lib.hid (by omega)
  clear hxo hszo hb0
  refine (HOF.out _).mono ?_
  rintro e w1 ⟨r0, rfl, hi0, hx0⟩
  have HX := Lib.hid (HX.out.trans hx0)
  have HZ0 := Lib.hid hx0.size
  have HB0 := Lib.hid (HB0.out.ext hx0)
  have R0 := Lib.hid hi0
  obtain ⟨g0, G0, j0, rfl⟩ := hi0.shape
  clear hx0 hi0
  obtain ⟨u0_0_0, u0_0_1, u0_0_2, u0_0_3, u0_0_4⟩ := HB0.out.two
  go_wp2_with fail
  refine (HI.out _ _ R0.out.arr).mono ?_
  rintro e w2 ⟨r1, rfl, hi1, hx1⟩
  have HX := Lib.hid (HX.out.trans hx1)
  have HZ1 := Lib.hid hx1.size
  have HB0 := Lib.hid (HB0.out.ext hx1)
  have R0 := Lib.hid (R0.out.ext hx1)
  have R1 := Lib.hid hi1
  obtain ⟨f1, g1, G1, j1, rfl⟩ := hi1.shape
  clear hx1 hi1
  obtain ⟨u1_0_0, u1_0_1, u1_0_2, u1_0_3, u1_0_4⟩ := HB0.out.two
  go_wp2_with fail
  obtain ⟨hr0, hr1⟩ := two_set' HB0.out (.bool f1) (.slice G1 g1 j1)
  refine bodyPost_ret (v := .agg #[.bool f1, .slice G1 g1 j1]) (by simp [results, Tryz.results57, go_sem, hr0, hr1]) rfl ?_
  exact ⟨_, rfl, R1.out.put (by have := HZ.out; have := HZ0.out; omega) (by have := HZ.out; have := HZ0.out; omega), (HX.out.setCell (Nat.le_refl _) _).setCell (Nat.le_refl _) _⟩
theorem rof5_any (w : World) (z : Int) (h1 : -9223372036854775808 ≤ z) (h2 : z ≤ 9223372036854775807) :
    Calls Tryz.prog 57 #[.int .i64 z] w fun e w' => ∃ v', e = .returned v' ∧ IsInt w.heap.size w' v' z ∧ Ext w w' := by
  rcases Int.lt_or_le z 0 with h | h
  · obtain ⟨n, hn⟩ : ∃ n : Nat, z = -(n : Int) := ⟨z.natAbs, by omega⟩
    subst hn
    exact rof5_neg w n (by omega) (by omega)
  · obtain ⟨n, rfl⟩ := Int.eq_ofNat_of_zero_le h
    exact rof5_pos w n (by omega)
theorem limbs_i64 {z : Int} (h1 : -9223372036854775808 ≤ z) (h2 : z ≤ 9223372036854775807) : (limbs z.natAbs).length ≤ 2 := limbs_u64 (by omega)
set_option maxRecDepth 100000 in
theorem rofi_any (w : World) (z : Int) (h1 : -9223372036854775808 ≤ z) (h2 : z ≤ 9223372036854775807) :
    Calls Tryz.prog 15 #[.int .i64 z] w fun e w' => ∃ v', e = .returned v' ∧ IsRat w.heap.size w' v' (z) (1) ∧ Ext w w' := by
  have HO1 := Lib.hid (fun W => rof5_any W z h1 h2)
  have HO2 := Lib.hid (fun W => rof5_any W 1 (by decide) (by decide))
  have HOF := Lib.hid (fun W v u a b => rofR_nat W v u z 1 a b (by have := limbs_i64 h1 h2; omega) (by have := limbs_u64 (show 1 < 18446744073709551616 by decide); omega) (by decide))
  rw [(low_self (low_int z)).1, (low_self (low_int z)).2] at HOF
  go_enter Tryz.func15, Tryz.ntmps15
  go_wp2_with fail
  have hb0 := (Blk.new w 26 #[Value.bool false, Value.slice none 0 0, Value.slice none 0 0])
  have hxo := ((Ext.refl w).alloc (.cells #[Value.bool false, Value.slice none 0 0, Value.slice none 0 0] 26))
  have hszo : w.heap.size + 1 = (w.alloc (.cells #[Value.bool false, Value.slice none 0 0, Value.slice none 0 0] 26)).heap.size := by simp
  generalize w.alloc (.cells #[Value.bool false, Value.slice none 0 0, Value.slice none 0 0] 26) = wo at *
  have HB0 := Lib.hid hb0
  have HX := Lib.hid hxo
  have HZ : Hid (w.heap.size + 1 ≤ wo.heap.size) := Lib.hid (by omega)
  clear hxo hszo hb0
  refine (HO1.out _).mono ?_
  rintro e w1 ⟨r0, rfl, hi0, hx0⟩
  have HX := Lib.hid (HX.out.trans hx0)
  have HZ0 := Lib.hid hx0.size
  have HB0 := Lib.hid (HB0.out.ext hx0)
  have R0 := Lib.hid hi0
  obtain ⟨f0, g0, G0, j0, rfl⟩ := hi0.shape
  clear hx0 hi0
  obtain ⟨u0_0_0, u0_0_1, u0_0_2, u0_0_3, u0_0_4, u0_0_5, u0_0_6⟩ := HB0.out.three
  go_wp2_with fail
  refine (HO2.out _).mono ?_
  rintro e w2 ⟨r1, rfl, hi1, hx1⟩
  have HX := Lib.hid (HX.out.trans hx1)
  have HZ1 := Lib.hid hx1.size
  have HB0 := Lib.hid (HB0.out.ext hx1)
  have R0 := Lib.hid (R0.out.ext hx1)
  have R1 := Lib.hid hi1
  obtain ⟨f1, g1, G1, j1, rfl⟩ := hi1.shape
  clear hx1 hi1
  obtain ⟨u1_0_0, u1_0_1, u1_0_2, u1_0_3, u1_0_4, u1_0_5, u1_0_6⟩ := HB0.out.three
  go_wp2_with fail
  refine (HOF.out _ _ _ R0.out.arr R1.out.arr).mono ?_
  rintro e w3 ⟨r2, rfl, hi2, hx2⟩
  have HX := Lib.hid (HX.out.trans hx2)
  have HZ2 := Lib.hid hx2.size
  have HB0 := Lib.hid (HB0.out.ext hx2)
  have R0 := Lib.hid (R0.out.ext hx2)
  have R1 := Lib.hid (R1.out.ext hx2)
  have R2 := Lib.hid hi2
  obtain ⟨f2, g2, G2, j2, y2, Y2, z2, rfl⟩ := hi2.shape
  clear hx2 hi2
  obtain ⟨u2_0_0, u2_0_1, u2_0_2, u2_0_3, u2_0_4, u2_0_5, u2_0_6⟩ := HB0.out.three
  go_wp2_with fail
  obtain ⟨hr0, hr1, hr2⟩ := three_set HB0.out (.bool f2) (.slice G2 g2 j2) (.slice Y2 y2 z2)
  refine bodyPost_ret (v := .agg #[.bool f2, .slice G2 g2 j2, .slice Y2 y2 z2]) (by simp [results, Tryz.results15, go_sem, hr0, hr1, hr2]) rfl ?_
  exact ⟨_, rfl, R2.out.put (by have := HZ.out; have := HZ0.out; have := HZ1.out; omega) (by have := HZ.out; have := HZ0.out; have := HZ1.out; omega), ((HX.out.setCell (Nat.le_refl _) _).setCell (Nat.le_refl _) _).setCell (Nat.le_refl _) _⟩
set_option maxRecDepth 100000 in
theorem pofi_any (w : World) (z : Int) (h1 : -9223372036854775808 ≤ z) (h2 : z ≤ 9223372036854775807) :
    Calls Tryz.prog 47 #[.int .i64 z] w fun e w' => ∃ v', e = .returned v' ∧ IsRat w.heap.size w' v' (z) (1) ∧ Ext w w' := by
  have HO1 := Lib.hid (fun W => iof_any W z h1 h2)
  have HO2 := Lib.hid (fun W => of_any W 1 (by decide))
  go_enter Tryz.func47, Tryz.ntmps47
  go_wp2_with fail
  have hb0 := (Blk.new w 26 #[Value.bool false, Value.slice none 0 0, Value.slice none 0 0])
  have hxo := ((Ext.refl w).alloc (.cells #[Value.bool false, Value.slice none 0 0, Value.slice none 0 0] 26))
  have hszo : w.heap.size + 1 = (w.alloc (.cells #[Value.bool false, Value.slice none 0 0, Value.slice none 0 0] 26)).heap.size := by simp
  generalize w.alloc (.cells #[Value.bool false, Value.slice none 0 0, Value.slice none 0 0] 26) = wo at *
  have HB0 := Lib.hid hb0
  have HX := Lib.hid hxo
  have HZ : Hid (w.heap.size + 1 ≤ wo.heap.size) := Lib.hid (by omega)
  clear hxo hszo hb0
  refine (HO1.out _).mono ?_
  rintro e w1 ⟨r0, rfl, hi0, hx0⟩
  have HX := Lib.hid (HX.out.trans hx0)
  have HZ0 := Lib.hid hx0.size
  have HB0 := Lib.hid (HB0.out.ext hx0)
  have R0 := Lib.hid hi0
  obtain ⟨f0, g0, G0, j0, rfl⟩ := hi0.shape
  clear hx0 hi0
  obtain ⟨u0_0_0, u0_0_1, u0_0_2, u0_0_3, u0_0_4, u0_0_5, u0_0_6⟩ := HB0.out.three
  go_wp2_with fail
  refine (HO2.out _).mono ?_
  rintro e w2 ⟨r1, rfl, hi1, hx1⟩
  have HX := Lib.hid (HX.out.trans hx1)
  have HZ1 := Lib.hid hx1.size
  have HB0 := Lib.hid (HB0.out.ext hx1)
  have R0 := Lib.hid (R0.out.ext hx1)
  have R1 := Lib.hid hi1
  obtain ⟨g1, G1, j1, rfl⟩ := hi1.shape
  clear hx1 hi1
  obtain ⟨u1_0_0, u1_0_1, u1_0_2, u1_0_3, u1_0_4, u1_0_5, u1_0_6⟩ := HB0.out.three
  go_wp2_with fail
  obtain ⟨hr0, hr1, hr2⟩ := three_set HB0.out (.bool f0) (.slice G0 g0 j0) (.slice G1 g1 j1)
  refine bodyPost_ret (v := .agg #[.bool f0, .slice G0 g0 j0, .slice G1 g1 j1]) (by simp [results, Tryz.results47, go_sem, hr0, hr1, hr2]) rfl ?_
  exact ⟨_, rfl, IsRat.put (w1 := wo) (IsRat.mk R0.out (R1.out.mono HZ0.out)) (by have := HZ.out; omega) (by have := HZ.out; omega), ((HX.out.setCell (Nat.le_refl _) _).setCell (Nat.le_refl _) _).setCell (Nat.le_refl _) _⟩
end Big
end Go.Proofs.YtplmldkfgeiklaaGreatDoor
