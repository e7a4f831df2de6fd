import Derived.Test.YtelgknpdiaafaaaGreatDoorM15
import Derived.Test.YtelgknpdiaafaaaGreatDoorM10
import Derived.Test.YtelgknpdiaafaaaGreatDoorM11
import Derived.Test.YtelgknpdiaafaaaGreatDoorM2
import Derived.Test.YtelgknpdiaafaaaGreatDoorM7
import Derived.Deep.LoopGhost
import Derived.Test.YtelgknpdiaafaaaGreatDoorM5
import Derived.Test.YtelgknpdiaafaaaGreatDoorM12
import Derived.Test.YtelgknpdiaafaaaGreatDoorM8
import Derived.Test.YtelgknpdiaafaaaGreatDoorM4
import Derived.Test.YtelgknpdiaafaaaGreatDoorM6
import Derived.Lib.ConvBytes
/- The reference's Gcd, Div, Lowest, Make, of. -/
namespace Go.Proofs.YtelgknpdiaafaaaGreatDoor
namespace Big
open Go.RowKit
theorem limbs_pos_len {g : Nat} (h : 0 < g) : 0 < (limbs g).length := List.length_pos_iff.2 (fun e => by rw [limbs_eq_nil] at e; omega)
theorem rgcd_any (w : World) (v u : Value) (X Y : Nat) (h : Arr w v (limbs X)) (h' : Arr w u (limbs Y)) (hn : (limbs X).length ≤ 134217728) (hn' : (limbs Y).length ≤ 134217728) :
    Calls Tryz.prog 89 #[v, u] w fun e w' => ∃ v', e = .returned v' ∧ Arr w' v' (limbs (Nat.gcd X Y)) ∧ Ext w w' := by
  have HA := Lib.hid h
  have HB := Lib.hid h'
  obtain ⟨n1, A1, c1, rfl⟩ := h.shape
  obtain ⟨n2, A2, c2, rfl⟩ := h'.shape
  clear h h'
  go_enter Tryz.func89, Tryz.ntmps89
  go_wp2_with fail
  go_loopg [0, 1] Y (fun gh s0 s1 wr => ∃ (g x : Nat) (na : Nat) (Aa : Option Addr) (ca nb : Nat) (Ab : Option Addr) (cb : Nat), gh = g ∧ s0 = .slice Aa na ca ∧ s1 = .slice Ab nb cb ∧ Arr wr s0 (limbs x) ∧ Arr wr s1 (limbs g) ∧ Nat.gcd x g = Nat.gcd X Y ∧ (limbs x).length ≤ 134217728 ∧ (limbs g).length ≤ 134217728 ∧ Ext w wr)
  case atStart => exact ⟨Y, X, n1, A1, c1, n2, A2, c2, rfl, rfl, rfl, HA.out, HB.out, rfl, hn, hn', Ext.refl _⟩
  case round =>
    obtain ⟨g, x, na, Aa, ca, nb, Ab, cb, hgg, rfl, rfl, hoa, hob, hg, hlx, hlg, hext⟩ := hrel
    have HGG := Lib.hid hgg
    have HG := Lib.hid hg
    have HXT := Lib.hid hext
    have HOB := Lib.hid hob
    have hnb := hob.len
    clear hgg hg hext HA HB
    rcases Nat.eq_zero_or_pos g with h0 | h0
    · subst h0
      rw [limbs_zero, List.length_nil] at hnb
      subst hnb
      have HV : Hid (Arr wr (.slice Aa na ca) (limbs (Nat.gcd X Y))) := Lib.hid (by
        have h1 := HG.out
        rw [Nat.gcd_zero_right] at h1
        rw [← h1]
        exact hoa)
      clear hoa hob
      go_wp2_with fail
      go_ret
      exact ⟨_, rfl, HV.out, HXT.out⟩
    · have hl1 : 0 < nb := by rw [hnb]; exact limbs_pos_len h0
      have HD := Lib.hid (rdivmod_any wr _ _ _ _ hoa hob hlx hlg (by rw [val_limbs]; exact h0))
      rw [val_limbs, val_limbs] at HD
      have hmod := Nat.mod_lt x h0
      have hlm := Nat.le_trans (limbs_mono (Nat.le_of_lt hmod)) hlg
      have HG2 := Lib.hid (show Nat.gcd g (x % g) = Nat.gcd X Y by rw [← gcd_step, HG.out])
      have hb0 : (0 : Int) < (nb : Int) := by omega
      clear hoa hob hnb
      go_wp2_with fail
      refine HD.out.mono ?_
      rintro e w3 ⟨v3, u3, rfl, hq3, hr3, hx3⟩
      have HB3 := Lib.hid (HOB.out.ext hx3)
      have HR3 := Lib.hid hr3
      have HX3 := Lib.hid (HXT.out.trans hx3)
      obtain ⟨n3, A3, c3, rfl⟩ := hq3.arr.2.shape
      obtain ⟨n4, A4, c4, rfl⟩ := hr3.2.shape
      clear hq3 hr3 hx3
      go_wp2_with fail
      go_roundg (x % g)
      case rel => exact ⟨x % g, g, nb, Ab, cb, n4, A4, c4, rfl, rfl, rfl, HB3.out, HR3.out, HG2.out, hlg, hlm, HX3.out⟩
      case measure => rw [HGG.out]; exact hmod
theorem rdiv_any (w : World) (v u : Value) (X Y : Nat) (h : Arr w v (limbs X)) (h' : Arr w u (limbs Y)) (hn : (limbs X).length ≤ 134217728) (hn' : (limbs Y).length ≤ 134217728) (hy : 0 < Y) :
    Calls Tryz.prog 90 #[v, u] w fun e w' => ∃ v', e = .returned v' ∧ Own w.heap.size w' v' (limbs (X / Y)) ∧ Ext w w' := by
  have HD := Lib.hid (rdivmod_any w v u _ _ h h' hn hn' (by rw [val_limbs]; exact hy))
  rw [val_limbs, val_limbs] at HD
  clear h h'
  go_enter Tryz.func90, Tryz.ntmps90
  go_wp2_with fail
  refine HD.out.mono ?_
  rintro e w3 ⟨v3, u3, rfl, hq3, hr3, hx3⟩
  have HQ3 := Lib.hid hq3
  have HX3 := Lib.hid hx3
  obtain ⟨n3, A3, c3, rfl⟩ := hq3.arr.2.shape
  obtain ⟨n4, A4, c4, rfl⟩ := hr3.2.shape
  clear hq3 hr3 hx3
  go_wp2_with fail
  go_ret
  exact ⟨_, rfl, HQ3.out, HX3.out⟩
theorem rlowest_zero (w : World) (v : Value) (A : Option Addr) (c : Nat) :
    Calls Tryz.prog 76 #[v, .slice A 0 c] w fun e w' => e = .returned (.tuple #[.slice none 0 0, .slice none 0 0, .bool false]) ∧ w = w' := by
  go_enter Tryz.func76, Tryz.ntmps76
  go_wp2_with fail
  go_ret3
  exact ⟨rfl, rfl⟩
/-- What the reference's Lowest promises. -/
def RLowPost (X Y : Nat) (w : World) (e : Ending) (w' : World) : Prop :=
  ∃ v' u', e = .returned (.tuple #[v', u', .bool true]) ∧ Own w.heap.size w' v' (limbs (X / Nat.gcd X Y)) ∧ Own w.heap.size w' u' (limbs (Y / Nat.gcd X Y)) ∧ Ext w w'
theorem rlowest_any (w : World) (v u : Value) (X Y : Nat) (h : Arr w v (limbs X)) (h' : Arr w u (limbs Y)) (hn : (limbs X).length ≤ 134217728) (hn' : (limbs Y).length ≤ 134217728) (hy : 0 < Y) :
    Calls Tryz.prog 76 #[v, u] w (RLowPost X Y w) := by
  have HG := Lib.hid (rgcd_any w v u X Y h h' hn hn')
  have hg0 : 0 < Nat.gcd X Y := Nat.gcd_pos_of_pos_right _ hy
  have hgl : (limbs (Nat.gcd X Y)).length ≤ 134217728 := Nat.le_trans (limbs_mono (Nat.gcd_le_right _ hy)) hn'
  have HD1 := Lib.hid (fun W z hx a => rdiv_any W v z X (Nat.gcd X Y) (h.ext hx) a hn hgl hg0)
  have HD2 := Lib.hid (fun W z hx a => rdiv_any W u z Y (Nat.gcd X Y) (h'.ext hx) a hn' hgl hg0)
  obtain ⟨nv, Av, cv, rfl⟩ := h.shape
  obtain ⟨nu, Au, cu, rfl⟩ := h'.shape
  have hl := h'.len
  have hl0 := limbs_pos_len hy
  rw [← hl] at hl0
  have hlb : ((nu : Int) == 0) = false := by rw [beq_eq_false_iff_ne]; omega
  clear h h' hn hn' hgl hl hg0 hl0
  go_enter Tryz.func76, Tryz.ntmps76
  go_wp2_with fail
  refine HG.out.mono ?_
  rintro e w1 ⟨v1, rfl, ho1, hx1⟩
  have HX1 := Lib.hid hx1
  have HO1 := Lib.hid ho1
  obtain ⟨n1, A1, c1, rfl⟩ := ho1.2.shape
  clear ho1 hx1
  go_wp2_with fail
  refine (HD1.out _ _ HX1.out HO1.out).mono ?_
  rintro e w2 ⟨v2, rfl, ho2, hx2⟩
  have HX2 := Lib.hid (HX1.out.trans hx2)
  have HO2 := Lib.hid (ho2.mono HX1.out.size)
  have HO1' := Lib.hid (HO1.out.ext hx2)
  obtain ⟨n2, A2, c2, rfl⟩ := ho2.shape
  clear ho2 hx2
  go_wp2_with fail
  refine (HD2.out _ _ HX2.out HO1'.out).mono ?_
  rintro e w3 ⟨v3, rfl, ho3, hx3⟩
  have HX3 := Lib.hid (HX2.out.trans hx3)
  have HO3 := Lib.hid (ho3.mono HX2.out.size)
  have HO2' := Lib.hid (HO2.out.ext hx3)
  obtain ⟨n3, A3, c3, rfl⟩ := ho3.shape
  clear ho3 hx3
  go_wp2_with fail
  go_ret3
  exact ⟨_, _, rfl, HO2'.out, HO3.out, HX3.out⟩

/-- The numerator of x / y in lowest terms. -/
def makeN (x y : Int) : Int := sgn (decide (x < 0) != decide (y < 0)) (x.natAbs / Nat.gcd x.natAbs y.natAbs)
def makeD (x y : Int) : Nat := y.natAbs / Nat.gcd x.natAbs y.natAbs
set_option maxRecDepth 100000 in
theorem rmake_zero (w : World) (v u : Value) (x : Int) (h : ArrInt w v x) (h' : ArrInt w u 0) :
    Calls Tryz.prog 61 #[v, u] w fun e w' => ∃ v', e = .returned (.tuple #[v', .int .i64 2]) ∧ IsRat w.heap.size w' v' 0 0 ∧ Ext w w' := by
  obtain ⟨b, n, A, c, rfl⟩ := h.shape
  obtain ⟨b', n', A', c', rfl⟩ := h'.shape
  have hl := h'.mag.len
  rw [show (0 : Int).natAbs = 0 from rfl, limbs_zero, List.length_nil] at hl
  subst hl
  clear h h'
  go_enter Tryz.func61, Tryz.ntmps61
  go_wp2_with fail
  refine (rlowest_zero _ _ _ _).mono ?_
  rintro e w1 ⟨rfl, rfl⟩
  go_wp2_with fail
  refine bodyPost_ret (v := .tuple #[.agg #[.bool false, .slice none 0 0, .slice none 0 0], .int .i64 2]) (by simp [results, Tryz.results61, go_sem]) rfl ?_
  exact ⟨_, rfl, IsRat.zero _ _, (((Ext.refl w).alloc _).alloc _).alloc _⟩
set_option maxHeartbeats 1000000 in
set_option maxRecDepth 100000 in
theorem rmake_any (w : World) (v u : Value) (x y : Int) (h : ArrInt w v x) (h' : ArrInt w u y) (hn : (limbs x.natAbs).length ≤ 134217728) (hn' : (limbs y.natAbs).length ≤ 134217728) (hy : y ≠ 0) :
    Calls Tryz.prog 61 #[v, u] w fun e w' => ∃ v', e = .returned (.tuple #[v', .int .i64 0]) ∧ IsRat w.heap.size w' v' (makeN x y) (makeD x y) ∧ Ext w w' := by
  obtain ⟨b, n, A, c, rfl⟩ := h.shape
  obtain ⟨b', n', A', c', rfl⟩ := h'.shape
  have HL := Lib.hid (fun W hx => rlowest_any W (.slice A n c) (.slice A' n' c') x.natAbs y.natAbs (h.mag.ext hx) (h'.mag.ext hx) hn hn' (by omega))
  have HI := Lib.hid (fun W m a => rnat_any W (b != b') m (limbs (x.natAbs / Nat.gcd x.natAbs y.natAbs)) a (Nat.le_trans (limbs_mono (Nat.div_le_self _ _)) (by omega)))
  rw [val_limbs] at HI
  have HS := Lib.hid h.sign
  have HS' := Lib.hid h'.sign
  clear h h' hn hn'
  go_enter Tryz.func61, Tryz.ntmps61
  go_wp2_with fail
  have hb0 := ((Blk.new w 55 #[Value.bool b, Value.slice A n c]).alloc (.cells #[Value.bool b', Value.slice A' n' c'] 55)).alloc (.cells #[Value.bool false, Value.slice none 0 0, Value.slice none 0 0] 57)
  have hb1 := (Blk.new (w.alloc (.cells #[Value.bool b, Value.slice A n c] 55)) 55 #[Value.bool b', Value.slice A' n' c']).alloc (.cells #[Value.bool false, Value.slice none 0 0, Value.slice none 0 0] 57)
  have hb2 := Blk.new ((w.alloc (.cells #[Value.bool b, Value.slice A n c] 55)).alloc (.cells #[Value.bool b', Value.slice A' n' c'] 55)) 57 #[Value.bool false, Value.slice none 0 0, Value.slice none 0 0]
  have hxo := (((Ext.refl w).alloc (.cells #[Value.bool b, Value.slice A n c] 55)).alloc (.cells #[Value.bool b', Value.slice A' n' c'] 55)).alloc (.cells #[Value.bool false, Value.slice none 0 0, Value.slice none 0 0] 57)
  have hszo : w.heap.size + 1 + 1 < (((w.alloc (.cells #[Value.bool b, Value.slice A n c] 55)).alloc (.cells #[Value.bool b', Value.slice A' n' c'] 55)).alloc (.cells #[Value.bool false, Value.slice none 0 0, Value.slice none 0 0] 57)).heap.size := by simp
  simp only [World.size_alloc] at hb1 hb2
  generalize ((w.alloc (.cells #[Value.bool b, Value.slice A n c] 55)).alloc (.cells #[Value.bool b', Value.slice A' n' c'] 55)).alloc (.cells #[Value.bool false, Value.slice none 0 0, Value.slice none 0 0] 57) = wo at *
  refine (HL.out _ hxo).mono ?_
  rintro e w1 ⟨v1, u1, rfl, ho1, hr1, hx1⟩
  have hk0 := hb0.ext hx1
  have hk1 := hb1.ext hx1
  have hk2 := hb2.ext hx1
  have HO1 := Lib.hid ho1
  have HR1 := Lib.hid hr1
  obtain ⟨n1, A1, c1, rfl⟩ := ho1.shape
  obtain ⟨n2, A2, c2, rfl⟩ := hr1.shape
  obtain ⟨h0, h1, _, _, _⟩ := hk0.two
  obtain ⟨h2, h3, _, _, _⟩ := hk1.two
  have HK1 := Lib.hid hk2
  have HX1 := Lib.hid (hxo.trans hx1)
  have HSZ := Lib.hid hx1.size
  clear hb0 hb1 hb2 hx1 ho1 hr1 hk0 hk1 hk2 hxo
  go_wp2_with fail
  refine (HI.out _ _ HO1.out.arr).mono ?_
  rintro e w2 ⟨v2, rfl, hi2, hx2⟩
  have HI2 := Lib.hid hi2
  have HR2 := Lib.hid (HR1.out.ext hx2)
  have hk1 := HK1.out.ext hx2
  obtain ⟨b3, n3, A3, c3, rfl⟩ := hi2.shape
  obtain ⟨k0, k1, k2, f0, f1, f2, hgz⟩ := hk1.three
  have HX2 := Lib.hid (HX1.out.trans hx2)
  have HK2 := Lib.hid hk1
  clear hi2 hx2 hk1
  go_wp2_with fail
  obtain ⟨hr0, hr1, hr2⟩ := three_set HK2.out (.bool b3) (.slice A3 n3 c3) (.slice A2 n2 c2)
  refine bodyPost_ret (v := .tuple #[.agg #[.bool b3, .slice A3 n3 c3, .slice A2 n2 c2], .int .i64 0]) (by simp [results, Tryz.results61, go_sem, hr0, hr1, hr2]) rfl ?_
  have hfin : IsRat wo.heap.size w2 (.agg #[.bool b3, .slice A3 n3 c3, .slice A2 n2 c2]) (makeN x y) (makeD x y) := IsRat.mk (by
    have h1 := HI2.out.mono HSZ.out
    rw [HS.out, HS'.out] at h1
    exact h1) HR2.out
  exact ⟨_, rfl, hfin.put hszo (by omega), ((HX2.out.setCell (by show _ ≤ w.heap.size + 1 + 1; omega) _).setCell (by show _ ≤ w.heap.size + 1 + 1; omega) _).setCell (by show _ ≤ w.heap.size + 1 + 1; omega) _⟩

set_option maxHeartbeats 1000000 in
set_option maxRecDepth 100000 in
theorem rof7_any (w : World) (v u : Value) (x y : Int) (h : ArrInt w v x) (h' : ArrInt w u y) (hn : (limbs x.natAbs).length ≤ 134217728) (hn' : (limbs y.natAbs).length ≤ 134217728) (hy : y ≠ 0) :
    Calls Tryz.prog 44 #[v, u] w fun e w' => ∃ v', e = .returned v' ∧ IsRat w.heap.size w' v' (makeN x y) (makeD x y) ∧ Ext w w' := by
  have HA := Lib.hid h
  have HB := Lib.hid h'
  obtain ⟨b, n, A, c, rfl⟩ := h.shape
  obtain ⟨b', n', A', c', rfl⟩ := h'.shape
  have HM := Lib.hid (fun W hx => rmake_any W _ _ x y (h.ext hx) (h'.ext hx) hn hn' hy)
  clear h h' hn hn'
  go_enter Tryz.func44, Tryz.ntmps44
  go_wp2_with fail
  have hb2 := Blk.new ((w.alloc (.cells #[Value.bool b, Value.slice A n c] 55)).alloc (.cells #[Value.bool b', Value.slice A' n' c'] 55)) 57 #[Value.bool false, Value.slice none 0 0, Value.slice none 0 0]
  have hxo := (((Ext.refl w).alloc (.cells #[Value.bool b, Value.slice A n c] 55)).alloc (.cells #[Value.bool b', Value.slice A' n' c'] 55)).alloc (.cells #[Value.bool false, Value.slice none 0 0, Value.slice none 0 0] 57)
  simp only [World.size_alloc] at hb2
  generalize ((w.alloc (.cells #[Value.bool b, Value.slice A n c] 55)).alloc (.cells #[Value.bool b', Value.slice A' n' c'] 55)).alloc (.cells #[Value.bool false, Value.slice none 0 0, Value.slice none 0 0] 57) = wo at *
  refine (HM.out _ hxo).mono ?_
  rintro e w1 ⟨v1, rfl, ho1, hx1⟩
  have HO1 := Lib.hid ho1
  obtain ⟨b1, n1, A1, c1, n2, A2, c2, rfl⟩ := ho1.shape
  have hk2 := hb2.ext hx1
  have HK := Lib.hid hk2
  have HX1 := Lib.hid (hxo.trans hx1)
  have HSZ := Lib.hid hx1.size
  have HS0 := Lib.hid hb2.lt
  obtain ⟨k0, k1, k2, f0, f1, f2, hgz⟩ := hk2.three
  clear ho1 hx1 hk2 hb2 hxo
  go_wp2_with fail
  obtain ⟨hr0, hr1, hr2⟩ := three_set HK.out (.bool b1) (.slice A1 n1 c1) (.slice A2 n2 c2)
  obtain ⟨hs0, hs1, hs2, _⟩ := ((((HK.out.set_ 0 (.bool b1)).set_ 1 (.slice A1 n1 c1)).set_ 2 (.slice A2 n2 c2)).alloc (.cells #[.bool b1, .slice A1 n1 c1, .slice A2 n2 c2] 57)).three
  refine bodyPost_ret (v := .agg #[.bool b1, .slice A1 n1 c1, .slice A2 n2 c2]) (by simp [results, Tryz.results44, go_sem, hr0, hr1, hr2, hs0, hs1, hs2, hgz]) rfl ?_
  have hfin := (HO1.out.put (w := w) HS0.out (by have := HS0.out; omega)).ext ((Ext.refl _).alloc (.cells #[.bool b1, .slice A1 n1 c1, .slice A2 n2 c2] 57))
  exact ⟨_, rfl, hfin, (((HX1.out.setCell (by show _ ≤ w.heap.size + 1 + 1; omega) _).setCell (by show _ ≤ w.heap.size + 1 + 1; omega) _).setCell (by show _ ≤ w.heap.size + 1 + 1; omega) _).alloc _⟩
end Big
end Go.Proofs.YtelgknpdiaafaaaGreatDoor
/- The reference's Ten, decimal. -/
namespace Go.Proofs.YtelgknpdiaafaaaGreatDoor
namespace Big
open Go.RowKit
theorem rten_any (w : World) (n : Nat) (hn : n ≤ 100000) :
    Calls Tryz.prog 46 #[.int .i64 (n : Int)] w fun e w' => ∃ v', e = .returned v' ∧ IsInt w.heap.size w' v' ((10 ^ n : Nat) : Int) ∧ Ext w w' := by
  have HOF := Lib.hid (fun W => rof_any W 1 (by decide))
  rw [show ((1 : Nat) : Int) = 1 from rfl] at HOF
  have HLEN : Hid (∀ k, k ≤ n → (limbs (10 ^ k)).length ≤ 100001) := Lib.hid (fun k hk => limbs_dec (k := k + 1) (Nat.pow_lt_pow_right (by decide) (by omega)) (by omega))
  go_enter Tryz.func46, Tryz.ntmps46
  go_wp2_with fail
  refine (HOF.out _).mono ?_
  rintro e w1 ⟨v1, rfl, ho1, hx1⟩
  have HB1 := Lib.hid ((Blk.new w 55 #[Value.bool false, Value.slice none 0 0]).ext hx1)
  have HX1 := Lib.hid (((Ext.refl w).alloc (.cells #[Value.bool false, Value.slice none 0 0] 55)).trans hx1)
  have HO1 := Lib.hid (ho1.mono (show w.heap.size + 1 ≤ _ by simp))
  obtain ⟨n1, A1, c1, rfl⟩ := ho1.arr.2.shape
  clear ho1 hx1
  go_wp2_with fail
  go_loopw [3, 6] (fun s3 s6 wr => ∃ (k : Nat) (m : Nat) (A : Option Addr) (c : Nat), k ≤ n ∧ s6 = .int .i64 (k : Int) ∧ s3 = .slice A m c ∧ Own (w.heap.size + 1) wr s3 (limbs (10 ^ k)) ∧ Blk wr w.heap.size 55 #[Value.bool false, Value.slice none 0 0] ∧ Ext w wr) (fun _ s6 _ => n - (intOf s6).toNat)
  case atStart => exact ⟨0, n1, A1, c1, Nat.zero_le _, rfl, rfl, HO1.out, HB1.out, HX1.out⟩
  case round =>
    obtain ⟨k, m, A, c, hk, rfl, rfl, ho, hb, hx⟩ := hrel
    have HO := Lib.hid ho
    have HB := Lib.hid hb
    have HX := Lib.hid hx
    have hsz := hb.lt
    by_cases hlt : k < n
    · have HS := Lib.hid (rsmall_any wr _ _ 10 0 ho.arr (by have := HLEN.out k hk; omega) (by decide) (by decide))
      rw [val_limbs, Nat.add_zero, ← Nat.pow_succ, show ((10 : Nat) : Int) = 10 from rfl, show ((0 : Nat) : Int) = 0 from rfl] at HS
      clear ho hb hx
      go_wp2_with fail
      refine HS.out.mono ?_
      rintro e w2 ⟨v2, rfl, ho2, hx2⟩
      have HO2 := Lib.hid (ho2.mono hsz)
      have HB2 := Lib.hid (HB.out.ext hx2)
      have HX2 := Lib.hid (HX.out.trans hx2)
      obtain ⟨n2, A2, c2, rfl⟩ := ho2.arr.2.shape
      clear ho2 hx2
      go_wp2_with fail
      go_roundw
      case rel => exact ⟨k + 1, n2, A2, c2, by omega, by go_num, rfl, HO2.out, HB2.out, HX2.out⟩
      case measure => simp [intOf]; omega
    · obtain rfl : k = n := by omega
      have HI := Lib.hid (rnat_any wr false _ _ ho.arr (by have := HLEN.out k hk; omega))
      rw [val_limbs] at HI
      clear ho hb hx
      go_wp2_with fail
      refine HI.out.mono ?_
      rintro e w2 ⟨v2, rfl, hi2, hx2⟩
      have HI2 := Lib.hid (hi2.mono hsz)
      have hb2 := HB.out.ext hx2
      have HB2 := Lib.hid hb2
      have HX2 := Lib.hid (HX.out.trans hx2)
      obtain ⟨b2, n2, A2, c2, rfl⟩ := hi2.shape
      obtain ⟨k0, k1, f0, f1, hgz⟩ := hb2.two
      clear hi2 hx2 hb2
      go_wp2_with fail
      obtain ⟨hr0, hr1⟩ := two_set' HB2.out (.bool b2) (.slice A2 n2 c2)
      refine bodyPost_ret (v := .agg #[.bool b2, .slice A2 n2 c2]) (by simp [results, Tryz.results46, go_sem, hr0, hr1]) rfl ?_
      have hst := IsInt.stored HB2.out HI2.out (Nat.lt_succ_self _) HX2.out (Nat.le_refl _)
      exact ⟨_, rfl, hst⟩

/-- What the reference's decimal returns. -/
def DecRes (w : World) (l : List UInt8) (e : Ending) (w' : World) : Prop :=
  ∃ a b : List UInt8, e = .returned (.tuple #[str a, str b, .bool (good7 l)]) ∧ (good7 l = true → a = whole l ∧ b = part l) ∧ Ext w w'
theorem last_of {l : List UInt8} {k : Nat} (h : hasDot l = true) (hk : l.length = k + 1) : (part l = [] → byteAt l k = 46) ∧ (part l ≠ [] → ((part l).getLast? == some 48) = ((byteAt l k : Int) == 48)) := by
  rcases dot_split l with ⟨_, h2⟩ | ⟨h1, _⟩
  · have hg : byteAt l k = byteAt (whole l ++ 46 :: part l) k := congrArg (fun z => byteAt z k) h2
    have hlen := congrArg List.length h2
    rw [List.length_append, List.length_cons, hk] at hlen
    constructor
    · intro hp
      rw [hg]
      rw [hp] at hlen ⊢
      simp only [List.length_nil] at hlen
      unfold byteAt
      rw [List.getD_eq_getElem?_getD, List.getElem?_append_right (by omega), show k - (whole l).length = 0 by omega]
      rfl
    · intro hp
      obtain ⟨j, hj⟩ : ∃ j, (part l).length = j + 1 := ⟨(part l).length - 1, by have := List.length_pos_iff.2 hp; omega⟩
      rw [last_byte (part l) j hj, hg]
      have : byteAt (whole l ++ 46 :: part l) k = byteAt (part l) j := by
        unfold byteAt
        rw [List.getD_eq_getElem?_getD, List.getD_eq_getElem?_getD, List.getElem?_append_right (by omega), show k - (whole l).length = j + 1 by omega, List.getElem?_cons_succ]
      rw [this]
  · rw [h] at h1; cases h1
theorem part_digit {l : List UInt8} {k : Nat} (ha : allD l = true) (h : hasDot l = true) (hp : part l ≠ []) (hk : l.length = k + 1) : 48 ≤ byteAt l k := by
  rcases dot_split l with ⟨_, h2⟩ | ⟨h1, _⟩
  · have hg : byteAt l k = byteAt (whole l ++ 46 :: part l) k := congrArg (fun z => byteAt z k) h2
    have hlen := congrArg List.length h2
    rw [List.length_append, List.length_cons, hk] at hlen
    obtain ⟨j, hj⟩ : ∃ j, (part l).length = j + 1 := ⟨(part l).length - 1, by have := List.length_pos_iff.2 hp; omega⟩
    have h3 : byteAt (whole l ++ 46 :: part l) k = byteAt (part l) j := by
      unfold byteAt
      rw [List.getD_eq_getElem?_getD, List.getD_eq_getElem?_getD, List.getElem?_append_right (by omega), show k - (whole l).length = j + 1 by omega, List.getElem?_cons_succ]
    rw [hg, h3, byteAt_eq _ _ (by omega)]
    have h4 : isDig (part l)[j] = true := by
      unfold allD at ha
      rw [List.all_append, Bool.and_eq_true] at ha
      exact List.all_eq_true.1 ha.2 _ (List.getElem_mem _)
    unfold isDig at h4
    simp only [Bool.and_eq_true, decide_eq_true_eq] at h4
    exact h4.1
  · rw [h] at h1; cases h1
theorem first_whole {l : List UInt8} (h : 0 < (whole l).length) : ((whole l)[0]? == some 48) = ((byteAt l 0 : Int) == 48) := by
  obtain ⟨k, hk⟩ : ∃ k, (whole l).length = k + 1 := ⟨(whole l).length - 1, by omega⟩
  rw [first_byte (whole l) k hk]
  have : byteAt (whole l) 0 = byteAt l 0 := by
    have h1 := take_whole l
    rw [← h1]
    unfold byteAt
    rw [List.getD_eq_getElem?_getD, List.getD_eq_getElem?_getD, List.getElem?_take_of_lt h]
  rw [this]
set_option maxHeartbeats 1000000 in
set_option maxRecDepth 100000 in
theorem rdecimal_any (w : World) (l : List UInt8) (hl : l.length ≤ 1073741824) :
    Calls Tryz.prog 42 #[str l] w (DecRes w l) := by
  go_enter Tryz.func42, Tryz.ntmps42
  go_wp2_with fail
  go_loopw [5, 6] (fun s5 s6 wr => ∃ i p : Nat, i ≤ l.length ∧ s6 = .int .i64 (i : Int) ∧ s5 = .int .i64 (p : Int) ∧ Hid (allD (l.take i) = true) ∧ Hid (p = if hasDot (l.take i) then (whole l).length else l.length) ∧ w = wr) (fun _ s6 _ => l.length - (intOf s6).toNat)
  case atStart => exact ⟨0, l.length, Nat.zero_le _, rfl, rfl, Lib.hid (by rw [List.take_zero]; rfl), Lib.hid (by rw [List.take_zero]; rfl), rfl⟩
  case round =>
    obtain ⟨i, p, hi, rfl, rfl, HA, HP, rfl⟩ := hrel
    by_cases hlt : i < l.length
    · have hst := read_step hlt HA.out
      have hby := byteAt_eq l i hlt
      have HS1 := Lib.hid hst.1
      have HS2 := Lib.hid hst.2
      have HFD := Lib.hid (first_dot l i hlt)
      have HDT := Lib.hid (dot_of_take (l := l) (j := i))
      have HBAD : Hid (allD (l.take (i + 1)) = false → good7 l = false) := Lib.hid (fun h => by rw [good7_eq, read_bad h, Bool.and_false])
      have hbl := byteAt_lt l i
      clear hst
      generalize l[i] = c at *
      have hc46 : (c == 46) = ((byteAt l i : Int) == 46) := by
        rw [hby, Bool.eq_iff_iff]
        simp only [beq_iff_eq]
        constructor
        · intro e; rw [e]; rfl
        · intro e
          apply UInt8.toNat_inj.1
          have : c.toNat = 46 := by omega
          rw [this]; rfl
      have hcd : isDig c = (decide (48 ≤ byteAt l i) && decide (byteAt l i ≤ 57)) := by rw [hby]; rfl
      have HC46 := Lib.hid hc46
      have HCD := Lib.hid hcd
      clear hc46 hcd hby
      cases hD : hasDot (l.take i)
      · have hp : p = l.length := by rw [HP.out, hD]; rfl
        subst hp
        cases h46 : ((byteAt l i : Int) == 46)
        · rcases Nat.lt_or_ge (byteAt l i) 48 with h48 | h48
          · have HG : Hid (good7 l = false) := Lib.hid (HBAD.out (by rw [HS1.out, hD, HC46.out, h46, HCD.out]; simp; omega))
            have hd1 : decide ((byteAt l i : Int) < 48) = true := by rw [decide_eq_true_iff]; omega
            have h48' : (byteAt l i : Int) < 48 := by omega
            clear hD
            go_wp2_with fail
            go_ret3
            exact ⟨[], [], by rw [HG.out]; rfl, (fun h => by rw [HG.out] at h; cases h), Ext.refl _⟩
          · have hd1 : decide ((byteAt l i : Int) < 48) = false := by simp; omega
            have h48' : ¬ (byteAt l i : Int) < 48 := by omega
            rcases Nat.lt_or_ge 57 (byteAt l i) with h57 | h57
            · have HG : Hid (good7 l = false) := Lib.hid (HBAD.out (by rw [HS1.out, hD, HC46.out, h46, HCD.out]; simp; omega))
              have hd2 : decide ((57 : Int) < (byteAt l i : Int)) = true := by rw [decide_eq_true_iff]; omega
              have h57' : (57 : Int) < (byteAt l i : Int) := by omega
              clear hD
              go_wp2_with fail
              go_ret3
              exact ⟨[], [], by rw [HG.out]; rfl, (fun h => by rw [HG.out] at h; cases h), Ext.refl _⟩
            · have hd2 : decide ((57 : Int) < (byteAt l i : Int)) = false := by simp; omega
              have h57' : ¬ (57 : Int) < (byteAt l i : Int) := by omega
              have HN1 : Hid (allD (l.take (i + 1)) = true) := Lib.hid (by rw [HS1.out, HC46.out, h46, HCD.out]; simp; omega)
              have HN2 : Hid (hasDot (l.take (i + 1)) = hasDot (l.take i)) := Lib.hid (by rw [HS2.out, HC46.out, h46, Bool.or_false])
              clear hD
              go_wp2_with fail
              go_roundw
              case rel => exact ⟨i + 1, _, by omega, by go_num, rfl, HN1, Lib.hid (by rw [HN2.out]; exact HP.out), (by first | rfl | trivial)⟩
              case measure => simp [intOf]; omega
        · have HN : Hid ((whole l).length = i) := Lib.hid (HFD.out hD (by have := HC46.out; rw [h46] at this; simpa using this))
          have HN1 : Hid (allD (l.take (i + 1)) = true) := Lib.hid (by rw [HS1.out, hD, HC46.out, h46]; rfl)
          have HN2 : Hid (hasDot (l.take (i + 1)) = true) := Lib.hid (by rw [HS2.out, HC46.out, h46, Bool.or_true])
          have hpp : ((l.length : Int) == (l.length : Int)) = true := by simp
          clear hD
          go_wp2_with fail
          go_roundw
          case rel => exact ⟨i + 1, i, by omega, by go_num, rfl, HN1, Lib.hid (by rw [HN2.out, HN.out]; rfl), (by first | rfl | trivial)⟩
          case measure => simp [intOf]; omega
      · have hpw : p = (whole l).length := by rw [HP.out, hD]; rfl
        have hlt2 := HDT.out hD
        have hpe : ((p : Int) == (l.length : Int)) = false := by rw [beq_eq_false_iff_ne]; omega
        cases h46 : ((byteAt l i : Int) == 46)
        · rcases Nat.lt_or_ge (byteAt l i) 48 with h48 | h48
          · have HG : Hid (good7 l = false) := Lib.hid (HBAD.out (by rw [HS1.out, hD, HC46.out, h46, HCD.out]; simp; omega))
            have hd1 : decide ((byteAt l i : Int) < 48) = true := by rw [decide_eq_true_iff]; omega
            have h48' : (byteAt l i : Int) < 48 := by omega
            clear hD
            go_wp2_with fail
            go_ret3
            exact ⟨[], [], by rw [HG.out]; rfl, (fun h => by rw [HG.out] at h; cases h), Ext.refl _⟩
          · have hd1 : decide ((byteAt l i : Int) < 48) = false := by simp; omega
            have h48' : ¬ (byteAt l i : Int) < 48 := by omega
            rcases Nat.lt_or_ge 57 (byteAt l i) with h57 | h57
            · have HG : Hid (good7 l = false) := Lib.hid (HBAD.out (by rw [HS1.out, hD, HC46.out, h46, HCD.out]; simp; omega))
              have hd2 : decide ((57 : Int) < (byteAt l i : Int)) = true := by rw [decide_eq_true_iff]; omega
              have h57' : (57 : Int) < (byteAt l i : Int) := by omega
              clear hD
              go_wp2_with fail
              go_ret3
              exact ⟨[], [], by rw [HG.out]; rfl, (fun h => by rw [HG.out] at h; cases h), Ext.refl _⟩
            · have hd2 : decide ((57 : Int) < (byteAt l i : Int)) = false := by simp; omega
              have h57' : ¬ (57 : Int) < (byteAt l i : Int) := by omega
              have HN1 : Hid (allD (l.take (i + 1)) = true) := Lib.hid (by rw [HS1.out, HC46.out, h46, HCD.out]; simp; omega)
              have HN2 : Hid (hasDot (l.take (i + 1)) = hasDot (l.take i)) := Lib.hid (by rw [HS2.out, HC46.out, h46, Bool.or_false])
              clear hD
              go_wp2_with fail
              go_roundw
              case rel => exact ⟨i + 1, _, by omega, by go_num, rfl, HN1, Lib.hid (by rw [HN2.out]; exact HP.out), (by first | rfl | trivial)⟩
              case measure => simp [intOf]; omega
        · have h48 : (byteAt l i : Int) < 48 := by
            have : (byteAt l i : Int) = 46 := by simpa using h46
            omega
          have HG : Hid (good7 l = false) := Lib.hid (HBAD.out (by rw [HS1.out, hD, HCD.out]; simp; omega))
          have hd1 : decide ((byteAt l i : Int) < 48) = true := by simpa using h48
          clear hD hpw hlt2
          go_wp2_with fail
          go_ret3
          exact ⟨[], [], by rw [HG.out]; rfl, (fun h => by rw [HG.out] at h; cases h), Ext.refl _⟩
    · obtain rfl : i = l.length := by omega
      rw [List.take_of_length_le (Nat.le_refl _)] at HA HP
      have hpw : p = (whole l).length := by
        rw [HP.out]
        cases hD : hasDot l
        · rw [nodot_whole hD]; rfl
        · rfl
      subst hpw
      clear HP
      rcases Nat.eq_zero_or_pos (whole l).length with hw0 | hw0
      · have HG : Hid (good7 l = false) := Lib.hid (by
          have h1 : whole l = [] := List.eq_nil_of_length_eq_zero hw0
          have h2 : bad7 l = true := by unfold bad7; rw [h1]; simp
          rw [good7_eq, h2]; rfl)
        have hz : (((whole l).length : Int) == 0) = true := by rw [hw0]; rfl
        clear hw0
        go_wp2_with fail
        go_ret3
        exact ⟨[], [], by rw [HG.out]; rfl, (fun h => by rw [HG.out] at h; cases h), Ext.refl _⟩
      · have hz : (((whole l).length : Int) == 0) = false := by rw [beq_eq_false_iff_ne]; omega
        have hwle := whole_le l
        have hl0 : (0 : Int) < (l.length : Int) := by omega
        have HW0 : Hid ((whole l == []) = false) := Lib.hid (by rw [beq_eq_false_iff_ne]; intro e; rw [e] at hw0; simp at hw0)
        have hfb := first_whole hw0
        rcases Nat.lt_or_ge 1 (whole l).length with h1w | h1w
        · have hd : (1 : Int) < ((whole l).length : Int) := by omega
          cases hb0 : ((byteAt l 0 : Int) == 48)
          · have HWZ : Hid (((whole l)[0]? == some 48 && decide (1 < (whole l).length)) = false) := Lib.hid (by rw [hfb, hb0]; rfl)
            clear hfb
            cases hD : hasDot l
            · have hwl2 := nodot_whole hD
              have HG : Hid (good7 l = true) := Lib.hid (by rw [good7_eq, HA.out, bad7_miss (by rw [hD]; rfl), HW0.out, HWZ.out]; rfl)
              have hpe : (((whole l).length : Int) == (l.length : Int)) = true := by rw [beq_iff_eq]; omega
              have hnl : ¬ ((whole l).length : Int) < (l.length : Int) := by omega
              have HE : Hid (whole l = l ∧ part l = []) := Lib.hid (by
                rcases dot_split l with ⟨h1, _⟩ | ⟨_, h2, h3⟩
                · rw [hD] at h1; cases h1
                · exact ⟨h2.symm, h3⟩)
              clear hD hwl2
              go_wp2_with fail
              go_ret3
              exact ⟨l, [], by rw [HG.out]; rfl, (fun _ => ⟨HE.out.1.symm, HE.out.2.symm⟩), Ext.refl _⟩
            · have hlt3 : (whole l).length < l.length := of_decide_eq_true hD
              have hpe : (((whole l).length : Int) == (l.length : Int)) = false := by rw [beq_eq_false_iff_ne]; omega
              have hnl : ((whole l).length : Int) < (l.length : Int) := by omega
              obtain ⟨k, hk⟩ : ∃ k, l.length = k + 1 := ⟨l.length - 1, by omega⟩
              have hks : (l.length : Int) - 1 = (k : Int) := by omega
              have hk0 : (k : Int) < (l.length : Int) := by omega
              have HLAST := Lib.hid (last_of hD hk)
              rcases Nat.eq_zero_or_pos (part l).length with hp0 | hp0
              · have hpn : part l = [] := List.eq_nil_of_length_eq_zero hp0
                have HG : Hid (good7 l = false) := Lib.hid (by rw [good7_eq, bad7_hit (by rw [hD, hpn]; rfl)]; rfl)
                have hby := HLAST.out.1 hpn
                have hb1 : ((byteAt l k : Int) == 48) = false := by rw [hby]; rfl
                have hb2 : ((byteAt l k : Int) == 46) = true := by rw [hby]; rfl
                clear hD hk hp0 hpn hby
                go_wp2_with fail
                go_ret3
                exact ⟨[], [], by rw [HG.out]; rfl, (fun h => by rw [HG.out] at h; cases h), Ext.refl _⟩
              · have hpn : part l ≠ [] := fun e => by rw [e] at hp0; simp at hp0
                have hpe2 : (part l == []) = false := by rw [beq_eq_false_iff_ne]; exact hpn
                have hby := HLAST.out.2 hpn
                cases hb : ((byteAt l k : Int) == 48)
                · have HG : Hid (good7 l = true) := Lib.hid (by rw [good7_eq, HA.out, bad7_miss (by rw [hD, hpe2, hby, hb]; rfl), HW0.out, HWZ.out]; rfl)
                  have hb2 : ((byteAt l k : Int) == 46) = false := by
                    have h1 := part_digit HA.out hD hpn hk
                    rw [beq_eq_false_iff_ne]
                    omega
                  have HTW := Lib.hid (take_whole l)
                  have HDP := Lib.hid (drop_part hD)
                  have hw1 : IntKind.i64.wrap (((whole l).length : Int) + 1) = ((whole l).length : Int) + 1 := IntWalk.i64_in _ (by omega)
                  have hw2 : (0 : Int) ≤ ((whole l).length : Int) + 1 := by omega
                  have hw3 : ((whole l).length : Int) + 1 ≤ (l.length : Int) := by omega
                  have hw4 : (((whole l).length : Int) + 1).toNat = (whole l).length + 1 := by omega
                  have hw5 : ((whole l).length : Int) ≤ (l.length : Int) := by omega
                  clear hD hk hp0 hpn hby hpe2
                  go_wp2_with fail
                  go_quiet (fail)
                  go_wp2_with fail
                  go_ret3
                  exact ⟨_, _, by rw [HG.out]; rfl, (fun _ => ⟨HTW.out, HDP.out⟩), (Ext.refl _).drewN _⟩
                · have HG : Hid (good7 l = false) := Lib.hid (by rw [good7_eq, bad7_hit (by rw [hD, hpe2, hby, hb]; rfl)]; rfl)
                  clear hD hk hp0 hpn hby hpe2
                  go_wp2_with fail
                  go_ret3
                  exact ⟨[], [], by rw [HG.out]; rfl, (fun h => by rw [HG.out] at h; cases h), Ext.refl _⟩
          · have HG : Hid (good7 l = false) := Lib.hid (by
              have h2 : bad7 l = true := by unfold bad7; rw [hfb, hb0]; simp [h1w]
              rw [good7_eq, h2]; rfl)
            clear hfb
            go_wp2_with fail
            go_ret3
            exact ⟨[], [], by rw [HG.out]; rfl, (fun h => by rw [HG.out] at h; cases h), Ext.refl _⟩
        · have hd : ¬ (1 : Int) < ((whole l).length : Int) := by omega
          have HWZ : Hid (((whole l)[0]? == some 48 && decide (1 < (whole l).length)) = false) := Lib.hid (by rw [decide_eq_false (by omega), Bool.and_false])
          clear hfb
          cases hD : hasDot l
          · have hwl2 := nodot_whole hD
            have HG : Hid (good7 l = true) := Lib.hid (by rw [good7_eq, HA.out, bad7_miss (by rw [hD]; rfl), HW0.out, HWZ.out]; rfl)
            have hpe : (((whole l).length : Int) == (l.length : Int)) = true := by rw [beq_iff_eq]; omega
            have hnl : ¬ ((whole l).length : Int) < (l.length : Int) := by omega
            have HE : Hid (whole l = l ∧ part l = []) := Lib.hid (by
              rcases dot_split l with ⟨h1, _⟩ | ⟨_, h2, h3⟩
              · rw [hD] at h1; cases h1
              · exact ⟨h2.symm, h3⟩)
            clear hD hwl2
            go_wp2_with fail
            go_ret3
            exact ⟨l, [], by rw [HG.out]; rfl, (fun _ => ⟨HE.out.1.symm, HE.out.2.symm⟩), Ext.refl _⟩
          · have hlt3 : (whole l).length < l.length := of_decide_eq_true hD
            have hpe : (((whole l).length : Int) == (l.length : Int)) = false := by rw [beq_eq_false_iff_ne]; omega
            have hnl : ((whole l).length : Int) < (l.length : Int) := by omega
            obtain ⟨k, hk⟩ : ∃ k, l.length = k + 1 := ⟨l.length - 1, by omega⟩
            have hks : (l.length : Int) - 1 = (k : Int) := by omega
            have hk0 : (k : Int) < (l.length : Int) := by omega
            have HLAST := Lib.hid (last_of hD hk)
            rcases Nat.eq_zero_or_pos (part l).length with hp0 | hp0
            · have hpn : part l = [] := List.eq_nil_of_length_eq_zero hp0
              have HG : Hid (good7 l = false) := Lib.hid (by rw [good7_eq, bad7_hit (by rw [hD, hpn]; rfl)]; rfl)
              have hby := HLAST.out.1 hpn
              have hb1 : ((byteAt l k : Int) == 48) = false := by rw [hby]; rfl
              have hb2 : ((byteAt l k : Int) == 46) = true := by rw [hby]; rfl
              clear hD hk hp0 hpn hby
              go_wp2_with fail
              go_ret3
              exact ⟨[], [], by rw [HG.out]; rfl, (fun h => by rw [HG.out] at h; cases h), Ext.refl _⟩
            · have hpn : part l ≠ [] := fun e => by rw [e] at hp0; simp at hp0
              have hpe2 : (part l == []) = false := by rw [beq_eq_false_iff_ne]; exact hpn
              have hby := HLAST.out.2 hpn
              cases hb : ((byteAt l k : Int) == 48)
              · have HG : Hid (good7 l = true) := Lib.hid (by rw [good7_eq, HA.out, bad7_miss (by rw [hD, hpe2, hby, hb]; rfl), HW0.out, HWZ.out]; rfl)
                have hb2 : ((byteAt l k : Int) == 46) = false := by
                  have h1 := part_digit HA.out hD hpn hk
                  rw [beq_eq_false_iff_ne]
                  omega
                have HTW := Lib.hid (take_whole l)
                have HDP := Lib.hid (drop_part hD)
                have hw1 : IntKind.i64.wrap (((whole l).length : Int) + 1) = ((whole l).length : Int) + 1 := IntWalk.i64_in _ (by omega)
                have hw2 : (0 : Int) ≤ ((whole l).length : Int) + 1 := by omega
                have hw3 : ((whole l).length : Int) + 1 ≤ (l.length : Int) := by omega
                have hw4 : (((whole l).length : Int) + 1).toNat = (whole l).length + 1 := by omega
                have hw5 : ((whole l).length : Int) ≤ (l.length : Int) := by omega
                clear hD hk hp0 hpn hby hpe2
                go_wp2_with fail
                go_quiet (fail)
                go_wp2_with fail
                go_ret3
                exact ⟨_, _, by rw [HG.out]; rfl, (fun _ => ⟨HTW.out, HDP.out⟩), (Ext.refl _).drewN _⟩
              · have HG : Hid (good7 l = false) := Lib.hid (by rw [good7_eq, bad7_hit (by rw [hD, hpe2, hby, hb]; rfl)]; rfl)
                clear hD hk hp0 hpn hby hpe2
                go_wp2_with fail
                go_ret3
                exact ⟨[], [], by rw [HG.out]; rfl, (fun h => by rw [HG.out] at h; cases h), Ext.refl _⟩
end Big
end Go.Proofs.YtelgknpdiaafaaaGreatDoor
/- The bytes of a text, laid in memory. -/
namespace Go.Proofs.YtelgknpdiaafaaaGreatDoor
namespace Big
open Go.RowKit
/-- '[]byte(s)'. -/
def bytesAt (w : World) (l : List UInt8) : World := Lib.bytesWorld w 5 ⟨l.toArray⟩
theorem bytesAt_ext (w : World) (l : List UInt8) : Ext w (bytesAt w l) := by
  refine ⟨?_, ?_, ?_, ?_, fun k hk => Lib.bytesWorld_at_old w _ _ k hk⟩
  · simp [bytesAt, Lib.bytesWorld, World.freeze, World.alloc, World.drew, -World.alloc_eq, -World.drew_eq]
  · simp [bytesAt, Lib.bytesWorld, World.freeze, World.alloc, World.drew, -World.alloc_eq, -World.drew_eq]
  · simp [bytesAt, Lib.bytesWorld, World.freeze, World.alloc, World.drew, -World.alloc_eq, -World.drew_eq]
  · unfold bytesAt; rw [Lib.bytesWorld_size]; omega
theorem bytesAt_cell (w : World) (l : List UInt8) (j : Nat) (h : j < l.length) : (bytesAt w l).cell? ⟨w.heap.size, j, none⟩ = some (.int .u8 (byteAt l j : Int)) := by
  unfold bytesAt byteAt
  rw [Lib.bytesWorld_cell w _ _ j (by rw [size_str]; exact h)]
theorem bytesAt_lt (w : World) (l : List UInt8) : w.heap.size < (bytesAt w l).heap.size := by unfold bytesAt; rw [Lib.bytesWorld_size]; omega
theorem run_bytesAt (w : World) (l : List UInt8) : ∃ c, (convert 9 27 (str l)).run Tryz.prog w = .ok (.slice (some ⟨w.heap.size, 0, none⟩) l.length c) (bytesAt w l) ∧ l.length ≤ c := by
  have := Lib.run_convert_string_bytes (P := Tryz.prog) w 9 27 5 ⟨l.toArray⟩ Tryz.underlying9 Tryz.underlying27 Tryz.underlying5
  rw [size_str] at this
  exact ⟨_, this, grownCap_ge w l.length 0 _⟩

end Big
end Go.Proofs.YtelgknpdiaafaaaGreatDoor
/- The reference's reading of a decimal. -/
namespace Go.Proofs.YtelgknpdiaafaaaGreatDoor
namespace Big
open Go.RowKit
theorem make_low (n : Nat) (d : Nat) : makeN (n : Int) ((d : Nat) : Int) = lowN (n : Int) d ∧ makeD (n : Int) ((d : Nat) : Int) = lowD (n : Int) d := by
  unfold makeN lowN makeD lowD
  have h1 : decide ((n : Int) < 0) = false := by simp
  have h2 : decide ((d : Int) < 0) = false := by simp
  rw [h1, h2, Int.natAbs_natCast, Int.natAbs_natCast]
  exact ⟨rfl, rfl⟩
set_option maxRecDepth 100000 in
theorem rparse7_long (w : World) (l : List UInt8) (h : 400 < l.length) : Calls Tryz.prog 27 #[str l] w (ParseRes7 w l) := by
  have hc : code7 l = 7 := if_pos h
  have h' : (400 : Int) < (l.length : Int) := by omega
  have HC := Lib.hid hc
  clear h hc
  go_enter Tryz.func27, Tryz.ntmps27
  go_wp2_with fail
  refine bodyPost_ret (v := .tuple #[.agg #[.bool false, .slice none 0 0, .slice none 0 0], .int .i64 7]) (by simp [results, Tryz.results27, go_sem]) rfl ?_
  exact ⟨_, by rw [HC.out]; rfl, by rw [HC.out]; exact IsRat.zero _ _, (Ext.refl w).alloc _⟩
set_option maxHeartbeats 1000000 in
set_option maxRecDepth 100000 in
theorem rparse7_any (w : World) (l : List UInt8) : Calls Tryz.prog 27 #[str l] w (ParseRes7 w l) := by
  rcases Nat.lt_or_ge 400 l.length with hl | hl
  · exact rparse7_long w l hl
  have HD := Lib.hid (fun W => rdecimal_any W l (by omega))
  have h400 : ¬ (400 : Int) < (l.length : Int) := by omega
  cases hg : good7 l
  · have HC : Hid (code7 l = 6) := Lib.hid (by unfold code7; rw [if_neg (by omega), hg]; rfl)
    have HG := Lib.hid hg
    clear hg
    go_enter Tryz.func27, Tryz.ntmps27
    go_wp2_with fail
    refine (HD.out _).mono ?_
    rintro e w1 ⟨a, b, rfl, _, hx1⟩
    rw [HG.out]
    have HX1 := Lib.hid (((Ext.refl w).alloc (.cells #[Value.bool false, Value.slice none 0 0, Value.slice none 0 0] 57)).trans hx1)
    have hk := (Blk.new w 57 #[Value.bool false, Value.slice none 0 0, Value.slice none 0 0]).ext hx1
    have HB1 := Lib.hid hk
    obtain ⟨k0, k1, k2, f0, f1, f2, hgz⟩ := hk.three
    clear hx1 hk
    go_wp2_with fail
    obtain ⟨hr0, hr1, hr2⟩ := three_set HB1.out (.bool false) (.slice none 0 0) (.slice none 0 0)
    refine bodyPost_ret (v := .tuple #[.agg #[.bool false, .slice none 0 0, .slice none 0 0], .int .i64 6]) (by simp [results, Tryz.results27, go_sem, hr0, hr1, hr2]) rfl ?_
    exact ⟨_, by rw [HC.out]; rfl, by rw [HC.out]; exact IsRat.zero _ _, ((HX1.out.setCell (Nat.le_refl _) _).setCell (Nat.le_refl _) _).setCell (Nat.le_refl _) _⟩
  · have HC : Hid (code7 l = 0) := Lib.hid (by unfold code7; rw [if_neg (by omega), hg]; rfl)
    have HG := Lib.hid hg
    have hall : allD l = true := by
      rw [good7_eq, Bool.and_eq_true] at hg
      exact hg.2
    have hpl : (part l).length ≤ l.length := by
      rcases dot_split l with ⟨_, h1⟩ | ⟨_, _, h2⟩
      · have := congrArg List.length h1
        simp at this
        omega
      · rw [h2]; simp
    have hwl := whole_le l
    have HNUM : Hid (num7 l = lowN (numOf (whole l ++ part l)) (10 ^ (part l).length)) := Lib.hid rfl
    have HDEN : Hid (den7 l = lowD (numOf (whole l ++ part l)) (10 ^ (part l).length)) := Lib.hid rfl
    unfold allD at hall
    clear hg
    have hadd : ∀ W', (binOp .add 9 (str (whole l)) (str (part l))).run Tryz.prog W' = .ok (str (whole l ++ part l)) W' := run_add_str _ _ (by omega)
    have hL : (whole l ++ part l).length ≤ 800 := by rw [List.length_append]; omega
    go_enter Tryz.func27, Tryz.ntmps27
    go_wp2_with fail
    refine (HD.out _).mono ?_
    rintro e w1 ⟨a, b, rfl, hab, hx1⟩
    obtain ⟨rfl, rfl⟩ := hab HG.out
    rw [HG.out]
    generalize whole l = W at *
    generalize part l = P at *
    have HX1 := Lib.hid (((Ext.refl w).alloc (.cells #[Value.bool false, Value.slice none 0 0, Value.slice none 0 0] 57)).trans hx1)
    have HB1 := Lib.hid ((Blk.new w 57 #[Value.bool false, Value.slice none 0 0, Value.slice none 0 0]).ext hx1)
    obtain ⟨cb, hcv, hcb⟩ := run_bytesAt w1 (W ++ P)
    have HBY := Lib.hid (fun j h => bytesAt_cell w1 (W ++ P) j h)
    have HXB := Lib.hid (bytesAt_ext w1 (W ++ P))
    have HLT := Lib.hid (bytesAt_lt w1 (W ++ P))
    clear hx1 hab HD HG
    generalize W ++ P = L at *
    generalize bytesAt w1 L = wb at *
    have HALL := Lib.hid hall
    clear hall
    go_wp2_with fail
    clear hcv hadd
    go_loopw [7, 28] (fun s7 s28 wr => ∃ (k m : Nat) (A : Option Addr) (c : Nat), k ≤ L.length ∧ s28 = .int .i64 (k : Int) ∧ s7 = .slice A m c ∧ Own (w.heap.size + 1) wr s7 (limbs (numOf (L.take k))) ∧ Ext wb wr) (fun _ s28 _ => L.length - (intOf s28).toNat)
    case atStart => exact ⟨0, 0, none, 0, Nat.zero_le _, rfl, rfl, Own.none_ _ _, Ext.refl _⟩
    case round =>
      obtain ⟨k, m, A, c, hk, rfl, rfl, ho, hx⟩ := hrel
      have HO := Lib.hid ho
      have HX := Lib.hid hx
      have hsz : w.heap.size + 1 ≤ wr.heap.size := by
        have h1 := HB1.out.lt
        have h2 := HLT.out
        have h3 := hx.size
        omega
      have hll : (limbs (numOf (L.take k))).length ≤ 800 := by
        refine limbs_dec (numOf_lt _ ?_) (by rw [List.length_take]; omega)
        rw [List.all_eq_true]
        intro x hxm
        exact List.all_eq_true.1 HALL.out x (List.mem_of_mem_take hxm)
      by_cases hlt : k < L.length
      · have hby := (hx.cell HLT.out).trans (HBY.out k hlt)
        have hbe := byteAt_eq L k hlt
        have hdg : isDig L[k] = true := List.all_eq_true.1 HALL.out _ (List.getElem_mem hlt)
        have hnt := numOf_take L k hlt
        rw [← hbe] at hnt
        unfold isDig at hdg
        rw [← hbe] at hdg
        simp only [Bool.and_eq_true, decide_eq_true_eq] at hdg
        obtain ⟨d1, d2⟩ := hdg
        generalize byteAt L k = b at *
        have E1 := Lib.hid (show ((b : Int) - 48) = ((b - 48 : Nat) : Int) by omega)
        have HS := Lib.hid (rsmall_any wr _ _ 10 (b - 48) ho.arr (by omega) (by decide) (by omega))
        rw [val_limbs] at HS
        have HN := Lib.hid (show numOf (L.take (k + 1)) = numOf (L.take k) * 10 + (b - 48) by rw [hnt]; omega)
        clear ho hx hbe hnt hll hcb
        go_wp2_with fail
        rw [E1.out]
        refine HS.out.mono ?_
        rintro e w2 ⟨v2, rfl, ho2, hx2⟩
        rw [← HN.out] at ho2
        have HO2 := Lib.hid (ho2.mono hsz)
        have HX2 := Lib.hid (HX.out.trans hx2)
        obtain ⟨n2, A2, c2, rfl⟩ := ho2.shape
        clear ho2 hx2
        go_wp2_with fail
        go_roundw
        case rel => exact ⟨k + 1, n2, A2, c2, by omega, by go_num, rfl, HO2.out, HX2.out⟩
        case measure => simp [intOf]; omega
      · obtain rfl : k = L.length := by omega
        rw [List.take_of_length_le (Nat.le_refl _)] at HO ho hll
        have HIN := Lib.hid (rnat_any wr false _ _ ho.arr (by omega))
        rw [val_limbs] at HIN
        have hsg : sgn false (numOf L) = ((numOf L : Nat) : Int) := rfl
        rw [hsg] at HIN
        have HTEN := Lib.hid (fun W' => rten_any W' P.length (by omega))
        have hte : (limbs (10 ^ P.length)).length ≤ 801 := limbs_dec (k := P.length + 1) (Nat.pow_lt_pow_right (by decide) (by omega)) (by omega)
        have HOF := Lib.hid (fun W' a b h1 h2 => rof7_any W' a b ((numOf L : Nat) : Int) ((10 ^ P.length : Nat) : Int) h1 h2 (by rw [Int.natAbs_natCast]; omega) (by rw [Int.natAbs_natCast]; omega) (by
          have : 0 < 10 ^ P.length := Nat.pow_pos (by decide)
          omega))
        rw [(make_low (numOf L) (10 ^ P.length)).1, (make_low (numOf L) (10 ^ P.length)).2] at HOF
        have HXX := Lib.hid ((HX1.out.trans HXB.out).trans hx)
        have HBB := Lib.hid (((HB1.out.ext HXB.out)).ext hx)
        clear ho hx hll hte hsg hcb
        go_wp2_with fail
        refine HIN.out.mono ?_
        rintro e w5 ⟨v5, rfl, hi5, hx5⟩
        have HI5 := Lib.hid hi5
        obtain ⟨b5, n5, A5, c5, rfl⟩ := hi5.shape
        have HX5 := Lib.hid (HXX.out.trans hx5)
        have HB5 := Lib.hid (HBB.out.ext hx5)
        clear hi5 hx5
        go_wp2_with fail
        refine (HTEN.out _).mono ?_
        rintro e w6 ⟨v6, rfl, hi6, hx6⟩
        have HI6 := Lib.hid hi6
        obtain ⟨b6, n6, A6, c6, rfl⟩ := hi6.shape
        have HI5' := Lib.hid (HI5.out.ext hx6)
        have HX6 := Lib.hid (HX5.out.trans hx6)
        have HB6 := Lib.hid (HB5.out.ext hx6)
        clear hi6 hx6
        go_wp2_with fail
        refine (HOF.out _ _ _ HI5'.out.arr HI6.out.arr).mono ?_
        rintro e w8 ⟨v8, rfl, hr8, hx8⟩
        obtain ⟨b8, n8, A8, c8, n8', A8', c8', rfl⟩ := hr8.shape
        have HR8 := Lib.hid hr8
        have HX8 := Lib.hid (HX6.out.trans hx8)
        have hk := HB6.out.ext hx8
        have HB8 := Lib.hid hk
        have HSZ7 := Lib.hid HX6.out.size
        have HLT7 := Lib.hid HB6.out.lt
        clear hr8 hx8
        obtain ⟨k0, k1, k2, f0, f1, f2, hgz⟩ := hk.three
        clear hk
        go_wp2_with fail
        obtain ⟨hr0, hr1, hr2⟩ := three_set HB8.out (.bool b8) (.slice A8 n8 c8) (.slice A8' n8' c8')
        refine bodyPost_ret (v := .tuple #[.agg #[.bool b8, .slice A8 n8 c8, .slice A8' n8' c8'], .int .i64 0]) (by simp [results, Tryz.results27, go_sem, hr0, hr1, hr2]) rfl ?_
        have hfin := HR8.out.put (w := w) HLT7.out HSZ7.out
        exact ⟨_, by rw [HC.out]; rfl, by rw [HC.out, if_pos rfl, if_pos rfl, HNUM.out, HDEN.out]; exact hfin, ((HX8.out.setCell (Nat.le_refl _) _).setCell (Nat.le_refl _) _).setCell (Nat.le_refl _) _⟩
end Big
end Go.Proofs.YtelgknpdiaafaaaGreatDoor
