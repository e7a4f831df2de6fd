import Derived.Test.YtplmldkfgeiklaaGreatDoorM19
import Derived.Test.YtplmldkfgeiklaaGreatDoorM20
import Derived.Test.YtplmldkfgeiklaaGreatDoorRows
import Derived.Test.YtplmldkfgeiklaaGreatDoorM4
import Derived.ProofKit
import Derived.LaidMore
import Derived.OpenShut
import Derived.Stop.Joined
import Derived.Lib.LaidTab
import Derived.Carry
import Derived.Handed
import Derived.HandedShaped
import Derived.Deep.Strs
import Derived.ChangeMaps5
import Derived.Lib.SmallJoins
import Derived.Test.YtplmldkfgeiklaaGreatDoorM17
/- ref04.Sqrt, Square; ref07.Sqrt. Printed by a program. -/
namespace Go.Proofs.YtplmldkfgeiklaaGreatDoor
namespace Big
open Go.RowKit
set_option maxRecDepth 100000 in
theorem rsqrt4_any (w : World) (v0 : Value) (xs : List Nat) (h0 : Arr w v0 xs) (n0 : xs.length ≤ 10000) :
    Calls Tryz.prog 135 #[v0] w fun e w' => ∃ v' u' r, e = .returned (.tuple #[v', u']) ∧ IsSq (val xs) r ∧ Own w.heap.size w' v' (limbs r) ∧ Own w.heap.size w' u' (limbs (val xs - r * r)) ∧ Ext w w' := by
  have H0 := Lib.hid h0
  have HRT := Lib.hid (rroot_any w v0 xs h0 n0)
  have HVL := Lib.hid (Nat.le_trans (length_limbs_val h0.ok) n0)
  have HML := Lib.hid (fun W m m' r a b (hr : (limbs r).length ≤ 10000) => rmul2_any W m m' (limbs r) (limbs r) a b (by omega) (by omega))
  have HLS := Lib.hid (fun W m (r : Nat) (hx : Ext w W) b (hr : (limbs (r * r)).length ≤ 1073741824) => rless_any W v0 m xs (limbs (r * r)) (h0.ext hx) b (by omega) hr)
  obtain ⟨l0, A0, c0, rfl⟩ := h0.shape
  clear h0 n0
  go_enter Tryz.func135, Tryz.ntmps135
  go_wp2_with fail
  refine HRT.out.mono ?_
  rintro e w1 ⟨r0, r, rfl, hsq, hi0, hx0⟩
  have R0 := Lib.hid hi0
  have HX1 := Lib.hid hx0
  have HS := Lib.hid hsq
  have hrl : (limbs r).length ≤ 10000 := Nat.le_trans (limbs_mono hsq.le) HVL.out
  have hrr : (limbs (r * r)).length ≤ 10000 := Nat.le_trans (limbs_mono hsq.1) HVL.out
  have HM := Lib.hid (fun W m m' a b => HML.out W m m' r a b hrl)
  rw [val_limbs] at HM
  have HL := Lib.hid (fun W m hx b => HLS.out W m r hx b (by omega))
  rw [val_limbs] at HL
  obtain ⟨g0, G0, j0, rfl⟩ := hi0.shape
  clear hi0 hx0 hsq hrl hrr HML HLS
  go_wp2_with fail
  refine (HM.out _ _ _ R0.out.arr R0.out.arr).mono ?_
  rintro e w2 ⟨r1, rfl, hi1, hx1⟩
  have R1 := Lib.hid hi1
  have R0 := Lib.hid (R0.out.ext hx1)
  have HX2 := Lib.hid (HX1.out.trans hx1)
  obtain ⟨g1, G1, j1, rfl⟩ := hi1.shape
  clear hi1 hx1
  go_wp2_with fail
  refine (HL.out _ _ HX2.out R1.out.arr).mono ?_
  rintro e w3 ⟨r2, rfl, hi2, hx2⟩
  have R2 := Lib.hid (hi2.mono HX2.out.size)
  have R0 := Lib.hid (R0.out.ext hx2)
  have HX3 := Lib.hid (HX2.out.trans hx2)
  obtain ⟨g2, G2, j2, rfl⟩ := hi2.shape
  clear hi2 hx2
  go_wp2_with fail
  go_ret2
  exact ⟨_, _, r, rfl, HS.out, R0.out, R2.out, HX3.out⟩
set_option maxRecDepth 100000 in
theorem rsquare4_any (w : World) (v0 : Value) (xs : List Nat) (h0 : Arr w v0 xs) (n0 : xs.length ≤ 10000) : Calls Tryz.prog 84 #[v0] w (SqPost (val xs) w) := by
  have HS := Lib.hid (rsqrt4_any w v0 xs h0 n0)
  obtain ⟨l0, A0, c0, rfl⟩ := h0.shape
  clear h0 n0
  go_enter Tryz.func84, Tryz.ntmps84
  go_wp2_with fail
  refine HS.out.mono ?_
  rintro e w1 ⟨v', u', r, rfl, hsq, hi, hi', hx⟩
  have HSQ := Lib.hid hsq
  have HI := Lib.hid hi
  have HX := Lib.hid hx
  have hlen := hi'.arr
  obtain ⟨g1, G1, j1, rfl⟩ := hi.shape
  obtain ⟨g2, G2, j2, rfl⟩ := hi'.shape
  have hl := hi'.arr.len
  by_cases hV : val xs = r * r
  · have hd : decide (val xs = r * r) = true := decide_eq_true hV
    have HD := Lib.hid hd
    rw [hV, Nat.sub_self, limbs_zero, List.length_nil] at hl
    subst hl
    clear hlen hi hi' hx hsq hV hd
    go_wp2_with fail
    go_ret2
    exact ⟨.slice G1 g1 j1, r, HSQ.out, by rw [HD.out]; rfl, fun _ => HI.out, ⟨_, _, _, rfl⟩, HX.out⟩
  · have HD := Lib.hid (decide_eq_false hV)
    have hp : 0 < g2 := by
      rw [hl, List.length_pos_iff]
      intro e
      rw [limbs_eq_nil] at e
      exact hV (hsq.rest.1 e)
    have hne : (0 : Int) < (g2 : Int) := by omega
    have HV := Lib.hid hV
    clear hlen hi hi' hx hsq hV hl hp
    go_wp2_with fail
    go_ret2
    exact ⟨.slice none 0 0, r, HSQ.out, by rw [HD.out]; rfl, fun e => absurd e HV.out, ⟨0, none, 0, rfl⟩, HX.out⟩
set_option maxHeartbeats 1000000 in
set_option maxRecDepth 100000 in
theorem rsqrtR_neg (w : World) (v0 : Value) (p : Int) (q : Nat) (h0 : ArrRat w v0 p q) (n0 : (limbs p.natAbs).length ≤ 10000) (m0 : (limbs q).length ≤ 10000) (hp : p < 0) :
    Calls Tryz.prog 26 #[v0] w (SqrtPost p q w) := by
  have H0 := Lib.hid h0
  have HQ0 := Lib.hid (fun W m a => rsquare4_any W m (limbs p.natAbs) a (by omega))
  have HQ1 := Lib.hid (fun W m a => rsquare4_any W m (limbs q) a (by omega))
  unfold SqPost at HQ0 HQ1
  rw [val_limbs] at HQ0 HQ1
  obtain ⟨b0, l0, A0, c0, k0, D0, e0, rfl⟩ := h0.shape
  have HNN := Lib.hid n0
  have hs0 := h0.sign
  rw [decide_eq_true hp] at hs0
  subst hs0
  have HP := Lib.hid hp
  have HNUM := Lib.hid h0.num
  clear h0 hp n0 m0
  generalize p.natAbs = m at *
  go_enter Tryz.func26, Tryz.ntmps26
  go_wp2_with fail
  have hb0 := ((Blk.new w 26 #[Value.bool true, Value.slice A0 l0 c0, Value.slice D0 k0 e0]).alloc (.cells #[Value.bool false, Value.slice none 0 0, Value.slice none 0 0] 26))
  have hb1 := (Blk.new (w.alloc (.cells #[Value.bool true, Value.slice A0 l0 c0, Value.slice D0 k0 e0] 26)) 26 #[Value.bool false, Value.slice none 0 0, Value.slice none 0 0])
  have hxo := (((Ext.refl w).alloc (.cells #[Value.bool true, Value.slice A0 l0 c0, Value.slice D0 k0 e0] 26)).alloc (.cells #[Value.bool false, Value.slice none 0 0, Value.slice none 0 0] 26))
  have hszo : w.heap.size + 1 + 1 = ((w.alloc (.cells #[Value.bool true, Value.slice A0 l0 c0, Value.slice D0 k0 e0] 26)).alloc (.cells #[Value.bool false, Value.slice none 0 0, Value.slice none 0 0] 26)).heap.size := by simp
  simp only [World.size_alloc] at hb1
  generalize (w.alloc (.cells #[Value.bool true, Value.slice A0 l0 c0, Value.slice D0 k0 e0] 26)).alloc (.cells #[Value.bool false, Value.slice none 0 0, Value.slice none 0 0] 26) = wo at *
  have HB0 := Lib.hid hb0
  have HB1 := Lib.hid hb1
  have HX := Lib.hid hxo
  have HZ : Hid (w.heap.size + 1 + 1 ≤ wo.heap.size) := Lib.hid (by omega)
  clear hxo hszo hb0 hb1
  refine (HQ0.out _ _ (HNUM.out.ext HX.out)).mono ?_
  rintro e w1 ⟨r0, r, hsq0, rfl, hi0, ⟨g0, G0, j0, rfl⟩, hx0⟩
  have HX1 := Lib.hid (HX.out.trans hx0)
  have HB11 := Lib.hid (HB1.out.ext hx0)
  have HB01 := Lib.hid (HB0.out.ext hx0)
  have R0 := Lib.hid hi0
  have HS0 := Lib.hid hsq0
  have HZ0 := Lib.hid hx0.size
  clear hi0 hsq0 hx0
  obtain ⟨q0, q1, q2, _, _, _, _⟩ := HB01.out.three
  go_wp2_with fail
  refine (HQ1.out _ _ (H0.out.den.ext HX1.out)).mono ?_
  rintro e w2 ⟨r1, s, hsq1, rfl, hi1, ⟨g1, G1, j1, rfl⟩, hx1⟩
  have HX2 := Lib.hid (HX1.out.trans hx1)
  have HB12 := Lib.hid (HB11.out.ext hx1)
  have HB02 := Lib.hid (HB01.out.ext hx1)
  have HE1 := Lib.hid hx1
  have R1 := Lib.hid hi1
  have HS1 := Lib.hid hsq1
  clear hi1 hsq1 hx1 q0 q1 q2
  obtain ⟨q0, q1, q2, _, _, _, _⟩ := HB02.out.three
  obtain ⟨t0, t1, t2, s0, s1, s2, hgz⟩ := HB12.out.three
  generalize decide (m = r * r) = d1 at *
  generalize decide (q = s * s) = d2 at *
  go_wp2_with fail
  obtain ⟨hr0, hr1, hr2⟩ := three_set HB12.out (.bool false) (.slice none 0 0) (.slice none 0 0)
  refine bodyPost_ret (v := .tuple #[.agg #[.bool false, .slice none 0 0, .slice none 0 0], .bool false]) (by simp [results, Tryz.results26, go_sem, hr0, hr1, hr2]) rfl ?_
  refine ⟨_, ((HX2.out.setCell (Nat.le_succ _) _).setCell (Nat.le_succ _) _).setCell (Nat.le_succ _) _, .inr ⟨?_, rfl, IsRat.zero _ _⟩⟩
  rintro ⟨r', s', h1, _⟩
  have := HP.out
  omega
set_option maxHeartbeats 1000000 in
set_option maxRecDepth 100000 in
theorem rsqrtR_pos (w : World) (v0 : Value) (p : Int) (q : Nat) (h0 : ArrRat w v0 p q) (n0 : (limbs p.natAbs).length ≤ 10000) (m0 : (limbs q).length ≤ 10000) (hp : ¬ p < 0) :
    Calls Tryz.prog 26 #[v0] w (SqrtPost p q w) := by
  have H0 := Lib.hid h0
  have HQ0 := Lib.hid (fun W m a => rsquare4_any W m (limbs p.natAbs) a (by omega))
  have HQ1 := Lib.hid (fun W m a => rsquare4_any W m (limbs q) a (by omega))
  unfold SqPost at HQ0 HQ1
  rw [val_limbs] at HQ0 HQ1
  obtain ⟨b0, l0, A0, c0, k0, D0, e0, rfl⟩ := h0.shape
  have HNN := Lib.hid n0
  have hs0 := h0.sign
  rw [decide_eq_false hp] at hs0
  subst hs0
  have HP := Lib.hid hp
  have HNUM := Lib.hid h0.num
  clear h0 hp n0 m0
  have hpn : ((p.natAbs : Nat) : Int) = p := by have := HP.out; omega
  have HPN := Lib.hid hpn
  clear hpn
  generalize p.natAbs = m at *
  go_enter Tryz.func26, Tryz.ntmps26
  go_wp2_with fail
  have hb0 := ((Blk.new w 26 #[Value.bool false, Value.slice A0 l0 c0, Value.slice D0 k0 e0]).alloc (.cells #[Value.bool false, Value.slice none 0 0, Value.slice none 0 0] 26))
  have hb1 := (Blk.new (w.alloc (.cells #[Value.bool false, Value.slice A0 l0 c0, Value.slice D0 k0 e0] 26)) 26 #[Value.bool false, Value.slice none 0 0, Value.slice none 0 0])
  have hxo := (((Ext.refl w).alloc (.cells #[Value.bool false, Value.slice A0 l0 c0, Value.slice D0 k0 e0] 26)).alloc (.cells #[Value.bool false, Value.slice none 0 0, Value.slice none 0 0] 26))
  have hszo : w.heap.size + 1 + 1 = ((w.alloc (.cells #[Value.bool false, Value.slice A0 l0 c0, Value.slice D0 k0 e0] 26)).alloc (.cells #[Value.bool false, Value.slice none 0 0, Value.slice none 0 0] 26)).heap.size := by simp
  simp only [World.size_alloc] at hb1
  generalize (w.alloc (.cells #[Value.bool false, Value.slice A0 l0 c0, Value.slice D0 k0 e0] 26)).alloc (.cells #[Value.bool false, Value.slice none 0 0, Value.slice none 0 0] 26) = wo at *
  have HB0 := Lib.hid hb0
  have HB1 := Lib.hid hb1
  have HX := Lib.hid hxo
  have HZ : Hid (w.heap.size + 1 + 1 ≤ wo.heap.size) := Lib.hid (by omega)
  clear hxo hszo hb0 hb1
  refine (HQ0.out _ _ (HNUM.out.ext HX.out)).mono ?_
  rintro e w1 ⟨r0, r, hsq0, rfl, hi0, ⟨g0, G0, j0, rfl⟩, hx0⟩
  have HX1 := Lib.hid (HX.out.trans hx0)
  have HB11 := Lib.hid (HB1.out.ext hx0)
  have HB01 := Lib.hid (HB0.out.ext hx0)
  have R0 := Lib.hid hi0
  have HS0 := Lib.hid hsq0
  have HZ0 := Lib.hid hx0.size
  clear hi0 hsq0 hx0
  obtain ⟨q0, q1, q2, _, _, _, _⟩ := HB01.out.three
  go_wp2_with fail
  refine (HQ1.out _ _ (H0.out.den.ext HX1.out)).mono ?_
  rintro e w2 ⟨r1, s, hsq1, rfl, hi1, ⟨g1, G1, j1, rfl⟩, hx1⟩
  have HX2 := Lib.hid (HX1.out.trans hx1)
  have HB12 := Lib.hid (HB11.out.ext hx1)
  have HB02 := Lib.hid (HB01.out.ext hx1)
  have HE1 := Lib.hid hx1
  have R1 := Lib.hid hi1
  have HS1 := Lib.hid hsq1
  clear hi1 hsq1 hx1 q0 q1 q2
  obtain ⟨q0, q1, q2, _, _, _, _⟩ := HB02.out.three
  obtain ⟨t0, t1, t2, s0, s1, s2, hgz⟩ := HB12.out.three
  by_cases hm : m = r * r
  · have hd0 : decide (m = r * r) = true := decide_eq_true hm
    rw [hd0]
    by_cases hq : q = s * s
    · have hd1 : decide (q = s * s) = true := decide_eq_true hq
      rw [hd1]
      have HR0 := Lib.hid ((R0.out hm).ext HE1.out)
      have HR1 := Lib.hid (R1.out hq)
      have HM := Lib.hid hm
      have HQ := Lib.hid hq
      have hrl : (limbs r).length ≤ 10000 := Nat.le_trans (limbs_mono HS0.out.le) (by rw [hm]; rw [← hm]; exact HNN.out)
      have HI := Lib.hid (fun W m a => rnat_any W false m (limbs r) a (by omega))
      rw [val_limbs, show sgn false r = (r : Int) from rfl] at HI
      clear hm hq hd0 hd1 hrl
      go_wp2_with fail
      refine (HI.out _ _ HR0.out.arr).mono ?_
      rintro e w3 ⟨r2, rfl, hi2, hx2⟩
      have HX3 := Lib.hid (HX2.out.trans hx2)
      have HB13 := Lib.hid (HB12.out.ext hx2)
      have HR13 := Lib.hid (HR1.out.ext hx2)
      have HZ2 := Lib.hid HE1.out.size
      have R2 := Lib.hid hi2
      obtain ⟨f2, g2, G2, j2, rfl⟩ := hi2.shape
      clear hi2 hx2 t0 t1 t2 s0 s1 s2
      obtain ⟨t0, t1, t2, s0, s1, s2, hgz⟩ := HB13.out.three
      go_wp2_with fail
      obtain ⟨hr0, hr1, hr2⟩ := three_set HB13.out (.bool f2) (.slice G2 g2 j2) (.slice G1 g1 j1)
      refine bodyPost_ret (v := .tuple #[.agg #[.bool f2, .slice G2 g2 j2, .slice G1 g1 j1], .bool true]) (by simp [results, Tryz.results26, go_sem, hr0, hr1, hr2]) rfl ?_
      refine ⟨_, ((HX3.out.setCell (Nat.le_succ _) _).setCell (Nat.le_succ _) _).setCell (Nat.le_succ _) _, .inl ⟨r, s, by rw [← HPN.out, HM.out], HQ.out, rfl, ?_⟩⟩
      exact IsRat.put (w1 := wo) (IsRat.mk (R2.out.mono (by have := HZ0.out; have := HZ2.out; omega)) (HR13.out.mono HZ0.out)) (by have := HZ.out; omega) (by have := HZ.out; omega)
    · have hd1 : decide (q = s * s) = false := decide_eq_false hq
      rw [hd1]
      have HQ := Lib.hid hq
      clear hm hq hd0 hd1
      go_wp2_with fail
      obtain ⟨hr0, hr1, hr2⟩ := three_set HB12.out (.bool false) (.slice none 0 0) (.slice none 0 0)
      refine bodyPost_ret (v := .tuple #[.agg #[.bool false, .slice none 0 0, .slice none 0 0], .bool false]) (by simp [results, Tryz.results26, go_sem, hr0, hr1, hr2]) rfl ?_
      refine ⟨_, ((HX2.out.setCell (Nat.le_succ _) _).setCell (Nat.le_succ _) _).setCell (Nat.le_succ _) _, .inr ⟨?_, rfl, IsRat.zero _ _⟩⟩
      rintro ⟨r', s', _, h2⟩
      refine HQ.out ?_
      have h3 := HS1.out.uniq (by rw [h2]; exact IsSq.sq s')
      rw [h3]; exact h2
  · have hd0 : decide (m = r * r) = false := decide_eq_false hm
    rw [hd0]
    have HM := Lib.hid hm
    generalize decide (q = s * s) = d2 at *
    clear hm hd0
    go_wp2_with fail
    obtain ⟨hr0, hr1, hr2⟩ := three_set HB12.out (.bool false) (.slice none 0 0) (.slice none 0 0)
    refine bodyPost_ret (v := .tuple #[.agg #[.bool false, .slice none 0 0, .slice none 0 0], .bool false]) (by simp [results, Tryz.results26, go_sem, hr0, hr1, hr2]) rfl ?_
    refine ⟨_, ((HX2.out.setCell (Nat.le_succ _) _).setCell (Nat.le_succ _) _).setCell (Nat.le_succ _) _, .inr ⟨?_, rfl, IsRat.zero _ _⟩⟩
    rintro ⟨r', s', h1, _⟩
    refine HM.out ?_
    have h2 : m = r' * r' := by have := HPN.out; omega
    have h3 := HS0.out.uniq (by rw [h2]; exact IsSq.sq r')
    rw [h3]; exact h2
theorem rsqrtR_any (w : World) (v0 : Value) (p : Int) (q : Nat) (h0 : ArrRat w v0 p q) (n0 : (limbs p.natAbs).length ≤ 10000) (m0 : (limbs q).length ≤ 10000) :
    Calls Tryz.prog 26 #[v0] w (SqrtPost p q w) := by
  by_cases hp : p < 0
  · exact rsqrtR_neg w v0 p q h0 n0 m0 hp
  · exact rsqrtR_pos w v0 p q h0 n0 m0 hp
end Big
end Go.Proofs.YtplmldkfgeiklaaGreatDoor
/- RationalRoots. Printed by a program. -/
namespace Go.Proofs.YtplmldkfgeiklaaGreatDoor
namespace Big
open Go.RowKit
/-- Both roots: whether there is one, and which. -/
theorem sqrt_both {p : Int} {q N : Nat} (hN : N ≤ 10000) (a : (limbs p.natAbs).length ≤ N) (b : (limbs q).length ≤ N) :
    ∃ (ok : Bool) (P : Int) (Q : Nat), (limbs P.natAbs).length ≤ N ∧ (limbs Q).length ≤ N ∧
      (∀ W v, ArrRat W v p q → Calls Tryz.prog 24 #[v] W fun e w' => ∃ v', e = .returned (.tuple #[v', .bool ok]) ∧ IsRat W.heap.size w' v' P Q ∧ Ext W w') ∧
      (∀ W v, ArrRat W v p q → Calls Tryz.prog 26 #[v] W fun e w' => ∃ v', e = .returned (.tuple #[v', .bool ok]) ∧ IsRat W.heap.size w' v' P Q ∧ Ext W w') := by
  by_cases h : ∃ r s : Nat, p = ((r * r : Nat) : Int) ∧ q = s * s
  · obtain ⟨r, s, hr, hs⟩ := h
    have key : ∀ {W : World} {e : Ending} {w' : World}, SqrtPost p q W e w' → ∃ v', e = .returned (.tuple #[v', .bool true]) ∧ IsRat W.heap.size w' v' (r : Int) s ∧ Ext W w' := by
      rintro W e w' ⟨v', hx, ⟨r', s', h1, h2, he, hi⟩ | ⟨h1, _⟩⟩
      · have e1 : r' = r := (IsSq.sq r').uniq (by rw [show r' * r' = r * r by omega]; exact IsSq.sq r)
        have e2 : s' = s := (IsSq.sq s').uniq (by rw [show s' * s' = s * s by omega]; exact IsSq.sq s)
        subst e1
        subst e2
        exact ⟨v', he, hi, hx⟩
      · exact absurd ⟨r, s, hr, hs⟩ h1
    have hpn : p.natAbs = r * r := by omega
    refine ⟨true, (r : Int), s, ?_, ?_, fun W v x => (sqrtR_any W v p q x (by omega) (by omega)).mono fun _ _ => key, fun W v x => (rsqrtR_any W v p q x (by omega) (by omega)).mono fun _ _ => key⟩
    · rw [Int.natAbs_natCast]
      exact Nat.le_trans (limbs_mono (Nat.le_mul_self r)) (by rw [← hpn]; exact a)
    · exact Nat.le_trans (limbs_mono (Nat.le_mul_self s)) (by rw [← hs]; exact b)
  · have key : ∀ {W : World} {e : Ending} {w' : World}, SqrtPost p q W e w' → ∃ v', e = .returned (.tuple #[v', .bool false]) ∧ IsRat W.heap.size w' v' 0 0 ∧ Ext W w' := by
      rintro W e w' ⟨v', hx, ⟨r', s', h1, h2, _, _⟩ | ⟨_, he, hi⟩⟩
      · exact absurd ⟨r', s', h1, h2⟩ h
      · exact ⟨v', he, hi, hx⟩
    exact ⟨false, 0, 0, by rw [show limbs (0 : Int).natAbs = [] by decide +kernel]; exact Nat.zero_le _, by rw [show limbs 0 = [] by decide +kernel]; exact Nat.zero_le _,
      fun W v x => (sqrtR_any W v p q x (by omega) (by omega)).mono fun _ _ => key, fun W v x => (rsqrtR_any W v p q x (by omega) (by omega)).mono fun _ _ => key⟩
theorem sq_low {p : Int} {q : Nat} (h : Low p q) : mulP p q p q = p * p ∧ mulQ p q p q = q * q := by
  have h2 := low_pow h 2
  rw [ipow_two, Nat.pow_two] at h2
  exact low_self h2
theorem sqrt_sq {p : Int} {q : Nat} {W : World} {e : Ending} {w' : World} (h : SqrtPost (p * p) (q * q) W e w') : ∃ v', e = .returned (.tuple #[v', .bool true]) ∧ IsRat W.heap.size w' v' (p.natAbs : Int) q ∧ Ext W w' := by
  have hpp : p * p = ((p.natAbs * p.natAbs : Nat) : Int) := by rw [Int.natAbs_mul_self]
  obtain ⟨v', hx, ⟨r', s', h1, h2, he, hi⟩ | ⟨h1, _⟩⟩ := h
  · have e1 : r' = p.natAbs := (IsSq.sq r').uniq (by rw [show r' * r' = p.natAbs * p.natAbs by omega]; exact IsSq.sq _)
    have e2 : s' = q := (IsSq.sq s').uniq (by rw [show s' * s' = q * q by omega]; exact IsSq.sq q)
    subst e1
    subst e2
    exact ⟨v', he, hi, hx⟩
  · exact absurd ⟨p.natAbs, q, hpp, rfl⟩ h1
set_option maxHeartbeats 4000000 in
set_option maxRecDepth 100000 in
theorem rationalRoots_any (w : World) (b0 : Bool) (m0 d0 : Value) (xs0 ys0 : List Nat) (h0 : Arr w m0 xs0) (e0 : Arr w d0 ys0) (hm : MaxV w) (ht : Tab32 w) :
    Calls Tryz.prog 5 #[.agg #[.bool b0, m0, d0]] w fun e w' => e = .returned (.bool true) ∧ Ext w w' := by
  have HAW := Lib.hid (fun W hx => awake07_any W (hm.ext (w' := W) hx) (ht.ext hx))
  have HTW := Lib.hid (fun W (hx : Ext w W) => mrat_any W b0 m0 d0 xs0 ys0 5 (h0.ext hx) (e0.ext hx) (by decide) (by decide))
  rw [show ((5 : Nat) : Int) = 5 from rfl] at HTW
  unfold RatPost at HTW
  obtain ⟨l0, A0, c0, rfl⟩ := h0.shape
  obtain ⟨k0, D0, t0, rfl⟩ := e0.shape
  clear h0 e0 hm ht
  go_enter Tryz.func5, Tryz.ntmps5
  go_wp2_with fail
  have hb0 := (Blk.new w 26 #[Value.bool b0, Value.slice A0 l0 c0, Value.slice D0 k0 t0])
  have hxo := ((Ext.refl w).alloc (.cells #[Value.bool b0, Value.slice A0 l0 c0, Value.slice D0 k0 t0] 26))
  have hszo : w.heap.size + 1 = (w.alloc (.cells #[Value.bool b0, Value.slice A0 l0 c0, Value.slice D0 k0 t0] 26)).heap.size := by simp
  generalize w.alloc (.cells #[Value.bool b0, Value.slice A0 l0 c0, Value.slice D0 k0 t0] 26) = wo at *
  have HX := Lib.hid hxo
  have HZ : Hid (w.heap.size + 1 ≤ wo.heap.size) := Lib.hid (by omega)
  have HB0 := Lib.hid hb0
  clear hxo hszo hb0
  refine (HAW.out _ HX.out).mono ?_
  rintro e w11 ⟨rfl, hx10⟩
  have HX := Lib.hid (HX.out.trans hx10)
  have HB0 := Lib.hid (HB0.out.ext hx10)
  clear hx10
  obtain ⟨hb0_0, hb0_1, hb0_2, hb0_3, hb0_4, hb0_5, hb0_6⟩ := HB0.out.three
  go_wp2_with fail
  clear hb0_0 hb0_1 hb0_2 hb0_3 hb0_4 hb0_5 hb0_6
  refine (HTW.out _ HX.out).mono ?_
  rintro e w12 ⟨r11, ok, p, q, rfl, hi11, hl, hx11⟩
  have HX := Lib.hid (HX.out.trans hx11)
  have HB0 := Lib.hid (HB0.out.ext hx11)
  clear hx11
  have QX := Lib.hid hi11
  have HL := Lib.hid hl
  obtain ⟨f11, g11, G11, j11, y11, Y11, z11, rfl⟩ := hi11.shape
  clear hi11 hl
  clear HB0
  cases ok with
  | false =>
    clear HAW HTW HL QX
    go_wp2_with fail
    go_ret
    exact ⟨rfl, HX.out.alloc _⟩
  | true =>
  obtain ⟨hlx, hpx, hqx⟩ := HL.out rfl
  clear HL HAW HTW
  obtain ⟨b, P, Q, hPl, hQl, hsq, hrsq⟩ := sqrt_both (N := 5) (by decide) hpx hqx
  have HSQ := Lib.hid hsq
  have HRSQ := Lib.hid hrsq
  have bm := sz_mul hpx hqx hpx hqx
  have HML := Lib.hid (fun W v u x y => mulR_any W v p q x (by omega) (by omega) u p q y (by omega) (by omega) hlx.1 hlx.1)
  rw [(sq_low hlx).1, (sq_low hlx).2] at HML bm
  have HSS := Lib.hid (fun W v a => (sqrtR_any W v (p * p) (q * q) a (by omega) (by omega)).mono fun _ _ => sqrt_sq)
  have HSG := Lib.hid (fun W v x => signR_any W v p q x (by omega) (by omega))
  have HNG := Lib.hid (fun W v x => negR_any W v p q x (by omega) (by omega))
  have HS1 := Lib.hid (rsameR_self (p := (p.natAbs : Int)) (q := q) (by rw [Int.natAbs_natCast]; exact hpx) hqx (by decide))
  have HS2 := Lib.hid (rsameR_self hPl hQl (by decide))
  have hbb : (b == b) = true := by simp
  clear hlx hpx hqx hPl hQl hsq hrsq bm
  generalize p * p = pp at *
  generalize q * q = qq at *
  go_upto_region 6 with fail
  have HLOW := Lib.hid HX.out.size
  have hb12 := Blk.new w12 26 #[Value.bool f11, Value.slice G11 g11 j11, Value.slice Y11 y11 z11]
  have hx12 := (Ext.refl w12).alloc (.cells #[Value.bool f11, Value.slice G11 g11 j11, Value.slice Y11 y11 z11] 26)
  have HX := Lib.hid (HX.out.trans hx12)
  have QX := Lib.hid (QX.out.ext hx12)
  have BX := Lib.hid hb12
  generalize w12.alloc (.cells #[Value.bool f11, Value.slice G11 g11 j11, Value.slice Y11 y11 z11] 26) = w13 at *
  generalize w12.heap.size = a12 at *
  clear hb12 hx12
  obtain ⟨bx_0, bx_1, bx_2, bx_3, bx_4, bx_5, bx_6⟩ := BX.out.three
  go_wp2_with fail
  clear bx_0 bx_1 bx_2 bx_3 bx_4 bx_5 bx_6
  refine (HML.out _ _ _ QX.out.arr QX.out.arr).mono ?_
  rintro e w14 ⟨r13, rfl, hi13, hx13⟩
  have HX := Lib.hid (HX.out.trans hx13)
  have QX := Lib.hid (QX.out.ext hx13)
  have BX := Lib.hid (BX.out.ext hx13)
  have QM := Lib.hid hi13
  obtain ⟨f13, g13, G13, j13, y13, Y13, z13, rfl⟩ := hi13.shape
  clear hi13
  clear hx13
  obtain ⟨bx_0, bx_1, bx_2, bx_3, bx_4, bx_5, bx_6⟩ := BX.out.three
  go_wp2_with fail
  have LR := Lib.hid BX.out.lt
  clear bx_0 bx_1 bx_2 bx_3 bx_4 bx_5 bx_6
  refine (HSS.out _ _ QM.out.arr).mono ?_
  rintro e w15 ⟨r14, rfl, hi14, hx14⟩
  have HX := Lib.hid (HX.out.trans hx14)
  have QX := Lib.hid (QX.out.ext hx14)
  have QM := Lib.hid (QM.out.ext hx14)
  have BX := Lib.hid (BX.out.ext hx14)
  have QR := Lib.hid hi14
  obtain ⟨f14, g14, G14, j14, y14, Y14, z14, rfl⟩ := hi14.shape
  clear hi14
  clear hx14
  clear QM
  obtain ⟨bx_0, bx_1, bx_2, bx_3, bx_4, bx_5, bx_6⟩ := BX.out.three
  go_upto_region 7 with fail
  clear bx_0 bx_1 bx_2 bx_3 bx_4 bx_5 bx_6
  have NLBR := Lib.hid BX.out.lt
  have hb15 := Blk.new w15 26 #[Value.bool f14, Value.slice G14 g14 j14, Value.slice Y14 y14 z14]
  have hx15 := (Ext.refl w15).alloc (.cells #[Value.bool f14, Value.slice G14 g14 j14, Value.slice Y14 y14 z14] 26)
  have HX := Lib.hid (HX.out.trans hx15)
  have QX := Lib.hid (QX.out.ext hx15)
  have QR := Lib.hid (QR.out.ext hx15)
  have BX := Lib.hid (BX.out.ext hx15)
  have BR := Lib.hid hb15
  have NBR : Hid (a12 ≠ w15.heap.size) := Lib.hid (Nat.ne_of_lt NLBR.out)
  generalize w15.alloc (.cells #[Value.bool f14, Value.slice G14 g14 j14, Value.slice Y14 y14 z14] 26) = w16 at *
  generalize w15.heap.size = a15 at *
  clear hb15 hx15
  obtain ⟨bx_0, bx_1, bx_2, bx_3, bx_4, bx_5, bx_6⟩ := BX.out.three
  obtain ⟨br_0, br_1, br_2, br_3, br_4, br_5, br_6⟩ := BR.out.three
  go_wp2_with fail
  have LS := Lib.hid BX.out.lt
  clear bx_0 bx_1 bx_2 bx_3 bx_4 bx_5 bx_6 br_0 br_1 br_2 br_3 br_4 br_5 br_6
  refine (HSQ.out _ _ QX.out.arr).mono ?_
  rintro e w17 ⟨r16, rfl, hi16, hx16⟩
  have HX := Lib.hid (HX.out.trans hx16)
  have QX := Lib.hid (QX.out.ext hx16)
  have QR := Lib.hid (QR.out.ext hx16)
  have BX := Lib.hid (BX.out.ext hx16)
  have BR := Lib.hid (BR.out.ext hx16)
  have QS := Lib.hid hi16
  obtain ⟨f16, g16, G16, j16, y16, Y16, z16, rfl⟩ := hi16.shape
  clear hi16
  clear hx16
  obtain ⟨bx_0, bx_1, bx_2, bx_3, bx_4, bx_5, bx_6⟩ := BX.out.three
  obtain ⟨br_0, br_1, br_2, br_3, br_4, br_5, br_6⟩ := BR.out.three
  go_upto_region 8 with fail
  clear bx_0 bx_1 bx_2 bx_3 bx_4 bx_5 bx_6 br_0 br_1 br_2 br_3 br_4 br_5 br_6
  have NLBS := Lib.hid BX.out.lt
  have hb17 := Blk.new w17 26 #[Value.bool f16, Value.slice G16 g16 j16, Value.slice Y16 y16 z16]
  have hx17 := (Ext.refl w17).alloc (.cells #[Value.bool f16, Value.slice G16 g16 j16, Value.slice Y16 y16 z16] 26)
  have HX := Lib.hid (HX.out.trans hx17)
  have QX := Lib.hid (QX.out.ext hx17)
  have QR := Lib.hid (QR.out.ext hx17)
  have QS := Lib.hid (QS.out.ext hx17)
  have BX := Lib.hid (BX.out.ext hx17)
  have BR := Lib.hid (BR.out.ext hx17)
  have BS := Lib.hid hb17
  have NBS : Hid (a12 ≠ w17.heap.size) := Lib.hid (Nat.ne_of_lt NLBS.out)
  generalize w17.alloc (.cells #[Value.bool f16, Value.slice G16 g16 j16, Value.slice Y16 y16 z16] 26) = w18 at *
  generalize w17.heap.size = a17 at *
  clear hb17 hx17
  obtain ⟨bx_0, bx_1, bx_2, bx_3, bx_4, bx_5, bx_6⟩ := BX.out.three
  obtain ⟨br_0, br_1, br_2, br_3, br_4, br_5, br_6⟩ := BR.out.three
  obtain ⟨bs_0, bs_1, bs_2, bs_3, bs_4, bs_5, bs_6⟩ := BS.out.three
  go_wp2_with fail
  have LW := Lib.hid BX.out.lt
  clear bx_0 bx_1 bx_2 bx_3 bx_4 bx_5 bx_6 br_0 br_1 br_2 br_3 br_4 br_5 br_6 bs_0 bs_1 bs_2 bs_3 bs_4 bs_5 bs_6
  refine (HRSQ.out _ _ QX.out.arr).mono ?_
  rintro e w19 ⟨r18, rfl, hi18, hx18⟩
  have HX := Lib.hid (HX.out.trans hx18)
  have QX := Lib.hid (QX.out.ext hx18)
  have QR := Lib.hid (QR.out.ext hx18)
  have QS := Lib.hid (QS.out.ext hx18)
  have BX := Lib.hid (BX.out.ext hx18)
  have BR := Lib.hid (BR.out.ext hx18)
  have BS := Lib.hid (BS.out.ext hx18)
  have QW := Lib.hid hi18
  obtain ⟨f18, g18, G18, j18, y18, Y18, z18, rfl⟩ := hi18.shape
  clear hi18
  clear hx18
  obtain ⟨bx_0, bx_1, bx_2, bx_3, bx_4, bx_5, bx_6⟩ := BX.out.three
  obtain ⟨br_0, br_1, br_2, br_3, br_4, br_5, br_6⟩ := BR.out.three
  obtain ⟨bs_0, bs_1, bs_2, bs_3, bs_4, bs_5, bs_6⟩ := BS.out.three
  go_upto_region 9 with fail
  clear bx_0 bx_1 bx_2 bx_3 bx_4 bx_5 bx_6 br_0 br_1 br_2 br_3 br_4 br_5 br_6 bs_0 bs_1 bs_2 bs_3 bs_4 bs_5 bs_6
  have NLBW := Lib.hid BX.out.lt
  have hb19 := Blk.new w19 26 #[Value.bool f18, Value.slice G18 g18 j18, Value.slice Y18 y18 z18]
  have hx19 := (Ext.refl w19).alloc (.cells #[Value.bool f18, Value.slice G18 g18 j18, Value.slice Y18 y18 z18] 26)
  have HX := Lib.hid (HX.out.trans hx19)
  have QX := Lib.hid (QX.out.ext hx19)
  have QR := Lib.hid (QR.out.ext hx19)
  have QS := Lib.hid (QS.out.ext hx19)
  have QW := Lib.hid (QW.out.ext hx19)
  have BX := Lib.hid (BX.out.ext hx19)
  have BR := Lib.hid (BR.out.ext hx19)
  have BS := Lib.hid (BS.out.ext hx19)
  have BW := Lib.hid hb19
  have NBW : Hid (a12 ≠ w19.heap.size) := Lib.hid (Nat.ne_of_lt NLBW.out)
  generalize w19.alloc (.cells #[Value.bool f18, Value.slice G18 g18 j18, Value.slice Y18 y18 z18] 26) = w20 at *
  generalize w19.heap.size = a19 at *
  clear hb19 hx19
  obtain ⟨bx_0, bx_1, bx_2, bx_3, bx_4, bx_5, bx_6⟩ := BX.out.three
  obtain ⟨br_0, br_1, br_2, br_3, br_4, br_5, br_6⟩ := BR.out.three
  obtain ⟨bs_0, bs_1, bs_2, bs_3, bs_4, bs_5, bs_6⟩ := BS.out.three
  obtain ⟨bw_0, bw_1, bw_2, bw_3, bw_4, bw_5, bw_6⟩ := BW.out.three
  go_wp2_with fail
  clear bx_0 bx_1 bx_2 bx_3 bx_4 bx_5 bx_6 br_0 br_1 br_2 br_3 br_4 br_5 br_6 bs_0 bs_1 bs_2 bs_3 bs_4 bs_5 bs_6 bw_0 bw_1 bw_2 bw_3 bw_4 bw_5 bw_6
  refine (HSG.out _ _ QX.out.arr).mono ?_
  rintro e w21 ⟨rfl, hx20⟩
  have HX := Lib.hid (HX.out.trans hx20)
  have QX := Lib.hid (QX.out.ext hx20)
  have QR := Lib.hid (QR.out.ext hx20)
  have QS := Lib.hid (QS.out.ext hx20)
  have QW := Lib.hid (QW.out.ext hx20)
  have BX := Lib.hid (BX.out.ext hx20)
  have BR := Lib.hid (BR.out.ext hx20)
  have BS := Lib.hid (BS.out.ext hx20)
  have BW := Lib.hid (BW.out.ext hx20)
  clear hx20
  obtain ⟨bx_0, bx_1, bx_2, bx_3, bx_4, bx_5, bx_6⟩ := BX.out.three
  obtain ⟨br_0, br_1, br_2, br_3, br_4, br_5, br_6⟩ := BR.out.three
  obtain ⟨bs_0, bs_1, bs_2, bs_3, bs_4, bs_5, bs_6⟩ := BS.out.three
  obtain ⟨bw_0, bw_1, bw_2, bw_3, bw_4, bw_5, bw_6⟩ := BW.out.three
  by_cases hp : p < 0
  · have hsb : sgZ p < 0 := by rw [show sgZ p = -1 from if_pos hp]; decide
    have hpe : ((p.natAbs : Nat) : Int) = -p := by omega
    rw [hpe] at QR HS1
    clear hp hpe
    generalize sgZ p = sg at *
    generalize -p = np at *
    go_wp2_with fail
    clear bx_0 bx_1 bx_2 bx_3 bx_4 bx_5 bx_6 br_0 br_1 br_2 br_3 br_4 br_5 br_6 bs_0 bs_1 bs_2 bs_3 bs_4 bs_5 bs_6 bw_0 bw_1 bw_2 bw_3 bw_4 bw_5 bw_6
    have lN := Lib.hid BX.out.lt
    refine (HNG.out _ _ QX.out.arr).mono ?_
    rintro e w22 ⟨r21, rfl, hi21, hx21⟩
    have HX := Lib.hid (HX.out.trans hx21)
    have QX := Lib.hid (QX.out.ext hx21)
    have QR := Lib.hid (QR.out.ext hx21)
    have QS := Lib.hid (QS.out.ext hx21)
    have QW := Lib.hid (QW.out.ext hx21)
    have BX := Lib.hid (BX.out.ext hx21)
    have BR := Lib.hid (BR.out.ext hx21)
    have BS := Lib.hid (BS.out.ext hx21)
    have BW := Lib.hid (BW.out.ext hx21)
    have QN := Lib.hid hi21
    obtain ⟨f21, g21, G21, j21, y21, Y21, z21, rfl⟩ := hi21.shape
    clear hi21
    clear hx21
    clear QX
    obtain ⟨bx_0, bx_1, bx_2, bx_3, bx_4, bx_5, bx_6⟩ := BX.out.three
    obtain ⟨br_0, br_1, br_2, br_3, br_4, br_5, br_6⟩ := BR.out.three
    obtain ⟨bs_0, bs_1, bs_2, bs_3, bs_4, bs_5, bs_6⟩ := BS.out.three
    obtain ⟨bw_0, bw_1, bw_2, bw_3, bw_4, bw_5, bw_6⟩ := BW.out.three
    go_upto_region 11 with fail
    clear bx_0 bx_1 bx_2 bx_3 bx_4 bx_5 bx_6 br_0 br_1 br_2 br_3 br_4 br_5 br_6 bs_0 bs_1 bs_2 bs_3 bs_4 bs_5 bs_6 bw_0 bw_1 bw_2 bw_3 bw_4 bw_5 bw_6
    have hlow := HLOW.out
    have lR := LR.out
    have lS := LS.out
    have lW := LW.out
    have HX := Lib.hid (((HX.out.setCell (p := ⟨a12, 0, none⟩) hlow (.bool f21)).setCell (p := ⟨a12, 1, none⟩) hlow (.slice G21 g21 j21)).setCell (p := ⟨a12, 2, none⟩) hlow (.slice Y21 y21 z21))
    have QR := Lib.hid (((QR.out.far (a := ⟨a12, 0, none⟩) lR (.bool f21)).far (a := ⟨a12, 1, none⟩) lR (.slice G21 g21 j21)).far (a := ⟨a12, 2, none⟩) lR (.slice Y21 y21 z21))
    have QS := Lib.hid (((QS.out.far (a := ⟨a12, 0, none⟩) lS (.bool f21)).far (a := ⟨a12, 1, none⟩) lS (.slice G21 g21 j21)).far (a := ⟨a12, 2, none⟩) lS (.slice Y21 y21 z21))
    have QW := Lib.hid (((QW.out.far (a := ⟨a12, 0, none⟩) lW (.bool f21)).far (a := ⟨a12, 1, none⟩) lW (.slice G21 g21 j21)).far (a := ⟨a12, 2, none⟩) lW (.slice Y21 y21 z21))
    have lX := BX.out.lt
    have QN := Lib.hid ((((QN.out).far (a := ⟨a12, 0, none⟩) lN.out (.bool f21)).far (a := ⟨a12, 1, none⟩) lN.out (.slice G21 g21 j21)).far (a := ⟨a12, 2, none⟩) lN.out (.slice Y21 y21 z21))
    have BR := Lib.hid (((BR.out.far (p := ⟨a12, 0, none⟩) (by have := NBR.out; exact fun e => this e.symm) (.bool f21)).far (p := ⟨a12, 1, none⟩) (by have := NBR.out; exact fun e => this e.symm) (.slice G21 g21 j21)).far (p := ⟨a12, 2, none⟩) (by have := NBR.out; exact fun e => this e.symm) (.slice Y21 y21 z21))
    have BS := Lib.hid (((BS.out.far (p := ⟨a12, 0, none⟩) (by have := NBS.out; exact fun e => this e.symm) (.bool f21)).far (p := ⟨a12, 1, none⟩) (by have := NBS.out; exact fun e => this e.symm) (.slice G21 g21 j21)).far (p := ⟨a12, 2, none⟩) (by have := NBS.out; exact fun e => this e.symm) (.slice Y21 y21 z21))
    have BW := Lib.hid (((BW.out.far (p := ⟨a12, 0, none⟩) (by have := NBW.out; exact fun e => this e.symm) (.bool f21)).far (p := ⟨a12, 1, none⟩) (by have := NBW.out; exact fun e => this e.symm) (.slice G21 g21 j21)).far (p := ⟨a12, 2, none⟩) (by have := NBW.out; exact fun e => this e.symm) (.slice Y21 y21 z21))
    have hBX : Blk (((w22.setCell ⟨a12, 0, none⟩ (.bool f21)).setCell ⟨a12, 1, none⟩ (.slice G21 g21 j21)).setCell ⟨a12, 2, none⟩ (.slice Y21 y21 z21)) a12 26 #[Value.bool f21, Value.slice G21 g21 j21, Value.slice Y21 y21 z21] := ((BX.out.set_ 0 (.bool f21)).set_ 1 (.slice G21 g21 j21)).set_ 2 (.slice Y21 y21 z21)
    have BX := Lib.hid hBX
    clear hBX hlow lR lS lW lX
    generalize ((w22.setCell ⟨a12, 0, none⟩ (.bool f21)).setCell ⟨a12, 1, none⟩ (.slice G21 g21 j21)).setCell ⟨a12, 2, none⟩ (.slice Y21 y21 z21) = w23 at *
    obtain ⟨bx_0, bx_1, bx_2, bx_3, bx_4, bx_5, bx_6⟩ := BX.out.three
    obtain ⟨br_0, br_1, br_2, br_3, br_4, br_5, br_6⟩ := BR.out.three
    obtain ⟨bs_0, bs_1, bs_2, bs_3, bs_4, bs_5, bs_6⟩ := BS.out.three
    obtain ⟨bw_0, bw_1, bw_2, bw_3, bw_4, bw_5, bw_6⟩ := BW.out.three
    go_wp2_with fail
    clear bx_0 bx_1 bx_2 bx_3 bx_4 bx_5 bx_6 br_0 br_1 br_2 br_3 br_4 br_5 br_6 bs_0 bs_1 bs_2 bs_3 bs_4 bs_5 bs_6 bw_0 bw_1 bw_2 bw_3 bw_4 bw_5 bw_6
    refine (HS1.out _ _ _ QR.out.arr QN.out.arr).mono ?_
    rintro e w24 ⟨rfl, hx23⟩
    have HX := Lib.hid (HX.out.trans hx23)
    have QR := Lib.hid (QR.out.ext hx23)
    have QS := Lib.hid (QS.out.ext hx23)
    have QW := Lib.hid (QW.out.ext hx23)
    have QN := Lib.hid (QN.out.ext hx23)
    have BX := Lib.hid (BX.out.ext hx23)
    have BR := Lib.hid (BR.out.ext hx23)
    have BS := Lib.hid (BS.out.ext hx23)
    have BW := Lib.hid (BW.out.ext hx23)
    clear hx23
    obtain ⟨bx_0, bx_1, bx_2, bx_3, bx_4, bx_5, bx_6⟩ := BX.out.three
    obtain ⟨br_0, br_1, br_2, br_3, br_4, br_5, br_6⟩ := BR.out.three
    obtain ⟨bs_0, bs_1, bs_2, bs_3, bs_4, bs_5, bs_6⟩ := BS.out.three
    obtain ⟨bw_0, bw_1, bw_2, bw_3, bw_4, bw_5, bw_6⟩ := BW.out.three
    go_wp2_with fail
    clear bx_0 bx_1 bx_2 bx_3 bx_4 bx_5 bx_6 br_0 br_1 br_2 br_3 br_4 br_5 br_6 bs_0 bs_1 bs_2 bs_3 bs_4 bs_5 bs_6 bw_0 bw_1 bw_2 bw_3 bw_4 bw_5 bw_6
    refine (HS2.out _ _ _ QS.out.arr QW.out.arr).mono ?_
    rintro e w25 ⟨rfl, hx24⟩
    have HX := Lib.hid (HX.out.trans hx24)
    have QR := Lib.hid (QR.out.ext hx24)
    have QS := Lib.hid (QS.out.ext hx24)
    have QW := Lib.hid (QW.out.ext hx24)
    have QN := Lib.hid (QN.out.ext hx24)
    have BX := Lib.hid (BX.out.ext hx24)
    have BR := Lib.hid (BR.out.ext hx24)
    have BS := Lib.hid (BS.out.ext hx24)
    have BW := Lib.hid (BW.out.ext hx24)
    clear hx24
    go_wp2_with fail
    go_ret
    exact ⟨rfl, HX.out⟩
  · have hsb : ¬ sgZ p < 0 := by unfold sgZ; rw [if_neg hp]; split <;> decide
    have hpe : ((p.natAbs : Nat) : Int) = p := by omega
    rw [hpe] at QR HS1
    clear hp hpe
    generalize sgZ p = sg at *
    go_wp2_with fail
    clear bx_0 bx_1 bx_2 bx_3 bx_4 bx_5 bx_6 br_0 br_1 br_2 br_3 br_4 br_5 br_6 bs_0 bs_1 bs_2 bs_3 bs_4 bs_5 bs_6 bw_0 bw_1 bw_2 bw_3 bw_4 bw_5 bw_6
    refine (HS1.out _ _ _ QR.out.arr QX.out.arr).mono ?_
    rintro e w22 ⟨rfl, hx21⟩
    have HX := Lib.hid (HX.out.trans hx21)
    have QX := Lib.hid (QX.out.ext hx21)
    have QR := Lib.hid (QR.out.ext hx21)
    have QS := Lib.hid (QS.out.ext hx21)
    have QW := Lib.hid (QW.out.ext hx21)
    have BX := Lib.hid (BX.out.ext hx21)
    have BR := Lib.hid (BR.out.ext hx21)
    have BS := Lib.hid (BS.out.ext hx21)
    have BW := Lib.hid (BW.out.ext hx21)
    clear hx21
    obtain ⟨bx_0, bx_1, bx_2, bx_3, bx_4, bx_5, bx_6⟩ := BX.out.three
    obtain ⟨br_0, br_1, br_2, br_3, br_4, br_5, br_6⟩ := BR.out.three
    obtain ⟨bs_0, bs_1, bs_2, bs_3, bs_4, bs_5, bs_6⟩ := BS.out.three
    obtain ⟨bw_0, bw_1, bw_2, bw_3, bw_4, bw_5, bw_6⟩ := BW.out.three
    go_wp2_with fail
    clear bx_0 bx_1 bx_2 bx_3 bx_4 bx_5 bx_6 br_0 br_1 br_2 br_3 br_4 br_5 br_6 bs_0 bs_1 bs_2 bs_3 bs_4 bs_5 bs_6 bw_0 bw_1 bw_2 bw_3 bw_4 bw_5 bw_6
    refine (HS2.out _ _ _ QS.out.arr QW.out.arr).mono ?_
    rintro e w23 ⟨rfl, hx22⟩
    have HX := Lib.hid (HX.out.trans hx22)
    have QX := Lib.hid (QX.out.ext hx22)
    have QR := Lib.hid (QR.out.ext hx22)
    have QS := Lib.hid (QS.out.ext hx22)
    have QW := Lib.hid (QW.out.ext hx22)
    have BX := Lib.hid (BX.out.ext hx22)
    have BR := Lib.hid (BR.out.ext hx22)
    have BS := Lib.hid (BS.out.ext hx22)
    have BW := Lib.hid (BW.out.ext hx22)
    clear hx22
    go_wp2_with fail
    go_ret
    exact ⟨rfl, HX.out⟩
end Big
end Go.Proofs.YtplmldkfgeiklaaGreatDoor
/- The frame round a law's walk: the arguments opened; behind the call they read as they did. -/
namespace Go.Proofs.YtplmldkfgeiklaaGreatDoor
open Go.ChangeShapes Go.WideShapes Go.ChangeAt Go.RowKit

section
variable {H : Type} {enc : TypeId × Value → H} {P : Program}
theorem trodAll_stays (hl : laidOutB P = true) {W W' : World} (hb : Big.Ext W W') : ∀ (ts : List TypeId) (vs : List Value) (ds : List (DataW H)) (ps : List MemPlace),
    (∀ t ∈ ts, P.readableRec t = true ∧ t < P.types.size) → DataW.TrodAll enc P W 0 (fun _ => true) true ts vs ds ps → (∀ x ∈ ps, x.block < W.heap.size) →
    DataW.TrodAll enc P W' 0 (fun b => decide (b < W.heap.size)) true ts vs ds ps
  | [], vs, ds, ps, _, h, _ => by
    obtain ⟨rfl, rfl, rfl⟩ := trodAll_nil h
    exact trodAll_mk0
  | t :: ts, vs, ds, ps, ht, h, hlt => by
    obtain ⟨v, vs', d, ds', p, q, rfl, rfl, rfl, h1, h2⟩ := trodAll_cons h
    exact trodAll_cons_mk (Below.trod hl (ht t (by simp)).1 (ht t (by simp)).2 h1 hb (fun x hx => hlt x (List.mem_append_left _ hx)))
      (trodAll_stays hl hb ts vs' ds' q (fun t' h' => ht t' (by simp [h'])) h2 (fun x hx => hlt x (List.mem_append_right _ hx)))

/-- What the row asks of a law that returned true and left what was there. -/
theorem post_true {f : Func} {s : ChangeSpec} {W W' : World} {args : Array Value} {ds gs : List (DataW H)} {before : List MemPlace} {tb : TypeId} (hl : laidOutB P = true)
    (hts : (f.params.toList.all fun t => P.readableRec t && decide (t < P.types.size)) = true) (hv : s.vars = []) (hr : f.resultTypes = #[tb]) (htb : P.underlying tb = some .bool)
    (hW : DataW.Whole enc P f.params.toList s.vars false W args.toList ds gs before) (hfn : s.fn H ds = { results := [.lit (.bool true)], args := ds }) (hb : Big.Ext W W') :
    s.post enc P f false true false false W args (.bool true) W' := by
  have hlt := hW.lt
  have hW' := hW
  obtain ⟨p, q, hA, hV, rfl, hfz, hnd⟩ := hW
  rw [hv] at hV
  obtain ⟨rfl, rfl⟩ := trodVars_none hV
  have hfn' : s.fn H (ds ++ []) = { results := [.lit (.bool true)], args := ds } := by rw [List.append_nil]; exact hfn
  refine ⟨ds, [], p ++ [], [], p, [], hW', ?_, ?_, ?_, hb.frame _, fun h => by cases h⟩
  · rw [hfn', hr]
    exact trodAll_mk1 (shut_bool htb _)
  · rw [hfn']
    exact trodAll_stays hl hb _ _ _ _ (fun t ht => by
      have := List.all_eq_true.1 hts t ht
      simpa using this) hA (fun x hx => hlt x (by simpa using hx))
  · rw [hfn', hv]
    rfl
end

/-- A law under its row's conditions, with the form of the world at its beginning. -/
theorem handed_and_shaped {H : Type} {enc : TypeId × Value → H} {a : Assume} {C : Checked} {os : Os} {f : FuncId} {fn : Func} {s : ChangeSpec} {conds : List PathCond} {apart fresh handsOn again : Bool} {X : World → Array Value → Prop}
    (hX : ∀ (w w' : World) (args : Array Value), w.heap = w'.heap → X w args → X w' args)
    (own : ownKnob C.prog.godebug = none) (started : os.Started) (noInit : C.prog.inits.idxOf? f = none) (hfn : C.prog.funcs[f]? = some fn)
    (witness : ∃ (w : World) (tape : Tape) (i : Input), w.os = os ∧ (w.forCall tape i).Shaped C.prog ∧ i.vars = [] ∧ Input.okWide C.prog (w.forCall tape i) .any w.heap.size f i ∧
      ((s.pre enc C.prog fn conds apart (w.forCall tape i).memory i.args ∧ X (w.forCall tape i).memory i.args) ∧ sizedMet enc C.prog fn (OpenSpec.ofChange s) apart (w.forCall tape i).memory i.args) ∧ a.holds C.prog (lone (Frame.enter C.prog f i.args .normal) [] (w.forCall tape i)))
    (contract : ∀ (W : World) (base : Nat) (args : Array Value) (ds gs : List (DataW H)) (before : List MemPlace),
      (∀ (j : Nat) t v, fn.params[j]? = some t → args[j]? = some v → Value.okWide C.prog W .any base t v) →
      DataW.Whole enc C.prog fn.params.toList s.vars apart W args.toList ds gs before →
      (DataW.weightsEach C.prog (fn.params.toList ++ s.plain.varTypes C.prog) (ds ++ gs)).all (· ≤ reachBytes) = true → X W args → W.ShapedOpen C.prog →
      Calls C.prog f args W fun e W' => ∃ v, e = .returned v ∧ s.post enc C.prog fn apart fresh handsOn again W args v W') :
    ReturnsInHanded a C os f .any (fun w args => (s.pre enc C.prog fn conds apart w args ∧ X w args) ∧ sizedMet enc C.prog fn (OpenSpec.ofChange s) apart w args) (s.post enc C.prog fn apart fresh handsOn again) := by
  refine returnsInHanded_of_calls own started noInit witness ?_
  intro w tape i _ hsh _ hok hpre hholds
  obtain ⟨_, _, _, fn', hfn', _, _, _, _, hval⟩ := hok
  have e : fn' = fn := Option.some.inj (hfn'.symm.trans hfn)
  subst e
  obtain ⟨⟨⟨ds, gs, before, hw, hc⟩, hx⟩, hz⟩ := hpre
  have hw' := DataW.Whole.of_heap (w' := w.forCall tape i) (by rfl) hw
  refine (contract (w.forCall tape i) w.heap.size i.args ds gs before hval hw' (hz.weights hw) (hX _ _ _ (by rfl) hx) hsh).mono fun e W' ⟨v, he, hp⟩ => ?_
  subst he
  exact ChangeSpec.post_blind hp

theorem laid_out : laidOutB Tryz.prog = true := by kernel_rfl
theorem own : ownKnob Tryz.prog.godebug = none := by kernel_rfl

section
variable {P : Program} {W : World}
/-- One of several variables that a row lists. -/
theorem laidVars_at : ∀ (i : Nat) (l : List (String × DataW Unit)) (ps : List MemPlace) (n : String) (d : DataW Unit), DataW.LaidVars P W l ps → l[i]? = some (n, d) →
    ∃ g t cs f p, P.globalNamed n = some g ∧ (P.globals[g]?).map (·.type) = some t ∧ W.var? P n = some cs ∧ DataW.trod (fun _ => ()) P W 0 (fun _ => true) false f t cs.toList = some (d, p)
  | i, [], ps, n, d, _, hn => by simp at hn
  | 0, x :: l, ps, n, d, h, hn => by
    simp at hn
    subst hn
    obtain ⟨g, t, cs, f, p, q, h1, h2, h3, h4, _, _⟩ := h
    exact ⟨g, t, cs, f, p, h1, h2, h3, h4⟩
  | i + 1, x :: l, ps, n, d, h, hn => by
    obtain ⟨g, t, cs, f, p, q, _, _, _, _, hs, _⟩ := h
    exact laidVars_at i l q n d hs (by simpa using hn)
theorem laid_at (i : Nat) {l : List (String × DataW Unit)} {n : String} {d : DataW Unit} (h : laidMetH P l W) (hp : (l.all fun x => x.2.handleName?.isNone) = true) (hn : l[i]? = some (n, d)) :
    ∃ g t cs f p, P.globalNamed n = some g ∧ (P.globals[g]?).map (·.type) = some t ∧ W.var? P n = some cs ∧ DataW.trod (fun _ => ()) P W 0 (fun _ => true) false f t cs.toList = some (d, p) := by
  rw [MakeChecks.laidMetH_plain _ _ _ hp] at h
  obtain ⟨ps, hv, _⟩ := h
  exact laidVars_at i l ps n d hv hn
end

section
variable {H : Type} {enc : TypeId × Value → H} {W : World} {fuel : Nat} {v : Value} {y : DataW H × List MemPlace}
theorem cellsOf_u32 : Tryz.prog.cellsOf 74 = 1 := by kernel_rfl
/-- A slice of 32-bit digits that came in. -/
theorem arr_of_trod (h : DataW.trod enc Tryz.prog W 0 (fun _ => true) true fuel 22 [v] = some y) : ∃ xs, Big.Arr W v xs := by
  rcases open_ints Tryz.underlying22 Tryz.underlying74 cellsOf_u32 h with ⟨hv, _⟩ | ⟨a, len, cap, zs, hv, _, hl, hm, hz, _, hc, hw⟩
  · injection hv with hv
    subst hv
    exact ⟨[], Big.Arr.none_ W⟩
  · injection hv with hv
    subst hv
    simp only [if_true] at hz
    refine ⟨(zs.take len).map Int.toNat, ?_⟩
    have hlen : ((zs.take len).map Int.toNat).length = len := by simp; omega
    have hok : Big.Ok ((zs.take len).map Int.toNat) := fun x hx => by
      obtain ⟨n, hn, rfl⟩ := List.mem_map.1 hx
      have := bounds_u32 (hw n (List.mem_of_mem_take hn))
      omega
    have key := Big.Arr.mk (w := W) (A := some a) (c := cap) hok (by rw [hlen]; exact hl) hm (fun hp => by
      rw [hlen] at hp ⊢
      obtain ⟨b, off, rfl, hcell⟩ := ints_at hc (by omega)
      have h0 := hcell 0 (by omega)
      refine ⟨b, off, rfl, World.block_lt_of_cell? W _ h0, fun j hj => ?_⟩
      rw [hcell j (by omega)]
      have hj2 : j < zs.length := by omega
      have hb := bounds_u32 (hw zs[j] (List.getElem_mem hj2))
      have e1 : zs.getD j 0 = zs[j] := by rw [List.getD_eq_getElem?_getD, List.getElem?_eq_getElem hj2]; rfl
      have e2 : ((zs.take len).map Int.toNat).getD j 0 = zs[j].toNat := by
        rw [List.getD_eq_getElem?_getD, List.getElem?_map, List.getElem?_take_of_lt hj, List.getElem?_eq_getElem hj2]; rfl
      rw [e1, e2]
      unfold Big.d32
      rw [Int.toNat_of_nonneg hb.1])
    rw [hlen] at key
    exact key
theorem bool_of_trod (h : DataW.trod enc Tryz.prog W 0 (fun _ => true) true fuel 4 [v] = some y) : ∃ b, v = .bool b := by
  obtain ⟨b, hb, _⟩ := DataW.trod_bool Tryz.underlying4 h
  injection hb with hb
  exact ⟨b, hb⟩
end
section
variable {H : Type} {enc : TypeId × Value → H} {W : World} {v : Value} {d : DataW H} {p : List MemPlace} {r : Reach} {b0 : Nat}
set_option maxRecDepth 100000 in
theorem open_u32s (hv : Value.okWide Tryz.prog W r b0 22 v) (h : DataW.Trod enc Tryz.prog W 0 (fun _ => true) true 22 v d p) : ∃ xs, Big.Arr W v xs := by
  obtain ⟨a, len, cap, rfl⟩ := okWide_slice Tryz.underlying22 hv
  obtain ⟨fuel, hf⟩ := h
  obtain ⟨xs, hxs⟩ := arr_of_trod (by simpa [Value.cells] using hf)
  exact ⟨xs, hxs⟩
end
theorem byte_of_wf {z : Int} (w : (Lit.int .u8 z).wf = true) : ∃ d : UInt8, z = (d.toNat : Int) := by
  have h := bounds_u8 w
  refine ⟨UInt8.ofNat z.toNat, ?_⟩
  have e : (UInt8.ofNat z.toNat).toNat = z.toNat % 2 ^ 8 := UInt8.toNat_ofNat'
  rw [e, Nat.mod_eq_of_lt (by omega)]
  omega
theorem u64_of_wf {z : Int} (w : (Lit.int .u64 z).wf = true) : ∃ n : Nat, n < 18446744073709551616 ∧ z = (n : Int) := by
  have h := bounds_u64 w
  exact ⟨z.toNat, by omega, by omega⟩
theorem str_of_bytes {s : ByteArray} (h : s.size ≤ maxLen) : ∃ l : List UInt8, l.length ≤ maxLen ∧ s = ⟨l.toArray⟩ := by
  refine ⟨s.data.toList, by simpa using h, ?_⟩
  apply ByteArray.ext
  simp
end Go.Proofs.YtplmldkfgeiklaaGreatDoor
/- What the condition on the table of lowest bits gives the walks. -/
namespace Go.Proofs.YtplmldkfgeiklaaGreatDoor
open Go.ChangeShapes Go.WideShapes Go.ChangeAt Go.RowKit
theorem g32 : Tryz.prog.globalNamed "math/bits.deBruijn32tab" = some 0 := by kernel_rfl
theorem t32 : (Tryz.prog.globals[0]?).map (·.type) = some 135 := by kernel_rfl
theorem cells32 : Tryz.prog.cellsOf 135 = 32 := by kernel_rfl
theorem cells8b : Tryz.prog.cellsOf 5 = 1 := by kernel_rfl
def tab32 : List Int := [0, 1, 28, 2, 29, 14, 24, 3, 30, 22, 20, 15, 25, 17, 4, 8, 31, 27, 13, 23, 21, 19, 16, 7, 26, 12, 18, 6, 11, 5, 10, 9]
theorem tab32_get : ∀ i : Fin 32, (tab32.map (fun z => Value.int .u8 z))[i.val]? = some (.int .u8 ((Big.tzTab.getD i.val 0 : Nat) : Int)) := by
  intro ⟨i, hi⟩
  have : i = 0 ∨ i = 1 ∨ i = 2 ∨ i = 3 ∨ i = 4 ∨ i = 5 ∨ i = 6 ∨ i = 7 ∨ i = 8 ∨ i = 9 ∨ i = 10 ∨ i = 11 ∨ i = 12 ∨ i = 13 ∨ i = 14 ∨ i = 15 ∨ i = 16 ∨ i = 17 ∨ i = 18 ∨ i = 19 ∨ i = 20 ∨ i = 21 ∨ i = 22 ∨ i = 23 ∨ i = 24 ∨ i = 25 ∨ i = 26 ∨ i = 27 ∨ i = 28 ∨ i = 29 ∨ i = 30 ∨ i = 31 := by omega
  rcases this with rfl | rfl | rfl | rfl | rfl | rfl | rfl | rfl | rfl | rfl | rfl | rfl | rfl | rfl | rfl | rfl | rfl | rfl | rfl | rfl | rfl | rfl | rfl | rfl | rfl | rfl | rfl | rfl | rfl | rfl | rfl | rfl <;> rfl
theorem tab32_of_laid {W : World} {l : List (String × DataW Unit)} (i : Nat) (h : laidMetH Tryz.prog l W) (hp : (l.all fun x => x.2.handleName?.isNone) = true) (hn : l[i]? = some ("math/bits.deBruijn32tab", Rows.laid_math_bits_deBruijn32tab)) : Big.Tab32 W := by
  obtain ⟨g1, t1, cs1, f1, p1, hg1, ht1, hv1, hd1⟩ := laid_at i h hp hn
  obtain rfl := Option.some.inj (g32.symm.trans hg1)
  obtain rfl := Option.some.inj (t32.symm.trans ht1)
  have hcs := Lib.cells_of_tab (zs := tab32) (k := .u8) Tryz.underlying135 Tryz.underlying5 cells8b cells32 (show DataW.trod _ Tryz.prog W 0 _ false f1 135 cs1.toList = some (Lib.tabData .u8 tab32, p1) from hd1)
  have key : ∀ j, j < 32 → W.cell? ⟨0, j, none⟩ = some (.int .u8 ((Big.tzTab.getD j 0 : Nat) : Int)) := by
    intro j hj
    have hc := World.var?_cell hg1 hv1 j
    have h15 : cs1[j]? = some (.int .u8 ((Big.tzTab.getD j 0 : Nat) : Int)) := by
      rw [← Array.getElem?_toList, hcs]
      exact tab32_get ⟨j, hj⟩
    rw [h15] at hc
    exact hc
  exact ⟨key, World.block_lt_of_cell? W _ (key 0 (by decide))⟩
end Go.Proofs.YtplmldkfgeiklaaGreatDoor
