import Derived.Test.YtplmldkfgeiklaaGreatDoorM20
import Derived.Test.YtplmldkfgeiklaaGreatDoorRows
import Derived.Test.YtplmldkfgeiklaaGreatDoorM4
import Derived.ProofKit
import Derived.LaidMore
import Derived.OpenShut
import Derived.Stop.Joined
import Derived.Lib.LaidTab
import Derived.Carry
import Derived.Handed
import Derived.HandedShaped
import Derived.Deep.Strs
import Derived.ChangeMaps5
import Derived.Lib.SmallJoins
import Derived.Test.YtplmldkfgeiklaaGreatDoorM17
/- rational.Floor, ref07.Floor. Printed by a program. -/
namespace Go.Proofs.YtplmldkfgeiklaaGreatDoor
namespace Big
open Go.RowKit
theorem idm_any (w : World) (v0 : Value) (x : Int) (h0 : ArrInt w v0 x) (n0 : (limbs x.natAbs).length ≤ 1000000) (v1 : Value) (d : Nat) (h1 : ArrInt w v1 (d : Int)) (n1 : (limbs d).length ≤ 1000000) (hd : 0 < d) :
    Calls Tryz.prog 95 #[v0, v1] w fun e w' => ∃ v' u' z, e = .returned (.tuple #[v', u', .bool true]) ∧ IsInt w.heap.size w' v' (x / (d : Int)) ∧ IsInt w.heap.size w' u' z ∧ Ext w w' := by
  by_cases h : ¬ x < 0 ∨ x.natAbs % d = 0
  · exact idm_b w v0 x h0 n0 v1 d h1 n1 hd h
  · exact idm_a w v0 x h0 n0 v1 d h1 n1 hd (by omega) (fun e => h (.inr e))
theorem rdm_any (w : World) (v0 : Value) (x : Int) (h0 : ArrInt w v0 x) (n0 : (limbs x.natAbs).length ≤ 1000000) (v1 : Value) (d : Nat) (h1 : ArrInt w v1 (d : Int)) (n1 : (limbs d).length ≤ 1000000) (hd : 0 < d) :
    Calls Tryz.prog 96 #[v0, v1] w fun e w' => ∃ v' u' z, e = .returned (.tuple #[v', u', .bool true]) ∧ IsInt w.heap.size w' v' (x / (d : Int)) ∧ IsInt w.heap.size w' u' z ∧ Ext w w' := by
  by_cases h : ¬ x < 0 ∨ x.natAbs % d = 0
  · exact rdm_b w v0 x h0 n0 v1 d h1 n1 hd h
  · exact rdm_a w v0 x h0 n0 v1 d h1 n1 hd (by omega) (fun e => h (.inr e))
theorem Blk.to {w : World} {g : Nat} {t : TypeId} {cs cs' : Array Value} (h : Blk w g t cs) (e : cs = cs') : Blk w g t cs' := e ▸ h
theorem Blk.new' {w w' : World} {g : Nat} {t : TypeId} {cs : Array Value} (hw : w' = w.alloc (.cells cs t)) (hg : g = w.heap.size) : Blk w' g t cs := by subst hw; subst hg; exact Blk.new w t cs
theorem IsInt.far2 {B : Nat} {w : World} {v : Value} {z : Int} (h : IsInt B w v z) {g : Nat} (hg : g < B) (a b : Value) : IsInt B ((w.setCell ⟨g, 0, none⟩ a).setCell ⟨g, 1, none⟩ b) v z := (h.far (p := ⟨g, 0, none⟩) hg a).far (p := ⟨g, 1, none⟩) hg b
set_option maxHeartbeats 4000000 in
set_option maxRecDepth 100000 in
theorem pfloor_any (w : World) (v0 : Value) (p : Int) (q : Nat) (h0 : ArrRat w v0 p q) (n0 : (limbs p.natAbs).length ≤ 1000000) (m0 : (limbs q).length ≤ 1000000) (hq : 0 < q) :
    Calls Tryz.prog 34 #[v0] w fun e w' => ∃ v', e = .returned v' ∧ IsInt w.heap.size w' v' (p / (q : Int)) ∧ Ext w w' := by
  have H0 := Lib.hid h0
  have HN := Lib.hid (fun W m a => inat_any W false m (limbs q) a (by omega))
  rw [val_limbs, show sgn false q = (q : Int) from rfl] at HN
  have HDM := Lib.hid (fun W v u a b => idm_any W v p a n0 u q b m0 hq)
  obtain ⟨b0, l0, A0, c0, k0, D0, e0, rfl⟩ := h0.shape
  clear h0 hq n0 m0
  generalize p / (q : Int) = zq at *
  go_enter Tryz.func34, Tryz.ntmps34
  go_wp2_with fail
  have hb0 := ((Blk.new w 26 #[Value.bool b0, Value.slice A0 l0 c0, Value.slice D0 k0 e0]).alloc (.cells #[Value.bool false, Value.slice none 0 0] 24))
  have hb1 := (Blk.new (w.alloc (.cells #[Value.bool b0, Value.slice A0 l0 c0, Value.slice D0 k0 e0] 26)) 24 #[Value.bool false, Value.slice none 0 0])
  have hxo := (((Ext.refl w).alloc (.cells #[Value.bool b0, Value.slice A0 l0 c0, Value.slice D0 k0 e0] 26)).alloc (.cells #[Value.bool false, Value.slice none 0 0] 24))
  have hszo : w.heap.size + 1 + 1 = ((w.alloc (.cells #[Value.bool b0, Value.slice A0 l0 c0, Value.slice D0 k0 e0] 26)).alloc (.cells #[Value.bool false, Value.slice none 0 0] 24)).heap.size := by simp
  simp only [World.size_alloc] at hb1
  generalize (w.alloc (.cells #[Value.bool b0, Value.slice A0 l0 c0, Value.slice D0 k0 e0] 26)).alloc (.cells #[Value.bool false, Value.slice none 0 0] 24) = wo at *
  have HX := Lib.hid hxo
  have HB1 := Lib.hid hb1
  have HZ : Hid (w.heap.size + 1 + 1 ≤ wo.heap.size) := Lib.hid (by omega)
  have hc : ∀ w', Ext wo w' → w'.cell? ⟨w.heap.size, 0, none⟩ = some (Value.bool b0) ∧ w'.cell? ⟨w.heap.size, 1, none⟩ = some (Value.slice A0 l0 c0) ∧ w'.cell? ⟨w.heap.size, 2, none⟩ = some (Value.slice D0 k0 e0) := fun w' hx => by
    obtain ⟨a, b, c, _⟩ := (hb0.ext hx).three
    exact ⟨a, b, c⟩
  have hc0 := fun w' hx => (hc w' hx).1
  have hc1 := fun w' hx => (hc w' hx).2.1
  have hc2 := fun w' hx => (hc w' hx).2.2
  clear hc hb0 hb1 hxo hszo
  go_upto_region 1 with fail
  have hzz := HZ.out
  go_cut [3, 4] from 6 to 15 (fun s3 s4 wx => ∃ (g : Nat) (f9 : Bool) (g9 : Nat) (G9 : Option Addr) (j9 : Nat), s3 = .pointer (some ⟨g, 0, none⟩) ∧ Blk wx g 24 #[Value.bool f9, Value.slice G9 g9 j9] ∧ IsInt (w.heap.size + 1 + 1) wx (.agg #[.bool f9, .slice G9 g9 j9]) zq ∧ Ext wo wx)
  case first =>
    go_region_held3 (fun w' => Ext wo w')
      (repeat' (first | assumption | (exact HE2.out) | (exact HE1.out) | (exact Ext.refl _) | (refine Ext.drew ?_) | (exact Ext.trans (by assumption) (by assumption)) | (refine Ext.alloc ?_ _) | (refine Ext.setCell ?_ (by first | omega | (simp <;> omega)) _)))
      (first
        | (go_at_call 95; have hchk1 := hz0; refine (HDM.out _ _ _ (H0.out.int.ext (HX.out.trans (by assumption))) (by first | exact R0.out.arr | exact R0.out.arr.ext ((Ext.refl _).alloc _) | exact R0.out.arr.ext (((Ext.refl _).alloc _).alloc _))).mono ?_; rintro e w2 ⟨r1, r1b, zr, rfl, hi1, hj1, hx1⟩; have HE2 : Hid (Ext wo w2) := Lib.hid (Ext.trans (by assumption) hx1); have hz1 := hx1.size; (try simp only [World.size_alloc] at hz1); (first | (have hbB := hbB.ext hx1) | (have hc := hbA; have hbB := (Blk.new w1 24 #[Value.bool false, Value.slice none 0 0]).ext hx1; clear hc) | (have hbB := (Blk.new (w1.alloc (.cells #[Value.bool false, Value.slice none 0 0] 24)) 24 #[Value.bool false, Value.slice none 0 0]).ext hx1) | skip); (first | (have hbA := hbA.ext hx1) | (have hbA := (hbA.alloc _).ext hx1) | (have hbA := (Blk.new w1 24 #[Value.bool false, Value.slice none 0 0]).ext hx1) | (have hbA := ((Blk.new w1 24 #[Value.bool false, Value.slice none 0 0]).alloc _).ext hx1) | skip); (try simp only [World.size_alloc, World.size_drew] at hbA); (try simp only [World.size_alloc, World.size_drew] at hbB); (try (clear ka0 ka1 kaf0 kaf1 kaz)); (try (clear kb0 kb1 kbf0 kbf1 kbz)); (try (obtain ⟨ka0, ka1, kaf0, kaf1, kaz⟩ := hbA.two)); (try (obtain ⟨kb0, kb1, kbf0, kbf1, kbz⟩ := hbB.two)); have R1 := Lib.hid hi1; have S1 := Lib.hid hj1; obtain ⟨f1, g1, G1, j1, rfl⟩ := hi1.shape; obtain ⟨f2, g2, G2, j2, rfl⟩ := hj1.shape)
        | (go_at_call 77; refine (HN.out _ _ (H0.out.den.ext (HX.out.trans (by assumption)))).mono ?_; rintro e w1 ⟨r0, rfl, hi0, hx0⟩; have HE1 : Hid (Ext wo w1) := Lib.hid (Ext.trans (by assumption) hx0); have hz0 := hx0.size; (try simp only [World.size_alloc, World.size_drew] at hz0); (first | (have hbB := (Blk.new (wo.drew.alloc (.cells #[Value.bool false, Value.slice none 0 0] 24)) 24 #[Value.bool false, Value.slice none 0 0]).ext hx0) | (have hbB := ((Blk.new (wo.alloc (.cells #[Value.bool false, Value.slice none 0 0] 24)) 24 #[Value.bool false, Value.slice none 0 0]).drew).ext hx0) | skip); (first | (have hbA := (Blk.new wo.drew 24 #[Value.bool false, Value.slice none 0 0]).ext hx0) | (have hbA := ((Blk.new wo 24 #[Value.bool false, Value.slice none 0 0]).drew).ext hx0) | (have hbA := ((Blk.new wo.drew 24 #[Value.bool false, Value.slice none 0 0]).alloc _).ext hx0) | (have hbA := (((Blk.new wo 24 #[Value.bool false, Value.slice none 0 0]).alloc _).drew).ext hx0) | skip); (try simp only [World.size_alloc, World.size_drew] at hbA); (try simp only [World.size_alloc, World.size_drew] at hbB); (try (obtain ⟨ka0, ka1, kaf0, kaf1, kaz⟩ := hbA.two)); (try (obtain ⟨kb0, kb1, kbf0, kbf1, kbz⟩ := hbB.two)); have R0 := Lib.hid hi0; obtain ⟨f0, g0, G0, j0, rfl⟩ := hi0.shape))
    all_goals rename_i hF
    all_goals go_wp2_with fail
    all_goals go_meet
    all_goals have h1z := HE1.out.size
    all_goals refine ⟨_, f1, g1, G1, j1, rfl, ?_, ?_, hF⟩
    all_goals first
      | with_reducible exact ((R1.out.far2 (by first | omega | (simp <;> omega)) _ _).far2 (by first | omega | (simp <;> omega)) _ _).mono (by first | omega | (simp <;> omega))
      | with_reducible exact ((R1.out.far2 (by first | omega | (simp <;> omega)) _ _).ext ((Ext.refl _).alloc _)).mono (by first | omega | (simp <;> omega))
      | with_reducible exact ((R1.out.ext ((Ext.refl _).alloc _)).far2 (by first | omega | (simp <;> omega)) _ _).mono (by first | omega | (simp <;> omega))
      | with_reducible exact ((R1.out.ext ((Ext.refl _).alloc _)).ext ((Ext.refl _).alloc _)).mono (by first | omega | (simp <;> omega))
      | ((with_reducible refine Blk.to ((((hbA.set_ 0 (.bool f1)).set_ 1 (.slice G1 g1 j1)).far (by first | omega | (simp <;> omega)) _).far (by first | omega | (simp <;> omega)) _) ?_); rfl)
      | ((with_reducible refine Blk.to ((((hbB.set_ 0 (.bool f1)).set_ 1 (.slice G1 g1 j1)).far (by first | omega | (simp <;> omega)) _).far (by first | omega | (simp <;> omega)) _) ?_); rfl)
      | ((with_reducible refine Blk.to (((hbA.alloc _).set_ 0 (.bool f1)).set_ 1 (.slice G1 g1 j1)) ?_); rfl)
      | ((with_reducible refine Blk.to (((hbA.set_ 0 (.bool f1)).set_ 1 (.slice G1 g1 j1)).alloc _) ?_); rfl)
      | with_reducible exact (((Blk.new w2 24 #[Value.bool f1, Value.slice G1 g1 j1]).far (by first | omega | (simp <;> omega)) _).far (by first | omega | (simp <;> omega)) _)
      | with_reducible exact ((Blk.new w2 24 #[Value.bool f1, Value.slice G1 g1 j1]).alloc _)
      | (have hq := Blk.new (w2.alloc (.cells #[Value.bool f2, Value.slice G2 g2 j2] 24)) 24 #[Value.bool f1, Value.slice G1 g1 j1]; simp only [World.size_alloc] at hq; (with_reducible exact hq))
      | (apply Blk.new'; (with_reducible rfl); (simp only [World.size_setCell]))
  case rest =>
  obtain ⟨g, f9, g9, G9, j9, rfl, hG, hI, hF⟩ := hcut
  have hBF := HB1.out.ext hF
  have HGB := Lib.hid hG
  have HI := Lib.hid hI
  obtain ⟨z0, z1, zf0, zf1, zz⟩ := hBF.two
  obtain ⟨y0, y1, yf0, yf1, yz⟩ := hG.two
  clear hI
  go_wp2_with fail
  obtain ⟨hr0, hr1⟩ := two_set' hBF (.bool f9) (.slice G9 g9 j9)
  refine bodyPost_ret (v := .agg #[.bool f9, .slice G9 g9 j9]) (by simp [results, Tryz.results34, go_sem, hr0, hr1]) rfl ?_
  exact ⟨_, rfl, (HI.out.far2 (by omega) _ _).mono (by omega), ((HX.out.trans hF).setCell (Nat.le_succ _) _).setCell (Nat.le_succ _) _⟩
set_option maxHeartbeats 4000000 in
set_option maxRecDepth 100000 in
theorem rfloor_any (w : World) (v0 : Value) (p : Int) (q : Nat) (h0 : ArrRat w v0 p q) (n0 : (limbs p.natAbs).length ≤ 1000000) (m0 : (limbs q).length ≤ 1000000) (hq : 0 < q) :
    Calls Tryz.prog 37 #[v0] w fun e w' => ∃ v', e = .returned v' ∧ IsInt w.heap.size w' v' (p / (q : Int)) ∧ Ext w w' := by
  have H0 := Lib.hid h0
  have HN := Lib.hid (fun W v a => rden_any W v p q a n0 m0)
  have HDM := Lib.hid (fun W v u a b => rdm_any W v p a n0 u q b m0 hq)
  obtain ⟨b0, l0, A0, c0, k0, D0, e0, rfl⟩ := h0.shape
  clear h0 hq n0 m0
  generalize p / (q : Int) = zq at *
  go_enter Tryz.func37, Tryz.ntmps37
  go_wp2_with fail
  have hb0 := ((Blk.new w 26 #[Value.bool b0, Value.slice A0 l0 c0, Value.slice D0 k0 e0]).alloc (.cells #[Value.bool false, Value.slice none 0 0] 24))
  have hb1 := (Blk.new (w.alloc (.cells #[Value.bool b0, Value.slice A0 l0 c0, Value.slice D0 k0 e0] 26)) 24 #[Value.bool false, Value.slice none 0 0])
  have hxo := (((Ext.refl w).alloc (.cells #[Value.bool b0, Value.slice A0 l0 c0, Value.slice D0 k0 e0] 26)).alloc (.cells #[Value.bool false, Value.slice none 0 0] 24))
  have hszo : w.heap.size + 1 + 1 = ((w.alloc (.cells #[Value.bool b0, Value.slice A0 l0 c0, Value.slice D0 k0 e0] 26)).alloc (.cells #[Value.bool false, Value.slice none 0 0] 24)).heap.size := by simp
  simp only [World.size_alloc] at hb1
  generalize (w.alloc (.cells #[Value.bool b0, Value.slice A0 l0 c0, Value.slice D0 k0 e0] 26)).alloc (.cells #[Value.bool false, Value.slice none 0 0] 24) = wo at *
  have HX := Lib.hid hxo
  have HB1 := Lib.hid hb1
  have HZ : Hid (w.heap.size + 1 + 1 ≤ wo.heap.size) := Lib.hid (by omega)
  have hc : ∀ w', Ext wo w' → w'.cell? ⟨w.heap.size, 0, none⟩ = some (Value.bool b0) ∧ w'.cell? ⟨w.heap.size, 1, none⟩ = some (Value.slice A0 l0 c0) ∧ w'.cell? ⟨w.heap.size, 2, none⟩ = some (Value.slice D0 k0 e0) := fun w' hx => by
    obtain ⟨a, b, c, _⟩ := (hb0.ext hx).three
    exact ⟨a, b, c⟩
  have hc0 := fun w' hx => (hc w' hx).1
  have hc1 := fun w' hx => (hc w' hx).2.1
  have hc2 := fun w' hx => (hc w' hx).2.2
  clear hc hb0 hb1 hxo hszo
  go_upto_region 1 with fail
  have hzz := HZ.out
  go_cut [3, 4] from 6 to 15 (fun s3 s4 wx => ∃ (g : Nat) (f9 : Bool) (g9 : Nat) (G9 : Option Addr) (j9 : Nat), s3 = .pointer (some ⟨g, 0, none⟩) ∧ Blk wx g 24 #[Value.bool f9, Value.slice G9 g9 j9] ∧ IsInt (w.heap.size + 1 + 1) wx (.agg #[.bool f9, .slice G9 g9 j9]) zq ∧ Ext wo wx)
  case first =>
    go_region_held3 (fun w' => Ext wo w')
      (repeat' (first | assumption | (exact HE2.out) | (exact HE1.out) | (exact Ext.refl _) | (refine Ext.drew ?_) | (exact Ext.trans (by assumption) (by assumption)) | (refine Ext.alloc ?_ _) | (refine Ext.setCell ?_ (by first | omega | (simp <;> omega)) _)))
      (first
        | (go_at_call 96; have hchk1 := hz0; refine (HDM.out _ _ _ (H0.out.int.ext (HX.out.trans (by assumption))) (by first | exact R0.out.arr | exact R0.out.arr.ext ((Ext.refl _).alloc _) | exact R0.out.arr.ext (((Ext.refl _).alloc _).alloc _))).mono ?_; rintro e w2 ⟨r1, r1b, zr, rfl, hi1, hj1, hx1⟩; have HE2 : Hid (Ext wo w2) := Lib.hid (Ext.trans (by assumption) hx1); have hz1 := hx1.size; (try simp only [World.size_alloc] at hz1); (first | (have hbB := hbB.ext hx1) | (have hc := hbA; have hbB := (Blk.new w1 24 #[Value.bool false, Value.slice none 0 0]).ext hx1; clear hc) | (have hbB := (Blk.new (w1.alloc (.cells #[Value.bool false, Value.slice none 0 0] 24)) 24 #[Value.bool false, Value.slice none 0 0]).ext hx1) | skip); (first | (have hbA := hbA.ext hx1) | (have hbA := (hbA.alloc _).ext hx1) | (have hbA := (Blk.new w1 24 #[Value.bool false, Value.slice none 0 0]).ext hx1) | (have hbA := ((Blk.new w1 24 #[Value.bool false, Value.slice none 0 0]).alloc _).ext hx1) | skip); (try simp only [World.size_alloc, World.size_drew] at hbA); (try simp only [World.size_alloc, World.size_drew] at hbB); (try (clear ka0 ka1 kaf0 kaf1 kaz)); (try (clear kb0 kb1 kbf0 kbf1 kbz)); (try (obtain ⟨ka0, ka1, kaf0, kaf1, kaz⟩ := hbA.two)); (try (obtain ⟨kb0, kb1, kbf0, kbf1, kbz⟩ := hbB.two)); have R1 := Lib.hid hi1; have S1 := Lib.hid hj1; obtain ⟨f1, g1, G1, j1, rfl⟩ := hi1.shape; obtain ⟨f2, g2, G2, j2, rfl⟩ := hj1.shape)
        | (go_at_call 59; refine (HN.out _ _ (H0.out.ext (HX.out.trans (by assumption)))).mono ?_; rintro e w1 ⟨r0, rfl, hi0, hx0⟩; have HE1 : Hid (Ext wo w1) := Lib.hid (Ext.trans (by assumption) hx0); have hz0 := hx0.size; (try simp only [World.size_alloc, World.size_drew] at hz0); (first | (have hbB := (Blk.new (wo.drew.alloc (.cells #[Value.bool false, Value.slice none 0 0] 24)) 24 #[Value.bool false, Value.slice none 0 0]).ext hx0) | (have hbB := ((Blk.new (wo.alloc (.cells #[Value.bool false, Value.slice none 0 0] 24)) 24 #[Value.bool false, Value.slice none 0 0]).drew).ext hx0) | skip); (first | (have hbA := (Blk.new wo.drew 24 #[Value.bool false, Value.slice none 0 0]).ext hx0) | (have hbA := ((Blk.new wo 24 #[Value.bool false, Value.slice none 0 0]).drew).ext hx0) | (have hbA := ((Blk.new wo.drew 24 #[Value.bool false, Value.slice none 0 0]).alloc _).ext hx0) | (have hbA := (((Blk.new wo 24 #[Value.bool false, Value.slice none 0 0]).alloc _).drew).ext hx0) | skip); (try simp only [World.size_alloc, World.size_drew] at hbA); (try simp only [World.size_alloc, World.size_drew] at hbB); (try (obtain ⟨ka0, ka1, kaf0, kaf1, kaz⟩ := hbA.two)); (try (obtain ⟨kb0, kb1, kbf0, kbf1, kbz⟩ := hbB.two)); have R0 := Lib.hid hi0; obtain ⟨f0, g0, G0, j0, rfl⟩ := hi0.shape))
    all_goals rename_i hF
    all_goals go_wp2_with fail
    all_goals go_meet
    all_goals have h1z := HE1.out.size
    all_goals refine ⟨_, f1, g1, G1, j1, rfl, ?_, ?_, hF⟩
    all_goals first
      | with_reducible exact ((R1.out.far2 (by first | omega | (simp <;> omega)) _ _).far2 (by first | omega | (simp <;> omega)) _ _).mono (by first | omega | (simp <;> omega))
      | with_reducible exact ((R1.out.far2 (by first | omega | (simp <;> omega)) _ _).ext ((Ext.refl _).alloc _)).mono (by first | omega | (simp <;> omega))
      | with_reducible exact ((R1.out.ext ((Ext.refl _).alloc _)).far2 (by first | omega | (simp <;> omega)) _ _).mono (by first | omega | (simp <;> omega))
      | with_reducible exact ((R1.out.ext ((Ext.refl _).alloc _)).ext ((Ext.refl _).alloc _)).mono (by first | omega | (simp <;> omega))
      | ((with_reducible refine Blk.to ((((hbA.set_ 0 (.bool f1)).set_ 1 (.slice G1 g1 j1)).far (by first | omega | (simp <;> omega)) _).far (by first | omega | (simp <;> omega)) _) ?_); rfl)
      | ((with_reducible refine Blk.to ((((hbB.set_ 0 (.bool f1)).set_ 1 (.slice G1 g1 j1)).far (by first | omega | (simp <;> omega)) _).far (by first | omega | (simp <;> omega)) _) ?_); rfl)
      | ((with_reducible refine Blk.to (((hbA.alloc _).set_ 0 (.bool f1)).set_ 1 (.slice G1 g1 j1)) ?_); rfl)
      | ((with_reducible refine Blk.to (((hbA.set_ 0 (.bool f1)).set_ 1 (.slice G1 g1 j1)).alloc _) ?_); rfl)
      | with_reducible exact (((Blk.new w2 24 #[Value.bool f1, Value.slice G1 g1 j1]).far (by first | omega | (simp <;> omega)) _).far (by first | omega | (simp <;> omega)) _)
      | with_reducible exact ((Blk.new w2 24 #[Value.bool f1, Value.slice G1 g1 j1]).alloc _)
      | (have hq := Blk.new (w2.alloc (.cells #[Value.bool f2, Value.slice G2 g2 j2] 24)) 24 #[Value.bool f1, Value.slice G1 g1 j1]; simp only [World.size_alloc] at hq; (with_reducible exact hq))
      | (apply Blk.new'; (with_reducible rfl); (simp only [World.size_setCell]))
  case rest =>
  obtain ⟨g, f9, g9, G9, j9, rfl, hG, hI, hF⟩ := hcut
  have hBF := HB1.out.ext hF
  have HGB := Lib.hid hG
  have HI := Lib.hid hI
  obtain ⟨z0, z1, zf0, zf1, zz⟩ := hBF.two
  obtain ⟨y0, y1, yf0, yf1, yz⟩ := hG.two
  clear hI
  go_wp2_with fail
  obtain ⟨hr0, hr1⟩ := two_set' hBF (.bool f9) (.slice G9 g9 j9)
  refine bodyPost_ret (v := .agg #[.bool f9, .slice G9 g9 j9]) (by simp [results, Tryz.results37, go_sem, hr0, hr1]) rfl ?_
  exact ⟨_, rfl, (HI.out.far2 (by omega) _ _).mono (by omega), ((HX.out.trans hF).setCell (Nat.le_succ _) _).setCell (Nat.le_succ _) _⟩
end Big
end Go.Proofs.YtplmldkfgeiklaaGreatDoor
/- RationalFloors. Printed by a program. -/
namespace Go.Proofs.YtplmldkfgeiklaaGreatDoor
namespace Big
open Go.RowKit
theorem floor_le {p : Int} {q : Nat} (hq : 0 < q) : cmpZ (p / (q : Int) * (q : Int)) (p * ((1 : Nat) : Int)) ≤ 0 := by
  have h := Int.ediv_mul_le p (show (q : Int) ≠ 0 by omega)
  unfold cmpZ
  rw [show p * ((1 : Nat) : Int) = p by simp]
  split
  · omega
  · split <;> omega
theorem floor_lt {p : Int} {q : Nat} (hq : 0 < q) : cmpZ (p * ((1 : Nat) : Int)) ((p / (q : Int) + 1) * (q : Int)) < 0 := by
  have h := Int.lt_ediv_add_one_mul_self p (show (0 : Int) < (q : Int) by omega)
  unfold cmpZ
  rw [show p * ((1 : Nat) : Int) = p by simp, if_pos h]
  decide
theorem make_int (z : Int) : makeN z 1 = z ∧ makeD z 1 = 1 := by
  have h := make_low2 z 1
  have h2 := low_self (low_int z)
  rw [← h.1, ← h.2]
  rw [show (decide (z < 0) != decide ((1 : Int) < 0)) = decide (z < 0) by rw [show decide ((1 : Int) < 0) = false from rfl]; cases decide (z < 0) <;> rfl, sgn_natAbs]
  exact h2
theorem add_one_int (z : Int) : addP z 1 1 1 = z + 1 ∧ addQ z 1 1 1 = 1 := by
  have h2 := low_self (low_int (z + 1))
  unfold addP addQ addNum
  rw [show z * ((1 : Nat) : Int) + 1 * ((1 : Nat) : Int) = z + 1 by simp]
  exact h2
theorem floor_size {p : Int} {q N : Nat} (hq : 0 < q) (a : (limbs p.natAbs).length ≤ N) : (limbs (p / (q : Int)).natAbs).length ≤ N + 2 := by
  by_cases h : ¬ p < 0 ∨ p.natAbs % q = 0
  · rw [← fdiv_b hq h, natAbs_sgn]
    have := limbs_mono (Nat.div_le_self p.natAbs q)
    omega
  · rw [← fdiv_a hq (by omega) (fun e => h (.inr e)), natAbs_sgn]
    have h1 := limbs_mono (Nat.div_le_self p.natAbs q)
    have := length_limbs_sum (Nat.le_trans h1 a) (show (limbs 1).length ≤ 1 by rw [limbs_one]; simp)
    omega
set_option maxHeartbeats 4000000 in
set_option maxRecDepth 100000 in
theorem rationalFloors_any (w : World) (b0 : Bool) (m0 d0 : Value) (xs0 ys0 : List Nat) (h0 : Arr w m0 xs0) (e0 : Arr w d0 ys0) (hm : MaxV w) (ht : Tab32 w) :
    Calls Tryz.prog 7 #[.agg #[.bool b0, m0, d0]] w fun e w' => e = .returned (.bool true) ∧ Ext w w' := by
  have HAW := Lib.hid (fun W hx => awake07_any W (hm.ext (w' := W) hx) (ht.ext hx))
  have HTW := Lib.hid (fun W (hx : Ext w W) => mrat_any W b0 m0 d0 xs0 ys0 10 (h0.ext hx) (e0.ext hx) (by decide) (by decide))
  rw [show ((10 : Nat) : Int) = 10 from rfl] at HTW
  unfold RatPost at HTW
  obtain ⟨l0, A0, c0, rfl⟩ := h0.shape
  obtain ⟨k0, D0, t0, rfl⟩ := e0.shape
  clear h0 e0 hm ht
  go_enter Tryz.func7, Tryz.ntmps7
  go_wp2_with fail
  have hb0 := (Blk.new w 26 #[Value.bool b0, Value.slice A0 l0 c0, Value.slice D0 k0 t0])
  have hxo := ((Ext.refl w).alloc (.cells #[Value.bool b0, Value.slice A0 l0 c0, Value.slice D0 k0 t0] 26))
  have hszo : w.heap.size + 1 = (w.alloc (.cells #[Value.bool b0, Value.slice A0 l0 c0, Value.slice D0 k0 t0] 26)).heap.size := by simp
  generalize w.alloc (.cells #[Value.bool b0, Value.slice A0 l0 c0, Value.slice D0 k0 t0] 26) = wo at *
  have HX := Lib.hid hxo
  have HZ : Hid (w.heap.size + 1 ≤ wo.heap.size) := Lib.hid (by omega)
  have HB0 := Lib.hid hb0
  clear hxo hszo hb0
  refine (HAW.out _ HX.out).mono ?_
  rintro e w11 ⟨rfl, hx10⟩
  have HX := Lib.hid (HX.out.trans hx10)
  have HB0 := Lib.hid (HB0.out.ext hx10)
  clear hx10
  obtain ⟨hb0_0, hb0_1, hb0_2, hb0_3, hb0_4, hb0_5, hb0_6⟩ := HB0.out.three
  go_wp2_with fail
  clear hb0_0 hb0_1 hb0_2 hb0_3 hb0_4 hb0_5 hb0_6
  refine (HTW.out _ HX.out).mono ?_
  rintro e w12 ⟨r11, ok, p, q, rfl, hi11, hl, hx11⟩
  have HX := Lib.hid (HX.out.trans hx11)
  have HB0 := Lib.hid (HB0.out.ext hx11)
  clear hx11
  have QX := Lib.hid hi11
  have HL := Lib.hid hl
  obtain ⟨f11, g11, G11, j11, y11, Y11, z11, rfl⟩ := hi11.shape
  clear hi11 hl
  clear HB0
  cases ok with
  | false =>
    clear HAW HTW HL QX
    go_wp2_with fail
    go_ret
    exact ⟨rfl, HX.out.alloc _⟩
  | true =>
  obtain ⟨hlx, hpx, hqx⟩ := HL.out rfl
  clear HL HAW HTW
  have hfl := floor_size hlx.1 hpx
  have HFL := Lib.hid (fun W v a => pfloor_any W v p q a (by omega) (by omega) hlx.1)
  have HRFL := Lib.hid (fun W v a => rfloor_any W v p q a (by omega) (by omega) hlx.1)
  have hle := floor_le (p := p) hlx.1
  have hlt := floor_lt (p := p) hlx.1
  have H1 := Lib.hid (fun W => iof_any W 1 (by decide) (by decide))
  have l1 : (limbs 1).length ≤ 1 := by rw [limbs_one]; simp
  generalize p / (q : Int) = z at *
  have HMK := Lib.hid (fun W v u a b => pmake_pos W v z a (by omega) u 1 b (by rw [show (1 : Int).natAbs = 1 from rfl]; omega) (by decide))
  rw [(make_int z).1, (make_int z).2] at HMK
  have HS5 : Hid (∀ W v u, ArrInt W v z → ArrInt W u z → Calls Tryz.prog 36 #[v, u] W fun e w' => e = .returned (.bool true) ∧ Ext W w') := Lib.hid (fun W v u a b => (same5_any W v u z z a b (by omega) (by omega)).mono fun e w' h => ⟨by rw [h.1, decide_eq_true (rfl : z = z)], h.2⟩)
  have HC1 := Lib.hid (fun W v u a b => rcmpR_any W v z 1 a (by omega) (by omega) u p q b (by omega) (by omega))
  have HO1 := Lib.hid (fun W => rofi_any W 1 (by decide) (by decide))
  have HAD := Lib.hid (fun W v u a b => raddR_any W v z 1 a (by omega) (by omega) u 1 1 b (by rw [show (1 : Int).natAbs = 1 from rfl]; omega) (by omega) (by decide) (by decide))
  rw [(add_one_int z).1, (add_one_int z).2] at HAD
  have hz1 : (limbs (z + 1).natAbs).length ≤ 100 := by
    have := limbs_add_le (k := 12) (x := z) (y := 1) (by omega) (by rw [show (1 : Int).natAbs = 1 from rfl]; omega)
    omega
  have HC2 := Lib.hid (fun W v u a b => rcmpR_any W v p q a (by omega) (by omega) u (z + 1) 1 b (by omega) (by omega))
  clear hlx hpx hqx hfl l1 hz1
  generalize cmpZ (z * (q : Int)) (p * ((1 : Nat) : Int)) = c1 at *
  generalize cmpZ (p * ((1 : Nat) : Int)) ((z + 1) * (q : Int)) = c2 at *
  generalize z + 1 = z1 at *
  go_upto_region 6 with fail
  have HLOW := Lib.hid HX.out.size
  have hb12 := Blk.new w12 26 #[Value.bool f11, Value.slice G11 g11 j11, Value.slice Y11 y11 z11]
  have hx12 := (Ext.refl w12).alloc (.cells #[Value.bool f11, Value.slice G11 g11 j11, Value.slice Y11 y11 z11] 26)
  have HX := Lib.hid (HX.out.trans hx12)
  have QX := Lib.hid (QX.out.ext hx12)
  have BX := Lib.hid hb12
  generalize w12.alloc (.cells #[Value.bool f11, Value.slice G11 g11 j11, Value.slice Y11 y11 z11] 26) = w13 at *
  generalize w12.heap.size = a12 at *
  clear hb12 hx12
  obtain ⟨bx_0, bx_1, bx_2, bx_3, bx_4, bx_5, bx_6⟩ := BX.out.three
  go_wp2_with fail
  clear bx_0 bx_1 bx_2 bx_3 bx_4 bx_5 bx_6
  refine (HFL.out _ _ QX.out.arr).mono ?_
  rintro e w14 ⟨r13, rfl, hi13, hx13⟩
  have HX := Lib.hid (HX.out.trans hx13)
  have QX := Lib.hid (QX.out.ext hx13)
  have BX := Lib.hid (BX.out.ext hx13)
  have QF := Lib.hid hi13
  obtain ⟨f13, g13, G13, j13, rfl⟩ := hi13.shape
  clear hi13
  clear hx13
  obtain ⟨bx_0, bx_1, bx_2, bx_3, bx_4, bx_5, bx_6⟩ := BX.out.three
  go_upto_region 7 with fail
  clear bx_0 bx_1 bx_2 bx_3 bx_4 bx_5 bx_6
  have hb14 := Blk.new w14 24 #[Value.bool f13, Value.slice G13 g13 j13]
  have hx14 := (Ext.refl w14).alloc (.cells #[Value.bool f13, Value.slice G13 g13 j13] 24)
  have HX := Lib.hid (HX.out.trans hx14)
  have QX := Lib.hid (QX.out.ext hx14)
  have QF := Lib.hid (QF.out.ext hx14)
  have BX := Lib.hid (BX.out.ext hx14)
  have BF := Lib.hid hb14
  generalize w14.alloc (.cells #[Value.bool f13, Value.slice G13 g13 j13] 24) = w15 at *
  generalize w14.heap.size = a14 at *
  clear hb14 hx14
  obtain ⟨bx_0, bx_1, bx_2, bx_3, bx_4, bx_5, bx_6⟩ := BX.out.three
  obtain ⟨bf_0, bf_1, bf_2, bf_3, bf_4⟩ := BF.out.two
  go_upto_region 7 with fail
  go_cut [6, 7] from 19 to 24 (fun s6 s7 wx => ∃ (gx : Nat) (f9 : Bool) (g9 : Nat) (G9 : Option Addr) (j9 y9 : Nat) (Y9 : Option Addr) (z9 : Nat), s6 = .pointer (some ⟨gx, 0, none⟩) ∧ s7 = .int .i64 0 ∧ Blk wx gx 26 #[Value.bool f9, Value.slice G9 g9 j9, Value.slice Y9 y9 z9] ∧ ArrRat wx (.agg #[.bool f9, .slice G9 g9 j9, .slice Y9 y9 z9]) (z) (1) ∧ Ext w15 wx)
  case first =>
    have HE15 := Lib.hid (Ext.refl w15).drew
    go_region_law (first
      | (go_simp; go_at_call 30; have hchk16 := hx15; refine (HMK.out _ _ _ (by first | exact QF.out.arr.ext HE16.out | exact QF.out.arr.ext (HE16.out.alloc _)) (by first | exact R15.out.arr | exact (R15.out.arr).ext ((Ext.refl _).alloc _))).mono ?_; rintro e w17 ⟨r16, rfl, hi16, hx16⟩; have hsz16 := hx16.size; (try simp only [World.size_drew, World.size_alloc] at hsz16); have R15 := Lib.hid (by first | exact R15.out.ext hx16 | exact (R15.out.ext ((Ext.refl _).alloc _)).ext hx16); have R16 := Lib.hid hi16; have HE17 : Hid (Ext w15 w17) := Lib.hid (by first | exact HE16.out.trans hx16 | exact (HE16.out.alloc _).trans hx16); (try (have hbn := hbn.ext hx16)); (try (have hbn := (Blk.new _ 26 #[Value.bool false, Value.slice none 0 0, Value.slice none 0 0]).ext hx16)); obtain ⟨f16, g16, G16, j16, y16, Y16, z16, rfl⟩ := hi16.shape; clear hi16 bx_0 bx_1 bx_2 bx_3 bx_4 bx_5 bx_6 bf_0 bf_1 bf_2 bf_3 bf_4; obtain ⟨bx_0, bx_1, bx_2, bx_3, bx_4, bx_5, bx_6⟩ := (BX.out.ext HE17.out).three; obtain ⟨bf_0, bf_1, bf_2, bf_3, bf_4⟩ := (BF.out.ext HE17.out).two; (try (obtain ⟨k0, k1, k2, kf0, kf1, kf2, kz⟩ := hbn.three)))
      | (go_simp; go_at_call 35; refine (H1.out _).mono ?_; rintro e w16 ⟨r15, rfl, hi15, hx15⟩; have hsz15 := hx15.size; (try simp only [World.size_drew, World.size_alloc] at hsz15); have R15 := Lib.hid hi15; have HE16 : Hid (Ext w15 w16) := Lib.hid (by first | exact HE15.out.trans hx15 | exact (HE15.out.alloc _).trans hx15); (try (have hbn := hbn.ext hx15)); (try (have hbn := (Blk.new _ 26 #[Value.bool false, Value.slice none 0 0, Value.slice none 0 0]).ext hx15)); (try (have hbn := ((Blk.new _ 26 #[Value.bool false, Value.slice none 0 0, Value.slice none 0 0]).drew).ext hx15; (try simp only [World.size_drew] at hbn))); obtain ⟨f15, g15, G15, j15, rfl⟩ := hi15.shape; clear hi15 bx_0 bx_1 bx_2 bx_3 bx_4 bx_5 bx_6 bf_0 bf_1 bf_2 bf_3 bf_4; obtain ⟨bx_0, bx_1, bx_2, bx_3, bx_4, bx_5, bx_6⟩ := (BX.out.ext HE16.out).three; obtain ⟨bf_0, bf_1, bf_2, bf_3, bf_4⟩ := (BF.out.ext HE16.out).two; (try (obtain ⟨k0, k1, k2, kf0, kf1, kf2, kz⟩ := hbn.three))))
    all_goals go_wp2_with fail
    all_goals go_meet
    all_goals have hlw := HE17.out.size
    all_goals first
      | (have hchk : Blk w17 w15.heap.size 26 #[Value.bool false, Value.slice none 0 0, Value.slice none 0 0] := hbn; have hT := ((hchk.set_ 0 (.bool f16)).set_ 1 (.slice G16 g16 j16)).set_ 2 (.slice Y16 y16 z16); exact ⟨_, _, _, _, _, _, _, _, rfl, rfl, hT, (((R16.out.far (a := ⟨w15.heap.size, 0, none⟩) (show w15.heap.size < _ by first | omega | (simp <;> omega)) (.bool f16)).far (a := ⟨w15.heap.size, 1, none⟩) (show w15.heap.size < _ by first | omega | (simp <;> omega)) (.slice G16 g16 j16)).far (a := ⟨w15.heap.size, 2, none⟩) (show w15.heap.size < _ by first | omega | (simp <;> omega)) (.slice Y16 y16 z16)).arr, (((HE17.out.setCell (p := ⟨w15.heap.size, 0, none⟩) (show w15.heap.size ≤ _ by (try simp only) <;> omega) (.bool f16)).setCell (p := ⟨w15.heap.size, 1, none⟩) (show w15.heap.size ≤ _ by (try simp only) <;> omega) (.slice G16 g16 j16)).setCell (p := ⟨w15.heap.size, 2, none⟩) (show w15.heap.size ≤ _ by (try simp only) <;> omega) (.slice Y16 y16 z16))⟩)
      | (have hchk : Blk w17 w16.heap.size 26 #[Value.bool false, Value.slice none 0 0, Value.slice none 0 0] := hbn; have hlq := HE16.out.size; have hT := ((hchk.set_ 0 (.bool f16)).set_ 1 (.slice G16 g16 j16)).set_ 2 (.slice Y16 y16 z16); exact ⟨_, _, _, _, _, _, _, _, rfl, rfl, hT, (((R16.out.far (a := ⟨w16.heap.size, 0, none⟩) (show w16.heap.size < _ by first | omega | (simp <;> omega)) (.bool f16)).far (a := ⟨w16.heap.size, 1, none⟩) (show w16.heap.size < _ by first | omega | (simp <;> omega)) (.slice G16 g16 j16)).far (a := ⟨w16.heap.size, 2, none⟩) (show w16.heap.size < _ by first | omega | (simp <;> omega)) (.slice Y16 y16 z16)).arr, (((HE17.out.setCell (p := ⟨w16.heap.size, 0, none⟩) (show w15.heap.size ≤ _ by (try simp only) <;> omega) (.bool f16)).setCell (p := ⟨w16.heap.size, 1, none⟩) (show w15.heap.size ≤ _ by (try simp only) <;> omega) (.slice G16 g16 j16)).setCell (p := ⟨w16.heap.size, 2, none⟩) (show w15.heap.size ≤ _ by (try simp only) <;> omega) (.slice Y16 y16 z16))⟩)
      | (have hT := Blk.new w17 26 #[Value.bool f16, Value.slice G16 g16 j16, Value.slice Y16 y16 z16]; exact ⟨_, _, _, _, _, _, _, _, rfl, rfl, hT, (R16.out.ext ((Ext.refl w17).alloc _)).arr, HE17.out.alloc _⟩)
  case rest =>
  clear bx_0 bx_1 bx_2 bx_3 bx_4 bx_5 bx_6 bf_0 bf_1 bf_2 bf_3 bf_4
  obtain ⟨a19, f19, g19, G19, j19, y19, Y19, z19, rfl, rfl, hB19, hR19, hx19⟩ := hcut
  generalize wc = w20 at *
  have HX := Lib.hid (HX.out.trans hx19)
  have QX := Lib.hid (QX.out.ext hx19)
  have QF := Lib.hid (QF.out.ext hx19)
  have BX := Lib.hid (BX.out.ext hx19)
  have BF := Lib.hid (BF.out.ext hx19)
  have QY := Lib.hid hR19
  have BY := Lib.hid hB19
  clear hR19 hB19 hx19
  obtain ⟨bx_0, bx_1, bx_2, bx_3, bx_4, bx_5, bx_6⟩ := BX.out.three
  obtain ⟨bf_0, bf_1, bf_2, bf_3, bf_4⟩ := BF.out.two
  obtain ⟨by_0, by_1, by_2, by_3, by_4, by_5, by_6⟩ := BY.out.three
  go_upto_region 8 with fail
  go_region_held3 (fun w' => Ext w20 w' ∧ w'.cell? ⟨a12, 0, none⟩ = some (Value.bool f11) ∧ w'.cell? ⟨a12, 1, none⟩ = some (Value.slice G11 g11 j11) ∧ w'.cell? ⟨a12, 2, none⟩ = some (Value.slice Y11 y11 z11) ∧ w'.cell? ⟨a14, 0, none⟩ = some (Value.bool f13) ∧ w'.cell? ⟨a14, 1, none⟩ = some (Value.slice G13 g13 j13) ∧ w'.cell? ⟨a19, 0, none⟩ = some (Value.bool f19) ∧ w'.cell? ⟨a19, 1, none⟩ = some (Value.slice G19 g19 j19) ∧ w'.cell? ⟨a19, 2, none⟩ = some (Value.slice Y19 y19 z19))
    (first | (exact ⟨(Ext.refl w20).drew, bx_0, bx_1, bx_2, bf_0, bf_1, by_0, by_1, by_2⟩) | (exact keptS8_0 (by assumption) (by assumption)))
    (first
      | (go_at_call 38; have hchk25 := hz24; refine (HC2.out _ _ _ (QX.out.arr.ext (And.left (by assumption))) U2.out.arr).mono ?_; rintro e w26 ⟨rfl, hx25⟩; clear hz24 hchk25; clear U2; have hz25 := hx25.size)
      | (go_at_call 39; have hchk24 := hz23; refine (HAD.out _ _ _ (QY.out.ext (And.left (by assumption))) U1.out.arr).mono ?_; rintro e w25 ⟨r24, rfl, hi24, hx24⟩; clear hz23 hchk24; clear U1; have hz24 := hx24.size; have U2 := Lib.hid hi24; obtain ⟨f24, g24, G24, j24, y24, Y24, z24, rfl⟩ := hi24.shape; clear hi24)
      | (go_at_call 15; have hchk23 := hz22; refine (HO1.out _).mono ?_; rintro e w24 ⟨r23, rfl, hi23, hx23⟩; clear hz22 hchk23; have hz23 := hx23.size; have U1 := Lib.hid hi23; obtain ⟨f23, g23, G23, j23, y23, Y23, z23, rfl⟩ := hi23.shape; clear hi23)
      | (go_at_call 38; have hchk22 := hz21; refine (HC1.out _ _ _ (QY.out.ext (And.left (by assumption))) (QX.out.arr.ext (And.left (by assumption)))).mono ?_; rintro e w23 ⟨rfl, hx22⟩; clear hz21 hchk22; have hz22 := hx22.size)
      | (go_at_call 36; have hchk21 := hz20; refine (HS5.out _ _ _ (QF.out.arr.ext (And.left (by assumption))) U0.out.arr).mono ?_; rintro e w22 ⟨rfl, hx21⟩; clear hz20 hchk21; clear U0; have hz21 := hx21.size)
      | (go_at_call 37; refine (HRFL.out _ _ (QX.out.arr.ext (And.left (by assumption)))).mono ?_; rintro e w21 ⟨r20, rfl, hi20, hx20⟩; have hz20 := hx20.size; have U0 := Lib.hid hi20; obtain ⟨f20, g20, G20, j20, rfl⟩ := hi20.shape; clear hi20))
  all_goals go_wp2_with fail
  rename_i hS
  have hE := And.left hS
  go_ret
  exact ⟨rfl, HX.out.trans hE⟩
end Big
end Go.Proofs.YtplmldkfgeiklaaGreatDoor
/- The frame round a law's walk: the arguments opened; behind the call they read as they did. -/
namespace Go.Proofs.YtplmldkfgeiklaaGreatDoor
open Go.ChangeShapes Go.WideShapes Go.ChangeAt Go.RowKit

section
variable {H : Type} {enc : TypeId × Value → H} {P : Program}
theorem trodAll_stays (hl : laidOutB P = true) {W W' : World} (hb : Big.Ext W W') : ∀ (ts : List TypeId) (vs : List Value) (ds : List (DataW H)) (ps : List MemPlace),
    (∀ t ∈ ts, P.readableRec t = true ∧ t < P.types.size) → DataW.TrodAll enc P W 0 (fun _ => true) true ts vs ds ps → (∀ x ∈ ps, x.block < W.heap.size) →
    DataW.TrodAll enc P W' 0 (fun b => decide (b < W.heap.size)) true ts vs ds ps
  | [], vs, ds, ps, _, h, _ => by
    obtain ⟨rfl, rfl, rfl⟩ := trodAll_nil h
    exact trodAll_mk0
  | t :: ts, vs, ds, ps, ht, h, hlt => by
    obtain ⟨v, vs', d, ds', p, q, rfl, rfl, rfl, h1, h2⟩ := trodAll_cons h
    exact trodAll_cons_mk (Below.trod hl (ht t (by simp)).1 (ht t (by simp)).2 h1 hb (fun x hx => hlt x (List.mem_append_left _ hx)))
      (trodAll_stays hl hb ts vs' ds' q (fun t' h' => ht t' (by simp [h'])) h2 (fun x hx => hlt x (List.mem_append_right _ hx)))

/-- What the row asks of a law that returned true and left what was there. -/
theorem post_true {f : Func} {s : ChangeSpec} {W W' : World} {args : Array Value} {ds gs : List (DataW H)} {before : List MemPlace} {tb : TypeId} (hl : laidOutB P = true)
    (hts : (f.params.toList.all fun t => P.readableRec t && decide (t < P.types.size)) = true) (hv : s.vars = []) (hr : f.resultTypes = #[tb]) (htb : P.underlying tb = some .bool)
    (hW : DataW.Whole enc P f.params.toList s.vars false W args.toList ds gs before) (hfn : s.fn H ds = { results := [.lit (.bool true)], args := ds }) (hb : Big.Ext W W') :
    s.post enc P f false true false false W args (.bool true) W' := by
  have hlt := hW.lt
  have hW' := hW
  obtain ⟨p, q, hA, hV, rfl, hfz, hnd⟩ := hW
  rw [hv] at hV
  obtain ⟨rfl, rfl⟩ := trodVars_none hV
  have hfn' : s.fn H (ds ++ []) = { results := [.lit (.bool true)], args := ds } := by rw [List.append_nil]; exact hfn
  refine ⟨ds, [], p ++ [], [], p, [], hW', ?_, ?_, ?_, hb.frame _, fun h => by cases h⟩
  · rw [hfn', hr]
    exact trodAll_mk1 (shut_bool htb _)
  · rw [hfn']
    exact trodAll_stays hl hb _ _ _ _ (fun t ht => by
      have := List.all_eq_true.1 hts t ht
      simpa using this) hA (fun x hx => hlt x (by simpa using hx))
  · rw [hfn', hv]
    rfl
end

/-- A law under its row's conditions, with the form of the world at its beginning. -/
theorem handed_and_shaped {H : Type} {enc : TypeId × Value → H} {a : Assume} {C : Checked} {os : Os} {f : FuncId} {fn : Func} {s : ChangeSpec} {conds : List PathCond} {apart fresh handsOn again : Bool} {X : World → Array Value → Prop}
    (hX : ∀ (w w' : World) (args : Array Value), w.heap = w'.heap → X w args → X w' args)
    (own : ownKnob C.prog.godebug = none) (started : os.Started) (noInit : C.prog.inits.idxOf? f = none) (hfn : C.prog.funcs[f]? = some fn)
    (witness : ∃ (w : World) (tape : Tape) (i : Input), w.os = os ∧ (w.forCall tape i).Shaped C.prog ∧ i.vars = [] ∧ Input.okWide C.prog (w.forCall tape i) .any w.heap.size f i ∧
      ((s.pre enc C.prog fn conds apart (w.forCall tape i).memory i.args ∧ X (w.forCall tape i).memory i.args) ∧ sizedMet enc C.prog fn (OpenSpec.ofChange s) apart (w.forCall tape i).memory i.args) ∧ a.holds C.prog (lone (Frame.enter C.prog f i.args .normal) [] (w.forCall tape i)))
    (contract : ∀ (W : World) (base : Nat) (args : Array Value) (ds gs : List (DataW H)) (before : List MemPlace),
      (∀ (j : Nat) t v, fn.params[j]? = some t → args[j]? = some v → Value.okWide C.prog W .any base t v) →
      DataW.Whole enc C.prog fn.params.toList s.vars apart W args.toList ds gs before →
      (DataW.weightsEach C.prog (fn.params.toList ++ s.plain.varTypes C.prog) (ds ++ gs)).all (· ≤ reachBytes) = true → X W args → W.ShapedOpen C.prog →
      Calls C.prog f args W fun e W' => ∃ v, e = .returned v ∧ s.post enc C.prog fn apart fresh handsOn again W args v W') :
    ReturnsInHanded a C os f .any (fun w args => (s.pre enc C.prog fn conds apart w args ∧ X w args) ∧ sizedMet enc C.prog fn (OpenSpec.ofChange s) apart w args) (s.post enc C.prog fn apart fresh handsOn again) := by
  refine returnsInHanded_of_calls own started noInit witness ?_
  intro w tape i _ hsh _ hok hpre hholds
  obtain ⟨_, _, _, fn', hfn', _, _, _, _, hval⟩ := hok
  have e : fn' = fn := Option.some.inj (hfn'.symm.trans hfn)
  subst e
  obtain ⟨⟨⟨ds, gs, before, hw, hc⟩, hx⟩, hz⟩ := hpre
  have hw' := DataW.Whole.of_heap (w' := w.forCall tape i) (by rfl) hw
  refine (contract (w.forCall tape i) w.heap.size i.args ds gs before hval hw' (hz.weights hw) (hX _ _ _ (by rfl) hx) hsh).mono fun e W' ⟨v, he, hp⟩ => ?_
  subst he
  exact ChangeSpec.post_blind hp

theorem laid_out : laidOutB Tryz.prog = true := by kernel_rfl
theorem own : ownKnob Tryz.prog.godebug = none := by kernel_rfl

section
variable {P : Program} {W : World}
/-- One of several variables that a row lists. -/
theorem laidVars_at : ∀ (i : Nat) (l : List (String × DataW Unit)) (ps : List MemPlace) (n : String) (d : DataW Unit), DataW.LaidVars P W l ps → l[i]? = some (n, d) →
    ∃ g t cs f p, P.globalNamed n = some g ∧ (P.globals[g]?).map (·.type) = some t ∧ W.var? P n = some cs ∧ DataW.trod (fun _ => ()) P W 0 (fun _ => true) false f t cs.toList = some (d, p)
  | i, [], ps, n, d, _, hn => by simp at hn
  | 0, x :: l, ps, n, d, h, hn => by
    simp at hn
    subst hn
    obtain ⟨g, t, cs, f, p, q, h1, h2, h3, h4, _, _⟩ := h
    exact ⟨g, t, cs, f, p, h1, h2, h3, h4⟩
  | i + 1, x :: l, ps, n, d, h, hn => by
    obtain ⟨g, t, cs, f, p, q, _, _, _, _, hs, _⟩ := h
    exact laidVars_at i l q n d hs (by simpa using hn)
theorem laid_at (i : Nat) {l : List (String × DataW Unit)} {n : String} {d : DataW Unit} (h : laidMetH P l W) (hp : (l.all fun x => x.2.handleName?.isNone) = true) (hn : l[i]? = some (n, d)) :
    ∃ g t cs f p, P.globalNamed n = some g ∧ (P.globals[g]?).map (·.type) = some t ∧ W.var? P n = some cs ∧ DataW.trod (fun _ => ()) P W 0 (fun _ => true) false f t cs.toList = some (d, p) := by
  rw [MakeChecks.laidMetH_plain _ _ _ hp] at h
  obtain ⟨ps, hv, _⟩ := h
  exact laidVars_at i l ps n d hv hn
end

section
variable {H : Type} {enc : TypeId × Value → H} {W : World} {fuel : Nat} {v : Value} {y : DataW H × List MemPlace}
theorem cellsOf_u32 : Tryz.prog.cellsOf 74 = 1 := by kernel_rfl
/-- A slice of 32-bit digits that came in. -/
theorem arr_of_trod (h : DataW.trod enc Tryz.prog W 0 (fun _ => true) true fuel 22 [v] = some y) : ∃ xs, Big.Arr W v xs := by
  rcases open_ints Tryz.underlying22 Tryz.underlying74 cellsOf_u32 h with ⟨hv, _⟩ | ⟨a, len, cap, zs, hv, _, hl, hm, hz, _, hc, hw⟩
  · injection hv with hv
    subst hv
    exact ⟨[], Big.Arr.none_ W⟩
  · injection hv with hv
    subst hv
    simp only [if_true] at hz
    refine ⟨(zs.take len).map Int.toNat, ?_⟩
    have hlen : ((zs.take len).map Int.toNat).length = len := by simp; omega
    have hok : Big.Ok ((zs.take len).map Int.toNat) := fun x hx => by
      obtain ⟨n, hn, rfl⟩ := List.mem_map.1 hx
      have := bounds_u32 (hw n (List.mem_of_mem_take hn))
      omega
    have key := Big.Arr.mk (w := W) (A := some a) (c := cap) hok (by rw [hlen]; exact hl) hm (fun hp => by
      rw [hlen] at hp ⊢
      obtain ⟨b, off, rfl, hcell⟩ := ints_at hc (by omega)
      have h0 := hcell 0 (by omega)
      refine ⟨b, off, rfl, World.block_lt_of_cell? W _ h0, fun j hj => ?_⟩
      rw [hcell j (by omega)]
      have hj2 : j < zs.length := by omega
      have hb := bounds_u32 (hw zs[j] (List.getElem_mem hj2))
      have e1 : zs.getD j 0 = zs[j] := by rw [List.getD_eq_getElem?_getD, List.getElem?_eq_getElem hj2]; rfl
      have e2 : ((zs.take len).map Int.toNat).getD j 0 = zs[j].toNat := by
        rw [List.getD_eq_getElem?_getD, List.getElem?_map, List.getElem?_take_of_lt hj, List.getElem?_eq_getElem hj2]; rfl
      rw [e1, e2]
      unfold Big.d32
      rw [Int.toNat_of_nonneg hb.1])
    rw [hlen] at key
    exact key
theorem bool_of_trod (h : DataW.trod enc Tryz.prog W 0 (fun _ => true) true fuel 4 [v] = some y) : ∃ b, v = .bool b := by
  obtain ⟨b, hb, _⟩ := DataW.trod_bool Tryz.underlying4 h
  injection hb with hb
  exact ⟨b, hb⟩
end
section
variable {H : Type} {enc : TypeId × Value → H} {W : World} {v : Value} {d : DataW H} {p : List MemPlace} {r : Reach} {b0 : Nat}
set_option maxRecDepth 100000 in
theorem open_u32s (hv : Value.okWide Tryz.prog W r b0 22 v) (h : DataW.Trod enc Tryz.prog W 0 (fun _ => true) true 22 v d p) : ∃ xs, Big.Arr W v xs := by
  obtain ⟨a, len, cap, rfl⟩ := okWide_slice Tryz.underlying22 hv
  obtain ⟨fuel, hf⟩ := h
  obtain ⟨xs, hxs⟩ := arr_of_trod (by simpa [Value.cells] using hf)
  exact ⟨xs, hxs⟩
end
theorem byte_of_wf {z : Int} (w : (Lit.int .u8 z).wf = true) : ∃ d : UInt8, z = (d.toNat : Int) := by
  have h := bounds_u8 w
  refine ⟨UInt8.ofNat z.toNat, ?_⟩
  have e : (UInt8.ofNat z.toNat).toNat = z.toNat % 2 ^ 8 := UInt8.toNat_ofNat'
  rw [e, Nat.mod_eq_of_lt (by omega)]
  omega
theorem u64_of_wf {z : Int} (w : (Lit.int .u64 z).wf = true) : ∃ n : Nat, n < 18446744073709551616 ∧ z = (n : Int) := by
  have h := bounds_u64 w
  exact ⟨z.toNat, by omega, by omega⟩
theorem str_of_bytes {s : ByteArray} (h : s.size ≤ maxLen) : ∃ l : List UInt8, l.length ≤ maxLen ∧ s = ⟨l.toArray⟩ := by
  refine ⟨s.data.toList, by simpa using h, ?_⟩
  apply ByteArray.ext
  simp
end Go.Proofs.YtplmldkfgeiklaaGreatDoor
/- What the condition on the table of lowest bits gives the walks. -/
namespace Go.Proofs.YtplmldkfgeiklaaGreatDoor
open Go.ChangeShapes Go.WideShapes Go.ChangeAt Go.RowKit
theorem g32 : Tryz.prog.globalNamed "math/bits.deBruijn32tab" = some 0 := by kernel_rfl
theorem t32 : (Tryz.prog.globals[0]?).map (·.type) = some 135 := by kernel_rfl
theorem cells32 : Tryz.prog.cellsOf 135 = 32 := by kernel_rfl
theorem cells8b : Tryz.prog.cellsOf 5 = 1 := by kernel_rfl
def tab32 : List Int := [0, 1, 28, 2, 29, 14, 24, 3, 30, 22, 20, 15, 25, 17, 4, 8, 31, 27, 13, 23, 21, 19, 16, 7, 26, 12, 18, 6, 11, 5, 10, 9]
theorem tab32_get : ∀ i : Fin 32, (tab32.map (fun z => Value.int .u8 z))[i.val]? = some (.int .u8 ((Big.tzTab.getD i.val 0 : Nat) : Int)) := by
  intro ⟨i, hi⟩
  have : i = 0 ∨ i = 1 ∨ i = 2 ∨ i = 3 ∨ i = 4 ∨ i = 5 ∨ i = 6 ∨ i = 7 ∨ i = 8 ∨ i = 9 ∨ i = 10 ∨ i = 11 ∨ i = 12 ∨ i = 13 ∨ i = 14 ∨ i = 15 ∨ i = 16 ∨ i = 17 ∨ i = 18 ∨ i = 19 ∨ i = 20 ∨ i = 21 ∨ i = 22 ∨ i = 23 ∨ i = 24 ∨ i = 25 ∨ i = 26 ∨ i = 27 ∨ i = 28 ∨ i = 29 ∨ i = 30 ∨ i = 31 := by omega
  rcases this with rfl | rfl | rfl | rfl | rfl | rfl | rfl | rfl | rfl | rfl | rfl | rfl | rfl | rfl | rfl | rfl | rfl | rfl | rfl | rfl | rfl | rfl | rfl | rfl | rfl | rfl | rfl | rfl | rfl | rfl | rfl | rfl <;> rfl
theorem tab32_of_laid {W : World} {l : List (String × DataW Unit)} (i : Nat) (h : laidMetH Tryz.prog l W) (hp : (l.all fun x => x.2.handleName?.isNone) = true) (hn : l[i]? = some ("math/bits.deBruijn32tab", Rows.laid_math_bits_deBruijn32tab)) : Big.Tab32 W := by
  obtain ⟨g1, t1, cs1, f1, p1, hg1, ht1, hv1, hd1⟩ := laid_at i h hp hn
  obtain rfl := Option.some.inj (g32.symm.trans hg1)
  obtain rfl := Option.some.inj (t32.symm.trans ht1)
  have hcs := Lib.cells_of_tab (zs := tab32) (k := .u8) Tryz.underlying135 Tryz.underlying5 cells8b cells32 (show DataW.trod _ Tryz.prog W 0 _ false f1 135 cs1.toList = some (Lib.tabData .u8 tab32, p1) from hd1)
  have key : ∀ j, j < 32 → W.cell? ⟨0, j, none⟩ = some (.int .u8 ((Big.tzTab.getD j 0 : Nat) : Int)) := by
    intro j hj
    have hc := World.var?_cell hg1 hv1 j
    have h15 : cs1[j]? = some (.int .u8 ((Big.tzTab.getD j 0 : Nat) : Int)) := by
      rw [← Array.getElem?_toList, hcs]
      exact tab32_get ⟨j, hj⟩
    rw [h15] at hc
    exact hc
  exact ⟨key, World.block_lt_of_cell? W _ (key 0 (by decide))⟩
end Go.Proofs.YtplmldkfgeiklaaGreatDoor
