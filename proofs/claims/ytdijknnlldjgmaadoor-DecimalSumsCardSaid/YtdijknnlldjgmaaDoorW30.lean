import Derived.Test.YtdijknnlldjgmaaDoorW28
import Derived.Test.YtdijknnlldjgmaaDoorW29
import Derived.Test.YtdijknnlldjgmaaDoorWk2
import Derived.Deep.RegionHeld3
/- integer.Mul, integer.Add, mill.Nat. -/
namespace Go.Proofs.YtdijknnlldjgmaaDoor
namespace Big
open Go.RowKit

theorem mnat_any (w : World) (v : Value) (xs : List Nat) (n : Int) (h : Arr w v xs) (hn : xs.length ≤ 1073741824) (hle : (xs.length : Int) ≤ n) :
    Calls Tryd.prog 22 #[v, .int .i64 n] w fun e w' => ∃ v', e = .returned (.tuple #[v', .bool true]) ∧ Own w.heap.size w' v' (limbs (val xs)) ∧ Ext w w' := by
  have HT := Lib.hid (rtrim_any w v xs h hn)
  obtain ⟨hok, A, c, rfl, hc, hm, hcell⟩ := h.open
  have hlt : ¬ n < (xs.length : Int) := by omega
  clear h hcell hm hc hle
  go_enter Tryd.func22, Tryd.ntmps22
  go_wp2_with fail
  refine HT.out.mono ?_
  rintro e w' ⟨v', rfl, ho, hx⟩
  go_wp2_with fail
  go_ret2
  exact ⟨_, rfl, ho, hx⟩
theorem mnat_big (w : World) (A : Option Addr) (len c : Nat) (n : Int) (h : n < len) :
    Calls Tryd.prog 22 #[.slice A len c, .int .i64 n] w fun e w' => e = .returned (.tuple #[.slice none 0 0, .bool false]) ∧ w = w' := by
  go_enter Tryd.func22, Tryd.ntmps22
  go_wp2_with fail
  go_ret2
  exact ⟨rfl, rfl⟩

theorem length_limbs_sum {m n k : Nat} {j : Nat} (hm : (limbs m).length ≤ k) (hn : (limbs n).length ≤ j) : (limbs (m + n)).length ≤ k + j + 1 := by
  refine length_limbs_le ?_
  have h1 := val_lt (ok_limbs m)
  have h2 := val_lt (ok_limbs n)
  rw [val_limbs] at h1 h2
  have h3 := pow_mono (show (limbs m).length ≤ k + j by omega)
  have h4 := pow_mono (show (limbs n).length ≤ k + j by omega)
  rw [Nat.pow_succ]
  omega
theorem sgn_mul (x y : Int) : sgn (decide (x < 0) != decide (y < 0)) (x.natAbs * y.natAbs) = x * y := by
  have hx : x = sgn (decide (x < 0)) x.natAbs := by unfold sgn; by_cases h : x < 0 <;> simp [h] <;> omega
  have hy : y = sgn (decide (y < 0)) y.natAbs := by unfold sgn; by_cases h : y < 0 <;> simp [h] <;> omega
  generalize decide (x < 0) = b at *
  generalize decide (y < 0) = b' at *
  generalize x.natAbs = m at *
  generalize y.natAbs = n at *
  subst hx
  subst hy
  cases b <;> cases b' <;> simp [sgn, Int.neg_mul, Int.mul_neg]

theorem length_limbs_prod {m n k : Nat} {j : Nat} (hm : (limbs m).length ≤ k) (hn : (limbs n).length ≤ j) : (limbs (m * n)).length ≤ k + j := by
  refine length_limbs_le ?_
  have h1 := val_lt (ok_limbs m)
  have h2 := val_lt (ok_limbs n)
  rw [val_limbs] at h1 h2
  rw [Nat.pow_add]
  exact Nat.mul_lt_mul'' (Nat.lt_of_lt_of_le h1 (pow_mono hm)) (Nat.lt_of_lt_of_le h2 (pow_mono hn))
set_option maxRecDepth 100000 in
theorem imul_any (w : World) (v u : Value) (x y : Int) (h : ArrInt w v x) (h' : ArrInt w u y) (hn : (limbs x.natAbs).length ≤ 268435456) (hn' : (limbs y.natAbs).length ≤ 268435456) :
    Calls Tryd.prog 24 #[v, u] w fun e w' => ∃ v', e = .returned v' ∧ IsInt w.heap.size w' v' (x * y) ∧ Ext w w' := by
  have HA := Lib.hid h
  have HB := Lib.hid h'
  have HM := Lib.hid (fun W m m' a b => mul_any W m m' (limbs x.natAbs) (limbs y.natAbs) a b hn hn')
  rw [val_limbs, val_limbs] at HM
  have HS := Lib.hid (sgn_mul x y)
  obtain ⟨b, n, A, c, rfl⟩ := h.shape
  obtain ⟨b', n', A', c', rfl⟩ := h'.shape
  rw [← h.sign, ← h'.sign] at HS
  clear h h'
  go_enter Tryd.func24, Tryd.ntmps24
  go_wp2_with fail
  have hb0 := ((Blk.new w 24 #[Value.bool b, Value.slice A n c]).alloc (.cells #[Value.bool b', Value.slice A' n' c'] 24)).alloc (.cells #[Value.bool false, Value.slice none 0 0] 24)
  have hb1 := (Blk.new (w.alloc (.cells #[Value.bool b, Value.slice A n c] 24)) 24 #[Value.bool b', Value.slice A' n' c']).alloc (.cells #[Value.bool false, Value.slice none 0 0] 24)
  have hb2 := Blk.new ((w.alloc (.cells #[Value.bool b, Value.slice A n c] 24)).alloc (.cells #[Value.bool b', Value.slice A' n' c'] 24)) 24 #[Value.bool false, Value.slice none 0 0]
  have hxo := (((Ext.refl w).alloc (.cells #[Value.bool b, Value.slice A n c] 24)).alloc (.cells #[Value.bool b', Value.slice A' n' c'] 24)).alloc (.cells #[Value.bool false, Value.slice none 0 0] 24)
  simp only [World.size_alloc] at hb1 hb2
  generalize ((w.alloc (.cells #[Value.bool b, Value.slice A n c] 24)).alloc (.cells #[Value.bool b', Value.slice A' n' c'] 24)).alloc (.cells #[Value.bool false, Value.slice none 0 0] 24) = wo at *
  obtain ⟨h0, h1, _, _, _⟩ := hb0.two
  obtain ⟨h2, h3, _, _, _⟩ := hb1.two
  obtain ⟨h4, h5, h6, h7, hgz⟩ := hb2.two
  clear hb0 hb1 hb2
  have HI := Lib.hid (fun W m a => inat_any W (b != b') m (limbs (x.natAbs * y.natAbs)) a (by
    have := length_limbs_prod hn hn'
    omega))
  rw [val_limbs, HS.out] at HI
  go_region_held3 (fun w' => Ext w w' ∧ w'.cell? ⟨w.heap.size, 0, none⟩ = some (.bool b) ∧ w'.cell? ⟨w.heap.size, 1, none⟩ = some (.slice A n c) ∧ w'.cell? ⟨w.heap.size + 1, 0, none⟩ = some (.bool b') ∧ w'.cell? ⟨w.heap.size + 1, 1, none⟩ = some (.slice A' n' c') ∧
      w'.cell? ⟨w.heap.size + 1 + 1, 0, none⟩ = some (was w' (w.heap.size + 1 + 1) 0) ∧ w'.cell? ⟨w.heap.size + 1 + 1, 1, none⟩ = some (was w' (w.heap.size + 1 + 1) 1) ∧ w'.frozen? ⟨w.heap.size + 1 + 1, 0, none⟩ = false ∧ w'.frozen? ⟨w.heap.size + 1 + 1, 1, none⟩ = false)
    (first | (exact ⟨hxo.drew, h0, h1, h2, h3, was_some (w := wo.drew) h4, was_some (w := wo.drew) h5, h6, h7⟩) | (exact keptS4_2 (by assumption) (by assumption)) | (exact keptS4_2_set (by assumption) (by omega) (by omega) (by omega) (by omega) (by omega)))
    (first
      | (go_at_call 43; refine (HM.out _ _ _ ?_ ?_).mono ?_; (exact HA.out.mag.ext (And.left (by assumption))); (exact HB.out.mag.ext (And.left (by assumption))); rintro e w1 ⟨v', rfl, ho, hx⟩; obtain ⟨nm, Am, cm, rfl⟩ := ho.shape; have hra := ho.arr; have hz1 := hx.size)
      | (go_at_call 25; refine (HI.out _ _ (by assumption)).mono ?_; rintro e w' ⟨v', rfl, hi, hx⟩; have HIR := Lib.hid hi; obtain ⟨bi, ni, Ai, ci, rfl⟩ := hi.shape))
  go_wp2_with fail
  rename_i hS
  obtain ⟨hE, _, _, _, _, hc0, hc1, _, _⟩ := hS
  have hz0 := hxo.size
  simp only [World.size_drew] at hz1
  obtain ⟨hr0, hr1⟩ := final2 hc0 hc1
  refine bodyPost_ret (v := .agg #[.bool bi, .slice Ai ni ci]) (by simp [results, Tryd.results24, go_sem, hr0, hr1]) rfl ?_
  exact ⟨_, rfl, HIR.out.put (by omega) (by omega), hE⟩
set_option maxRecDepth 100000 in
theorem iadd_same (w : World) (v u : Value) (x y : Int) (h : ArrInt w v x) (h' : ArrInt w u y) (hn : (limbs x.natAbs).length ≤ 268435456) (hn' : (limbs y.natAbs).length ≤ 268435456) (hs : decide (x < 0) = decide (y < 0)) :
    Calls Tryd.prog 23 #[v, u] w fun e w' => ∃ v', e = .returned v' ∧ IsInt w.heap.size w' v' (x + y) ∧ Ext w w' := by
  have HA := Lib.hid h
  have HB := Lib.hid h'
  have HM := Lib.hid (fun W m m' a b => add_any W m m' (limbs x.natAbs) (limbs y.natAbs) a b (by omega) (by omega))
  rw [val_limbs, val_limbs] at HM
  obtain ⟨b, n, A, c, rfl⟩ := h.shape
  obtain ⟨b', n', A', c', rfl⟩ := h'.shape
  have hb : b' = b := by rw [h.sign, h'.sign, hs]
  subst hb
  have HS := Lib.hid (show sgn b' (x.natAbs + y.natAbs) = x + y by
    have h1 := h.sign
    have h2 := h'.sign
    unfold sgn
    cases b'
    · have := of_decide_eq_false h1.symm
      have := of_decide_eq_false h2.symm
      simp; omega
    · have := of_decide_eq_true h1.symm
      have := of_decide_eq_true h2.symm
      simp; omega)
  clear h h' hs
  go_enter Tryd.func23, Tryd.ntmps23
  go_wp2_with fail
  have hb0 := ((Blk.new w 24 #[Value.bool b', Value.slice A n c]).alloc (.cells #[Value.bool b', Value.slice A' n' c'] 24)).alloc (.cells #[Value.bool false, Value.slice none 0 0] 24)
  have hb1 := (Blk.new (w.alloc (.cells #[Value.bool b', Value.slice A n c] 24)) 24 #[Value.bool b', Value.slice A' n' c']).alloc (.cells #[Value.bool false, Value.slice none 0 0] 24)
  have hb2 := Blk.new ((w.alloc (.cells #[Value.bool b', Value.slice A n c] 24)).alloc (.cells #[Value.bool b', Value.slice A' n' c'] 24)) 24 #[Value.bool false, Value.slice none 0 0]
  have hxo := (((Ext.refl w).alloc (.cells #[Value.bool b', Value.slice A n c] 24)).alloc (.cells #[Value.bool b', Value.slice A' n' c'] 24)).alloc (.cells #[Value.bool false, Value.slice none 0 0] 24)
  simp only [World.size_alloc] at hb1 hb2
  generalize ((w.alloc (.cells #[Value.bool b', Value.slice A n c] 24)).alloc (.cells #[Value.bool b', Value.slice A' n' c'] 24)).alloc (.cells #[Value.bool false, Value.slice none 0 0] 24) = wo at *
  obtain ⟨h0, h1, _, _, _⟩ := hb0.two
  obtain ⟨h2, h3, _, _, _⟩ := hb1.two
  obtain ⟨h4, h5, h6, h7, hgz⟩ := hb2.two
  clear hb0 hb1 hb2
  have HI := Lib.hid (fun W m a => inat_any W b' m (limbs (x.natAbs + y.natAbs)) a (by
    have := length_limbs_sum hn hn'
    omega))
  rw [val_limbs, HS.out] at HI
  go_region_held3 (fun w' => Ext w w' ∧ w'.cell? ⟨w.heap.size, 0, none⟩ = some (.bool b') ∧ w'.cell? ⟨w.heap.size, 1, none⟩ = some (.slice A n c) ∧ w'.cell? ⟨w.heap.size + 1, 0, none⟩ = some (.bool b') ∧ w'.cell? ⟨w.heap.size + 1, 1, none⟩ = some (.slice A' n' c') ∧
      w'.cell? ⟨w.heap.size + 1 + 1, 0, none⟩ = some (was w' (w.heap.size + 1 + 1) 0) ∧ w'.cell? ⟨w.heap.size + 1 + 1, 1, none⟩ = some (was w' (w.heap.size + 1 + 1) 1) ∧ w'.frozen? ⟨w.heap.size + 1 + 1, 0, none⟩ = false ∧ w'.frozen? ⟨w.heap.size + 1 + 1, 1, none⟩ = false)
    (first | (exact ⟨hxo.drew, h0, h1, h2, h3, was_some (w := wo.drew) h4, was_some (w := wo.drew) h5, h6, h7⟩) | (exact keptS4_2 (by assumption) (by assumption)) | (exact keptS4_2_set (by assumption) (by omega) (by omega) (by omega) (by omega) (by omega)))
    (first
      | (go_at_call 41; refine (HM.out _ _ _ ?_ ?_).mono ?_; (exact HA.out.mag.ext (And.left (by assumption))); (exact HB.out.mag.ext (And.left (by assumption))); rintro e w1 ⟨v', rfl, ho, hx⟩; obtain ⟨nm, Am, cm, rfl⟩ := ho.shape; have hra := ho.arr; have hz1 := hx.size)
      | (go_at_call 25; refine (HI.out _ _ (by assumption)).mono ?_; rintro e w' ⟨v', rfl, hi, hx⟩; have HIR := Lib.hid hi; obtain ⟨bi, ni, Ai, ci, rfl⟩ := hi.shape))
  go_wp2_with fail
  rename_i hS
  obtain ⟨hE, _, _, _, _, hc0, hc1, _, _⟩ := hS
  have hz0 := hxo.size
  simp only [World.size_drew] at hz1
  obtain ⟨hr0, hr1⟩ := final2 hc0 hc1
  refine bodyPost_ret (v := .agg #[.bool bi, .slice Ai ni ci]) (by simp [results, Tryd.results23, go_sem, hr0, hr1]) rfl ?_
  exact ⟨_, rfl, HIR.out.put (by omega) (by omega), hE⟩

end Big
end Go.Proofs.YtdijknnlldjgmaaDoor
