import Derived.Test.YtdijknnlldjgmaaDoorW12
namespace Go.Proofs.YtdijknnlldjgmaaDoor
namespace Big
open Go.RowKit

theorem rsame_any (w : World) (v u : Value) (xs ys : List Nat) (h : Arr w v xs) (h' : Arr w u ys) (hn : xs.length ≤ 1073741824) (hn' : ys.length ≤ 1073741824) :
    Calls Tryd.prog 18 #[v, u] w fun e w' => e = .returned (.bool (decide (xs.length = ys.length) && decide (val xs = val ys))) ∧ w = w' := by
  have HC := Lib.hid (rcmp_any w v u xs ys h h' hn hn')
  obtain ⟨hok, A, c, rfl, hc, hm, hcell⟩ := h.open
  obtain ⟨hok', A', c', rfl, hc', hm', hcell'⟩ := h'.open
  clear h h' hcell hcell' hm hm'
  by_cases hl : xs.length = ys.length
  · have hb : ((xs.length : Int) == (ys.length : Int)) = true := by rw [hl]; simp
    have HL := Lib.hid hl; clear hl
    by_cases hv : val xs = val ys
    · have hcm : (cmpI (val xs) (val ys) == 0) = true := by rw [cmpI_eq hv]; rfl
      have HV := Lib.hid hv; clear hv
      generalize cmpI (val xs) (val ys) = cc at HC hcm
      go_enter Tryd.func18, Tryd.ntmps18
      go_wp2_with fail
      refine HC.out.mono ?_; rintro e w' ⟨rfl, rfl⟩
      go_wp2_with fail
      go_ret
      exact ⟨by rw [decide_eq_true HL.out, decide_eq_true HV.out]; rfl, rfl⟩
    · have hcm : (cmpI (val xs) (val ys) == 0) = false := by
        rw [beq_eq_false_iff_ne]; unfold cmpI; split <;> (try split) <;> omega
      have HV := Lib.hid hv; clear hv
      generalize cmpI (val xs) (val ys) = cc at HC hcm
      go_enter Tryd.func18, Tryd.ntmps18
      go_wp2_with fail
      refine HC.out.mono ?_; rintro e w' ⟨rfl, rfl⟩
      go_wp2_with fail
      go_ret
      exact ⟨by rw [decide_eq_true HL.out, decide_eq_false HV.out]; rfl, rfl⟩
  · have hb : ((xs.length : Int) == (ys.length : Int)) = false := by rw [beq_eq_false_iff_ne]; omega
    have HL := Lib.hid hl; clear hl HC
    go_enter Tryd.func18, Tryd.ntmps18
    go_wp2_with fail
    go_ret
    exact ⟨by rw [decide_eq_false HL.out]; rfl, rfl⟩

theorem mint_big (w : World) (neg : Bool) (A : Option Addr) (len c : Nat) (n : Int) (h : n < len) :
    Calls Tryd.prog 10 #[.agg #[.bool neg, .slice A len c], .int .i64 n] w fun e w' => ∃ v', e = .returned (.tuple #[v', .bool false]) ∧ Ext w w' := by
  go_enter Tryd.func10, Tryd.ntmps10
  go_wp2_with fail
  refine bodyPost_ret (v := .tuple #[.agg #[.bool false, .slice none 0 0], .bool false]) (by simp [results, Tryd.results10, go_sem]) rfl ?_
  exact ⟨_, rfl, ((Ext.refl w).alloc _).alloc _⟩

theorem mint_any (w : World) (neg : Bool) (v : Value) (xs : List Nat) (n : Int) (h : Arr w v xs) (hn : xs.length ≤ 1073741824) (hle : (xs.length : Int) ≤ n) :
    Calls Tryd.prog 10 #[.agg #[.bool neg, v], .int .i64 n] w fun e w' => ∃ v', e = .returned (.tuple #[v', .bool true]) ∧ IsInt w.heap.size w' v' (sgn neg (val xs)) ∧ Ext w w' := by
  have HA := Lib.hid h
  obtain ⟨hok, A, c, rfl, hc, hm, hcell⟩ := h.open
  clear h hcell hm hc
  go_enter Tryd.func10, Tryd.ntmps10
  go_wp2_with fail
  have hx0 := ((Ext.refl w).alloc (.cells #[Value.bool neg, Value.slice A xs.length c] 24)).alloc (.cells #[Value.bool false, Value.slice none 0 0] 24)
  refine (rnat_any _ neg _ xs (HA.out.ext hx0) hn).mono ?_
  rintro e w1 ⟨v1, rfl, hi, hx⟩
  have HI := Lib.hid hi
  obtain ⟨m, hv, ho⟩ := hi
  obtain ⟨A1, c1, hv1, _⟩ := ho.2
  rw [List.length_map] at hv1
  subst hv1
  subst hv
  clear ho
  generalize decide (sgn neg (val xs) < 0) = bb at HI
  generalize (limbs (sgn neg (val xs)).natAbs).length = ln at HI
  have hbk := (Blk.new (w.alloc (.cells #[Value.bool neg, Value.slice A xs.length c] 24)) 24 #[Value.bool false, Value.slice none 0 0]).ext hx
  simp only [World.size_alloc] at hbk
  have hc0 : w1.cell? ⟨w.heap.size + 1, 0, none⟩ = some (.bool false) := hbk.cell 0
  have hc1 : w1.cell? ⟨w.heap.size + 1, 1, none⟩ = some (.slice none 0 0) := hbk.cell 1
  have hf0 := hbk.frozen 0
  have hf1 := hbk.frozen 1
  have hz := hbk.lt
  have HX := Lib.hid (hx0.trans hx)
  have HB := Lib.hid hbk
  clear hx hbk hx0
  go_wp2_with fail
  obtain ⟨hr0, hr1⟩ := two_set' HB.out (.bool bb) (.slice A1 ln c1)
  refine bodyPost_ret (v := .tuple #[.agg #[.bool bb, .slice A1 ln c1], .bool true]) (by simp [results, Tryd.results10, go_sem, hr0, hr1]) rfl ?_
  exact ⟨_, rfl, IsInt.stored HB.out HI.out (by simp) HX.out (by omega)⟩
end Big
end Go.Proofs.YtdijknnlldjgmaaDoor
