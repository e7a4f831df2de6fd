import Derived.Test.YtgopljllknbelaaGreatDoorM26
import Derived.Test.YtgopljllknbelaaGreatDoorM10
import Derived.Test.YtgopljllknbelaaGreatDoorM29
import Derived.Test.YtgopljllknbelaaGreatDoorM20
import Derived.Lib.SlicesCompact
import Derived.Test.YtgopljllknbelaaGreatDoorM9
import Derived.Test.YtgopljllknbelaaGreatDoorShelf3
import Derived.Sort.OwnSorted
/- The parts of an expression, counted from the front and from the back. -/
namespace Go.Proofs.YtgopljllknbelaaGreatDoor
namespace Big
theorem getD_pre {α : Type} {L M : List α} {d : α} {k : Nat} (h : k < L.length) : (L ++ M).getD k d = L.getD k d := by
  rw [List.getD_eq_getElem?_getD, List.getD_eq_getElem?_getD, List.getElem?_append_left h]
theorem getD_post {α : Type} {L M : List α} {d : α} {k : Nat} (h : L.length ≤ k) : (L ++ M).getD k d = M.getD (k - L.length) d := by
  rw [List.getD_eq_getElem?_getD, List.getD_eq_getElem?_getD, List.getElem?_append_right h]
theorem ptE_szE (e : Ex) : ∀ off k, k < e.size → ((ptE off e).getD k (0, 0)).1 + (szE e).getD k 0 = off + k + 1 ∧ ((ptE off e).getD k (0, 0)).2 = (dpE e).getD k 0 := by
  induction e with
  | leaf kd t =>
    intro off k hk
    have : k = 0 := by simp [Ex.size] at hk; omega
    subst this
    simp [ptE, szE, dpE]
  | un kd n x ih =>
    intro off k hk
    simp only [Ex.size] at hk
    simp only [ptE, szE, dpE]
    rcases Nat.lt_or_ge k x.size with h | h
    · rw [getD_pre (by rw [ptE_len]; exact h), getD_pre (by rw [szE_len]; exact h), getD_pre (by rw [dpE_len]; exact h)]
      exact ih off k h
    · have hk2 : k = x.size := by omega
      subst hk2
      rw [getD_end (by rw [ptE_len]), getD_post (by rw [szE_len]; exact Nat.le_refl _), getD_post (by rw [dpE_len]; exact Nat.le_refl _), szE_len, dpE_len]
      simp
      omega
  | bin kd x y ihx ihy =>
    intro off k hk
    simp only [Ex.size] at hk
    simp only [ptE, szE, dpE, List.append_assoc]
    rcases Nat.lt_or_ge k x.size with h | h
    · rw [getD_pre (by rw [ptE_len]; exact h), getD_pre (by rw [szE_len]; exact h), getD_pre (by rw [dpE_len]; exact h)]
      exact ihx off k h
    rw [getD_post (L := ptE off x) (by rw [ptE_len]; exact h), getD_post (L := szE x) (by rw [szE_len]; exact h), getD_post (L := dpE x) (by rw [dpE_len]; exact h), ptE_len, szE_len, dpE_len]
    rcases Nat.lt_or_ge (k - x.size) y.size with h2 | h2
    · rw [getD_pre (by rw [ptE_len]; exact h2), getD_pre (by rw [szE_len]; exact h2), getD_pre (by rw [dpE_len]; exact h2)]
      have := ihy (off + x.size) (k - x.size) h2
      exact ⟨by omega, this.2⟩
    · have hk2 : k - x.size = y.size := by omega
      rw [hk2, getD_end (by rw [ptE_len]), getD_post (by rw [szE_len]; exact Nat.le_refl _), getD_post (by rw [dpE_len]; exact Nat.le_refl _), szE_len, dpE_len]
      simp
      omega
end Big
end Go.Proofs.YtgopljllknbelaaGreatDoor
/- Size and Nest of an expression: both sides. -/
namespace Go.Proofs.YtgopljllknbelaaGreatDoor
namespace Big
open Go.RowKit
/-- The number of nodes of the operand that ends at an index; 0 beyond the list. -/
def szAt (e : Ex) (i : Int) : Nat := if 0 ≤ i ∧ i < (e.size : Int) then (szE e).getD i.toNat 0 else 0
theorem prAll_flat {e : Ex} (hg : e.Good) : prAll (flat 0 e) = (ptE 0 e, 1) := by
  have h := prGo_flat e hg.well.1 0 [] [] []
  rw [List.append_nil, hg.well.2] at h
  simp only [Bool.false_eq_true, if_false] at h
  unfold prAll
  rw [h]
  rfl
theorem szAll_flat {e : Ex} (hg : e.Good) : szAll (flat 0 e) = some (szE e, dpE e) := by
  have h := szGo_flat e hg [] [] rfl
  rw [List.length_nil, List.nil_append, List.nil_append] at h
  unfold szAll
  rw [h]
  have hl := szE_last e [] (e.size - 1) (by have := e.size_pos; simp; omega)
  rw [List.nil_append] at hl
  have := e.size_pos
  simp only [flat_len]
  rw [if_neg (by rw [hl]; omega)]
theorem szAt_le {e : Ex} {k : Nat} (hk : k < e.size) : 1 ≤ (szE e).getD k 0 ∧ (szE e).getD k 0 ≤ k + 1 := by
  have h := (ptE_szE e 0 k hk).1
  constructor
  · have key : ∀ e : Ex, ∀ k, k < e.size → 1 ≤ (szE e).getD k 0 := by
      intro e
      induction e with
      | leaf kd t => intro k hk; have : k = 0 := by simp [Ex.size] at hk; omega
                     subst this; simp [szE]
      | un kd n x ih =>
        intro k hk
        simp only [szE]
        rcases Nat.lt_or_ge k x.size with h | h
        · rw [getD_pre (by rw [szE_len]; exact h)]; exact ih k h
        · simp only [Ex.size] at hk
          rw [getD_post (by rw [szE_len]; exact h), szE_len, show k - x.size = 0 by omega]
          simp
      | bin kd x y ihx ihy =>
        intro k hk
        simp only [szE, List.append_assoc]
        rcases Nat.lt_or_ge k x.size with h | h
        · rw [getD_pre (by rw [szE_len]; exact h)]; exact ihx k h
        rw [getD_post (L := szE x) (by rw [szE_len]; exact h), szE_len]
        rcases Nat.lt_or_ge (k - x.size) y.size with h2 | h2
        · rw [getD_pre (by rw [szE_len]; exact h2)]; exact ihy _ h2
        · simp only [Ex.size] at hk
          rw [getD_post (by rw [szE_len]; exact h2), szE_len, show k - x.size - y.size = 0 by omega]
          simp
    exact key e k hk
  · omega
set_option maxRecDepth 100000 in
theorem psizeN_any (w : World) (v : Value) (e : Ex) (i : Int) (hr : RNd w v (flat 0 e)) (hg : e.Good) (hs : e.size ≤ 1000000) (hm : MaxV w) (hi1 : -9223372036854775808 ≤ i) (hi2 : i ≤ 9223372036854775807) :
    Calls Tryz.prog 12 #[v, .int .i64 i] w fun r w' => r = .returned (.int .i64 ((szAt e i : Nat) : Int)) ∧ Ext w w' := by
  have HP := Lib.hid (parts_any w v (flat 0 e) hr (by rw [flat_len]; exact hs) (flat_text e hg 0) hm)
  unfold PartsPost at HP
  rw [prAll_flat hg] at HP
  simp only [ptE_len] at HP
  obtain ⟨A, c, rfl, _⟩ := hr
  by_cases h0 : i < 0
  · have hz : szAt e i = 0 := by unfold szAt; rw [if_neg (by omega)]
    rw [hz]
    clear hg hs hm hi1 hi2 hz
    go_enter Tryz.func12, Tryz.ntmps12
    go_wp2_with fail
    refine HP.out.mono ?_
    rintro r w1 ⟨v1, rfl, hx, hrow⟩
    have HX := Lib.hid hx
    obtain ⟨A4, c4, rfl⟩ := ownsRow_shape hrow
    clear hx hrow
    go_wp2_with fail
    go_ret
    exact ⟨rfl, HX.out⟩
  obtain ⟨k, rfl⟩ := Int.eq_ofNat_of_zero_le (show 0 ≤ i by omega)
  by_cases hk : k < e.size
  · have hz : szAt e (k : Int) = (szE e).getD k 0 := by unfold szAt; rw [if_pos (by omega), Int.toNat_natCast]
    rw [hz]
    have hp := (ptE_szE e 0 k hk).1
    generalize (szE e).getD k 0 = sz at *
    have hki : ¬ (e.size : Int) ≤ (k : Int) := by omega
    have hk0 : (0 : Int) ≤ (k : Int) := by omega
    have hk1 : (k : Int) < (e.size : Int) := by omega
    have HK := Lib.hid hk
    clear hg hm hi1 hi2 hz hk
    go_enter Tryz.func12, Tryz.ntmps12
    go_wp2_with fail
    refine HP.out.mono ?_
    rintro r w1 ⟨v1, rfl, hx, hrow⟩
    have HX := Lib.hid hx
    obtain ⟨g4, c4, he4, _, _⟩ := hrow.form (by omega)
    subst he4
    have hcell := (RowP.get hrow k HK.out).1
    generalize ((ptE 0 e).getD k (0, 0)).1 = fst at *
    have hw1 : IntKind.i64.wrap ((k : Int) - (fst : Int)) = (k : Int) - (fst : Int) := IntWalk.i64_in _ (by omega)
    have hw2 : IntKind.i64.wrap ((k : Int) - (fst : Int) + 1) = (sz : Int) := by rw [IntWalk.i64_in _ (by omega)]; omega
    clear hx hrow hp
    go_wp2_with fail
    go_ret
    exact ⟨rfl, HX.out⟩
  · have hz : szAt e (k : Int) = 0 := by unfold szAt; rw [if_neg (by omega)]
    rw [hz]
    have hki : (e.size : Int) ≤ (k : Int) := by omega
    have hk0 : (0 : Int) ≤ (k : Int) := by omega
    clear hg hs hm hi1 hi2 hz hk
    go_enter Tryz.func12, Tryz.ntmps12
    go_wp2_with fail
    refine HP.out.mono ?_
    rintro r w1 ⟨v1, rfl, hx, hrow⟩
    have HX := Lib.hid hx
    obtain ⟨A4, c4, rfl⟩ := ownsRow_shape hrow
    clear hx hrow
    go_wp2_with fail
    go_ret
    exact ⟨rfl, HX.out⟩
set_option maxRecDepth 100000 in
theorem pnest_any (w : World) (v : Value) (e : Ex) (hr : RNd w v (flat 0 e)) (hg : e.Good) (hs : e.size ≤ 1000000) (hm : MaxV w) :
    Calls Tryz.prog 14 #[v] w fun r w' => r = .returned (.int .i64 (e.depth : Int)) ∧ Ext w w' := by
  have HP := Lib.hid (parts_any w v (flat 0 e) hr (by rw [flat_len]; exact hs) (flat_text e hg 0) hm)
  unfold PartsPost at HP
  rw [prAll_flat hg] at HP
  simp only [ptE_len] at HP
  have hl := ptE_last e 0
  obtain ⟨A, c, rfl, _⟩ := hr
  rw [flat_len] at HP ⊢
  have hp := e.size_pos
  have hne : ((e.size : Int) == 0) = false := by rw [beq_eq_false_iff_ne]; omega
  obtain ⟨y, hy⟩ : ∃ y : Int, y = (e.size : Int) - 1 := ⟨_, rfl⟩
  have hj : y.toNat = e.size - 1 := by omega
  have hw : IntKind.i64.wrap ((e.size : Int) - 1) = y := by rw [IntWalk.i64_in _ (by omega), hy]
  have hq0 : (0 : Int) ≤ y := by omega
  have hq1 : y < (e.size : Int) := by omega
  have HPL := Lib.hid hp
  clear hg hm
  go_enter Tryz.func14, Tryz.ntmps14
  go_wp2_with fail
  refine HP.out.mono ?_
  rintro r w1 ⟨v1, rfl, hx, hrow⟩
  have HX := Lib.hid hx
  obtain ⟨g4, c4, he4, _, _⟩ := hrow.form (by omega)
  subst he4
  have hcell := (RowP.get hrow y.toNat (by omega)).2
  rw [hj, hl, ← hj] at hcell
  clear hx hrow hl hj hy hp
  go_wp2_with fail
  go_ret
  exact ⟨rfl, HX.out⟩
set_option maxRecDepth 100000 in
theorem rsizeN_any (w : World) (v : Value) (e : Ex) (i : Int) (hr : RNd w v (flat 0 e)) (hg : e.Good) (hs : e.size ≤ 1000000) (hi1 : -9223372036854775808 ≤ i) (hi2 : i ≤ 9223372036854775807) :
    Calls Tryz.prog 13 #[v, .int .i64 i] w fun r w' => r = .returned (.int .i64 ((szAt e i : Nat) : Int)) ∧ Ext w w' := by
  have HS := Lib.hid (sizes_any w v (flat 0 e) hr (by rw [flat_len]; exact hs) (flat_text e hg 0))
  unfold SizesPost at HS
  rw [szAll_flat hg] at HS
  obtain ⟨A, c, rfl, _⟩ := hr
  rw [flat_len] at HS ⊢
  clear hg
  by_cases h0 : i < 0
  · have hz : szAt e i = 0 := by unfold szAt; rw [if_neg (by omega)]
    rw [hz]
    clear hs hi1 hi2 hz
    go_enter Tryz.func13, Tryz.ntmps13
    go_wp2_with fail
    refine HS.out.mono ?_
    rintro r w1 ⟨v1, v2, rfl, hx, ⟨h, _⟩ | ⟨S, D, h, h1, h2, h3, h4⟩⟩
    · cases h
    have HX := Lib.hid hx
    obtain ⟨A4, c4, rfl, _⟩ := h3.open
    obtain ⟨A5, c5, rfl, _⟩ := h4.open
    clear hx h h1 h2 h3 h4
    go_wp2_with fail
    go_ret
    exact ⟨rfl, HX.out⟩
  obtain ⟨k, rfl⟩ := Int.eq_ofNat_of_zero_le (show 0 ≤ i by omega)
  go_enter Tryz.func13, Tryz.ntmps13
  go_wp2_with fail
  refine HS.out.mono ?_
  rintro r w1 ⟨v1, v2, rfl, hx, ⟨h, _⟩ | ⟨S, D, h, h1, h2, h3, h4⟩⟩
  · cases h
  injection h with h
  injection h with hS hD
  subst hS
  subst hD
  have HX := Lib.hid hx
  obtain ⟨A4, c4, rfl, hc4⟩ := h3.open
  obtain ⟨A5, c5, rfl, _⟩ := h4.open
  have hsl := szE_len e
  rw [hsl] at hc4
  rw [hsl]
  have hk0 : (0 : Int) ≤ (k : Int) := by omega
  by_cases hk : k < e.size
  · have hz : szAt e (k : Int) = (szE e).getD k 0 := by unfold szAt; rw [if_pos (by omega), Int.toNat_natCast]
    obtain ⟨g4, o4, rfl, _, hc⟩ := hc4 (by omega)
    have hcell := hc k hk
    have HZ := Lib.hid hz
    have hki : (k : Int) < (e.size : Int) := by omega
    have hkj : ¬ (e.size : Int) ≤ (k : Int) := by omega
    generalize (szE e).getD k 0 = sz at *
    clear hx h1 h2 h3 h4 hc4 hc hz hk hsl
    go_wp2_with fail
    go_ret
    exact ⟨by rw [HZ.out]; rfl, HX.out⟩
  · have hz : szAt e (k : Int) = 0 := by unfold szAt; rw [if_neg (by omega)]
    have HZ := Lib.hid hz
    have hki : (e.size : Int) ≤ (k : Int) := by omega
    clear hx h1 h2 h3 h4 hc4 hz hk hsl
    go_wp2_with fail
    go_ret
    exact ⟨by rw [HZ.out]; rfl, HX.out⟩
set_option maxRecDepth 100000 in
theorem rnest_any (w : World) (v : Value) (e : Ex) (hr : RNd w v (flat 0 e)) (hg : e.Good) (hs : e.size ≤ 1000000) :
    Calls Tryz.prog 15 #[v] w fun r w' => r = .returned (.int .i64 (e.depth : Int)) ∧ Ext w w' := by
  have HS := Lib.hid (sizes_any w v (flat 0 e) hr (by rw [flat_len]; exact hs) (flat_text e hg 0))
  unfold SizesPost at HS
  rw [szAll_flat hg] at HS
  obtain ⟨A, c, rfl, _⟩ := hr
  rw [flat_len] at HS ⊢
  have hp := e.size_pos
  have hl := dpE_last e [] (e.size - 1) (by simp; omega)
  rw [List.nil_append] at hl
  clear hg
  go_enter Tryz.func15, Tryz.ntmps15
  go_wp2_with fail
  refine HS.out.mono ?_
  rintro r w1 ⟨v1, v2, rfl, hx, ⟨h, _⟩ | ⟨S, D, h, h1, h2, h3, h4⟩⟩
  · cases h
  injection h with h
  injection h with hS hD
  subst hS
  subst hD
  have HX := Lib.hid hx
  obtain ⟨A4, c4, rfl, _⟩ := h3.open
  obtain ⟨A5, c5, rfl, hc5⟩ := h4.open
  have hdl := dpE_len e
  rw [hdl] at hc5
  rw [hdl]
  obtain ⟨g5, o5, rfl, _, hc⟩ := hc5 (by omega)
  obtain ⟨y, hy⟩ : ∃ y : Int, y = (e.size : Int) - 1 := ⟨_, rfl⟩
  have hj : y.toNat = e.size - 1 := by omega
  have hcell := hc y.toNat (by omega)
  rw [hj, hl, ← hj] at hcell
  have hw : IntKind.i64.wrap ((e.size : Int) - 1) = y := by rw [IntWalk.i64_in _ (by omega), hy]
  have hq0 : (0 : Int) ≤ y := by omega
  have hq1 : y < (e.size : Int) := by omega
  have hne : ((e.size : Int) == 0) = false := by rw [beq_eq_false_iff_ne]; omega
  clear hx h1 h2 h3 h4 hc5 hc hdl hl hj hy hp
  go_wp2_with fail
  go_ret
  exact ⟨rfl, HX.out⟩
end Big
end Go.Proofs.YtgopljllknbelaaGreatDoor
/- Texts in order, each once: put in one after the other, or sorted and then made compact. -/
namespace Go.Proofs.YtgopljllknbelaaGreatDoor
namespace Big
/-- Texts. -/
abbrev Tx := List UInt8
theorem tx_irrefl (a : Tx) : ¬ a < a := List.lt_irrefl a
theorem tx_trans {a b c : Tx} (h : a < b) (h' : b < c) : a < c := List.lt_trans h h'
theorem tx_asymm {a b : Tx} (h : a < b) : ¬ b < a := fun h' => tx_irrefl a (tx_trans h h')
theorem tx_lt_of_le_ne {a b : Tx} (h : a ≤ b) (hne : a ≠ b) : a < b := by
  rcases Decidable.em (a < b) with h1 | h1
  · exact h1
  · exact absurd (List.le_antisymm h (List.not_lt.1 h1)) hne
theorem tx_lt_of_le_of_lt {a b c : Tx} (h : a ≤ b) (h' : b < c) : a < c := by
  rcases Decidable.em (a = b) with rfl | h1
  · exact h'
  · exact tx_trans (tx_lt_of_le_ne h h1) h'
/-- In order, each once. -/
def Asc (l : List Tx) : Prop := l.Pairwise (· < ·)
theorem asc_uniq : ∀ {l m : List Tx}, Asc l → Asc m → (∀ x, x ∈ l ↔ x ∈ m) → l = m
  | [], [], _, _, _ => rfl
  | [], y :: m, _, _, h => absurd ((h y).2 (by simp)) (by simp)
  | x :: l, [], _, _, h => absurd ((h x).1 (by simp)) (by simp)
  | x :: l, y :: m, hl, hm, h => by
    unfold Asc at hl hm
    rw [List.pairwise_cons] at hl hm
    have e : x = y := by
      rcases List.mem_cons.1 ((h x).1 (by simp)) with e | e
      · exact e
      · rcases List.mem_cons.1 ((h y).2 (by simp)) with e' | e'
        · exact e'.symm
        · exact absurd (hm.1 x e) (tx_asymm (hl.1 y e'))
    subst e
    refine congrArg (x :: ·) (asc_uniq hl.2 hm.2 fun z => ⟨fun hz => ?_, fun hz => ?_⟩)
    · rcases List.mem_cons.1 ((h z).1 (List.mem_cons_of_mem _ hz)) with e | e
      · exact absurd (hl.1 z hz) (by rw [e]; exact tx_irrefl x)
      · exact e
    · rcases List.mem_cons.1 ((h z).2 (List.mem_cons_of_mem _ hz)) with e | e
      · exact absurd (hm.1 z hz) (by rw [e]; exact tx_irrefl x)
      · exact e
/-- A text put in its place, if it is not there yet. -/
def insS (s : Tx) : List Tx → List Tx
  | [] => [s]
  | x :: xs => if x < s then x :: insS s xs else if x = s then x :: xs else s :: x :: xs
theorem mem_insS {s z : Tx} : ∀ {l : List Tx}, z ∈ insS s l ↔ z = s ∨ z ∈ l
  | [] => by simp [insS]
  | x :: xs => by
    unfold insS
    split
    · rw [List.mem_cons, mem_insS, List.mem_cons]
      constructor
      · rintro (h | h | h) <;> simp [h]
      · rintro (h | h | h) <;> simp [h]
    · split
      · rename_i h
        subst h
        constructor
        · intro h; exact .inr h
        · rintro (h | h)
          · rw [h]; simp
          · exact h
      · simp [List.mem_cons]
theorem asc_insS {s : Tx} : ∀ {l : List Tx}, Asc l → Asc (insS s l)
  | [], _ => by simp [insS, Asc]
  | x :: xs, h => by
    unfold Asc at h
    rw [List.pairwise_cons] at h
    unfold insS
    split
    · rename_i hx
      unfold Asc
      rw [List.pairwise_cons]
      refine ⟨fun z hz => ?_, asc_insS h.2⟩
      rcases mem_insS.1 hz with rfl | hz
      · exact hx
      · exact h.1 z hz
    · split
      · unfold Asc
        rw [List.pairwise_cons]
        exact h
      · rename_i h1 h2
        have hlt : s < x := tx_lt_of_le_ne (List.not_lt.1 h1) (fun e => h2 e.symm)
        unfold Asc
        rw [List.pairwise_cons, List.pairwise_cons]
        refine ⟨fun z hz => ?_, h⟩
        rcases List.mem_cons.1 hz with rfl | hz
        · exact hlt
        · exact tx_trans hlt (h.1 z hz)
/-- Texts in order, each once, put in one after the other. -/
def sortS (l : List Tx) : List Tx := l.foldl (fun out s => insS s out) []
theorem foldl_ins {l : List Tx} : ∀ {out : List Tx}, Asc out → Asc (l.foldl (fun out s => insS s out) out) ∧ ∀ z, z ∈ l.foldl (fun out s => insS s out) out ↔ z ∈ l ∨ z ∈ out := by
  induction l with
  | nil => intro out h; exact ⟨h, fun z => by simp⟩
  | cons x l ih =>
    intro out h
    obtain ⟨h1, h2⟩ := ih (asc_insS (s := x) h)
    refine ⟨h1, fun z => ?_⟩
    rw [List.foldl_cons, h2, mem_insS, List.mem_cons]
    constructor
    · rintro (h | h | h) <;> simp [h]
    · rintro ((h | h) | h) <;> simp [h]
theorem asc_sortS (l : List Tx) : Asc (sortS l) := (foldl_ins (l := l) (out := []) (by simp [Asc])).1
theorem mem_sortS {l : List Tx} {z : Tx} : z ∈ sortS l ↔ z ∈ l := by
  have := (foldl_ins (l := l) (out := []) (by simp [Asc])).2 z
  unfold sortS
  simpa using this
open Go.Lib in
theorem mem_compact {l : List Tx} (_hs : l.Pairwise (· ≤ ·)) {z : Tx} : z ∈ compact l ↔ z ∈ l := by
  unfold compact compactUpTo
  rw [List.mem_map]
  constructor
  · rintro ⟨j, hj, rfl⟩
    have hj2 := List.mem_range.1 (List.mem_filter.1 hj).1
    have : l.toArray[j]! = l[j] := by simp [hj2]
    rw [this]
    exact List.getElem_mem hj2
  · intro hz
    obtain ⟨j, hj, rfl⟩ := List.getElem_of_mem hz
    -- the first place with this text
    have key : ∀ n, ∀ j (hj : j < l.length), j ≤ n → ∃ i, i ∈ (List.range l.length).filter (keeps l.toArray) ∧ l.toArray[i]! = l[j] := by
      intro n
      induction n with
      | zero =>
        intro j hj hn
        have h0 : j = 0 := by omega
        subst h0
        exact ⟨0, List.mem_filter.2 ⟨List.mem_range.2 hj, keeps_lt_one _ 0 (by omega)⟩, by simp [hj]⟩
      | succ n ih =>
        intro j hj hn
        by_cases hk : keeps l.toArray j = true
        · exact ⟨j, List.mem_filter.2 ⟨List.mem_range.2 hj, hk⟩, by simp [hj]⟩
        · have hk2 : ¬ (j = 0 ∨ l.toArray[j]! ≠ l.toArray[j - 1]!) := fun h => hk (decide_eq_true h)
          have hj0 : j ≠ 0 := fun e => hk2 (.inl e)
          have he : l.toArray[j]! = l.toArray[j - 1]! := Decidable.byContradiction fun e => hk2 (.inr e)
          obtain ⟨i, hi, hv⟩ := ih (j - 1) (by omega) (by omega)
          refine ⟨i, hi, ?_⟩
          rw [hv]
          have a1 : l.toArray[j]! = l[j] := by simp [hj]
          have a2 : l.toArray[j - 1]! = l[j - 1] := by simp [show j - 1 < l.length by omega]
          rw [← a1, he, a2]
    exact key j j hj (Nat.le_refl _)
open Go.Lib in
theorem asc_compact {l : List Tx} (hs : l.Pairwise (· ≤ ·)) : Asc (compact l) := by
  unfold compact compactUpTo Asc
  rw [List.pairwise_map]
  refine List.Pairwise.imp_of_mem ?_ ((List.pairwise_lt_range (n := l.length)).filter _)
  intro i j hi hj hlt
  have hi2 := List.mem_range.1 (List.mem_filter.1 hi).1
  have hj2 := List.mem_range.1 (List.mem_filter.1 hj).1
  have hk := of_decide_eq_true (List.mem_filter.1 hj).2
  have hne : l.toArray[j]! ≠ l.toArray[j - 1]! := by
    rcases hk with h | h
    · omega
    · exact h
  have b0 : l.toArray[i]! = l[i] := by simp [hi2]
  have b1 : l.toArray[j]! = l[j] := by simp [hj2]
  have b2 : l.toArray[j - 1]! = l[j - 1] := by simp [show j - 1 < l.length by omega]
  rw [b1, b2] at hne
  rw [b0, b1]
  have hle : l[i] ≤ l[j - 1] := by
    rcases Nat.lt_or_ge i (j - 1) with h | h
    · exact List.pairwise_iff_getElem.1 hs i (j - 1) hi2 (by omega) h
    · have : i = j - 1 := by omega
      subst this
      exact List.le_refl _
  have hle2 : l[j - 1] ≤ l[j] := List.pairwise_iff_getElem.1 hs (j - 1) j (by omega) hj2 (by omega)
  exact tx_lt_of_le_of_lt hle (tx_lt_of_le_ne hle2 (fun e => hne e.symm))
theorem sorted_merge (l : List Tx) : (l.mergeSort fun x y => decide (x ≤ y)).Pairwise (· ≤ ·) := by
  have := List.pairwise_mergeSort (le := fun x y : Tx => decide (x ≤ y)) (fun a b c h1 h2 => decide_eq_true (List.le_trans (of_decide_eq_true h1) (of_decide_eq_true h2))) (fun a b => by
    rcases List.le_total a b with h | h
    · simp [h]
    · simp [h]) l
  exact this.imp fun h => of_decide_eq_true h
/-- Both ways give the same list. -/
theorem compact_sort (l : List Tx) : Go.Lib.compact (l.mergeSort fun x y => decide (x ≤ y)) = sortS l :=
  asc_uniq (asc_compact (sorted_merge l)) (asc_sortS l) fun z => by
    rw [mem_compact (sorted_merge l), mem_sortS, List.mem_mergeSort]
end Big
end Go.Proofs.YtgopljllknbelaaGreatDoor
/- Texts that the call has made itself, sorted and made compact by the library. -/
namespace Go.Proofs.YtgopljllknbelaaGreatDoor
namespace Big
open Go.RowKit
theorem encStr_str (l : List UInt8) : encStr l = str l := rfl
theorem map_enc (ls : List (List UInt8)) : ls.map encStr = ls.map str := rfl
theorem Below.of_sorted {B g n : Nat} {w : World} {os : Array Obj} (d : Array (List UInt8)) (hB : B ≤ g) (hs : B ≤ w.heap.size) : Below B w (Go.Sort.grow (Go.Sort.putRow encStr (Go.Sort.ahead w n) g 0 d) os) :=
  (Below.refl B w).grown (Go.grownBy_sorted d) hs (fun k hk => by injection hk with hk; omega)
theorem sortS_any (B : Nat) (w : World) (v : Value) (ls : List (List UInt8)) (h : OwnS B w v ls) (hB : B ≤ w.heap.size) (hl : ls.length ≤ 1073741824) :
    Calls Tryz.prog 32 #[v] w fun e w' => e = .returned (.tuple #[]) ∧ OwnS B w' v (ls.mergeSort fun x y => decide (x ≤ y)) ∧ Below B w w' := by
  obtain ⟨A, c, rfl, h2, h3, h4⟩ := h
  rw [List.length_map] at h2 ⊢
  rcases Nat.eq_zero_or_pos ls.length with h0 | h0
  · have := List.eq_nil_of_length_eq_zero h0
    subst this
    refine (Tryz.slices_Sort_string_none A c w).mono ?_
    rintro e w' ⟨rfl, hw⟩
    subst hw
    refine ⟨rfl, ⟨A, c, by simp, by simp, h3, ?_⟩, Below.refl _ _⟩
    rcases h4 with ⟨_, h4⟩ | ⟨g, cur, hA, hg, hb, hs, ht⟩
    · exact .inl ⟨by simp, h4⟩
    · exact .inr ⟨g, cur, hA, hg, hb, hs, by simp⟩
  · rcases h4 with ⟨h4, _⟩ | ⟨g, cur, rfl, hg, hb, hs, ht⟩
    · rw [List.map_eq_nil_iff] at h4
      subst h4
      simp at h0
    · rw [List.length_map] at ht
      refine (Tryz.slices_Sort_string g 0 c ls w (Go.holds_of_block hb ht) hb.lt (by omega)).mono ?_
      rintro e w' ⟨rfl, n, os, rfl⟩
      have hl2 : (ls.mergeSort fun x y => decide (x ≤ y)).length = ls.length := List.length_mergeSort _
      refine ⟨rfl, ⟨some ⟨g, 0, none⟩, c, by rw [List.length_map, hl2], by rw [List.length_map, hl2]; exact h2, h3, .inr ⟨g, _, rfl, hg, Go.heap_sorted _ hb, by simp [Go.Sort.putCells, hs], ?_⟩⟩, Below.of_sorted _ hg hB⟩
      rw [List.length_map]
      exact Go.take_putCells cur _ (by omega)
theorem compactS_any (B : Nat) (w : World) (v : Value) (ls : List (List UInt8)) (h : OwnS B w v ls) (hB : B ≤ w.heap.size) (hl : ls.length ≤ 1073741824) :
    Calls Tryz.prog 33 #[v] w fun e w' => ∃ v', e = .returned v' ∧ OwnS B w' v' (Go.Lib.compact ls) ∧ Below B w w' := by
  obtain ⟨A, c, rfl, h2, h3, h4⟩ := h
  rw [List.length_map] at h2 ⊢
  rcases Nat.eq_zero_or_pos ls.length with h0 | h0
  · have := List.eq_nil_of_length_eq_zero h0
    subst this
    refine (Tryz.slices_Compact_string_empty A c w).mono ?_
    rintro e w' ⟨rfl, hw⟩
    subst hw
    refine ⟨_, rfl, ⟨A, c, by simp [Go.Lib.compact, Go.Lib.compactUpTo], by simp [Go.Lib.compact, Go.Lib.compactUpTo], h3, ?_⟩, Below.refl _ _⟩
    rcases h4 with ⟨_, h4⟩ | ⟨g, cur, hA, hg, hb, hs, ht⟩
    · exact .inl ⟨by simp [Go.Lib.compact, Go.Lib.compactUpTo], h4⟩
    · exact .inr ⟨g, cur, hA, hg, hb, hs, by simp [Go.Lib.compact, Go.Lib.compactUpTo]⟩
  · rcases h4 with ⟨h4, _⟩ | ⟨g, cur, rfl, hg, hb, hs, ht⟩
    · rw [List.map_eq_nil_iff] at h4
      subst h4
      simp at h0
    · rw [List.length_map] at ht
      refine (Tryz.slices_Compact_string g 0 c ls w (Go.holds_of_block hb ht) (by omega) h2).mono ?_
      rintro e w' ⟨rfl, n, rfl⟩
      have hcl : (Go.Lib.compact ls).length ≤ ls.length := by
        unfold Go.Lib.compact Go.Lib.compactUpTo
        rw [List.length_map]
        exact Nat.le_trans (List.length_filter_le _ _) (by simp)
      have hgb := Go.heap_sorted (n := n) (os := #[]) (Go.Lib.compact ls ++ List.replicate (ls.length - (Go.Lib.compact ls).length) []).toArray hb
      rw [Go.Sort.grow_empty] at hgb
      have hbe := Below.of_sorted (n := n) (os := #[]) (Go.Lib.compact ls ++ List.replicate (ls.length - (Go.Lib.compact ls).length) []).toArray hg hB
      rw [Go.Sort.grow_empty] at hbe
      refine ⟨_, rfl, ⟨some ⟨g, 0, none⟩, c, by rw [List.length_map], by rw [List.length_map]; omega, h3, .inr ⟨g, _, rfl, hg, hgb, by simp [Go.Sort.putCells, hs], ?_⟩⟩, hbe⟩
      rw [List.length_map]
      have h5 := Go.take_putCells cur (Go.Lib.compact ls ++ List.replicate (ls.length - (Go.Lib.compact ls).length) []) (by simp; omega)
      have h6 := congrArg (List.take (Go.Lib.compact ls).length) h5
      rw [List.take_take, Nat.min_eq_left (by simp)] at h6
      rw [h6, List.map_append, List.take_left' (by simp)]
      rfl
/-- The names in a list of nodes. -/
def namesOf (l : List Nd) : List (List UInt8) := (l.filter fun x => x.kind == 2).map Nd.text
theorem namesOf_len (l : List Nd) : (namesOf l).length ≤ l.length := by
  unfold namesOf
  rw [List.length_map]
  exact List.length_filter_le _ _
theorem namesOf_take {l : List Nd} {k : Nat} (h : k < l.length) : namesOf (l.take (k + 1)) = namesOf (l.take k) ++ (if l[k].kind = 2 then [l[k].text] else []) := by
  unfold namesOf
  rw [List.take_succ_eq_append_getElem h, List.filter_append, List.map_append]
  congr 1
  by_cases hk : l[k].kind = 2
  · simp [hk]
  · simp [hk]
end Big
end Go.Proofs.YtgopljllknbelaaGreatDoor
