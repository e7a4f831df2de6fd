import Derived.Test.YtplmldkfgeiklaaGreatDoorM19
import Derived.Test.YtplmldkfgeiklaaGreatDoorM14
import Derived.Deep.RegionLaw
/- Which lists are naturals, integers, fractions: both sides. -/
namespace Go.Proofs.YtplmldkfgeiklaaGreatDoor
namespace Big
open Go.RowKit
/-- No zero digit at the top. -/
def trimB (xs : List Nat) : Bool := decide (size xs = xs.length)
/-- A valid integer of a sign and a list. -/
def validI (b : Bool) (xs : List Nat) : Bool := trimB xs && (decide (0 < xs.length) || !b)
/-- A valid fraction of a sign and two lists. -/
def validR (b : Bool) (xs ys : List Nat) : Bool := validI b xs && (trimB ys && (decide (0 < ys.length) && Nat.gcd (val xs) (val ys) == 1))
theorem trim_nil {xs : List Nat} (h : xs.length = 0) : trimB xs = true := by
  rw [List.length_eq_zero_iff] at h
  subst h
  rfl
theorem trim_last {xs : List Nat} {k : Nat} (h : xs.length = k + 1) : trimB xs = decide (xs.getD k 0 ≠ 0) := by
  unfold trimB
  by_cases h0 : xs.getD k 0 = 0
  · rw [decide_eq_false (p := xs.getD k 0 ≠ 0) (fun h => h h0)]
    refine decide_eq_false fun hs => ?_
    have hlt : size xs ≤ k := by
      rcases Nat.lt_or_ge k (size xs) with hl | hl
      · exfalso
        have h1 : (xs.take (size xs)).getD k 0 = 0 := by
          rw [hs, List.take_of_length_le (Nat.le_refl _)]; exact h0
        have h2 : size xs = k + 1 := by omega
        have key : ∀ (l : List Nat) (n : Nat), l.length = n + 1 → l.getD n 0 = 0 → size l ≤ n := by
          intro l
          induction l with
          | nil => intro n hn; simp at hn
          | cons x l ih =>
            intro n hn hz
            cases n with
            | zero =>
              have : l = [] := by rw [← List.length_eq_zero_iff]; simpa using hn
              subst this
              simp only [List.getD_cons_zero] at hz
              subst hz
              simp [size]
            | succ m =>
              have h3 := ih m (by simpa using hn) (by simpa using hz)
              have h4 : size (x :: l) ≤ size l + 1 := by
                show (if size l = 0 then (if x = 0 then 0 else 1) else size l + 1) ≤ _
                split <;> (try split) <;> omega
              omega
        have := key xs k h h0
        omega
      · exact hl
    omega
  · rw [decide_eq_true (p := xs.getD k 0 ≠ 0) h0]
    refine decide_eq_true ?_
    rw [h]
    refine size_top xs (k + 1) (by omega) (fun i hi => ?_) (fun _ => ?_)
    · exact getD_ge xs i (by omega)
    · simpa using h0
theorem trim_limbs {xs : List Nat} (hok : Ok xs) (h : trimB xs = true) : limbs (val xs) = xs := by
  rw [← take_size hok, of_decide_eq_true h, List.take_of_length_le (Nat.le_refl _)]
theorem limbs_trim (n : Nat) : trimB (limbs n) = true := by
  refine decide_eq_true ?_
  rw [size_eq (ok_limbs n), val_limbs]
theorem valid_low {p : Int} {q : Nat} (h : Low p q) : validR (decide (p < 0)) (limbs p.natAbs) (limbs q) = true := by
  unfold validR validI
  rw [limbs_trim, limbs_trim, val_limbs, val_limbs, beq_iff_eq.2 h.2]
  have hq : 0 < (limbs q).length := by rw [List.length_pos_iff]; intro e; rw [limbs_eq_nil] at e; have := h.1; omega
  rw [decide_eq_true hq]
  rcases Int.lt_or_le p 0 with hp | hp
  · have : 0 < (limbs p.natAbs).length := by rw [List.length_pos_iff]; intro e; rw [limbs_eq_nil] at e; omega
    rw [decide_eq_true this]
    rfl
  · rw [decide_eq_false (p := p < 0) (by omega)]
    cases decide (0 < (limbs p.natAbs).length) <;> rfl
set_option maxRecDepth 100000 in
theorem nvalid_any (w : World) (v : Value) (xs : List Nat) (h : Arr w v xs) :
    Calls Tryz.prog 90 #[v] w fun e w' => e = .returned (.bool (trimB xs)) ∧ w = w' := by
  have HS := Lib.hid (size_any w v xs h)
  obtain ⟨_, A, c, rfl, _, _, _⟩ := h.open
  have hb : ((size xs : Int) == (xs.length : Int)) = trimB xs := by
    unfold trimB
    rw [Bool.eq_iff_iff, beq_iff_eq, decide_eq_true_iff]
    omega
  clear h
  generalize trimB xs = tb at *
  generalize size xs = sz at *
  generalize xs.length = L at *
  go_enter Tryz.func90, Tryz.ntmps90
  go_wp2_with fail
  refine HS.out.mono ?_
  rintro e w' ⟨rfl, rfl⟩
  go_wp2_with fail
  go_ret
  exact ⟨rfl, rfl⟩
set_option maxRecDepth 100000 in
theorem rvalid1_any (w : World) (v : Value) (xs : List Nat) (h : Arr w v xs) (hn : xs.length ≤ 1000000) :
    Calls Tryz.prog 93 #[v] w fun e w' => e = .returned (.bool (trimB xs)) ∧ w = w' := by
  obtain ⟨hok, A, c, rfl, _, _, hcell⟩ := h.open
  rcases Nat.eq_zero_or_pos xs.length with h0 | h0
  · rw [trim_nil h0, h0]
    clear hcell h h0 hok hn
    go_enter Tryz.func93, Tryz.ntmps93
    go_wp2_with fail
    go_ret
    exact ⟨rfl, rfl⟩
  · obtain ⟨k, hk⟩ : ∃ k, xs.length = k + 1 := ⟨xs.length - 1, by omega⟩
    rw [trim_last hk]
    obtain ⟨b, o, rfl, _, hcell⟩ := hcell h0
    have hx := hcell k (by omega)
    have hxm := hok.get k
    have hle : k ≤ 1000000 := by omega
    have hn0 : (((k : Int) + 1) == 0) = false := by rw [beq_eq_false_iff_ne]; omega
    rw [hk]
    clear hcell h h0 hok hk hn
    simp only [d32] at hx
    obtain ⟨y, hy⟩ : ∃ y, xs.getD k 0 = y := ⟨_, rfl⟩
    rw [hy] at hx hxm ⊢
    clear hy
    have hyb : ((y : Int) != 0) = decide (y ≠ 0) := by
      rw [Bool.eq_iff_iff, bne_iff_ne, decide_eq_true_iff]
      omega
    generalize decide (y ≠ 0) = yb at *
    go_enter Tryz.func93, Tryz.ntmps93
    go_wp2_with fail
    go_ret
    exact ⟨rfl, rfl⟩
end Big
end Go.Proofs.YtplmldkfgeiklaaGreatDoor
/- Which integers and fractions are valid: both sides. Printed by a program. -/
namespace Go.Proofs.YtplmldkfgeiklaaGreatDoor
namespace Big
open Go.RowKit
set_option maxRecDepth 100000 in
theorem ivalid_any (w : World) (b : Bool) (m : Value) (xs : List Nat) (h : Arr w m xs) (hn : xs.length ≤ 1000000) :
    Calls Tryz.prog 89 #[.agg #[.bool b, m]] w fun e w' => e = .returned (.bool (validI b xs)) ∧ Ext w w' := by
  have HV := Lib.hid (fun W (hx : Ext w W) => nvalid_any W m xs (h.ext hx))
  obtain ⟨_, A, c, rfl, _, _, _⟩ := h.open
  unfold validI
  clear h hn
  generalize trimB xs = tb at *
  generalize xs.length = L at *
  have HX := Lib.hid (Ext.alloc (Ext.refl w) (.cells #[Value.bool b, Value.slice A L c] 24))
  rcases Nat.eq_zero_or_pos L with hL | hL
  · subst hL
    cases tb <;> cases b
    all_goals go_enter Tryz.func89, Tryz.ntmps89
    all_goals go_wp2_with fail
    all_goals (refine (HV.out _ HX.out).mono ?_; rintro e w' ⟨rfl, rfl⟩)
    all_goals go_wp2_with fail
    all_goals go_ret
    all_goals exact ⟨rfl, HX.out⟩
  · rw [decide_eq_true hL]
    have hLi : (0 : Int) < (L : Int) := by omega
    cases tb <;> cases b
    all_goals go_enter Tryz.func89, Tryz.ntmps89
    all_goals go_wp2_with fail
    all_goals (refine (HV.out _ HX.out).mono ?_; rintro e w' ⟨rfl, rfl⟩)
    all_goals go_wp2_with fail
    all_goals go_ret
    all_goals exact ⟨rfl, HX.out⟩
set_option maxRecDepth 100000 in
theorem rvalid5_any (w : World) (b : Bool) (m : Value) (xs : List Nat) (h : Arr w m xs) (hn : xs.length ≤ 1000000) :
    Calls Tryz.prog 92 #[.agg #[.bool b, m]] w fun e w' => e = .returned (.bool (validI b xs)) ∧ Ext w w' := by
  have HV := Lib.hid (fun W (hx : Ext w W) => rvalid1_any W m xs (h.ext hx) hn)
  obtain ⟨_, A, c, rfl, _, _, _⟩ := h.open
  unfold validI
  clear h hn
  generalize trimB xs = tb at *
  generalize xs.length = L at *
  have HX := Lib.hid (Ext.alloc (Ext.refl w) (.cells #[Value.bool b, Value.slice A L c] 24))
  rcases Nat.eq_zero_or_pos L with hL | hL
  · subst hL
    cases tb <;> cases b
    all_goals go_enter Tryz.func92, Tryz.ntmps92
    all_goals go_wp2_with fail
    all_goals (refine (HV.out _ HX.out).mono ?_; rintro e w' ⟨rfl, rfl⟩)
    all_goals go_wp2_with fail
    all_goals go_ret
    all_goals exact ⟨rfl, HX.out⟩
  · rw [decide_eq_true hL]
    have hLi : (0 : Int) < (L : Int) := by omega
    cases tb <;> cases b
    all_goals go_enter Tryz.func92, Tryz.ntmps92
    all_goals go_wp2_with fail
    all_goals (refine (HV.out _ HX.out).mono ?_; rintro e w' ⟨rfl, rfl⟩)
    all_goals go_wp2_with fail
    all_goals go_ret
    all_goals exact ⟨rfl, HX.out⟩
set_option maxRecDepth 100000 in
theorem pvalidR_any (w : World) (b : Bool) (m u : Value) (xs ys : List Nat) (h : Arr w m xs) (h' : Arr w u ys) (hn : xs.length ≤ 1000000) (hn' : ys.length ≤ 1000000) :
    Calls Tryz.prog 32 #[.agg #[.bool b, m, u]] w fun e w' => e = .returned (.bool (validR b xs ys)) ∧ Ext w w' := by
  have HI := Lib.hid (fun W (hx : Ext w W) => ivalid_any W b m xs (h.ext hx) hn)
  have HV := Lib.hid (fun W (hx : Ext w W) => nvalid_any W u ys (h'.ext hx))
  have HG := Lib.hid (fun W (hx : Ext w W) => gcd_any W m u xs ys (h.ext hx) (h'.ext hx) (by omega) (by omega))
  obtain ⟨_, A0, c0, rfl, _, _, _⟩ := h.open
  obtain ⟨_, A1, c1, rfl, _, _, _⟩ := h'.open
  unfold validR
  clear h h' hn hn'
  generalize Nat.gcd (val xs) (val ys) = G at *
  obtain ⟨gb, hgb0⟩ : ∃ gb, (G == 1) = gb := ⟨_, rfl⟩
  rw [hgb0]
  have HGB := Lib.hid hgb0
  clear hgb0
  generalize validI b xs = t1 at *
  generalize trimB ys = t2 at *
  generalize xs.length = L0 at *
  generalize ys.length = L1 at *
  obtain ⟨dl, hdl⟩ : ∃ dl, decide (0 < L1) = dl := ⟨_, rfl⟩
  rw [hdl]
  have HDL := Lib.hid hdl
  clear hdl
  cases t1
  · go_enter Tryz.func32, Tryz.ntmps32
    go_wp2_with fail
    have hb0 := Blk.new w 26 #[Value.bool b, Value.slice A0 L0 c0, Value.slice A1 L1 c1]
    have HX := Lib.hid (Ext.alloc (Ext.refl w) (.cells #[Value.bool b, Value.slice A0 L0 c0, Value.slice A1 L1 c1] 26))
    refine (HI.out _ HX.out).mono ?_
    rintro e w1 ⟨rfl, hx1⟩
    have HX := Lib.hid (HX.out.trans hx1)
    go_wp2_with fail
    go_ret
    exact ⟨rfl, HX.out⟩
  go_enter Tryz.func32, Tryz.ntmps32
  go_wp2_with fail
  have hb0 := Blk.new w 26 #[Value.bool b, Value.slice A0 L0 c0, Value.slice A1 L1 c1]
  have HX0 := Lib.hid (Ext.alloc (Ext.refl w) (.cells #[Value.bool b, Value.slice A0 L0 c0, Value.slice A1 L1 c1] 26))
  refine (HI.out _ HX0.out).mono ?_
  rintro e w1 ⟨rfl, hx1⟩
  have HX := Lib.hid (HX0.out.trans hx1)
  have HB := Lib.hid (hb0.ext hx1)
  clear hb0 hx1 HX0
  obtain ⟨q0, q1, q2, f0, f1, f2, qz⟩ := HB.out.three
  go_wp2_with fail
  refine (HV.out _ HX.out).mono ?_
  rintro e w' ⟨rfl, rfl⟩
  cases t2
  · go_wp2_with fail
    go_ret
    exact ⟨rfl, HX.out⟩
  rcases Nat.eq_zero_or_pos L1 with hL | hL
  · subst hL
    have hd : dl = false := by rw [← HDL.out]; rfl
    clear HDL
    subst hd
    go_wp2_with fail
    go_ret
    exact ⟨rfl, HX.out⟩
  have hd : dl = true := by rw [← HDL.out]; exact decide_eq_true hL
  clear HDL
  subst hd
  have hLi : (0 : Int) < (L1 : Int) := by omega
  have hL0 : ((L1 : Int) == 0) = false := by rw [beq_eq_false_iff_ne]; omega
  clear hL
  go_wp2_with fail
  refine (HG.out _ HX.out).mono ?_
  rintro e w2 ⟨r2, rfl, hi2, hx2⟩
  have HX := Lib.hid (HX.out.trans hx2)
  obtain ⟨hok, A2, c2, rfl, _, _, hcell⟩ := hi2.arr.open
  clear hi2 hx2 q0 q1 q2 f0 f1 f2 qz
  by_cases hl1 : (limbs G).length = 1
  · have hone := limbs_is_one hl1
    obtain ⟨bb, oo, rfl, _, hc⟩ := hcell (by omega)
    have hx0 := hc 0 (by omega)
    have hlt := hok.get 0
    rw [hone, List.getD_cons_zero] at hlt
    rw [Nat.add_zero, hone, List.getD_cons_zero] at hx0
    have hgb : ((G : Int) == 1) = gb := by rw [← HGB.out, Bool.eq_iff_iff, beq_iff_eq, beq_iff_eq]; omega
    simp only [d32] at hx0
    rw [hl1]
    clear hcell hc hok hone hl1
    go_wp2_with fail
    go_ret
    exact ⟨by cases gb <;> rfl, HX.out⟩
  · have hg1 : gb = false := by rw [← HGB.out]; exact beq_eq_false_iff_ne.2 (fun e => hl1 (by rw [e, limbs_one]; rfl))
    have hlb : (((limbs G).length : Int) == 1) = false := by rw [beq_eq_false_iff_ne]; omega
    clear HGB
    subst hg1
    clear hcell hok hl1
    generalize (limbs G).length = lg at *
    go_wp2_with fail
    go_ret
    exact ⟨rfl, HX.out⟩
set_option maxRecDepth 100000 in
theorem rvalidR_any (w : World) (b : Bool) (m u : Value) (xs ys : List Nat) (h : Arr w m xs) (h' : Arr w u ys) (hn : xs.length ≤ 1000000) (hn' : ys.length ≤ 1000000) :
    Calls Tryz.prog 33 #[.agg #[.bool b, m, u]] w fun e w' => e = .returned (.bool (validR b xs ys)) ∧ Ext w w' := by
  have HI := Lib.hid (fun W (hx : Ext w W) => rvalid5_any W b m xs (h.ext hx) hn)
  have HV := Lib.hid (fun W (hx : Ext w W) => rvalid1_any W u ys (h'.ext hx) hn')
  have hvx : validI b xs = true → limbs (val xs) = xs := fun e => trim_limbs h.ok (by unfold validI at e; revert e; cases trimB xs <;> simp)
  have hvy : trimB ys = true → limbs (val ys) = ys := fun e => trim_limbs h'.ok e
  have HG : Hid (validI b xs = true → trimB ys = true → ∀ W (_ : Ext w W), Calls Tryz.prog 94 #[m, u] W fun e w' => ∃ v', e = .returned v' ∧ Arr w' v' (limbs (Nat.gcd (val xs) (val ys))) ∧ Ext W w') := Lib.hid (fun a c W hx => rgcd_any W m u (val xs) (val ys) (by rw [hvx a]; exact h.ext hx) (by rw [hvy c]; exact h'.ext hx) (by rw [hvx a]; omega) (by rw [hvy c]; omega))
  have hgl : (limbs (Nat.gcd (val xs) (val ys))).length ≤ 1000001 := by
    rcases Nat.eq_zero_or_pos (val xs) with hz | hz
    · rw [hz, Nat.gcd_zero_left]
      have := length_limbs_val h'.ok
      omega
    · have h1 := limbs_mono (Nat.gcd_le_left (val ys) hz)
      have := length_limbs_val h.ok
      omega
  have HOF := Lib.hid (fun W => rof_any W 1 (by decide))
  rw [show ((1 : Nat) : Int) = 1 from rfl] at HOF
  have HSM := Lib.hid (fun W v v' a a' => rsame_any W v v' (limbs (Nat.gcd (val xs) (val ys))) (limbs 1) a a' (by omega) (by rw [limbs_one]; simp))
  have hsm : (decide ((limbs (Nat.gcd (val xs) (val ys))).length = (limbs 1).length) && decide (val (limbs (Nat.gcd (val xs) (val ys))) = val (limbs 1))) = (Nat.gcd (val xs) (val ys) == 1) := by
    rw [val_limbs, val_limbs]
    generalize Nat.gcd (val xs) (val ys) = G
    by_cases e : G = 1
    · rw [e]; rfl
    · rw [decide_eq_false e, Bool.and_false, beq_eq_false_iff_ne.2 e]
  rw [hsm] at HSM
  obtain ⟨_, A0, c0, rfl, _, _, _⟩ := h.open
  obtain ⟨_, A1, c1, rfl, _, _, _⟩ := h'.open
  unfold validR
  clear h h' hn hn' hvx hvy hgl hsm
  generalize Nat.gcd (val xs) (val ys) = G at *
  generalize (G == 1) = gb at *
  generalize validI b xs = t1 at *
  generalize trimB ys = t2 at *
  generalize xs.length = L0 at *
  generalize ys.length = L1 at *
  obtain ⟨dl, hdl⟩ : ∃ dl, decide (0 < L1) = dl := ⟨_, rfl⟩
  rw [hdl]
  have HDL := Lib.hid hdl
  clear hdl
  cases t1
  · go_enter Tryz.func33, Tryz.ntmps33
    go_wp2_with fail
    have hb0 := Blk.new w 26 #[Value.bool b, Value.slice A0 L0 c0, Value.slice A1 L1 c1]
    have HX := Lib.hid (Ext.alloc (Ext.refl w) (.cells #[Value.bool b, Value.slice A0 L0 c0, Value.slice A1 L1 c1] 26))
    refine (HI.out _ HX.out).mono ?_
    rintro e w1 ⟨rfl, hx1⟩
    have HX := Lib.hid (HX.out.trans hx1)
    go_wp2_with fail
    go_ret
    exact ⟨rfl, HX.out⟩
  go_enter Tryz.func33, Tryz.ntmps33
  go_wp2_with fail
  have hb0 := Blk.new w 26 #[Value.bool b, Value.slice A0 L0 c0, Value.slice A1 L1 c1]
  have HX0 := Lib.hid (Ext.alloc (Ext.refl w) (.cells #[Value.bool b, Value.slice A0 L0 c0, Value.slice A1 L1 c1] 26))
  refine (HI.out _ HX0.out).mono ?_
  rintro e w1 ⟨rfl, hx1⟩
  have HX := Lib.hid (HX0.out.trans hx1)
  have HB := Lib.hid (hb0.ext hx1)
  clear hb0 hx1 HX0
  obtain ⟨q0, q1, q2, f0, f1, f2, qz⟩ := HB.out.three
  go_wp2_with fail
  refine (HV.out _ HX.out).mono ?_
  rintro e w' ⟨rfl, rfl⟩
  cases t2
  · go_wp2_with fail
    go_ret
    exact ⟨rfl, HX.out⟩
  rcases Nat.eq_zero_or_pos L1 with hL | hL
  · subst hL
    have hd : dl = false := by rw [← HDL.out]; rfl
    clear HDL
    subst hd
    go_wp2_with fail
    go_ret
    exact ⟨rfl, HX.out⟩
  have hd : dl = true := by rw [← HDL.out]; exact decide_eq_true hL
  clear HDL
  subst hd
  have hLi : (0 : Int) < (L1 : Int) := by omega
  have hL0 : ((L1 : Int) == 0) = false := by rw [beq_eq_false_iff_ne]; omega
  clear hL
  have HG2 := Lib.hid (HG.out (by trivial) (by trivial))
  go_wp2_with fail
  refine (HG2.out _ HX.out).mono ?_
  rintro e w2 ⟨r2, rfl, hi2, hx2⟩
  have HX := Lib.hid (HX.out.trans hx2)
  have R2 := Lib.hid hi2
  obtain ⟨g2, A2, c2, rfl⟩ := hi2.shape
  clear hi2 hx2 q0 q1 q2 f0 f1 f2 qz
  go_wp2_with fail
  refine (HOF.out _).mono ?_
  rintro e w3 ⟨r3, rfl, hi3, hx3⟩
  have HX := Lib.hid (HX.out.trans hx3)
  have R2 := Lib.hid (R2.out.ext hx3)
  have R3 := Lib.hid hi3
  obtain ⟨g3, A3, c3, rfl⟩ := hi3.shape
  clear hi3 hx3
  go_wp2_with fail
  refine (HSM.out _ _ _ R2.out R3.out.arr).mono ?_
  rintro e w' ⟨rfl, rfl⟩
  go_wp2_with fail
  go_ret
  exact ⟨by cases gb <;> rfl, HX.out⟩
end Big
end Go.Proofs.YtplmldkfgeiklaaGreatDoor
/- RationalMakes. Printed by a program. -/
namespace Go.Proofs.YtplmldkfgeiklaaGreatDoor
namespace Big
open Go.RowKit
/-- mill.Int at any integer. -/
theorem mintp_any (w : World) (b : Bool) (m : Value) (xs : List Nat) (N : Nat) (h : Arr w m xs) (hN : N ≤ 1000) :
    Calls Tryz.prog 29 #[.agg #[.bool b, m], .int .i64 (N : Int)] w fun e w' => ∃ v' ok z, e = .returned (.tuple #[v', .bool ok]) ∧ IsInt w.heap.size w' v' z ∧ (ok = true → (limbs z.natAbs).length ≤ N) ∧ Ext w w' := by
  by_cases hx : xs.length ≤ N
  · refine (mint_any w b m xs (N : Int) h (by omega) (by omega)).mono ?_
    rintro e w' ⟨v', he, hi, hx'⟩
    exact ⟨v', true, _, he, hi, fun _ => by rw [natAbs_sgn]; exact Nat.le_trans (length_limbs_val h.ok) hx, hx'⟩
  · obtain ⟨l, A, c, rfl⟩ := h.shape
    have hl := h.len
    refine (mint_big2 w b A l c (N : Int) (by omega)).mono ?_
    rintro e w' ⟨he, hx'⟩
    exact ⟨_, false, 0, he, ⟨_, rfl, Own.none_ _ _⟩, fun e => absurd e (by decide), hx'⟩
/-- Both Makes: a code and a fraction. -/
theorem make_both {x y : Int} {N : Nat} (hN : N ≤ 1000) (a : (limbs x.natAbs).length ≤ N) (b : (limbs y.natAbs).length ≤ N) :
    ∃ (cd : Nat) (P : Int) (Q : Nat), (cd = 0 ∧ Low P Q ∨ cd = 2 ∧ P = 0 ∧ Q = 0) ∧ (limbs P.natAbs).length ≤ N ∧ (limbs Q).length ≤ N ∧
      (∀ W v u, ArrInt W v x → ArrInt W u y → Calls Tryz.prog 30 #[v, u] W fun e w' => ∃ v', e = .returned (.tuple #[v', .int .i64 (cd : Int)]) ∧ IsRat W.heap.size w' v' P Q ∧ Ext W w') ∧
      (∀ W v u, ArrInt W v x → ArrInt W u y → Calls Tryz.prog 31 #[v, u] W fun e w' => ∃ v', e = .returned (.tuple #[v', .int .i64 (cd : Int)]) ∧ IsRat W.heap.size w' v' P Q ∧ Ext W w') := by
  by_cases hy : y = 0
  · subst hy
    exact ⟨2, 0, 0, .inr ⟨rfl, rfl, rfl⟩, by rw [show limbs (0 : Int).natAbs = [] by decide +kernel]; exact Nat.zero_le _, by rw [show limbs 0 = [] by decide +kernel]; exact Nat.zero_le _,
      fun W v u e f => pmake_zero W v x e (by omega) u 0 f (by omega) rfl, fun W v u e f => rmake_zero W v u x e f⟩
  · have hm := make_low2 x y
    have hl : Low (makeN x y) (makeD x y) := by rw [← hm.1, ← hm.2]; exact low_of _ (by omega)
    have hs : (limbs (makeN x y).natAbs).length ≤ N ∧ (limbs (makeD x y)).length ≤ N := by
      rw [← hm.1, ← hm.2]
      exact low_szn (by rw [natAbs_sgn]; exact a) b
    exact ⟨0, _, _, .inl ⟨rfl, hl⟩, hs.1, hs.2, fun W v u e f => pmake_pos W v x e (by omega) u y f (by omega) hy, fun W v u e f => rmake_any W v u x y e f (by omega) (by omega) hy⟩
theorem pvalid_low {p : Int} {q : Nat} (h : Low p q) (a : (limbs p.natAbs).length ≤ 1000000) (b : (limbs q).length ≤ 1000000) (W : World) (v : Value) (hv : ArrRat W v p q) :
    Calls Tryz.prog 32 #[v] W fun e w' => e = .returned (.bool true) ∧ Ext W w' := by
  obtain ⟨m, d, rfl, hm, hd⟩ := hv
  have := pvalidR_any W (decide (p < 0)) m d (limbs p.natAbs) (limbs q) hm hd a b
  rw [valid_low h] at this
  exact this
set_option maxHeartbeats 4000000 in
set_option maxRecDepth 100000 in
theorem rationalMakes_any (w : World) (b0 : Bool) (m0 d0 : Value) (xs0 ys0 : List Nat) (h0 : Arr w m0 xs0) (e0 : Arr w d0 ys0) (b1 : Bool) (m1 : Value) (xs1 : List Nat) (h1 : Arr w m1 xs1) (b2 : Bool) (m2 : Value) (xs2 : List Nat) (h2 : Arr w m2 xs2) (hm : MaxV w) (ht : Tab32 w) :
    Calls Tryz.prog 6 #[.agg #[.bool b0, m0, d0], .agg #[.bool b1, m1], .agg #[.bool b2, m2]] w fun e w' => e = .returned (.bool true) ∧ Ext w w' := by
  have HAW := Lib.hid (fun W hx => awake07_any W (hm.ext (w' := W) hx) (ht.ext hx))
  have HI1 := Lib.hid (fun W (hx : Ext w W) => mintp_any W b1 m1 xs1 12 (h1.ext hx) (by decide))
  have HI2 := Lib.hid (fun W (hx : Ext w W) => mintp_any W b2 m2 xs2 12 (h2.ext hx) (by decide))
  rw [show ((12 : Nat) : Int) = 12 from rfl] at HI1 HI2
  have HPV : Hid (xs0.length ≤ 12 → ys0.length ≤ 12 → ∀ W, Ext w W → Calls Tryz.prog 32 #[.agg #[.bool b0, m0, d0]] W fun e w' => e = .returned (.bool (validR b0 xs0 ys0)) ∧ Ext W w') := Lib.hid (fun p q W hx => pvalidR_any W b0 m0 d0 xs0 ys0 (h0.ext hx) (e0.ext hx) (by omega) (by omega))
  have HRV : Hid (xs0.length ≤ 12 → ys0.length ≤ 12 → ∀ W, Ext w W → Calls Tryz.prog 33 #[.agg #[.bool b0, m0, d0]] W fun e w' => e = .returned (.bool (validR b0 xs0 ys0)) ∧ Ext W w') := Lib.hid (fun p q W hx => rvalidR_any W b0 m0 d0 xs0 ys0 (h0.ext hx) (e0.ext hx) (by omega) (by omega))
  generalize validR b0 xs0 ys0 = vb at *
  have hvb : (vb == vb) = true := by simp
  obtain ⟨l0, A0, c0, rfl⟩ := h0.shape
  obtain ⟨k0, D0, t0, rfl⟩ := e0.shape
  obtain ⟨l1, A1, c1, rfl⟩ := h1.shape
  obtain ⟨l2, A2, c2, rfl⟩ := h2.shape
  have HL0 := Lib.hid h0.len
  have HK0 := Lib.hid e0.len
  clear h0 e0 h1 h2 hm ht
  go_enter Tryz.func6, Tryz.ntmps6
  go_wp2_with fail
  have hb0 := (((Blk.new w 26 #[Value.bool b0, Value.slice A0 l0 c0, Value.slice D0 k0 t0]).alloc (.cells #[Value.bool b1, Value.slice A1 l1 c1] 24)).alloc (.cells #[Value.bool b2, Value.slice A2 l2 c2] 24))
  have hb1 := ((Blk.new (w.alloc (.cells #[Value.bool b0, Value.slice A0 l0 c0, Value.slice D0 k0 t0] 26)) 24 #[Value.bool b1, Value.slice A1 l1 c1]).alloc (.cells #[Value.bool b2, Value.slice A2 l2 c2] 24))
  have hb2 := (Blk.new ((w.alloc (.cells #[Value.bool b0, Value.slice A0 l0 c0, Value.slice D0 k0 t0] 26)).alloc (.cells #[Value.bool b1, Value.slice A1 l1 c1] 24)) 24 #[Value.bool b2, Value.slice A2 l2 c2])
  have hxo := ((((Ext.refl w).alloc (.cells #[Value.bool b0, Value.slice A0 l0 c0, Value.slice D0 k0 t0] 26)).alloc (.cells #[Value.bool b1, Value.slice A1 l1 c1] 24)).alloc (.cells #[Value.bool b2, Value.slice A2 l2 c2] 24))
  have hszo : w.heap.size + 1 + 1 + 1 = (((w.alloc (.cells #[Value.bool b0, Value.slice A0 l0 c0, Value.slice D0 k0 t0] 26)).alloc (.cells #[Value.bool b1, Value.slice A1 l1 c1] 24)).alloc (.cells #[Value.bool b2, Value.slice A2 l2 c2] 24)).heap.size := by simp
  simp only [World.size_alloc] at hb1 hb2
  generalize ((w.alloc (.cells #[Value.bool b0, Value.slice A0 l0 c0, Value.slice D0 k0 t0] 26)).alloc (.cells #[Value.bool b1, Value.slice A1 l1 c1] 24)).alloc (.cells #[Value.bool b2, Value.slice A2 l2 c2] 24) = wo at *
  have HX := Lib.hid hxo
  have HZ : Hid (w.heap.size + 1 + 1 + 1 ≤ wo.heap.size) := Lib.hid (by omega)
  have HB0 := Lib.hid hb0
  have HB1 := Lib.hid hb1
  have HB2 := Lib.hid hb2
  clear hxo hszo hb0 hb1 hb2
  refine (HAW.out _ HX.out).mono ?_
  rintro e w11 ⟨rfl, hx10⟩
  have HX := Lib.hid (HX.out.trans hx10)
  have HB0 := Lib.hid (HB0.out.ext hx10)
  have HB1 := Lib.hid (HB1.out.ext hx10)
  have HB2 := Lib.hid (HB2.out.ext hx10)
  clear hx10
  obtain ⟨hb0_0, hb0_1, hb0_2, hb0_3, hb0_4, hb0_5, hb0_6⟩ := HB0.out.three
  obtain ⟨hb1_0, hb1_1, hb1_2, hb1_3, hb1_4⟩ := HB1.out.two
  obtain ⟨hb2_0, hb2_1, hb2_2, hb2_3, hb2_4⟩ := HB2.out.two
  go_wp2_with fail
  clear hb0_0 hb0_1 hb0_2 hb0_3 hb0_4 hb0_5 hb0_6 hb1_0 hb1_1 hb1_2 hb1_3 hb1_4 hb2_0 hb2_1 hb2_2 hb2_3 hb2_4
  refine (HI1.out _ HX.out).mono ?_
  rintro e w12 ⟨r11, ok1, x, rfl, hi11, hl11, hx11⟩
  have HX := Lib.hid (HX.out.trans hx11)
  have HB0 := Lib.hid (HB0.out.ext hx11)
  have HB1 := Lib.hid (HB1.out.ext hx11)
  have HB2 := Lib.hid (HB2.out.ext hx11)
  clear hx11
  have QX := Lib.hid hi11
  have HLx := Lib.hid hl11
  obtain ⟨f11, g11, G11, j11, rfl⟩ := hi11.shape
  clear hi11 hl11
  obtain ⟨hb0_0, hb0_1, hb0_2, hb0_3, hb0_4, hb0_5, hb0_6⟩ := HB0.out.three
  obtain ⟨hb1_0, hb1_1, hb1_2, hb1_3, hb1_4⟩ := HB1.out.two
  obtain ⟨hb2_0, hb2_1, hb2_2, hb2_3, hb2_4⟩ := HB2.out.two
  go_upto_region 4 with fail
  clear hb0_0 hb0_1 hb0_2 hb0_3 hb0_4 hb0_5 hb0_6 hb1_0 hb1_1 hb1_2 hb1_3 hb1_4 hb2_0 hb2_1 hb2_2 hb2_3 hb2_4
  have hb12 := Blk.new w12 24 #[Value.bool f11, Value.slice G11 g11 j11]
  have hx12 := (Ext.refl w12).alloc (.cells #[Value.bool f11, Value.slice G11 g11 j11] 24)
  have HX := Lib.hid (HX.out.trans hx12)
  have QX := Lib.hid (QX.out.ext hx12)
  have HB0 := Lib.hid (HB0.out.ext hx12)
  have HB1 := Lib.hid (HB1.out.ext hx12)
  have HB2 := Lib.hid (HB2.out.ext hx12)
  have BX := Lib.hid hb12
  generalize w12.alloc (.cells #[Value.bool f11, Value.slice G11 g11 j11] 24) = w13 at *
  generalize w12.heap.size = a12 at *
  clear hb12 hx12
  obtain ⟨hb0_0, hb0_1, hb0_2, hb0_3, hb0_4, hb0_5, hb0_6⟩ := HB0.out.three
  obtain ⟨hb1_0, hb1_1, hb1_2, hb1_3, hb1_4⟩ := HB1.out.two
  obtain ⟨hb2_0, hb2_1, hb2_2, hb2_3, hb2_4⟩ := HB2.out.two
  obtain ⟨bx_0, bx_1, bx_2, bx_3, bx_4⟩ := BX.out.two
  go_wp2_with fail
  clear hb0_0 hb0_1 hb0_2 hb0_3 hb0_4 hb0_5 hb0_6 hb1_0 hb1_1 hb1_2 hb1_3 hb1_4 hb2_0 hb2_1 hb2_2 hb2_3 hb2_4 bx_0 bx_1 bx_2 bx_3 bx_4
  refine (HI2.out _ HX.out).mono ?_
  rintro e w14 ⟨r13, ok2, y, rfl, hi13, hl13, hx13⟩
  have HX := Lib.hid (HX.out.trans hx13)
  have QX := Lib.hid (QX.out.ext hx13)
  have HB0 := Lib.hid (HB0.out.ext hx13)
  have HB1 := Lib.hid (HB1.out.ext hx13)
  have HB2 := Lib.hid (HB2.out.ext hx13)
  have BX := Lib.hid (BX.out.ext hx13)
  clear hx13
  have QY := Lib.hid hi13
  have HLy := Lib.hid hl13
  obtain ⟨f13, g13, G13, j13, rfl⟩ := hi13.shape
  clear hi13 hl13
  obtain ⟨hb0_0, hb0_1, hb0_2, hb0_3, hb0_4, hb0_5, hb0_6⟩ := HB0.out.three
  obtain ⟨hb1_0, hb1_1, hb1_2, hb1_3, hb1_4⟩ := HB1.out.two
  obtain ⟨hb2_0, hb2_1, hb2_2, hb2_3, hb2_4⟩ := HB2.out.two
  obtain ⟨bx_0, bx_1, bx_2, bx_3, bx_4⟩ := BX.out.two
  go_upto_region 5 with fail
  clear hb0_0 hb0_1 hb0_2 hb0_3 hb0_4 hb0_5 hb0_6 hb1_0 hb1_1 hb1_2 hb1_3 hb1_4 hb2_0 hb2_1 hb2_2 hb2_3 hb2_4 bx_0 bx_1 bx_2 bx_3 bx_4
  have hb14 := Blk.new w14 24 #[Value.bool f13, Value.slice G13 g13 j13]
  have hx14 := (Ext.refl w14).alloc (.cells #[Value.bool f13, Value.slice G13 g13 j13] 24)
  have HX := Lib.hid (HX.out.trans hx14)
  have QX := Lib.hid (QX.out.ext hx14)
  have QY := Lib.hid (QY.out.ext hx14)
  have HB0 := Lib.hid (HB0.out.ext hx14)
  have HB1 := Lib.hid (HB1.out.ext hx14)
  have HB2 := Lib.hid (HB2.out.ext hx14)
  have BX := Lib.hid (BX.out.ext hx14)
  have BY := Lib.hid hb14
  generalize w14.alloc (.cells #[Value.bool f13, Value.slice G13 g13 j13] 24) = w15 at *
  generalize w14.heap.size = a14 at *
  clear hb14 hx14
  obtain ⟨hb0_0, hb0_1, hb0_2, hb0_3, hb0_4, hb0_5, hb0_6⟩ := HB0.out.three
  obtain ⟨hb1_0, hb1_1, hb1_2, hb1_3, hb1_4⟩ := HB1.out.two
  obtain ⟨hb2_0, hb2_1, hb2_2, hb2_3, hb2_4⟩ := HB2.out.two
  obtain ⟨bx_0, bx_1, bx_2, bx_3, bx_4⟩ := BX.out.two
  obtain ⟨by_0, by_1, by_2, by_3, by_4⟩ := BY.out.two
  clear hb0_0 hb0_1 hb0_2 hb0_3 hb0_4 hb0_5 hb0_6 hb1_0 hb1_1 hb1_2 hb1_3 hb1_4 hb2_0 hb2_1 hb2_2 hb2_3 hb2_4 bx_0 bx_1 bx_2 bx_3 bx_4 by_0 by_1 by_2 by_3 by_4
  clear HB1 HB2 HAW HI1 HI2
  obtain ⟨hb0_0, hb0_1, hb0_2, hb0_3, hb0_4, hb0_5, hb0_6⟩ := HB0.out.three
  obtain ⟨bx_0, bx_1, bx_2, bx_3, bx_4⟩ := BX.out.two
  obtain ⟨by_0, by_1, by_2, by_3, by_4⟩ := BY.out.two
  cases ok1 with
  | false => (go_wp2_with fail; go_ret; exact ⟨rfl, HX.out⟩)
  | true =>
  cases ok2 with
  | false => (go_wp2_with fail; go_ret; exact ⟨rfl, HX.out⟩)
  | true =>
  rcases Nat.lt_or_ge 12 l0 with hl0 | hl0
  · have hc : (12 : Int) < (l0 : Int) := by omega
    (go_wp2_with fail; go_ret; exact ⟨rfl, HX.out⟩)
  have hc : ¬ (12 : Int) < (l0 : Int) := by omega
  rcases Nat.lt_or_ge 12 k0 with hk0 | hk0
  · have hd : (12 : Int) < (k0 : Int) := by omega
    (go_wp2_with fail; go_ret; exact ⟨rfl, HX.out⟩)
  have hd : ¬ (12 : Int) < (k0 : Int) := by omega
  have HPV2 := Lib.hid (HPV.out (by have := HL0.out; omega) (by have := HK0.out; omega))
  have HRV2 := Lib.hid (HRV.out (by have := HL0.out; omega) (by have := HK0.out; omega))
  obtain ⟨cd, P, Q, hcd, hP, hQ, hmk, hrmk⟩ := make_both (N := 12) (by decide) (HLx.out rfl) (HLy.out rfl)
  have HMK := Lib.hid hmk
  have HRMK := Lib.hid hrmk
  have HSM := Lib.hid (rsameR_self hP hQ (by decide))
  have HVL : Hid (Low P Q → ∀ W v, ArrRat W v P Q → Calls Tryz.prog 32 #[v] W fun e w' => e = .returned (.bool true) ∧ Ext W w') := Lib.hid (fun h W v a => pvalid_low h (by omega) (by omega) W v a)
  have hcb : ((cd : Int) == (cd : Int)) = true := by simp
  have HCD := Lib.hid hcd
  clear HPV HRV HL0 HK0 HLx HLy hmk hrmk hP hQ hcd hl0 hk0
  go_wp2_with fail
  clear hc hd
  clear hb0_0 hb0_1 hb0_2 hb0_3 hb0_4 hb0_5 hb0_6 bx_0 bx_1 bx_2 bx_3 bx_4 by_0 by_1 by_2 by_3 by_4
  refine (HMK.out _ _ _ QX.out.arr QY.out.arr).mono ?_
  rintro e w16 ⟨r15, rfl, hi15, hx15⟩
  have HX := Lib.hid (HX.out.trans hx15)
  have QX := Lib.hid (QX.out.ext hx15)
  have QY := Lib.hid (QY.out.ext hx15)
  have HB0 := Lib.hid (HB0.out.ext hx15)
  have BX := Lib.hid (BX.out.ext hx15)
  have BY := Lib.hid (BY.out.ext hx15)
  have QR := Lib.hid hi15
  obtain ⟨f15, g15, G15, j15, y15, Y15, z15, rfl⟩ := hi15.shape
  clear hi15
  clear hx15
  obtain ⟨hb0_0, hb0_1, hb0_2, hb0_3, hb0_4, hb0_5, hb0_6⟩ := HB0.out.three
  obtain ⟨bx_0, bx_1, bx_2, bx_3, bx_4⟩ := BX.out.two
  obtain ⟨by_0, by_1, by_2, by_3, by_4⟩ := BY.out.two
  go_wp2_with fail
  clear hb0_0 hb0_1 hb0_2 hb0_3 hb0_4 hb0_5 hb0_6 bx_0 bx_1 bx_2 bx_3 bx_4 by_0 by_1 by_2 by_3 by_4
  have hb16 := Blk.new w16 26 #[Value.bool f15, Value.slice G15 g15 j15, Value.slice Y15 y15 z15]
  have hx16 := (Ext.refl w16).alloc (.cells #[Value.bool f15, Value.slice G15 g15 j15, Value.slice Y15 y15 z15] 26)
  have HX := Lib.hid (HX.out.trans hx16)
  have QX := Lib.hid (QX.out.ext hx16)
  have QY := Lib.hid (QY.out.ext hx16)
  have QR := Lib.hid (QR.out.ext hx16)
  have HB0 := Lib.hid (HB0.out.ext hx16)
  have BX := Lib.hid (BX.out.ext hx16)
  have BY := Lib.hid (BY.out.ext hx16)
  have BR := Lib.hid hb16
  generalize w16.alloc (.cells #[Value.bool f15, Value.slice G15 g15 j15, Value.slice Y15 y15 z15] 26) = w17 at *
  generalize w16.heap.size = a16 at *
  clear hb16 hx16
  obtain ⟨hb0_0, hb0_1, hb0_2, hb0_3, hb0_4, hb0_5, hb0_6⟩ := HB0.out.three
  obtain ⟨bx_0, bx_1, bx_2, bx_3, bx_4⟩ := BX.out.two
  obtain ⟨by_0, by_1, by_2, by_3, by_4⟩ := BY.out.two
  obtain ⟨br_0, br_1, br_2, br_3, br_4, br_5, br_6⟩ := BR.out.three
  clear hb0_0 hb0_1 hb0_2 hb0_3 hb0_4 hb0_5 hb0_6 bx_0 bx_1 bx_2 bx_3 bx_4 by_0 by_1 by_2 by_3 by_4 br_0 br_1 br_2 br_3 br_4 br_5 br_6
  refine (HRMK.out _ _ _ QX.out.arr QY.out.arr).mono ?_
  rintro e w18 ⟨r17, rfl, hi17, hx17⟩
  have HX := Lib.hid (HX.out.trans hx17)
  have QX := Lib.hid (QX.out.ext hx17)
  have QY := Lib.hid (QY.out.ext hx17)
  have QR := Lib.hid (QR.out.ext hx17)
  have HB0 := Lib.hid (HB0.out.ext hx17)
  have BX := Lib.hid (BX.out.ext hx17)
  have BY := Lib.hid (BY.out.ext hx17)
  have BR := Lib.hid (BR.out.ext hx17)
  have QW := Lib.hid hi17
  obtain ⟨f17, g17, G17, j17, y17, Y17, z17, rfl⟩ := hi17.shape
  clear hi17
  clear hx17
  obtain ⟨hb0_0, hb0_1, hb0_2, hb0_3, hb0_4, hb0_5, hb0_6⟩ := HB0.out.three
  obtain ⟨bx_0, bx_1, bx_2, bx_3, bx_4⟩ := BX.out.two
  obtain ⟨by_0, by_1, by_2, by_3, by_4⟩ := BY.out.two
  obtain ⟨br_0, br_1, br_2, br_3, br_4, br_5, br_6⟩ := BR.out.three
  go_upto_region 9 with fail
  clear hb0_0 hb0_1 hb0_2 hb0_3 hb0_4 hb0_5 hb0_6 bx_0 bx_1 bx_2 bx_3 bx_4 by_0 by_1 by_2 by_3 by_4 br_0 br_1 br_2 br_3 br_4 br_5 br_6
  have hb18 := Blk.new w18 26 #[Value.bool f17, Value.slice G17 g17 j17, Value.slice Y17 y17 z17]
  have hx18 := (Ext.refl w18).alloc (.cells #[Value.bool f17, Value.slice G17 g17 j17, Value.slice Y17 y17 z17] 26)
  have HX := Lib.hid (HX.out.trans hx18)
  have QX := Lib.hid (QX.out.ext hx18)
  have QY := Lib.hid (QY.out.ext hx18)
  have QR := Lib.hid (QR.out.ext hx18)
  have QW := Lib.hid (QW.out.ext hx18)
  have HB0 := Lib.hid (HB0.out.ext hx18)
  have BX := Lib.hid (BX.out.ext hx18)
  have BY := Lib.hid (BY.out.ext hx18)
  have BR := Lib.hid (BR.out.ext hx18)
  have BW := Lib.hid hb18
  generalize w18.alloc (.cells #[Value.bool f17, Value.slice G17 g17 j17, Value.slice Y17 y17 z17] 26) = w19 at *
  generalize w18.heap.size = a18 at *
  clear hb18 hx18
  clear BX BY QX QY HMK HRMK
  obtain ⟨hb0_0, hb0_1, hb0_2, hb0_3, hb0_4, hb0_5, hb0_6⟩ := HB0.out.three
  obtain ⟨br_0, br_1, br_2, br_3, br_4, br_5, br_6⟩ := BR.out.three
  obtain ⟨bw_0, bw_1, bw_2, bw_3, bw_4, bw_5, bw_6⟩ := BW.out.three
  rcases HCD.out with ⟨hc0, hlow⟩ | ⟨hc0, hPz, hQz⟩
  · have HVL2 := Lib.hid (HVL.out hlow)
    have hne : ((cd : Int) != 0) = false := by rw [hc0]; rfl
    clear HCD HVL hc0 hlow
    go_region_held3 (fun w' => Ext w19 w' ∧ w'.cell? ⟨w.heap.size, 0, none⟩ = some (Value.bool b0) ∧ w'.cell? ⟨w.heap.size, 1, none⟩ = some (Value.slice A0 l0 c0) ∧ w'.cell? ⟨w.heap.size, 2, none⟩ = some (Value.slice D0 k0 t0) ∧ w'.cell? ⟨a16, 0, none⟩ = some (Value.bool f15) ∧ w'.cell? ⟨a16, 1, none⟩ = some (Value.slice G15 g15 j15) ∧ w'.cell? ⟨a16, 2, none⟩ = some (Value.slice Y15 y15 z15) ∧ w'.cell? ⟨a18, 0, none⟩ = some (Value.bool f17) ∧ w'.cell? ⟨a18, 1, none⟩ = some (Value.slice G17 g17 j17) ∧ w'.cell? ⟨a18, 2, none⟩ = some (Value.slice Y17 y17 z17))
      (first | (exact ⟨(Ext.refl w19).drew, hb0_0, hb0_1, hb0_2, br_0, br_1, br_2, bw_0, bw_1, bw_2⟩) | (exact keptS9_0 (by assumption) (by assumption)))
      (first
        | (go_at_call 32; have hchk22 := hz21; refine (HVL2.out _ _ (QR.out.arr.ext (And.left (by assumption)))).mono ?_; rintro e w23 ⟨rfl, hx22⟩; clear hz21 hchk22; have hz22 := hx22.size)
        | (go_at_call 22; have hchk21 := hz20; refine (HSM.out _ _ _ (QR.out.arr.ext (And.left (by assumption))) (QW.out.arr.ext (And.left (by assumption)))).mono ?_; rintro e w22 ⟨rfl, hx21⟩; clear hz20 hchk21; have hz21 := hx21.size)
        | (go_at_call 33; have hchk20 := hz19; refine (HRV2.out _ (HX.out.trans (And.left (by assumption)))).mono ?_; rintro e w21 ⟨rfl, hx20⟩; clear hz19 hchk20; have hz20 := hx20.size)
        | (go_at_call 32; refine (HPV2.out _ (HX.out.trans (And.left (by assumption)))).mono ?_; rintro e w20 ⟨rfl, hx19⟩; have hz19 := hx19.size))
    all_goals go_wp2_with fail
    rename_i hS
    have hE := And.left hS
    go_ret
    exact ⟨rfl, HX.out.trans hE⟩
  · have hne : ((cd : Int) != 0) = true := by rw [hc0]; rfl
    clear HCD HVL hc0 hPz hQz
    obtain ⟨hb0_0, hb0_1, hb0_2, hb0_3, hb0_4, hb0_5, hb0_6⟩ := HB0.out.three
    obtain ⟨br_0, br_1, br_2, br_3, br_4, br_5, br_6⟩ := BR.out.three
    obtain ⟨bw_0, bw_1, bw_2, bw_3, bw_4, bw_5, bw_6⟩ := BW.out.three
    have HE19 := Lib.hid (Ext.refl w19).drew
    go_region_law (first
      | (go_simp; go_at_call 22; have hchk21 := hx20; refine (HSM.out _ _ _ (QR.out.arr.ext HE21.out) (QW.out.arr.ext HE21.out)).mono ?_; rintro e w22 ⟨rfl, hx21⟩; have HE22 : Hid (Ext w19 w22) := Lib.hid (HE21.out.trans hx21); clear hb0_0 hb0_1 hb0_2 hb0_3 hb0_4 hb0_5 hb0_6 br_0 br_1 br_2 br_3 br_4 br_5 br_6 bw_0 bw_1 bw_2 bw_3 bw_4 bw_5 bw_6; obtain ⟨hb0_0, hb0_1, hb0_2, hb0_3, hb0_4, hb0_5, hb0_6⟩ := (HB0.out.ext HE22.out).three; obtain ⟨br_0, br_1, br_2, br_3, br_4, br_5, br_6⟩ := (BR.out.ext HE22.out).three; obtain ⟨bw_0, bw_1, bw_2, bw_3, bw_4, bw_5, bw_6⟩ := (BW.out.ext HE22.out).three)
      | (go_simp; go_at_call 33; have hchk20 := hx19; refine (HRV2.out _ (HX.out.trans HE20.out)).mono ?_; rintro e w21 ⟨rfl, hx20⟩; have HE21 : Hid (Ext w19 w21) := Lib.hid (HE20.out.trans hx20); clear hb0_0 hb0_1 hb0_2 hb0_3 hb0_4 hb0_5 hb0_6 br_0 br_1 br_2 br_3 br_4 br_5 br_6 bw_0 bw_1 bw_2 bw_3 bw_4 bw_5 bw_6; obtain ⟨hb0_0, hb0_1, hb0_2, hb0_3, hb0_4, hb0_5, hb0_6⟩ := (HB0.out.ext HE21.out).three; obtain ⟨br_0, br_1, br_2, br_3, br_4, br_5, br_6⟩ := (BR.out.ext HE21.out).three; obtain ⟨bw_0, bw_1, bw_2, bw_3, bw_4, bw_5, bw_6⟩ := (BW.out.ext HE21.out).three)
      | (go_simp; go_at_call 32; refine (HPV2.out _ (HX.out.trans HE19.out)).mono ?_; rintro e w20 ⟨rfl, hx19⟩; have HE20 : Hid (Ext w19 w20) := Lib.hid (HE19.out.trans hx19); clear hb0_0 hb0_1 hb0_2 hb0_3 hb0_4 hb0_5 hb0_6 br_0 br_1 br_2 br_3 br_4 br_5 br_6 bw_0 bw_1 bw_2 bw_3 bw_4 bw_5 bw_6; obtain ⟨hb0_0, hb0_1, hb0_2, hb0_3, hb0_4, hb0_5, hb0_6⟩ := (HB0.out.ext HE20.out).three; obtain ⟨br_0, br_1, br_2, br_3, br_4, br_5, br_6⟩ := (BR.out.ext HE20.out).three; obtain ⟨bw_0, bw_1, bw_2, bw_3, bw_4, bw_5, bw_6⟩ := (BW.out.ext HE20.out).three))
    all_goals go_wp2_with fail
    all_goals have hE := HE22.out
    all_goals go_ret
    all_goals exact ⟨rfl, HX.out.trans hE⟩
end Big
end Go.Proofs.YtplmldkfgeiklaaGreatDoor
/- integer.DivMod, ref05.DivMod at a positive divisor. Printed by a program. -/
namespace Go.Proofs.YtplmldkfgeiklaaGreatDoor
namespace Big
open Go.RowKit
theorem fdiv_b {x : Int} {d : Nat} (hd : 0 < d) (h : ¬ x < 0 ∨ x.natAbs % d = 0) : sgn (decide (x < 0)) (x.natAbs / d) = x / (d : Int) := by
  have h1 := Nat.div_add_mod x.natAbs d
  have h2 := Nat.mod_lt x.natAbs hd
  have e1 : (d : Int) * ((x.natAbs / d : Nat) : Int) = ((d * (x.natAbs / d) : Nat) : Int) := by rw [Int.natCast_mul]
  generalize x.natAbs / d = Q at *
  generalize x.natAbs % d = R at *
  by_cases hx : x < 0
  · have hR : R = 0 := by rcases h with h | h; exact absurd hx h; exact h
    rw [decide_eq_true hx]
    refine ((Int.ediv_emod_unique (r := 0) (by omega)).2 ⟨?_, by omega, by omega⟩).1.symm
    show 0 + (d : Int) * (-(Q : Int)) = x
    rw [Int.mul_neg, e1]
    omega
  · rw [decide_eq_false hx]
    refine ((Int.ediv_emod_unique (r := (R : Int)) (by omega)).2 ⟨?_, by omega, by omega⟩).1.symm
    show (R : Int) + (d : Int) * (Q : Int) = x
    rw [e1]
    omega
theorem fdiv_a {x : Int} {d : Nat} (hd : 0 < d) (hx : x < 0) (h : x.natAbs % d ≠ 0) : sgn true (x.natAbs / d + 1) = x / (d : Int) := by
  have h1 := Nat.div_add_mod x.natAbs d
  have h2 := Nat.mod_lt x.natAbs hd
  have e1 : (d : Int) * ((x.natAbs / d : Nat) : Int) = ((d * (x.natAbs / d) : Nat) : Int) := by rw [Int.natCast_mul]
  generalize x.natAbs / d = Q at *
  generalize x.natAbs % d = R at *
  refine ((Int.ediv_emod_unique (r := (d : Int) - R) (by omega)).2 ⟨?_, by omega, by omega⟩).1.symm
  show (d : Int) - R + (d : Int) * (-((Q + 1 : Nat) : Int)) = x
  rw [Int.mul_neg, show ((Q + 1 : Nat) : Int) = (Q : Int) + 1 from rfl, Int.mul_add, e1, Int.mul_one]
  omega
theorem fdiv_a' {x : Int} {d : Nat} (hd : 0 < d) (hx : x < 0) (h : x.natAbs % d ≠ 0) : sgn true (x.natAbs / d) + -1 = x / (d : Int) := by
  rw [← fdiv_a hd hx h]
  unfold sgn
  simp
  omega
set_option maxHeartbeats 2000000 in
set_option maxRecDepth 100000 in
theorem idm_a (w : World) (v0 : Value) (x : Int) (h0 : ArrInt w v0 x) (n0 : (limbs x.natAbs).length ≤ 1000000) (v1 : Value) (d : Nat) (h1 : ArrInt w v1 (d : Int)) (n1 : (limbs d).length ≤ 1000000) (hd : 0 < d) (hx : x < 0) (hr : x.natAbs % d ≠ 0) :
    Calls Tryz.prog 95 #[v0, v1] w fun e w' => ∃ v' u' z, e = .returned (.tuple #[v', u', .bool true]) ∧ IsInt w.heap.size w' v' (x / (d : Int)) ∧ IsInt w.heap.size w' u' z ∧ Ext w w' := by
  have H0 := Lib.hid h0
  have H1 := Lib.hid h1
  have hql : (limbs (x.natAbs / d)).length ≤ 1000000 := Nat.le_trans (limbs_mono (Nat.div_le_self _ _)) n0
  have hrl : (limbs (x.natAbs % d)).length ≤ 1000000 := Nat.le_trans (limbs_mono (Nat.le_of_lt (Nat.mod_lt _ hd))) n1
  have HQD := Lib.hid (fun W m m' a b => qdivmod_any W m m' (limbs x.natAbs) (limbs d) a b (by omega) (by omega) (by rw [val_limbs]; omega))
  unfold DivPost at HQD
  rw [val_limbs, val_limbs] at HQD
  have HOF := Lib.hid (fun W => of_any W 1 (by decide))
  rw [show ((1 : Nat) : Int) = 1 from rfl] at HOF
  have HAD := Lib.hid (fun W m m' a b => add_any W m m' (limbs (x.natAbs / d)) (limbs 1) a b (by omega) (by rw [limbs_one]; simp))
  rw [val_limbs, val_limbs] at HAD
  have hql2 : (limbs (x.natAbs / d + 1)).length ≤ 1000002 := by have := length_limbs_sum hql (show (limbs 1).length ≤ 1 by rw [limbs_one]; simp); omega
  have HSB := Lib.hid (fun W m m' a b => nsub_ge W m m' (limbs d) (limbs (x.natAbs % d)) a b (by omega) (by omega) (by rw [val_limbs, val_limbs]; exact Nat.le_of_lt (Nat.mod_lt _ hd)))
  rw [val_limbs, val_limbs] at HSB
  have hrl2 : (limbs (d - x.natAbs % d)).length ≤ 1000000 := Nat.le_trans (limbs_mono (Nat.sub_le _ _)) n1
  have HN1 := Lib.hid (fun W m a => inat_any W true m (limbs (x.natAbs / d + 1)) a (by omega))
  rw [val_limbs, fdiv_a hd hx hr] at HN1
  have HN2 := Lib.hid (fun W m a => inat_any W false m (limbs (d - x.natAbs % d)) a (by omega))
  rw [val_limbs] at HN2
  have hrp : 0 < (limbs (x.natAbs % d)).length := by rw [List.length_pos_iff]; intro e; rw [limbs_eq_nil] at e; exact hr e
  have hbx : decide (x < 0) = true := decide_eq_true hx
  obtain ⟨b0, l0, A0, c0, rfl⟩ := h0.shape
  obtain ⟨b1, l1, A1, c1, rfl⟩ := h1.shape
  have hs0 := h0.sign
  have hs1 := h1.sign
  rw [decide_eq_false (p := (d : Int) < 0) (by omega)] at hs1
  subst hs1
  rw [hbx] at hs0
  subst hs0
  clear h0 h1 hbx hx hr hd hql hrl hql2 hrl2 n0 n1
  generalize x / (d : Int) = zq at *
  go_enter Tryz.func95, Tryz.ntmps95
  go_wp2_with fail
  have hb0 := ((((Blk.new w 24 #[Value.bool true, Value.slice A0 l0 c0]).alloc (.cells #[Value.bool false, Value.slice A1 l1 c1] 24)).alloc (.cells #[Value.bool false, Value.slice none 0 0] 24)).alloc (.cells #[Value.bool false, Value.slice none 0 0] 24))
  have hb1 := (((Blk.new (w.alloc (.cells #[Value.bool true, Value.slice A0 l0 c0] 24)) 24 #[Value.bool false, Value.slice A1 l1 c1]).alloc (.cells #[Value.bool false, Value.slice none 0 0] 24)).alloc (.cells #[Value.bool false, Value.slice none 0 0] 24))
  have hb2 := ((Blk.new ((w.alloc (.cells #[Value.bool true, Value.slice A0 l0 c0] 24)).alloc (.cells #[Value.bool false, Value.slice A1 l1 c1] 24)) 24 #[Value.bool false, Value.slice none 0 0]).alloc (.cells #[Value.bool false, Value.slice none 0 0] 24))
  have hb3 := (Blk.new (((w.alloc (.cells #[Value.bool true, Value.slice A0 l0 c0] 24)).alloc (.cells #[Value.bool false, Value.slice A1 l1 c1] 24)).alloc (.cells #[Value.bool false, Value.slice none 0 0] 24)) 24 #[Value.bool false, Value.slice none 0 0])
  have hxo := (((((Ext.refl w).alloc (.cells #[Value.bool true, Value.slice A0 l0 c0] 24)).alloc (.cells #[Value.bool false, Value.slice A1 l1 c1] 24)).alloc (.cells #[Value.bool false, Value.slice none 0 0] 24)).alloc (.cells #[Value.bool false, Value.slice none 0 0] 24))
  have hszo : w.heap.size + 1 + 1 + 1 + 1 = ((((w.alloc (.cells #[Value.bool true, Value.slice A0 l0 c0] 24)).alloc (.cells #[Value.bool false, Value.slice A1 l1 c1] 24)).alloc (.cells #[Value.bool false, Value.slice none 0 0] 24)).alloc (.cells #[Value.bool false, Value.slice none 0 0] 24)).heap.size := by simp
  simp only [World.size_alloc] at hb1 hb2 hb3
  generalize (((w.alloc (.cells #[Value.bool true, Value.slice A0 l0 c0] 24)).alloc (.cells #[Value.bool false, Value.slice A1 l1 c1] 24)).alloc (.cells #[Value.bool false, Value.slice none 0 0] 24)).alloc (.cells #[Value.bool false, Value.slice none 0 0] 24) = wo at *
  have HX := Lib.hid hxo
  have HZ : Hid (w.heap.size + 1 + 1 + 1 + 1 ≤ wo.heap.size) := Lib.hid (by omega)
  have HB0 := Lib.hid hb0
  have HB1 := Lib.hid hb1
  have HB2 := Lib.hid hb2
  have HB3 := Lib.hid hb3
  clear hxo hszo hb0 hb1 hb2 hb3
  have HW := Lib.hid (Ext.refl wo)
  refine (HQD.out _ _ _ (H0.out.mag.ext HX.out) (H1.out.mag.ext HX.out)).mono ?_
  rintro e w11 ⟨r10, r10b, rfl, hi10, hj10, hx10⟩
  have HX := Lib.hid (HX.out.trans hx10)
  have HW := Lib.hid (HW.out.trans hx10)
  have HB0 := Lib.hid (HB0.out.ext hx10)
  have HB1 := Lib.hid (HB1.out.ext hx10)
  have HB2 := Lib.hid (HB2.out.ext hx10)
  have HB3 := Lib.hid (HB3.out.ext hx10)
  clear hx10
  have RQ := Lib.hid hi10
  have RR := Lib.hid hj10
  obtain ⟨g10, G10, j10, rfl⟩ := hi10.shape
  obtain ⟨y10, Y10, z10, rfl⟩ := hj10.shape
  have hrlen := RR.out.arr.len
  clear hi10 hj10
  rw [← hrlen] at hrp
  have hrp2 : (0 : Int) < (y10 : Int) := by omega
  clear hrlen hrp
  obtain ⟨hb0_0, hb0_1, hb0_2, hb0_3, hb0_4⟩ := HB0.out.two
  obtain ⟨hb1_0, hb1_1, hb1_2, hb1_3, hb1_4⟩ := HB1.out.two
  obtain ⟨hb2_0, hb2_1, hb2_2, hb2_3, hb2_4⟩ := HB2.out.two
  obtain ⟨hb3_0, hb3_1, hb3_2, hb3_3, hb3_4⟩ := HB3.out.two
  go_wp2_with fail
  clear hb0_0 hb0_1 hb0_2 hb0_3 hb0_4 hb1_0 hb1_1 hb1_2 hb1_3 hb1_4 hb2_0 hb2_1 hb2_2 hb2_3 hb2_4 hb3_0 hb3_1 hb3_2 hb3_3 hb3_4
  refine (HOF.out _).mono ?_
  rintro e w12 ⟨r11, rfl, hi11, hx11⟩
  have HX := Lib.hid (HX.out.trans hx11)
  have HW := Lib.hid (HW.out.trans hx11)
  have RQ := Lib.hid (RQ.out.ext hx11)
  have RR := Lib.hid (RR.out.ext hx11)
  have HB0 := Lib.hid (HB0.out.ext hx11)
  have HB1 := Lib.hid (HB1.out.ext hx11)
  have HB2 := Lib.hid (HB2.out.ext hx11)
  have HB3 := Lib.hid (HB3.out.ext hx11)
  have R1 := Lib.hid hi11
  obtain ⟨g11, G11, j11, rfl⟩ := hi11.shape
  clear hi11
  clear hx11
  obtain ⟨hb0_0, hb0_1, hb0_2, hb0_3, hb0_4⟩ := HB0.out.two
  obtain ⟨hb1_0, hb1_1, hb1_2, hb1_3, hb1_4⟩ := HB1.out.two
  obtain ⟨hb2_0, hb2_1, hb2_2, hb2_3, hb2_4⟩ := HB2.out.two
  obtain ⟨hb3_0, hb3_1, hb3_2, hb3_3, hb3_4⟩ := HB3.out.two
  go_wp2_with fail
  clear hb0_0 hb0_1 hb0_2 hb0_3 hb0_4 hb1_0 hb1_1 hb1_2 hb1_3 hb1_4 hb2_0 hb2_1 hb2_2 hb2_3 hb2_4 hb3_0 hb3_1 hb3_2 hb3_3 hb3_4
  refine (HAD.out _ _ _ RQ.out.arr R1.out.arr).mono ?_
  rintro e w13 ⟨r12, rfl, hi12, hx12⟩
  have HX := Lib.hid (HX.out.trans hx12)
  have HW := Lib.hid (HW.out.trans hx12)
  have RQ := Lib.hid (RQ.out.ext hx12)
  have RR := Lib.hid (RR.out.ext hx12)
  have R1 := Lib.hid (R1.out.ext hx12)
  have HB0 := Lib.hid (HB0.out.ext hx12)
  have HB1 := Lib.hid (HB1.out.ext hx12)
  have HB2 := Lib.hid (HB2.out.ext hx12)
  have HB3 := Lib.hid (HB3.out.ext hx12)
  have RQ2 := Lib.hid hi12
  obtain ⟨g12, G12, j12, rfl⟩ := hi12.shape
  clear hi12
  clear hx12
  obtain ⟨hb0_0, hb0_1, hb0_2, hb0_3, hb0_4⟩ := HB0.out.two
  obtain ⟨hb1_0, hb1_1, hb1_2, hb1_3, hb1_4⟩ := HB1.out.two
  obtain ⟨hb2_0, hb2_1, hb2_2, hb2_3, hb2_4⟩ := HB2.out.two
  obtain ⟨hb3_0, hb3_1, hb3_2, hb3_3, hb3_4⟩ := HB3.out.two
  go_wp2_with fail
  clear hb0_0 hb0_1 hb0_2 hb0_3 hb0_4 hb1_0 hb1_1 hb1_2 hb1_3 hb1_4 hb2_0 hb2_1 hb2_2 hb2_3 hb2_4 hb3_0 hb3_1 hb3_2 hb3_3 hb3_4
  refine (HSB.out _ _ _ (H1.out.mag.ext HX.out) RR.out.arr).mono ?_
  rintro e w14 ⟨r13, rfl, hi13, hx13⟩
  have HX := Lib.hid (HX.out.trans hx13)
  have HW := Lib.hid (HW.out.trans hx13)
  have RQ := Lib.hid (RQ.out.ext hx13)
  have RR := Lib.hid (RR.out.ext hx13)
  have R1 := Lib.hid (R1.out.ext hx13)
  have RQ2 := Lib.hid (RQ2.out.ext hx13)
  have HB0 := Lib.hid (HB0.out.ext hx13)
  have HB1 := Lib.hid (HB1.out.ext hx13)
  have HB2 := Lib.hid (HB2.out.ext hx13)
  have HB3 := Lib.hid (HB3.out.ext hx13)
  clear hx13
  have RR2 := Lib.hid hi13
  obtain ⟨g13, G13, j13, rfl⟩ := hi13.shape
  clear hi13
  obtain ⟨hb0_0, hb0_1, hb0_2, hb0_3, hb0_4⟩ := HB0.out.two
  obtain ⟨hb1_0, hb1_1, hb1_2, hb1_3, hb1_4⟩ := HB1.out.two
  obtain ⟨hb2_0, hb2_1, hb2_2, hb2_3, hb2_4⟩ := HB2.out.two
  obtain ⟨hb3_0, hb3_1, hb3_2, hb3_3, hb3_4⟩ := HB3.out.two
  go_upto_region 7 with fail
  have RQd := Lib.hid (RQ2.out.arr.ext (Ext.refl _).drew)
  have RRd := Lib.hid (RR2.out.arr.ext (Ext.refl _).drew)
  have hzz := HZ.out
  have hwx : wo.heap.size ≤ w14.heap.size := HW.out.size
  go_region_held3 (fun w' => Ext w w' ∧ w'.cell? ⟨w.heap.size, 0, none⟩ = some (Value.bool true) ∧ w'.cell? ⟨w.heap.size, 1, none⟩ = some (Value.slice A0 l0 c0) ∧ w'.cell? ⟨w.heap.size + 1, 0, none⟩ = some (Value.bool false) ∧ w'.cell? ⟨w.heap.size + 1, 1, none⟩ = some (Value.slice A1 l1 c1) ∧ w'.cell? ⟨w.heap.size, 0, none⟩ = some (Value.bool true) ∧ w'.cell? ⟨w.heap.size, 1, none⟩ = some (Value.slice A0 l0 c0) ∧ w'.cell? ⟨w.heap.size + 1 + 1, 0, none⟩ = some (was w' (w.heap.size + 1 + 1) 0) ∧ w'.cell? ⟨w.heap.size + 1 + 1, 1, none⟩ = some (was w' (w.heap.size + 1 + 1) 1) ∧ w'.cell? ⟨w.heap.size + 1 + 1 + 1, 0, none⟩ = some (was w' (w.heap.size + 1 + 1 + 1) 0) ∧ w'.cell? ⟨w.heap.size + 1 + 1 + 1, 1, none⟩ = some (was w' (w.heap.size + 1 + 1 + 1) 1) ∧ w'.frozen? ⟨w.heap.size + 1 + 1, 0, none⟩ = false ∧ w'.frozen? ⟨w.heap.size + 1 + 1, 1, none⟩ = false ∧ w'.frozen? ⟨w.heap.size + 1 + 1 + 1, 0, none⟩ = false ∧ w'.frozen? ⟨w.heap.size + 1 + 1 + 1, 1, none⟩ = false)
    (first | (exact ⟨HX.out.drew, hb0_0, hb0_1, hb1_0, hb1_1, hb0_0, hb0_1, was_some (w := w14.drew) hb2_0, was_some (w := w14.drew) hb2_1, was_some (w := w14.drew) hb3_0, was_some (w := w14.drew) hb3_1, hb2_2, hb2_3, hb3_2, hb3_3⟩) | (exact keptD6 (by assumption) (by assumption)) | (exact keptD6_set (by assumption) (by omega) (by omega) (by omega) (by omega) (by omega) (by omega) (by omega)))
    (first
      | (go_at_call 77; have hchk15 := hz14; refine (HN2.out _ _ RRd.out).mono ?_; rintro e w16 ⟨r15, rfl, hi15, hx15⟩; have hz15 := hx15.size; have S1 := Lib.hid (S1.out.ext hx15); have S2 := Lib.hid hi15; obtain ⟨f15, g15, G15, j15, rfl⟩ := hi15.shape)
      | (go_at_call 77; refine (HN1.out _ _ RQd.out).mono ?_; rintro e w15 ⟨r14, rfl, hi14, hx14⟩; have hz14 := hx14.size; have S1 := Lib.hid hi14; have RRd := Lib.hid (RRd.out.ext hx14); obtain ⟨f14, g14, G14, j14, rfl⟩ := hi14.shape))
  all_goals go_wp2_with fail
  rename_i hS
  obtain ⟨hE, _, _, _, _, _, _, c0, c1, c2, c3, _, _, _, _⟩ := hS
  simp only [World.size_drew] at hz14
  obtain ⟨hr0, hr1, hr2, hr3⟩ := final22 c0 c1 c2 c3 (by omega)
  refine bodyPost_ret (v := .tuple #[.agg #[.bool f14, .slice G14 g14 j14], .agg #[.bool f15, .slice G15 g15 j15], .bool true]) (by simp [results, Tryz.results95, go_sem, hr0, hr1, hr2, hr3]) rfl ?_
  exact ⟨_, _, _, rfl, ((((S1.out.far (p := ⟨w.heap.size + 1 + 1, 0, none⟩) (by first | omega | (simp <;> omega)) (.bool f14)).far (p := ⟨w.heap.size + 1 + 1, 1, none⟩) (by first | omega | (simp <;> omega)) (.slice G14 g14 j14)).far (p := ⟨w.heap.size + 1 + 1 + 1, 0, none⟩) (by first | omega | (simp <;> omega)) (.bool f15)).far (p := ⟨w.heap.size + 1 + 1 + 1, 1, none⟩) (by first | omega | (simp <;> omega)) (.slice G15 g15 j15)).mono (by first | omega | (simp <;> omega)), ((((S2.out.far (p := ⟨w.heap.size + 1 + 1, 0, none⟩) (by first | omega | (simp <;> omega)) (.bool f14)).far (p := ⟨w.heap.size + 1 + 1, 1, none⟩) (by first | omega | (simp <;> omega)) (.slice G14 g14 j14)).far (p := ⟨w.heap.size + 1 + 1 + 1, 0, none⟩) (by first | omega | (simp <;> omega)) (.bool f15)).far (p := ⟨w.heap.size + 1 + 1 + 1, 1, none⟩) (by first | omega | (simp <;> omega)) (.slice G15 g15 j15)).mono (by first | omega | (simp <;> omega)), hE⟩
set_option maxHeartbeats 2000000 in
set_option maxRecDepth 100000 in
theorem idm_b (w : World) (v0 : Value) (x : Int) (h0 : ArrInt w v0 x) (n0 : (limbs x.natAbs).length ≤ 1000000) (v1 : Value) (d : Nat) (h1 : ArrInt w v1 (d : Int)) (n1 : (limbs d).length ≤ 1000000) (hd : 0 < d) (hB : ¬ x < 0 ∨ x.natAbs % d = 0) :
    Calls Tryz.prog 95 #[v0, v1] w fun e w' => ∃ v' u' z, e = .returned (.tuple #[v', u', .bool true]) ∧ IsInt w.heap.size w' v' (x / (d : Int)) ∧ IsInt w.heap.size w' u' z ∧ Ext w w' := by
  have H0 := Lib.hid h0
  have H1 := Lib.hid h1
  have hql : (limbs (x.natAbs / d)).length ≤ 1000000 := Nat.le_trans (limbs_mono (Nat.div_le_self _ _)) n0
  have hrl : (limbs (x.natAbs % d)).length ≤ 1000000 := Nat.le_trans (limbs_mono (Nat.le_of_lt (Nat.mod_lt _ hd))) n1
  have HQD := Lib.hid (fun W m m' a b => qdivmod_any W m m' (limbs x.natAbs) (limbs d) a b (by omega) (by omega) (by rw [val_limbs]; omega))
  unfold DivPost at HQD
  rw [val_limbs, val_limbs] at HQD
  have HN1 := Lib.hid (fun W m a => inat_any W (decide (x < 0)) m (limbs (x.natAbs / d)) a (by omega))
  rw [val_limbs, fdiv_b hd hB] at HN1
  have HN2 := Lib.hid (fun W m a => inat_any W false m (limbs (x.natAbs % d)) a (by omega))
  rw [val_limbs] at HN2
  have hrp : decide (x < 0) = true → (limbs (x.natAbs % d)).length = 0 := fun e => by
    have hx := of_decide_eq_true e
    rcases hB with h | h
    · exact absurd hx h
    · rw [h]; rfl
  obtain ⟨b0, l0, A0, c0, rfl⟩ := h0.shape
  obtain ⟨b1, l1, A1, c1, rfl⟩ := h1.shape
  have hs0 := h0.sign
  have hs1 := h1.sign
  rw [decide_eq_false (p := (d : Int) < 0) (by omega)] at hs1
  subst hs1
  rw [← hs0] at HN1 hrp
  clear h0 h1 hs0 hB hd hql hrl n0 n1
  generalize x / (d : Int) = zq at *
  go_enter Tryz.func95, Tryz.ntmps95
  go_wp2_with fail
  have hb0 := ((((Blk.new w 24 #[Value.bool b0, Value.slice A0 l0 c0]).alloc (.cells #[Value.bool false, Value.slice A1 l1 c1] 24)).alloc (.cells #[Value.bool false, Value.slice none 0 0] 24)).alloc (.cells #[Value.bool false, Value.slice none 0 0] 24))
  have hb1 := (((Blk.new (w.alloc (.cells #[Value.bool b0, Value.slice A0 l0 c0] 24)) 24 #[Value.bool false, Value.slice A1 l1 c1]).alloc (.cells #[Value.bool false, Value.slice none 0 0] 24)).alloc (.cells #[Value.bool false, Value.slice none 0 0] 24))
  have hb2 := ((Blk.new ((w.alloc (.cells #[Value.bool b0, Value.slice A0 l0 c0] 24)).alloc (.cells #[Value.bool false, Value.slice A1 l1 c1] 24)) 24 #[Value.bool false, Value.slice none 0 0]).alloc (.cells #[Value.bool false, Value.slice none 0 0] 24))
  have hb3 := (Blk.new (((w.alloc (.cells #[Value.bool b0, Value.slice A0 l0 c0] 24)).alloc (.cells #[Value.bool false, Value.slice A1 l1 c1] 24)).alloc (.cells #[Value.bool false, Value.slice none 0 0] 24)) 24 #[Value.bool false, Value.slice none 0 0])
  have hxo := (((((Ext.refl w).alloc (.cells #[Value.bool b0, Value.slice A0 l0 c0] 24)).alloc (.cells #[Value.bool false, Value.slice A1 l1 c1] 24)).alloc (.cells #[Value.bool false, Value.slice none 0 0] 24)).alloc (.cells #[Value.bool false, Value.slice none 0 0] 24))
  have hszo : w.heap.size + 1 + 1 + 1 + 1 = ((((w.alloc (.cells #[Value.bool b0, Value.slice A0 l0 c0] 24)).alloc (.cells #[Value.bool false, Value.slice A1 l1 c1] 24)).alloc (.cells #[Value.bool false, Value.slice none 0 0] 24)).alloc (.cells #[Value.bool false, Value.slice none 0 0] 24)).heap.size := by simp
  simp only [World.size_alloc] at hb1 hb2 hb3
  generalize (((w.alloc (.cells #[Value.bool b0, Value.slice A0 l0 c0] 24)).alloc (.cells #[Value.bool false, Value.slice A1 l1 c1] 24)).alloc (.cells #[Value.bool false, Value.slice none 0 0] 24)).alloc (.cells #[Value.bool false, Value.slice none 0 0] 24) = wo at *
  have HX := Lib.hid hxo
  have HZ : Hid (w.heap.size + 1 + 1 + 1 + 1 ≤ wo.heap.size) := Lib.hid (by omega)
  have HB0 := Lib.hid hb0
  have HB1 := Lib.hid hb1
  have HB2 := Lib.hid hb2
  have HB3 := Lib.hid hb3
  clear hxo hszo hb0 hb1 hb2 hb3
  have HW := Lib.hid (Ext.refl wo)
  refine (HQD.out _ _ _ (H0.out.mag.ext HX.out) (H1.out.mag.ext HX.out)).mono ?_
  rintro e w11 ⟨r10, r10b, rfl, hi10, hj10, hx10⟩
  have HX := Lib.hid (HX.out.trans hx10)
  have HW := Lib.hid (HW.out.trans hx10)
  have HB0 := Lib.hid (HB0.out.ext hx10)
  have HB1 := Lib.hid (HB1.out.ext hx10)
  have HB2 := Lib.hid (HB2.out.ext hx10)
  have HB3 := Lib.hid (HB3.out.ext hx10)
  clear hx10
  have RQ := Lib.hid hi10
  have RR := Lib.hid hj10
  obtain ⟨g10, G10, j10, rfl⟩ := hi10.shape
  obtain ⟨y10, Y10, z10, rfl⟩ := hj10.shape
  have hrlen := RR.out.arr.len
  clear hi10 hj10
  rw [← hrlen] at hrp
  clear hrlen
  obtain ⟨hb0_0, hb0_1, hb0_2, hb0_3, hb0_4⟩ := HB0.out.two
  obtain ⟨hb1_0, hb1_1, hb1_2, hb1_3, hb1_4⟩ := HB1.out.two
  obtain ⟨hb2_0, hb2_1, hb2_2, hb2_3, hb2_4⟩ := HB2.out.two
  obtain ⟨hb3_0, hb3_1, hb3_2, hb3_3, hb3_4⟩ := HB3.out.two
  cases b0
  · clear hrp
    go_upto_region 7 with fail
    have RQd := Lib.hid (RQ.out.arr.ext (Ext.refl _).drew)
    have RRd := Lib.hid (RR.out.arr.ext (Ext.refl _).drew)
    have hzz := HZ.out
    have hwx : wo.heap.size ≤ w11.heap.size := HW.out.size
    go_region_held3 (fun w' => Ext w w' ∧ w'.cell? ⟨w.heap.size, 0, none⟩ = some (Value.bool false) ∧ w'.cell? ⟨w.heap.size, 1, none⟩ = some (Value.slice A0 l0 c0) ∧ w'.cell? ⟨w.heap.size + 1, 0, none⟩ = some (Value.bool false) ∧ w'.cell? ⟨w.heap.size + 1, 1, none⟩ = some (Value.slice A1 l1 c1) ∧ w'.cell? ⟨w.heap.size, 0, none⟩ = some (Value.bool false) ∧ w'.cell? ⟨w.heap.size, 1, none⟩ = some (Value.slice A0 l0 c0) ∧ w'.cell? ⟨w.heap.size + 1 + 1, 0, none⟩ = some (was w' (w.heap.size + 1 + 1) 0) ∧ w'.cell? ⟨w.heap.size + 1 + 1, 1, none⟩ = some (was w' (w.heap.size + 1 + 1) 1) ∧ w'.cell? ⟨w.heap.size + 1 + 1 + 1, 0, none⟩ = some (was w' (w.heap.size + 1 + 1 + 1) 0) ∧ w'.cell? ⟨w.heap.size + 1 + 1 + 1, 1, none⟩ = some (was w' (w.heap.size + 1 + 1 + 1) 1) ∧ w'.frozen? ⟨w.heap.size + 1 + 1, 0, none⟩ = false ∧ w'.frozen? ⟨w.heap.size + 1 + 1, 1, none⟩ = false ∧ w'.frozen? ⟨w.heap.size + 1 + 1 + 1, 0, none⟩ = false ∧ w'.frozen? ⟨w.heap.size + 1 + 1 + 1, 1, none⟩ = false)
      (first | (exact ⟨HX.out.drew, hb0_0, hb0_1, hb1_0, hb1_1, hb0_0, hb0_1, was_some (w := w11.drew) hb2_0, was_some (w := w11.drew) hb2_1, was_some (w := w11.drew) hb3_0, was_some (w := w11.drew) hb3_1, hb2_2, hb2_3, hb3_2, hb3_3⟩) | (exact keptD6 (by assumption) (by assumption)) | (exact keptD6_set (by assumption) (by omega) (by omega) (by omega) (by omega) (by omega) (by omega) (by omega)))
      (first
        | (go_at_call 77; have hchk12 := hz11; refine (HN2.out _ _ RRd.out).mono ?_; rintro e w13 ⟨r12, rfl, hi12, hx12⟩; have hz12 := hx12.size; have S1 := Lib.hid (S1.out.ext hx12); have S2 := Lib.hid hi12; obtain ⟨f12, g12, G12, j12, rfl⟩ := hi12.shape)
        | (go_at_call 77; refine (HN1.out _ _ RQd.out).mono ?_; rintro e w12 ⟨r11, rfl, hi11, hx11⟩; have hz11 := hx11.size; have S1 := Lib.hid hi11; have RRd := Lib.hid (RRd.out.ext hx11); obtain ⟨f11, g11, G11, j11, rfl⟩ := hi11.shape))
    all_goals go_wp2_with fail
    rename_i hS
    obtain ⟨hE, _, _, _, _, _, _, c0, c1, c2, c3, _, _, _, _⟩ := hS
    simp only [World.size_drew] at hz11
    obtain ⟨hr0, hr1, hr2, hr3⟩ := final22 c0 c1 c2 c3 (by omega)
    refine bodyPost_ret (v := .tuple #[.agg #[.bool f11, .slice G11 g11 j11], .agg #[.bool f12, .slice G12 g12 j12], .bool true]) (by simp [results, Tryz.results95, go_sem, hr0, hr1, hr2, hr3]) rfl ?_
    exact ⟨_, _, _, rfl, ((((S1.out.far (p := ⟨w.heap.size + 1 + 1, 0, none⟩) (by first | omega | (simp <;> omega)) (.bool f11)).far (p := ⟨w.heap.size + 1 + 1, 1, none⟩) (by first | omega | (simp <;> omega)) (.slice G11 g11 j11)).far (p := ⟨w.heap.size + 1 + 1 + 1, 0, none⟩) (by first | omega | (simp <;> omega)) (.bool f12)).far (p := ⟨w.heap.size + 1 + 1 + 1, 1, none⟩) (by first | omega | (simp <;> omega)) (.slice G12 g12 j12)).mono (by first | omega | (simp <;> omega)), ((((S2.out.far (p := ⟨w.heap.size + 1 + 1, 0, none⟩) (by first | omega | (simp <;> omega)) (.bool f11)).far (p := ⟨w.heap.size + 1 + 1, 1, none⟩) (by first | omega | (simp <;> omega)) (.slice G11 g11 j11)).far (p := ⟨w.heap.size + 1 + 1 + 1, 0, none⟩) (by first | omega | (simp <;> omega)) (.bool f12)).far (p := ⟨w.heap.size + 1 + 1 + 1, 1, none⟩) (by first | omega | (simp <;> omega)) (.slice G12 g12 j12)).mono (by first | omega | (simp <;> omega)), hE⟩
  · have hr0 := hrp rfl
    subst hr0
    clear hrp
    go_upto_region 7 with fail
    have RQd := Lib.hid (RQ.out.arr.ext (Ext.refl _).drew)
    have RRd := Lib.hid (RR.out.arr.ext (Ext.refl _).drew)
    have hzz := HZ.out
    have hwx : wo.heap.size ≤ w11.heap.size := HW.out.size
    go_region_held3 (fun w' => Ext w w' ∧ w'.cell? ⟨w.heap.size, 0, none⟩ = some (Value.bool true) ∧ w'.cell? ⟨w.heap.size, 1, none⟩ = some (Value.slice A0 l0 c0) ∧ w'.cell? ⟨w.heap.size + 1, 0, none⟩ = some (Value.bool false) ∧ w'.cell? ⟨w.heap.size + 1, 1, none⟩ = some (Value.slice A1 l1 c1) ∧ w'.cell? ⟨w.heap.size, 0, none⟩ = some (Value.bool true) ∧ w'.cell? ⟨w.heap.size, 1, none⟩ = some (Value.slice A0 l0 c0) ∧ w'.cell? ⟨w.heap.size + 1 + 1, 0, none⟩ = some (was w' (w.heap.size + 1 + 1) 0) ∧ w'.cell? ⟨w.heap.size + 1 + 1, 1, none⟩ = some (was w' (w.heap.size + 1 + 1) 1) ∧ w'.cell? ⟨w.heap.size + 1 + 1 + 1, 0, none⟩ = some (was w' (w.heap.size + 1 + 1 + 1) 0) ∧ w'.cell? ⟨w.heap.size + 1 + 1 + 1, 1, none⟩ = some (was w' (w.heap.size + 1 + 1 + 1) 1) ∧ w'.frozen? ⟨w.heap.size + 1 + 1, 0, none⟩ = false ∧ w'.frozen? ⟨w.heap.size + 1 + 1, 1, none⟩ = false ∧ w'.frozen? ⟨w.heap.size + 1 + 1 + 1, 0, none⟩ = false ∧ w'.frozen? ⟨w.heap.size + 1 + 1 + 1, 1, none⟩ = false)
      (first | (exact ⟨HX.out.drew, hb0_0, hb0_1, hb1_0, hb1_1, hb0_0, hb0_1, was_some (w := w11.drew) hb2_0, was_some (w := w11.drew) hb2_1, was_some (w := w11.drew) hb3_0, was_some (w := w11.drew) hb3_1, hb2_2, hb2_3, hb3_2, hb3_3⟩) | (exact keptD6 (by assumption) (by assumption)) | (exact keptD6_set (by assumption) (by omega) (by omega) (by omega) (by omega) (by omega) (by omega) (by omega)))
      (first
        | (go_at_call 77; have hchk12 := hz11; refine (HN2.out _ _ RRd.out).mono ?_; rintro e w13 ⟨r12, rfl, hi12, hx12⟩; have hz12 := hx12.size; have S1 := Lib.hid (S1.out.ext hx12); have S2 := Lib.hid hi12; obtain ⟨f12, g12, G12, j12, rfl⟩ := hi12.shape)
        | (go_at_call 77; refine (HN1.out _ _ RQd.out).mono ?_; rintro e w12 ⟨r11, rfl, hi11, hx11⟩; have hz11 := hx11.size; have S1 := Lib.hid hi11; have RRd := Lib.hid (RRd.out.ext hx11); obtain ⟨f11, g11, G11, j11, rfl⟩ := hi11.shape))
    all_goals go_wp2_with fail
    rename_i hS
    obtain ⟨hE, _, _, _, _, _, _, c0, c1, c2, c3, _, _, _, _⟩ := hS
    simp only [World.size_drew] at hz11
    obtain ⟨hr0, hr1, hr2, hr3⟩ := final22 c0 c1 c2 c3 (by omega)
    refine bodyPost_ret (v := .tuple #[.agg #[.bool f11, .slice G11 g11 j11], .agg #[.bool f12, .slice G12 g12 j12], .bool true]) (by simp [results, Tryz.results95, go_sem, hr0, hr1, hr2, hr3]) rfl ?_
    exact ⟨_, _, _, rfl, ((((S1.out.far (p := ⟨w.heap.size + 1 + 1, 0, none⟩) (by first | omega | (simp <;> omega)) (.bool f11)).far (p := ⟨w.heap.size + 1 + 1, 1, none⟩) (by first | omega | (simp <;> omega)) (.slice G11 g11 j11)).far (p := ⟨w.heap.size + 1 + 1 + 1, 0, none⟩) (by first | omega | (simp <;> omega)) (.bool f12)).far (p := ⟨w.heap.size + 1 + 1 + 1, 1, none⟩) (by first | omega | (simp <;> omega)) (.slice G12 g12 j12)).mono (by first | omega | (simp <;> omega)), ((((S2.out.far (p := ⟨w.heap.size + 1 + 1, 0, none⟩) (by first | omega | (simp <;> omega)) (.bool f11)).far (p := ⟨w.heap.size + 1 + 1, 1, none⟩) (by first | omega | (simp <;> omega)) (.slice G11 g11 j11)).far (p := ⟨w.heap.size + 1 + 1 + 1, 0, none⟩) (by first | omega | (simp <;> omega)) (.bool f12)).far (p := ⟨w.heap.size + 1 + 1 + 1, 1, none⟩) (by first | omega | (simp <;> omega)) (.slice G12 g12 j12)).mono (by first | omega | (simp <;> omega)), hE⟩
set_option maxHeartbeats 2000000 in
set_option maxRecDepth 100000 in
theorem rdm_b (w : World) (v0 : Value) (x : Int) (h0 : ArrInt w v0 x) (n0 : (limbs x.natAbs).length ≤ 1000000) (v1 : Value) (d : Nat) (h1 : ArrInt w v1 (d : Int)) (n1 : (limbs d).length ≤ 1000000) (hd : 0 < d) (hB : ¬ x < 0 ∨ x.natAbs % d = 0) :
    Calls Tryz.prog 96 #[v0, v1] w fun e w' => ∃ v' u' z, e = .returned (.tuple #[v', u', .bool true]) ∧ IsInt w.heap.size w' v' (x / (d : Int)) ∧ IsInt w.heap.size w' u' z ∧ Ext w w' := by
  have H0 := Lib.hid h0
  have H1 := Lib.hid h1
  have hql : (limbs (x.natAbs / d)).length ≤ 1000000 := Nat.le_trans (limbs_mono (Nat.div_le_self _ _)) n0
  have hrl : (limbs (x.natAbs % d)).length ≤ 1000000 := Nat.le_trans (limbs_mono (Nat.le_of_lt (Nat.mod_lt _ hd))) n1
  have HQD := Lib.hid (fun W m m' a b => rdivmod_any W m m' (limbs x.natAbs) (limbs d) a b (by omega) (by omega) (by rw [val_limbs]; exact hd))
  rw [val_limbs, val_limbs] at HQD
  have HN1 := Lib.hid (fun W m a => rnat_any W (decide (x < 0)) m (limbs (x.natAbs / d)) a (by omega))
  rw [val_limbs] at HN1
  have hzl : (limbs (x / (d : Int)).natAbs).length ≤ 1000002 := by
    rw [← fdiv_b hd hB, natAbs_sgn]; omega
  rw [fdiv_b hd hB] at HN1
  have hrp : decide (x < 0) = true → (limbs (x.natAbs % d)).length = 0 := fun e => by
    have hx := of_decide_eq_true e
    rcases hB with h | h
    · exact absurd hx h
    · rw [h]; rfl
  have HML := Lib.hid (fun W v u a b => rmul5_any W v (x / (d : Int)) a (by omega) u (d : Int) b (by rw [limbs_nat_cast]; omega))
  have hml : (limbs (x / (d : Int) * (d : Int)).natAbs).length ≤ 2000004 := by
    rw [Int.natAbs_mul, Int.natAbs_natCast]
    have := length_limbs_prod hzl n1
    omega
  have HSB2 := Lib.hid (fun W v u a b => rsub5_any W v x a (by omega) u (x / (d : Int) * (d : Int)) b (by omega))
  obtain ⟨b0, l0, A0, c0, rfl⟩ := h0.shape
  obtain ⟨b1, l1, A1, c1, rfl⟩ := h1.shape
  have hs0 := h0.sign
  have hs1 := h1.sign
  rw [decide_eq_false (p := (d : Int) < 0) (by omega)] at hs1
  subst hs1
  rw [← hs0] at HN1 hrp
  clear h0 h1 hs0 hB hd hql hrl n0 n1 hzl hml
  generalize x / (d : Int) = zq at *
  go_enter Tryz.func96, Tryz.ntmps96
  go_wp2_with fail
  have hb0 := ((((Blk.new w 24 #[Value.bool b0, Value.slice A0 l0 c0]).alloc (.cells #[Value.bool false, Value.slice A1 l1 c1] 24)).alloc (.cells #[Value.bool false, Value.slice none 0 0] 24)).alloc (.cells #[Value.bool false, Value.slice none 0 0] 24))
  have hb1 := (((Blk.new (w.alloc (.cells #[Value.bool b0, Value.slice A0 l0 c0] 24)) 24 #[Value.bool false, Value.slice A1 l1 c1]).alloc (.cells #[Value.bool false, Value.slice none 0 0] 24)).alloc (.cells #[Value.bool false, Value.slice none 0 0] 24))
  have hb2 := ((Blk.new ((w.alloc (.cells #[Value.bool b0, Value.slice A0 l0 c0] 24)).alloc (.cells #[Value.bool false, Value.slice A1 l1 c1] 24)) 24 #[Value.bool false, Value.slice none 0 0]).alloc (.cells #[Value.bool false, Value.slice none 0 0] 24))
  have hb3 := (Blk.new (((w.alloc (.cells #[Value.bool b0, Value.slice A0 l0 c0] 24)).alloc (.cells #[Value.bool false, Value.slice A1 l1 c1] 24)).alloc (.cells #[Value.bool false, Value.slice none 0 0] 24)) 24 #[Value.bool false, Value.slice none 0 0])
  have hxo := (((((Ext.refl w).alloc (.cells #[Value.bool b0, Value.slice A0 l0 c0] 24)).alloc (.cells #[Value.bool false, Value.slice A1 l1 c1] 24)).alloc (.cells #[Value.bool false, Value.slice none 0 0] 24)).alloc (.cells #[Value.bool false, Value.slice none 0 0] 24))
  have hszo : w.heap.size + 1 + 1 + 1 + 1 = ((((w.alloc (.cells #[Value.bool b0, Value.slice A0 l0 c0] 24)).alloc (.cells #[Value.bool false, Value.slice A1 l1 c1] 24)).alloc (.cells #[Value.bool false, Value.slice none 0 0] 24)).alloc (.cells #[Value.bool false, Value.slice none 0 0] 24)).heap.size := by simp
  simp only [World.size_alloc] at hb1 hb2 hb3
  generalize (((w.alloc (.cells #[Value.bool b0, Value.slice A0 l0 c0] 24)).alloc (.cells #[Value.bool false, Value.slice A1 l1 c1] 24)).alloc (.cells #[Value.bool false, Value.slice none 0 0] 24)).alloc (.cells #[Value.bool false, Value.slice none 0 0] 24) = wo at *
  have HX := Lib.hid hxo
  have HX0 := Lib.hid hxo
  have HZ : Hid (w.heap.size + 1 + 1 + 1 + 1 ≤ wo.heap.size) := Lib.hid (by omega)
  have HB0 := Lib.hid hb0
  have HB1 := Lib.hid hb1
  have HB2 := Lib.hid hb2
  have HB3 := Lib.hid hb3
  clear hxo hszo hb0 hb1 hb2 hb3
  have HW := Lib.hid (Ext.refl wo)
  refine (HQD.out _ _ _ (H0.out.mag.ext HX.out) (H1.out.mag.ext HX.out)).mono ?_
  rintro e w11 ⟨r10, r10b, rfl, hi10, hj10, hx10⟩
  have HX := Lib.hid (HX.out.trans hx10)
  have HW := Lib.hid (HW.out.trans hx10)
  have HB0 := Lib.hid (HB0.out.ext hx10)
  have HB1 := Lib.hid (HB1.out.ext hx10)
  have HB2 := Lib.hid (HB2.out.ext hx10)
  have HB3 := Lib.hid (HB3.out.ext hx10)
  clear hx10
  have RQ := Lib.hid hi10
  have RR := Lib.hid hj10
  obtain ⟨g10, G10, j10, rfl⟩ := hi10.shape
  obtain ⟨y10, Y10, z10, rfl⟩ := hj10.shape
  have hrlen := RR.out.len
  clear hi10 hj10
  have HQB := Lib.hid (Nat.le_trans HZ.out HW.out.size)
  rw [← hrlen] at hrp
  clear hrlen
  obtain ⟨hb0_0, hb0_1, hb0_2, hb0_3, hb0_4⟩ := HB0.out.two
  obtain ⟨hb1_0, hb1_1, hb1_2, hb1_3, hb1_4⟩ := HB1.out.two
  obtain ⟨hb2_0, hb2_1, hb2_2, hb2_3, hb2_4⟩ := HB2.out.two
  obtain ⟨hb3_0, hb3_1, hb3_2, hb3_3, hb3_4⟩ := HB3.out.two
  go_wp2_with fail
  clear hb0_0 hb0_1 hb0_2 hb0_3 hb0_4 hb1_0 hb1_1 hb1_2 hb1_3 hb1_4 hb2_0 hb2_1 hb2_2 hb2_3 hb2_4 hb3_0 hb3_1 hb3_2 hb3_3 hb3_4
  refine (HN1.out _ _ RQ.out.arr).mono ?_
  rintro e w12 ⟨r11, rfl, hi11, hx11⟩
  have HX := Lib.hid (HX.out.trans hx11)
  have HW := Lib.hid (HW.out.trans hx11)
  have RQ := Lib.hid (RQ.out.ext hx11)
  have RR := Lib.hid (RR.out.ext hx11)
  have HB0 := Lib.hid (HB0.out.ext hx11)
  have HB1 := Lib.hid (HB1.out.ext hx11)
  have HB2 := Lib.hid (HB2.out.ext hx11)
  have HB3 := Lib.hid (HB3.out.ext hx11)
  have QO := Lib.hid hi11
  obtain ⟨f11, g11, G11, j11, rfl⟩ := hi11.shape
  clear hi11
  clear hx11
  obtain ⟨hb0_0, hb0_1, hb0_2, hb0_3, hb0_4⟩ := HB0.out.two
  obtain ⟨hb1_0, hb1_1, hb1_2, hb1_3, hb1_4⟩ := HB1.out.two
  obtain ⟨hb2_0, hb2_1, hb2_2, hb2_3, hb2_4⟩ := HB2.out.two
  obtain ⟨hb3_0, hb3_1, hb3_2, hb3_3, hb3_4⟩ := HB3.out.two
  go_upto_region 5 with fail
  have HLO := Lib.hid (Nat.le_trans HZ.out HW.out.size)
  have HLO2 := Lib.hid HW.out.size
  clear hb0_0 hb0_1 hb0_2 hb0_3 hb0_4 hb1_0 hb1_1 hb1_2 hb1_3 hb1_4 hb2_0 hb2_1 hb2_2 hb2_3 hb2_4 hb3_0 hb3_1 hb3_2 hb3_3 hb3_4
  have hb12 := Blk.new w12 24 #[Value.bool f11, Value.slice G11 g11 j11]
  have hx12 := (Ext.refl w12).alloc (.cells #[Value.bool f11, Value.slice G11 g11 j11] 24)
  have HX := Lib.hid (HX.out.trans hx12)
  have HW := Lib.hid (HW.out.trans hx12)
  have RQ := Lib.hid (RQ.out.ext hx12)
  have RR := Lib.hid (RR.out.ext hx12)
  have QO := Lib.hid (QO.out.ext hx12)
  have HB0 := Lib.hid (HB0.out.ext hx12)
  have HB1 := Lib.hid (HB1.out.ext hx12)
  have HB2 := Lib.hid (HB2.out.ext hx12)
  have HB3 := Lib.hid (HB3.out.ext hx12)
  have BO := Lib.hid hb12
  generalize w12.alloc (.cells #[Value.bool f11, Value.slice G11 g11 j11] 24) = w13 at *
  generalize w12.heap.size = a12 at *
  clear hb12 hx12
  have HLB := Lib.hid BO.out.lt
  obtain ⟨hb0_0, hb0_1, hb0_2, hb0_3, hb0_4⟩ := HB0.out.two
  obtain ⟨hb1_0, hb1_1, hb1_2, hb1_3, hb1_4⟩ := HB1.out.two
  obtain ⟨hb2_0, hb2_1, hb2_2, hb2_3, hb2_4⟩ := HB2.out.two
  obtain ⟨hb3_0, hb3_1, hb3_2, hb3_3, hb3_4⟩ := HB3.out.two
  obtain ⟨bo_0, bo_1, bo_2, bo_3, bo_4⟩ := BO.out.two
  cases b0
  · have hbn : (false != false) = false := rfl
    clear hrp
    go_upto_region 7 with fail
    have QOd := Lib.hid (QO.out.ext (Ext.refl _).drew)
    have hzz := HZ.out
    have hlo := HLO.out
    have hwx : wo.heap.size ≤ w13.heap.size := HW.out.size
    go_region_held3 (fun w' => Ext w w' ∧ w'.cell? ⟨w.heap.size, 0, none⟩ = some (Value.bool false) ∧ w'.cell? ⟨w.heap.size, 1, none⟩ = some (Value.slice A0 l0 c0) ∧ w'.cell? ⟨w.heap.size + 1, 0, none⟩ = some (Value.bool false) ∧ w'.cell? ⟨w.heap.size + 1, 1, none⟩ = some (Value.slice A1 l1 c1) ∧ w'.cell? ⟨a12, 0, none⟩ = some (Value.bool f11) ∧ w'.cell? ⟨a12, 1, none⟩ = some (Value.slice G11 g11 j11) ∧ w'.cell? ⟨w.heap.size + 1 + 1, 0, none⟩ = some (was w' (w.heap.size + 1 + 1) 0) ∧ w'.cell? ⟨w.heap.size + 1 + 1, 1, none⟩ = some (was w' (w.heap.size + 1 + 1) 1) ∧ w'.cell? ⟨w.heap.size + 1 + 1 + 1, 0, none⟩ = some (was w' (w.heap.size + 1 + 1 + 1) 0) ∧ w'.cell? ⟨w.heap.size + 1 + 1 + 1, 1, none⟩ = some (was w' (w.heap.size + 1 + 1 + 1) 1) ∧ w'.frozen? ⟨w.heap.size + 1 + 1, 0, none⟩ = false ∧ w'.frozen? ⟨w.heap.size + 1 + 1, 1, none⟩ = false ∧ w'.frozen? ⟨w.heap.size + 1 + 1 + 1, 0, none⟩ = false ∧ w'.frozen? ⟨w.heap.size + 1 + 1 + 1, 1, none⟩ = false)
      (first | (exact ⟨HX.out.drew, hb0_0, hb0_1, hb1_0, hb1_1, bo_0, bo_1, was_some (w := w13.drew) hb2_0, was_some (w := w13.drew) hb2_1, was_some (w := w13.drew) hb3_0, was_some (w := w13.drew) hb3_1, hb2_2, hb2_3, hb3_2, hb3_3⟩) | (exact keptD6 (by assumption) (by assumption)) | (exact keptD6_set (by assumption) (by omega) (by omega) (by omega) (by omega) (by omega) (by omega) (by omega)))
      (first
        | (go_at_call 142; have hchk14 := hz13; refine (HSB2.out _ _ _ (H0.out.ext (And.left (by assumption))) S1.out.arr).mono ?_; rintro e w15 ⟨r14, rfl, hi14, hx14⟩; have hz14 := hx14.size; have QOd := Lib.hid (QOd.out.ext hx14); have S1 := Lib.hid (S1.out.ext hx14); have S2 := Lib.hid hi14; obtain ⟨f14, g14, G14, j14, rfl⟩ := hi14.shape)
        | (go_at_call 58; refine (HML.out _ _ _ QOd.out.arr (H1.out.ext (And.left (by assumption)))).mono ?_; rintro e w14 ⟨r13, rfl, hi13, hx13⟩; have hz13 := hx13.size; have S1 := Lib.hid hi13; have QOd := Lib.hid (QOd.out.ext hx13); obtain ⟨f13, g13, G13, j13, rfl⟩ := hi13.shape))
    all_goals go_wp2_with fail
    rename_i hS
    obtain ⟨hE, _, _, _, _, _, _, c0, c1, c2, c3, _, _, _, _⟩ := hS
    simp only [World.size_drew] at hz13
    obtain ⟨hr0, hr1, hr2, hr3⟩ := final22 c0 c1 c2 c3 (by omega)
    refine bodyPost_ret (v := .tuple #[.agg #[(Value.bool f11), (Value.slice G11 g11 j11)], .agg #[.bool f14, .slice G14 g14 j14], .bool true]) (by simp [results, Tryz.results96, go_sem, hr0, hr1, hr2, hr3]) rfl ?_
    have hqb := HQB.out
    exact ⟨_, _, _, rfl, ((((QOd.out.far (p := ⟨w.heap.size + 1 + 1, 0, none⟩) (by first | omega | (simp <;> omega)) (Value.bool f11)).far (p := ⟨w.heap.size + 1 + 1, 1, none⟩) (by first | omega | (simp <;> omega)) (Value.slice G11 g11 j11)).far (p := ⟨w.heap.size + 1 + 1 + 1, 0, none⟩) (by first | omega | (simp <;> omega)) (.bool f14)).far (p := ⟨w.heap.size + 1 + 1 + 1, 1, none⟩) (by first | omega | (simp <;> omega)) (.slice G14 g14 j14)).mono (by first | omega | (simp <;> omega)), ((((S2.out.far (p := ⟨w.heap.size + 1 + 1, 0, none⟩) (by first | omega | (simp <;> omega)) (Value.bool f11)).far (p := ⟨w.heap.size + 1 + 1, 1, none⟩) (by first | omega | (simp <;> omega)) (Value.slice G11 g11 j11)).far (p := ⟨w.heap.size + 1 + 1 + 1, 0, none⟩) (by first | omega | (simp <;> omega)) (.bool f14)).far (p := ⟨w.heap.size + 1 + 1 + 1, 1, none⟩) (by first | omega | (simp <;> omega)) (.slice G14 g14 j14)).mono (by first | omega | (simp <;> omega)), hE⟩
  · have hr0 := hrp rfl
    subst hr0
    clear hrp
    go_upto_region 7 with fail
    have QOd := Lib.hid (QO.out.ext (Ext.refl _).drew)
    have hzz := HZ.out
    have hlo := HLO.out
    have hwx : wo.heap.size ≤ w13.heap.size := HW.out.size
    go_region_held3 (fun w' => Ext w w' ∧ w'.cell? ⟨w.heap.size, 0, none⟩ = some (Value.bool true) ∧ w'.cell? ⟨w.heap.size, 1, none⟩ = some (Value.slice A0 l0 c0) ∧ w'.cell? ⟨w.heap.size + 1, 0, none⟩ = some (Value.bool false) ∧ w'.cell? ⟨w.heap.size + 1, 1, none⟩ = some (Value.slice A1 l1 c1) ∧ w'.cell? ⟨a12, 0, none⟩ = some (Value.bool f11) ∧ w'.cell? ⟨a12, 1, none⟩ = some (Value.slice G11 g11 j11) ∧ w'.cell? ⟨w.heap.size + 1 + 1, 0, none⟩ = some (was w' (w.heap.size + 1 + 1) 0) ∧ w'.cell? ⟨w.heap.size + 1 + 1, 1, none⟩ = some (was w' (w.heap.size + 1 + 1) 1) ∧ w'.cell? ⟨w.heap.size + 1 + 1 + 1, 0, none⟩ = some (was w' (w.heap.size + 1 + 1 + 1) 0) ∧ w'.cell? ⟨w.heap.size + 1 + 1 + 1, 1, none⟩ = some (was w' (w.heap.size + 1 + 1 + 1) 1) ∧ w'.frozen? ⟨w.heap.size + 1 + 1, 0, none⟩ = false ∧ w'.frozen? ⟨w.heap.size + 1 + 1, 1, none⟩ = false ∧ w'.frozen? ⟨w.heap.size + 1 + 1 + 1, 0, none⟩ = false ∧ w'.frozen? ⟨w.heap.size + 1 + 1 + 1, 1, none⟩ = false)
      (first | (exact ⟨HX.out.drew, hb0_0, hb0_1, hb1_0, hb1_1, bo_0, bo_1, was_some (w := w13.drew) hb2_0, was_some (w := w13.drew) hb2_1, was_some (w := w13.drew) hb3_0, was_some (w := w13.drew) hb3_1, hb2_2, hb2_3, hb3_2, hb3_3⟩) | (exact keptD6 (by assumption) (by assumption)) | (exact keptD6_set (by assumption) (by omega) (by omega) (by omega) (by omega) (by omega) (by omega) (by omega)))
      (first
        | (go_at_call 142; have hchk14 := hz13; refine (HSB2.out _ _ _ (H0.out.ext (And.left (by assumption))) S1.out.arr).mono ?_; rintro e w15 ⟨r14, rfl, hi14, hx14⟩; have hz14 := hx14.size; have QOd := Lib.hid (QOd.out.ext hx14); have S1 := Lib.hid (S1.out.ext hx14); have S2 := Lib.hid hi14; obtain ⟨f14, g14, G14, j14, rfl⟩ := hi14.shape)
        | (go_at_call 58; refine (HML.out _ _ _ QOd.out.arr (H1.out.ext (And.left (by assumption)))).mono ?_; rintro e w14 ⟨r13, rfl, hi13, hx13⟩; have hz13 := hx13.size; have S1 := Lib.hid hi13; have QOd := Lib.hid (QOd.out.ext hx13); obtain ⟨f13, g13, G13, j13, rfl⟩ := hi13.shape))
    all_goals go_wp2_with fail
    rename_i hS
    obtain ⟨hE, _, _, _, _, _, _, c0, c1, c2, c3, _, _, _, _⟩ := hS
    simp only [World.size_drew] at hz13
    obtain ⟨hr0, hr1, hr2, hr3⟩ := final22 c0 c1 c2 c3 (by omega)
    refine bodyPost_ret (v := .tuple #[.agg #[(Value.bool f11), (Value.slice G11 g11 j11)], .agg #[.bool f14, .slice G14 g14 j14], .bool true]) (by simp [results, Tryz.results96, go_sem, hr0, hr1, hr2, hr3]) rfl ?_
    have hqb := HQB.out
    exact ⟨_, _, _, rfl, ((((QOd.out.far (p := ⟨w.heap.size + 1 + 1, 0, none⟩) (by first | omega | (simp <;> omega)) (Value.bool f11)).far (p := ⟨w.heap.size + 1 + 1, 1, none⟩) (by first | omega | (simp <;> omega)) (Value.slice G11 g11 j11)).far (p := ⟨w.heap.size + 1 + 1 + 1, 0, none⟩) (by first | omega | (simp <;> omega)) (.bool f14)).far (p := ⟨w.heap.size + 1 + 1 + 1, 1, none⟩) (by first | omega | (simp <;> omega)) (.slice G14 g14 j14)).mono (by first | omega | (simp <;> omega)), ((((S2.out.far (p := ⟨w.heap.size + 1 + 1, 0, none⟩) (by first | omega | (simp <;> omega)) (Value.bool f11)).far (p := ⟨w.heap.size + 1 + 1, 1, none⟩) (by first | omega | (simp <;> omega)) (Value.slice G11 g11 j11)).far (p := ⟨w.heap.size + 1 + 1 + 1, 0, none⟩) (by first | omega | (simp <;> omega)) (.bool f14)).far (p := ⟨w.heap.size + 1 + 1 + 1, 1, none⟩) (by first | omega | (simp <;> omega)) (.slice G14 g14 j14)).mono (by first | omega | (simp <;> omega)), hE⟩
set_option maxHeartbeats 2000000 in
set_option maxRecDepth 100000 in
theorem rdm_a (w : World) (v0 : Value) (x : Int) (h0 : ArrInt w v0 x) (n0 : (limbs x.natAbs).length ≤ 1000000) (v1 : Value) (d : Nat) (h1 : ArrInt w v1 (d : Int)) (n1 : (limbs d).length ≤ 1000000) (hd : 0 < d) (hx : x < 0) (hr : x.natAbs % d ≠ 0) :
    Calls Tryz.prog 96 #[v0, v1] w fun e w' => ∃ v' u' z, e = .returned (.tuple #[v', u', .bool true]) ∧ IsInt w.heap.size w' v' (x / (d : Int)) ∧ IsInt w.heap.size w' u' z ∧ Ext w w' := by
  have H0 := Lib.hid h0
  have H1 := Lib.hid h1
  have hql : (limbs (x.natAbs / d)).length ≤ 1000000 := Nat.le_trans (limbs_mono (Nat.div_le_self _ _)) n0
  have hrl : (limbs (x.natAbs % d)).length ≤ 1000000 := Nat.le_trans (limbs_mono (Nat.le_of_lt (Nat.mod_lt _ hd))) n1
  have HQD := Lib.hid (fun W m m' a b => rdivmod_any W m m' (limbs x.natAbs) (limbs d) a b (by omega) (by omega) (by rw [val_limbs]; exact hd))
  rw [val_limbs, val_limbs] at HQD
  have HN1 := Lib.hid (fun W m a => rnat_any W (decide (x < 0)) m (limbs (x.natAbs / d)) a (by omega))
  rw [val_limbs] at HN1
  have hzl : (limbs (x / (d : Int)).natAbs).length ≤ 1000002 := by
    rw [← fdiv_a hd hx hr, natAbs_sgn]
    have := length_limbs_sum hql (show (limbs 1).length ≤ 1 by rw [limbs_one]; simp)
    omega
  have HOF := Lib.hid (fun W => rof5_any W 1 (by decide) (by decide))
  have HSB := Lib.hid (fun W v u a b => rsub5_any W v (sgn true (x.natAbs / d)) a (by rw [natAbs_sgn]; omega) u 1 b (by rw [show (1 : Int).natAbs = 1 from rfl, limbs_one]; simp))
  rw [fdiv_a' hd hx hr] at HSB
  have hrp : 0 < (limbs (x.natAbs % d)).length := by rw [List.length_pos_iff]; intro e; rw [limbs_eq_nil] at e; exact hr e
  have hbx : decide (x < 0) = true := decide_eq_true hx
  rw [hbx] at HN1
  generalize sgn true (x.natAbs / d) = z1 at *
  have HML := Lib.hid (fun W v u a b => rmul5_any W v (x / (d : Int)) a (by omega) u (d : Int) b (by rw [limbs_nat_cast]; omega))
  have hml : (limbs (x / (d : Int) * (d : Int)).natAbs).length ≤ 2000004 := by
    rw [Int.natAbs_mul, Int.natAbs_natCast]
    have := length_limbs_prod hzl n1
    omega
  have HSB2 := Lib.hid (fun W v u a b => rsub5_any W v x a (by omega) u (x / (d : Int) * (d : Int)) b (by omega))
  obtain ⟨b0, l0, A0, c0, rfl⟩ := h0.shape
  obtain ⟨b1, l1, A1, c1, rfl⟩ := h1.shape
  have hs0 := h0.sign
  have hs1 := h1.sign
  rw [decide_eq_false (p := (d : Int) < 0) (by omega)] at hs1
  subst hs1
  rw [hbx] at hs0
  subst hs0
  clear h0 h1 hbx hx hr hd hql hrl n0 n1 hzl hml
  generalize x / (d : Int) = zq at *
  go_enter Tryz.func96, Tryz.ntmps96
  go_wp2_with fail
  have hb0 := ((((Blk.new w 24 #[Value.bool true, Value.slice A0 l0 c0]).alloc (.cells #[Value.bool false, Value.slice A1 l1 c1] 24)).alloc (.cells #[Value.bool false, Value.slice none 0 0] 24)).alloc (.cells #[Value.bool false, Value.slice none 0 0] 24))
  have hb1 := (((Blk.new (w.alloc (.cells #[Value.bool true, Value.slice A0 l0 c0] 24)) 24 #[Value.bool false, Value.slice A1 l1 c1]).alloc (.cells #[Value.bool false, Value.slice none 0 0] 24)).alloc (.cells #[Value.bool false, Value.slice none 0 0] 24))
  have hb2 := ((Blk.new ((w.alloc (.cells #[Value.bool true, Value.slice A0 l0 c0] 24)).alloc (.cells #[Value.bool false, Value.slice A1 l1 c1] 24)) 24 #[Value.bool false, Value.slice none 0 0]).alloc (.cells #[Value.bool false, Value.slice none 0 0] 24))
  have hb3 := (Blk.new (((w.alloc (.cells #[Value.bool true, Value.slice A0 l0 c0] 24)).alloc (.cells #[Value.bool false, Value.slice A1 l1 c1] 24)).alloc (.cells #[Value.bool false, Value.slice none 0 0] 24)) 24 #[Value.bool false, Value.slice none 0 0])
  have hxo := (((((Ext.refl w).alloc (.cells #[Value.bool true, Value.slice A0 l0 c0] 24)).alloc (.cells #[Value.bool false, Value.slice A1 l1 c1] 24)).alloc (.cells #[Value.bool false, Value.slice none 0 0] 24)).alloc (.cells #[Value.bool false, Value.slice none 0 0] 24))
  have hszo : w.heap.size + 1 + 1 + 1 + 1 = ((((w.alloc (.cells #[Value.bool true, Value.slice A0 l0 c0] 24)).alloc (.cells #[Value.bool false, Value.slice A1 l1 c1] 24)).alloc (.cells #[Value.bool false, Value.slice none 0 0] 24)).alloc (.cells #[Value.bool false, Value.slice none 0 0] 24)).heap.size := by simp
  simp only [World.size_alloc] at hb1 hb2 hb3
  generalize (((w.alloc (.cells #[Value.bool true, Value.slice A0 l0 c0] 24)).alloc (.cells #[Value.bool false, Value.slice A1 l1 c1] 24)).alloc (.cells #[Value.bool false, Value.slice none 0 0] 24)).alloc (.cells #[Value.bool false, Value.slice none 0 0] 24) = wo at *
  have HX := Lib.hid hxo
  have HX0 := Lib.hid hxo
  have HZ : Hid (w.heap.size + 1 + 1 + 1 + 1 ≤ wo.heap.size) := Lib.hid (by omega)
  have HB0 := Lib.hid hb0
  have HB1 := Lib.hid hb1
  have HB2 := Lib.hid hb2
  have HB3 := Lib.hid hb3
  clear hxo hszo hb0 hb1 hb2 hb3
  have HW := Lib.hid (Ext.refl wo)
  refine (HQD.out _ _ _ (H0.out.mag.ext HX.out) (H1.out.mag.ext HX.out)).mono ?_
  rintro e w11 ⟨r10, r10b, rfl, hi10, hj10, hx10⟩
  have HX := Lib.hid (HX.out.trans hx10)
  have HW := Lib.hid (HW.out.trans hx10)
  have HB0 := Lib.hid (HB0.out.ext hx10)
  have HB1 := Lib.hid (HB1.out.ext hx10)
  have HB2 := Lib.hid (HB2.out.ext hx10)
  have HB3 := Lib.hid (HB3.out.ext hx10)
  clear hx10
  have RQ := Lib.hid hi10
  have RR := Lib.hid hj10
  obtain ⟨g10, G10, j10, rfl⟩ := hi10.shape
  obtain ⟨y10, Y10, z10, rfl⟩ := hj10.shape
  have hrlen := RR.out.len
  clear hi10 hj10
  have HQB := Lib.hid (Nat.le_trans HZ.out HW.out.size)
  rw [← hrlen] at hrp
  have hrp2 : (0 : Int) < (y10 : Int) := by omega
  have hrp3 : decide (0 < y10) = true := decide_eq_true hrp
  clear hrlen hrp
  obtain ⟨hb0_0, hb0_1, hb0_2, hb0_3, hb0_4⟩ := HB0.out.two
  obtain ⟨hb1_0, hb1_1, hb1_2, hb1_3, hb1_4⟩ := HB1.out.two
  obtain ⟨hb2_0, hb2_1, hb2_2, hb2_3, hb2_4⟩ := HB2.out.two
  obtain ⟨hb3_0, hb3_1, hb3_2, hb3_3, hb3_4⟩ := HB3.out.two
  go_wp2_with fail
  clear hb0_0 hb0_1 hb0_2 hb0_3 hb0_4 hb1_0 hb1_1 hb1_2 hb1_3 hb1_4 hb2_0 hb2_1 hb2_2 hb2_3 hb2_4 hb3_0 hb3_1 hb3_2 hb3_3 hb3_4
  refine (HN1.out _ _ RQ.out.arr).mono ?_
  rintro e w12 ⟨r11, rfl, hi11, hx11⟩
  have HX := Lib.hid (HX.out.trans hx11)
  have HW := Lib.hid (HW.out.trans hx11)
  have RQ := Lib.hid (RQ.out.ext hx11)
  have RR := Lib.hid (RR.out.ext hx11)
  have HB0 := Lib.hid (HB0.out.ext hx11)
  have HB1 := Lib.hid (HB1.out.ext hx11)
  have HB2 := Lib.hid (HB2.out.ext hx11)
  have HB3 := Lib.hid (HB3.out.ext hx11)
  have QO := Lib.hid hi11
  obtain ⟨f11, g11, G11, j11, rfl⟩ := hi11.shape
  clear hi11
  clear hx11
  obtain ⟨hb0_0, hb0_1, hb0_2, hb0_3, hb0_4⟩ := HB0.out.two
  obtain ⟨hb1_0, hb1_1, hb1_2, hb1_3, hb1_4⟩ := HB1.out.two
  obtain ⟨hb2_0, hb2_1, hb2_2, hb2_3, hb2_4⟩ := HB2.out.two
  obtain ⟨hb3_0, hb3_1, hb3_2, hb3_3, hb3_4⟩ := HB3.out.two
  go_upto_region 5 with fail
  have HLO := Lib.hid (Nat.le_trans HZ.out HW.out.size)
  have HLO2 := Lib.hid HW.out.size
  clear hb0_0 hb0_1 hb0_2 hb0_3 hb0_4 hb1_0 hb1_1 hb1_2 hb1_3 hb1_4 hb2_0 hb2_1 hb2_2 hb2_3 hb2_4 hb3_0 hb3_1 hb3_2 hb3_3 hb3_4
  have hb12 := Blk.new w12 24 #[Value.bool f11, Value.slice G11 g11 j11]
  have hx12 := (Ext.refl w12).alloc (.cells #[Value.bool f11, Value.slice G11 g11 j11] 24)
  have HX := Lib.hid (HX.out.trans hx12)
  have HW := Lib.hid (HW.out.trans hx12)
  have RQ := Lib.hid (RQ.out.ext hx12)
  have RR := Lib.hid (RR.out.ext hx12)
  have QO := Lib.hid (QO.out.ext hx12)
  have HB0 := Lib.hid (HB0.out.ext hx12)
  have HB1 := Lib.hid (HB1.out.ext hx12)
  have HB2 := Lib.hid (HB2.out.ext hx12)
  have HB3 := Lib.hid (HB3.out.ext hx12)
  have BO := Lib.hid hb12
  generalize w12.alloc (.cells #[Value.bool f11, Value.slice G11 g11 j11] 24) = w13 at *
  generalize w12.heap.size = a12 at *
  clear hb12 hx12
  have HLB := Lib.hid BO.out.lt
  obtain ⟨hb0_0, hb0_1, hb0_2, hb0_3, hb0_4⟩ := HB0.out.two
  obtain ⟨hb1_0, hb1_1, hb1_2, hb1_3, hb1_4⟩ := HB1.out.two
  obtain ⟨hb2_0, hb2_1, hb2_2, hb2_3, hb2_4⟩ := HB2.out.two
  obtain ⟨hb3_0, hb3_1, hb3_2, hb3_3, hb3_4⟩ := HB3.out.two
  obtain ⟨bo_0, bo_1, bo_2, bo_3, bo_4⟩ := BO.out.two
  go_upto_region 6 with fail
  go_cut [9] from 41 to 43 (fun s9 wx => ∃ (f9 : Bool) (g9 : Nat) (G9 : Option Addr) (j9 : Nat), s9 = .bool true ∧ Blk wx a12 24 #[Value.bool f9, Value.slice G9 g9 j9] ∧ IsInt (w.heap.size + 1 + 1 + 1 + 1) wx (.agg #[.bool f9, .slice G9 g9 j9]) zq ∧ Blk wx (w.heap.size) 24 #[Value.bool true, Value.slice A0 l0 c0] ∧ Blk wx (w.heap.size + 1) 24 #[Value.bool false, Value.slice A1 l1 c1] ∧ Blk wx (w.heap.size + 1 + 1) 24 #[Value.bool false, Value.slice none 0 0] ∧ Blk wx (w.heap.size + 1 + 1 + 1) 24 #[Value.bool false, Value.slice none 0 0] ∧ Ext wo wx)
  case first =>
    have HE0 := Lib.hid (Ext.refl w13).drew
    have QOd := Lib.hid (QO.out.ext HE0.out)
    go_region_law (first
      | (go_simp; go_at_call 142; have hchk := hx8; refine (HSB.out _ _ _ QOd.out.arr R8.out.arr).mono ?_; rintro e w9 ⟨r9, rfl, hi9, hx9⟩; have R9 := Lib.hid hi9; have HE2 : Hid (Ext w13 w9) := Lib.hid (HE1.out.trans hx9); obtain ⟨f9, g9, G9, j9, rfl⟩ := hi9.shape; clear hi9 hx8 hb0_0 hb0_1 hb0_2 hb0_3 hb0_4 hb1_0 hb1_1 hb1_2 hb1_3 hb1_4 hb2_0 hb2_1 hb2_2 hb2_3 hb2_4 hb3_0 hb3_1 hb3_2 hb3_3 hb3_4 bo_0 bo_1 bo_2 bo_3 bo_4; obtain ⟨hb0_0, hb0_1, hb0_2, hb0_3, hb0_4⟩ := (HB0.out.ext HE2.out).two; obtain ⟨hb1_0, hb1_1, hb1_2, hb1_3, hb1_4⟩ := (HB1.out.ext HE2.out).two; obtain ⟨hb2_0, hb2_1, hb2_2, hb2_3, hb2_4⟩ := (HB2.out.ext HE2.out).two; obtain ⟨hb3_0, hb3_1, hb3_2, hb3_3, hb3_4⟩ := (HB3.out.ext HE2.out).two; obtain ⟨bo_0, bo_1, bo_2, bo_3, bo_4⟩ := (BO.out.ext HE2.out).two; )
      | (go_simp; go_at_call 57; refine (HOF.out _).mono ?_; rintro e w8 ⟨r8, rfl, hi8, hx8⟩; have R8 := Lib.hid hi8; have HE1 : Hid (Ext w13 w8) := Lib.hid (HE0.out.trans hx8); have QOd := Lib.hid (QOd.out.ext hx8); obtain ⟨f8, g8, G8, j8, rfl⟩ := hi8.shape; clear hi8 hb0_0 hb0_1 hb0_2 hb0_3 hb0_4 hb1_0 hb1_1 hb1_2 hb1_3 hb1_4 hb2_0 hb2_1 hb2_2 hb2_3 hb2_4 hb3_0 hb3_1 hb3_2 hb3_3 hb3_4 bo_0 bo_1 bo_2 bo_3 bo_4; obtain ⟨hb0_0, hb0_1, hb0_2, hb0_3, hb0_4⟩ := (HB0.out.ext HE1.out).two; obtain ⟨hb1_0, hb1_1, hb1_2, hb1_3, hb1_4⟩ := (HB1.out.ext HE1.out).two; obtain ⟨hb2_0, hb2_1, hb2_2, hb2_3, hb2_4⟩ := (HB2.out.ext HE1.out).two; obtain ⟨hb3_0, hb3_1, hb3_2, hb3_3, hb3_4⟩ := (HB3.out.ext HE1.out).two; obtain ⟨bo_0, bo_1, bo_2, bo_3, bo_4⟩ := (BO.out.ext HE1.out).two; ))
    all_goals go_wp2_with fail
    all_goals go_meet
    all_goals have hlo := HLO.out
    all_goals have hzz := HZ.out
    all_goals have h01 := HE1.out.size
    all_goals have h0w := HLO2.out
    all_goals have hlb := HLB.out
    all_goals exact ⟨_, _, _, _, rfl, ((BO.out.ext HE2.out).set_ 0 (.bool f9)).set_ 1 (.slice G9 g9 j9), ((R9.out.far (p := ⟨a12, 0, none⟩) (by first | omega | (simp <;> omega)) (.bool f9)).far (p := ⟨a12, 1, none⟩) (by first | omega | (simp <;> omega)) (.slice G9 g9 j9)).mono (by first | omega | (simp <;> omega)), (((HB0.out.ext HE2.out).far (p := ⟨a12, 0, none⟩) (show _ ≠ _ by (try simp only) <;> omega) (.bool f9)).far (p := ⟨a12, 1, none⟩) (show _ ≠ _ by (try simp only) <;> omega) (.slice G9 g9 j9)), (((HB1.out.ext HE2.out).far (p := ⟨a12, 0, none⟩) (show _ ≠ _ by (try simp only) <;> omega) (.bool f9)).far (p := ⟨a12, 1, none⟩) (show _ ≠ _ by (try simp only) <;> omega) (.slice G9 g9 j9)), (((HB2.out.ext HE2.out).far (p := ⟨a12, 0, none⟩) (show _ ≠ _ by (try simp only) <;> omega) (.bool f9)).far (p := ⟨a12, 1, none⟩) (show _ ≠ _ by (try simp only) <;> omega) (.slice G9 g9 j9)), (((HB3.out.ext HE2.out).far (p := ⟨a12, 0, none⟩) (show _ ≠ _ by (try simp only) <;> omega) (.bool f9)).far (p := ⟨a12, 1, none⟩) (show _ ≠ _ by (try simp only) <;> omega) (.slice G9 g9 j9)), (((HW.out.trans HE2.out).setCell (p := ⟨a12, 0, none⟩) (show wo.heap.size ≤ _ by (try simp only) <;> omega) (.bool f9)).setCell (p := ⟨a12, 1, none⟩) (show wo.heap.size ≤ _ by (try simp only) <;> omega) (.slice G9 g9 j9))⟩
  case rest =>
  obtain ⟨f9, g9, G9, j9, rfl, hBO, hQO, hb0, hb1, hb2, hb3, hxw⟩ := hcut
  clear BO QO HB0 HB1 HB2 HB3 HLB RQ RR
  generalize wc = w30 at *
  have BO := Lib.hid hBO
  have QO := Lib.hid hQO
  have HX := Lib.hid (HX0.out.trans hxw)
  have HW := Lib.hid hxw
  have HB0 := Lib.hid hb0
  have HB1 := Lib.hid hb1
  have HB2 := Lib.hid hb2
  have HB3 := Lib.hid hb3
  clear hBO hQO hb0 hb1 hb2 hb3 hxw
  obtain ⟨hb0_0, hb0_1, hb0_2, hb0_3, hb0_4⟩ := HB0.out.two
  obtain ⟨hb1_0, hb1_1, hb1_2, hb1_3, hb1_4⟩ := HB1.out.two
  obtain ⟨hb2_0, hb2_1, hb2_2, hb2_3, hb2_4⟩ := HB2.out.two
  obtain ⟨hb3_0, hb3_1, hb3_2, hb3_3, hb3_4⟩ := HB3.out.two
  obtain ⟨bo_0, bo_1, bo_2, bo_3, bo_4⟩ := BO.out.two
  go_upto_region 7 with fail
  have QOd := Lib.hid (QO.out.ext (Ext.refl _).drew)
  have hzz := HZ.out
  have hlo := HLO.out
  have hwx : wo.heap.size ≤ w30.heap.size := HW.out.size
  go_region_held3 (fun w' => Ext w w' ∧ w'.cell? ⟨w.heap.size, 0, none⟩ = some (Value.bool true) ∧ w'.cell? ⟨w.heap.size, 1, none⟩ = some (Value.slice A0 l0 c0) ∧ w'.cell? ⟨w.heap.size + 1, 0, none⟩ = some (Value.bool false) ∧ w'.cell? ⟨w.heap.size + 1, 1, none⟩ = some (Value.slice A1 l1 c1) ∧ w'.cell? ⟨a12, 0, none⟩ = some (Value.bool f9) ∧ w'.cell? ⟨a12, 1, none⟩ = some (Value.slice G9 g9 j9) ∧ w'.cell? ⟨w.heap.size + 1 + 1, 0, none⟩ = some (was w' (w.heap.size + 1 + 1) 0) ∧ w'.cell? ⟨w.heap.size + 1 + 1, 1, none⟩ = some (was w' (w.heap.size + 1 + 1) 1) ∧ w'.cell? ⟨w.heap.size + 1 + 1 + 1, 0, none⟩ = some (was w' (w.heap.size + 1 + 1 + 1) 0) ∧ w'.cell? ⟨w.heap.size + 1 + 1 + 1, 1, none⟩ = some (was w' (w.heap.size + 1 + 1 + 1) 1) ∧ w'.frozen? ⟨w.heap.size + 1 + 1, 0, none⟩ = false ∧ w'.frozen? ⟨w.heap.size + 1 + 1, 1, none⟩ = false ∧ w'.frozen? ⟨w.heap.size + 1 + 1 + 1, 0, none⟩ = false ∧ w'.frozen? ⟨w.heap.size + 1 + 1 + 1, 1, none⟩ = false)
    (first | (exact ⟨HX.out.drew, hb0_0, hb0_1, hb1_0, hb1_1, bo_0, bo_1, was_some (w := w30.drew) hb2_0, was_some (w := w30.drew) hb2_1, was_some (w := w30.drew) hb3_0, was_some (w := w30.drew) hb3_1, hb2_2, hb2_3, hb3_2, hb3_3⟩) | (exact keptD6 (by assumption) (by assumption)) | (exact keptD6_set (by assumption) (by omega) (by omega) (by omega) (by omega) (by omega) (by omega) (by omega)))
    (first
      | (go_at_call 142; have hchk32 := hz31; refine (HSB2.out _ _ _ (H0.out.ext (And.left (by assumption))) S1.out.arr).mono ?_; rintro e w33 ⟨r32, rfl, hi32, hx32⟩; have hz32 := hx32.size; have QOd := Lib.hid (QOd.out.ext hx32); have S1 := Lib.hid (S1.out.ext hx32); have S2 := Lib.hid hi32; obtain ⟨f32, g32, G32, j32, rfl⟩ := hi32.shape)
      | (go_at_call 58; refine (HML.out _ _ _ QOd.out.arr (H1.out.ext (And.left (by assumption)))).mono ?_; rintro e w32 ⟨r31, rfl, hi31, hx31⟩; have hz31 := hx31.size; have S1 := Lib.hid hi31; have QOd := Lib.hid (QOd.out.ext hx31); obtain ⟨f31, g31, G31, j31, rfl⟩ := hi31.shape))
  all_goals go_wp2_with fail
  rename_i hS
  obtain ⟨hE, _, _, _, _, _, _, c0, c1, c2, c3, _, _, _, _⟩ := hS
  simp only [World.size_drew] at hz31
  obtain ⟨hr0, hr1, hr2, hr3⟩ := final22 c0 c1 c2 c3 (by omega)
  refine bodyPost_ret (v := .tuple #[.agg #[(Value.bool f9), (Value.slice G9 g9 j9)], .agg #[.bool f32, .slice G32 g32 j32], .bool true]) (by simp [results, Tryz.results96, go_sem, hr0, hr1, hr2, hr3]) rfl ?_
  have hqb := HQB.out
  exact ⟨_, _, _, rfl, ((((QOd.out.far (p := ⟨w.heap.size + 1 + 1, 0, none⟩) (by first | omega | (simp <;> omega)) (Value.bool f9)).far (p := ⟨w.heap.size + 1 + 1, 1, none⟩) (by first | omega | (simp <;> omega)) (Value.slice G9 g9 j9)).far (p := ⟨w.heap.size + 1 + 1 + 1, 0, none⟩) (by first | omega | (simp <;> omega)) (.bool f32)).far (p := ⟨w.heap.size + 1 + 1 + 1, 1, none⟩) (by first | omega | (simp <;> omega)) (.slice G32 g32 j32)).mono (by first | omega | (simp <;> omega)), ((((S2.out.far (p := ⟨w.heap.size + 1 + 1, 0, none⟩) (by first | omega | (simp <;> omega)) (Value.bool f9)).far (p := ⟨w.heap.size + 1 + 1, 1, none⟩) (by first | omega | (simp <;> omega)) (Value.slice G9 g9 j9)).far (p := ⟨w.heap.size + 1 + 1 + 1, 0, none⟩) (by first | omega | (simp <;> omega)) (.bool f32)).far (p := ⟨w.heap.size + 1 + 1 + 1, 1, none⟩) (by first | omega | (simp <;> omega)) (.slice G32 g32 j32)).mono (by first | omega | (simp <;> omega)), hE⟩
end Big
end Go.Proofs.YtplmldkfgeiklaaGreatDoor
