import Derived.Test.YtplmldkfgeiklaaGreatDoorM19
import Derived.Test.YtplmldkfgeiklaaGreatDoorM14
import Derived.Deep.RegionLaw
import Derived.Test.YtplmldkfgeiklaaGreatDoorRows
import Derived.Test.YtplmldkfgeiklaaGreatDoorM4
import Derived.ProofKit
import Derived.LaidMore
import Derived.OpenShut
import Derived.Stop.Joined
import Derived.Lib.LaidTab
import Derived.Carry
import Derived.Handed
import Derived.HandedShaped
import Derived.Deep.Strs
import Derived.ChangeMaps5
import Derived.Lib.SmallJoins
/- Which lists are naturals, integers, fractions: both sides. -/
namespace Go.Proofs.YtplmldkfgeiklaaGreatDoor
namespace Big
open Go.RowKit
/-- No zero digit at the top. -/
def trimB (xs : List Nat) : Bool := decide (size xs = xs.length)
/-- A valid integer of a sign and a list. -/
def validI (b : Bool) (xs : List Nat) : Bool := trimB xs && (decide (0 < xs.length) || !b)
/-- A valid fraction of a sign and two lists. -/
def validR (b : Bool) (xs ys : List Nat) : Bool := validI b xs && (trimB ys && (decide (0 < ys.length) && Nat.gcd (val xs) (val ys) == 1))
theorem trim_nil {xs : List Nat} (h : xs.length = 0) : trimB xs = true := by
  rw [List.length_eq_zero_iff] at h
  subst h
  rfl
theorem trim_last {xs : List Nat} {k : Nat} (h : xs.length = k + 1) : trimB xs = decide (xs.getD k 0 ≠ 0) := by
  unfold trimB
  by_cases h0 : xs.getD k 0 = 0
  · rw [decide_eq_false (p := xs.getD k 0 ≠ 0) (fun h => h h0)]
    refine decide_eq_false fun hs => ?_
    have hlt : size xs ≤ k := by
      rcases Nat.lt_or_ge k (size xs) with hl | hl
      · exfalso
        have h1 : (xs.take (size xs)).getD k 0 = 0 := by
          rw [hs, List.take_of_length_le (Nat.le_refl _)]; exact h0
        have h2 : size xs = k + 1 := by omega
        have key : ∀ (l : List Nat) (n : Nat), l.length = n + 1 → l.getD n 0 = 0 → size l ≤ n := by
          intro l
          induction l with
          | nil => intro n hn; simp at hn
          | cons x l ih =>
            intro n hn hz
            cases n with
            | zero =>
              have : l = [] := by rw [← List.length_eq_zero_iff]; simpa using hn
              subst this
              simp only [List.getD_cons_zero] at hz
              subst hz
              simp [size]
            | succ m =>
              have h3 := ih m (by simpa using hn) (by simpa using hz)
              have h4 : size (x :: l) ≤ size l + 1 := by
                show (if size l = 0 then (if x = 0 then 0 else 1) else size l + 1) ≤ _
                split <;> (try split) <;> omega
              omega
        have := key xs k h h0
        omega
      · exact hl
    omega
  · rw [decide_eq_true (p := xs.getD k 0 ≠ 0) h0]
    refine decide_eq_true ?_
    rw [h]
    refine size_top xs (k + 1) (by omega) (fun i hi => ?_) (fun _ => ?_)
    · exact getD_ge xs i (by omega)
    · simpa using h0
theorem trim_limbs {xs : List Nat} (hok : Ok xs) (h : trimB xs = true) : limbs (val xs) = xs := by
  rw [← take_size hok, of_decide_eq_true h, List.take_of_length_le (Nat.le_refl _)]
theorem limbs_trim (n : Nat) : trimB (limbs n) = true := by
  refine decide_eq_true ?_
  rw [size_eq (ok_limbs n), val_limbs]
theorem valid_low {p : Int} {q : Nat} (h : Low p q) : validR (decide (p < 0)) (limbs p.natAbs) (limbs q) = true := by
  unfold validR validI
  rw [limbs_trim, limbs_trim, val_limbs, val_limbs, beq_iff_eq.2 h.2]
  have hq : 0 < (limbs q).length := by rw [List.length_pos_iff]; intro e; rw [limbs_eq_nil] at e; have := h.1; omega
  rw [decide_eq_true hq]
  rcases Int.lt_or_le p 0 with hp | hp
  · have : 0 < (limbs p.natAbs).length := by rw [List.length_pos_iff]; intro e; rw [limbs_eq_nil] at e; omega
    rw [decide_eq_true this]
    rfl
  · rw [decide_eq_false (p := p < 0) (by omega)]
    cases decide (0 < (limbs p.natAbs).length) <;> rfl
set_option maxRecDepth 100000 in
theorem nvalid_any (w : World) (v : Value) (xs : List Nat) (h : Arr w v xs) :
    Calls Tryz.prog 90 #[v] w fun e w' => e = .returned (.bool (trimB xs)) ∧ w = w' := by
  have HS := Lib.hid (size_any w v xs h)
  obtain ⟨_, A, c, rfl, _, _, _⟩ := h.open
  have hb : ((size xs : Int) == (xs.length : Int)) = trimB xs := by
    unfold trimB
    rw [Bool.eq_iff_iff, beq_iff_eq, decide_eq_true_iff]
    omega
  clear h
  generalize trimB xs = tb at *
  generalize size xs = sz at *
  generalize xs.length = L at *
  go_enter Tryz.func90, Tryz.ntmps90
  go_wp2_with fail
  refine HS.out.mono ?_
  rintro e w' ⟨rfl, rfl⟩
  go_wp2_with fail
  go_ret
  exact ⟨rfl, rfl⟩
set_option maxRecDepth 100000 in
theorem rvalid1_any (w : World) (v : Value) (xs : List Nat) (h : Arr w v xs) (hn : xs.length ≤ 1000000) :
    Calls Tryz.prog 93 #[v] w fun e w' => e = .returned (.bool (trimB xs)) ∧ w = w' := by
  obtain ⟨hok, A, c, rfl, _, _, hcell⟩ := h.open
  rcases Nat.eq_zero_or_pos xs.length with h0 | h0
  · rw [trim_nil h0, h0]
    clear hcell h h0 hok hn
    go_enter Tryz.func93, Tryz.ntmps93
    go_wp2_with fail
    go_ret
    exact ⟨rfl, rfl⟩
  · obtain ⟨k, hk⟩ : ∃ k, xs.length = k + 1 := ⟨xs.length - 1, by omega⟩
    rw [trim_last hk]
    obtain ⟨b, o, rfl, _, hcell⟩ := hcell h0
    have hx := hcell k (by omega)
    have hxm := hok.get k
    have hle : k ≤ 1000000 := by omega
    have hn0 : (((k : Int) + 1) == 0) = false := by rw [beq_eq_false_iff_ne]; omega
    rw [hk]
    clear hcell h h0 hok hk hn
    simp only [d32] at hx
    obtain ⟨y, hy⟩ : ∃ y, xs.getD k 0 = y := ⟨_, rfl⟩
    rw [hy] at hx hxm ⊢
    clear hy
    have hyb : ((y : Int) != 0) = decide (y ≠ 0) := by
      rw [Bool.eq_iff_iff, bne_iff_ne, decide_eq_true_iff]
      omega
    generalize decide (y ≠ 0) = yb at *
    go_enter Tryz.func93, Tryz.ntmps93
    go_wp2_with fail
    go_ret
    exact ⟨rfl, rfl⟩
end Big
end Go.Proofs.YtplmldkfgeiklaaGreatDoor
/- Which integers and fractions are valid: both sides. Printed by a program. -/
namespace Go.Proofs.YtplmldkfgeiklaaGreatDoor
namespace Big
open Go.RowKit
set_option maxRecDepth 100000 in
theorem ivalid_any (w : World) (b : Bool) (m : Value) (xs : List Nat) (h : Arr w m xs) (hn : xs.length ≤ 1000000) :
    Calls Tryz.prog 89 #[.agg #[.bool b, m]] w fun e w' => e = .returned (.bool (validI b xs)) ∧ Ext w w' := by
  have HV := Lib.hid (fun W (hx : Ext w W) => nvalid_any W m xs (h.ext hx))
  obtain ⟨_, A, c, rfl, _, _, _⟩ := h.open
  unfold validI
  clear h hn
  generalize trimB xs = tb at *
  generalize xs.length = L at *
  have HX := Lib.hid (Ext.alloc (Ext.refl w) (.cells #[Value.bool b, Value.slice A L c] 24))
  rcases Nat.eq_zero_or_pos L with hL | hL
  · subst hL
    cases tb <;> cases b
    all_goals go_enter Tryz.func89, Tryz.ntmps89
    all_goals go_wp2_with fail
    all_goals (refine (HV.out _ HX.out).mono ?_; rintro e w' ⟨rfl, rfl⟩)
    all_goals go_wp2_with fail
    all_goals go_ret
    all_goals exact ⟨rfl, HX.out⟩
  · rw [decide_eq_true hL]
    have hLi : (0 : Int) < (L : Int) := by omega
    cases tb <;> cases b
    all_goals go_enter Tryz.func89, Tryz.ntmps89
    all_goals go_wp2_with fail
    all_goals (refine (HV.out _ HX.out).mono ?_; rintro e w' ⟨rfl, rfl⟩)
    all_goals go_wp2_with fail
    all_goals go_ret
    all_goals exact ⟨rfl, HX.out⟩
set_option maxRecDepth 100000 in
theorem rvalid5_any (w : World) (b : Bool) (m : Value) (xs : List Nat) (h : Arr w m xs) (hn : xs.length ≤ 1000000) :
    Calls Tryz.prog 92 #[.agg #[.bool b, m]] w fun e w' => e = .returned (.bool (validI b xs)) ∧ Ext w w' := by
  have HV := Lib.hid (fun W (hx : Ext w W) => rvalid1_any W m xs (h.ext hx) hn)
  obtain ⟨_, A, c, rfl, _, _, _⟩ := h.open
  unfold validI
  clear h hn
  generalize trimB xs = tb at *
  generalize xs.length = L at *
  have HX := Lib.hid (Ext.alloc (Ext.refl w) (.cells #[Value.bool b, Value.slice A L c] 24))
  rcases Nat.eq_zero_or_pos L with hL | hL
  · subst hL
    cases tb <;> cases b
    all_goals go_enter Tryz.func92, Tryz.ntmps92
    all_goals go_wp2_with fail
    all_goals (refine (HV.out _ HX.out).mono ?_; rintro e w' ⟨rfl, rfl⟩)
    all_goals go_wp2_with fail
    all_goals go_ret
    all_goals exact ⟨rfl, HX.out⟩
  · rw [decide_eq_true hL]
    have hLi : (0 : Int) < (L : Int) := by omega
    cases tb <;> cases b
    all_goals go_enter Tryz.func92, Tryz.ntmps92
    all_goals go_wp2_with fail
    all_goals (refine (HV.out _ HX.out).mono ?_; rintro e w' ⟨rfl, rfl⟩)
    all_goals go_wp2_with fail
    all_goals go_ret
    all_goals exact ⟨rfl, HX.out⟩
set_option maxRecDepth 100000 in
theorem pvalidR_any (w : World) (b : Bool) (m u : Value) (xs ys : List Nat) (h : Arr w m xs) (h' : Arr w u ys) (hn : xs.length ≤ 1000000) (hn' : ys.length ≤ 1000000) :
    Calls Tryz.prog 32 #[.agg #[.bool b, m, u]] w fun e w' => e = .returned (.bool (validR b xs ys)) ∧ Ext w w' := by
  have HI := Lib.hid (fun W (hx : Ext w W) => ivalid_any W b m xs (h.ext hx) hn)
  have HV := Lib.hid (fun W (hx : Ext w W) => nvalid_any W u ys (h'.ext hx))
  have HG := Lib.hid (fun W (hx : Ext w W) => gcd_any W m u xs ys (h.ext hx) (h'.ext hx) (by omega) (by omega))
  obtain ⟨_, A0, c0, rfl, _, _, _⟩ := h.open
  obtain ⟨_, A1, c1, rfl, _, _, _⟩ := h'.open
  unfold validR
  clear h h' hn hn'
  generalize Nat.gcd (val xs) (val ys) = G at *
  obtain ⟨gb, hgb0⟩ : ∃ gb, (G == 1) = gb := ⟨_, rfl⟩
  rw [hgb0]
  have HGB := Lib.hid hgb0
  clear hgb0
  generalize validI b xs = t1 at *
  generalize trimB ys = t2 at *
  generalize xs.length = L0 at *
  generalize ys.length = L1 at *
  obtain ⟨dl, hdl⟩ : ∃ dl, decide (0 < L1) = dl := ⟨_, rfl⟩
  rw [hdl]
  have HDL := Lib.hid hdl
  clear hdl
  cases t1
  · go_enter Tryz.func32, Tryz.ntmps32
    go_wp2_with fail
    have hb0 := Blk.new w 26 #[Value.bool b, Value.slice A0 L0 c0, Value.slice A1 L1 c1]
    have HX := Lib.hid (Ext.alloc (Ext.refl w) (.cells #[Value.bool b, Value.slice A0 L0 c0, Value.slice A1 L1 c1] 26))
    refine (HI.out _ HX.out).mono ?_
    rintro e w1 ⟨rfl, hx1⟩
    have HX := Lib.hid (HX.out.trans hx1)
    go_wp2_with fail
    go_ret
    exact ⟨rfl, HX.out⟩
  go_enter Tryz.func32, Tryz.ntmps32
  go_wp2_with fail
  have hb0 := Blk.new w 26 #[Value.bool b, Value.slice A0 L0 c0, Value.slice A1 L1 c1]
  have HX0 := Lib.hid (Ext.alloc (Ext.refl w) (.cells #[Value.bool b, Value.slice A0 L0 c0, Value.slice A1 L1 c1] 26))
  refine (HI.out _ HX0.out).mono ?_
  rintro e w1 ⟨rfl, hx1⟩
  have HX := Lib.hid (HX0.out.trans hx1)
  have HB := Lib.hid (hb0.ext hx1)
  clear hb0 hx1 HX0
  obtain ⟨q0, q1, q2, f0, f1, f2, qz⟩ := HB.out.three
  go_wp2_with fail
  refine (HV.out _ HX.out).mono ?_
  rintro e w' ⟨rfl, rfl⟩
  cases t2
  · go_wp2_with fail
    go_ret
    exact ⟨rfl, HX.out⟩
  rcases Nat.eq_zero_or_pos L1 with hL | hL
  · subst hL
    have hd : dl = false := by rw [← HDL.out]; rfl
    clear HDL
    subst hd
    go_wp2_with fail
    go_ret
    exact ⟨rfl, HX.out⟩
  have hd : dl = true := by rw [← HDL.out]; exact decide_eq_true hL
  clear HDL
  subst hd
  have hLi : (0 : Int) < (L1 : Int) := by omega
  have hL0 : ((L1 : Int) == 0) = false := by rw [beq_eq_false_iff_ne]; omega
  clear hL
  go_wp2_with fail
  refine (HG.out _ HX.out).mono ?_
  rintro e w2 ⟨r2, rfl, hi2, hx2⟩
  have HX := Lib.hid (HX.out.trans hx2)
  obtain ⟨hok, A2, c2, rfl, _, _, hcell⟩ := hi2.arr.open
  clear hi2 hx2 q0 q1 q2 f0 f1 f2 qz
  by_cases hl1 : (limbs G).length = 1
  · have hone := limbs_is_one hl1
    obtain ⟨bb, oo, rfl, _, hc⟩ := hcell (by omega)
    have hx0 := hc 0 (by omega)
    have hlt := hok.get 0
    rw [hone, List.getD_cons_zero] at hlt
    rw [Nat.add_zero, hone, List.getD_cons_zero] at hx0
    have hgb : ((G : Int) == 1) = gb := by rw [← HGB.out, Bool.eq_iff_iff, beq_iff_eq, beq_iff_eq]; omega
    simp only [d32] at hx0
    rw [hl1]
    clear hcell hc hok hone hl1
    go_wp2_with fail
    go_ret
    exact ⟨by cases gb <;> rfl, HX.out⟩
  · have hg1 : gb = false := by rw [← HGB.out]; exact beq_eq_false_iff_ne.2 (fun e => hl1 (by rw [e, limbs_one]; rfl))
    have hlb : (((limbs G).length : Int) == 1) = false := by rw [beq_eq_false_iff_ne]; omega
    clear HGB
    subst hg1
    clear hcell hok hl1
    generalize (limbs G).length = lg at *
    go_wp2_with fail
    go_ret
    exact ⟨rfl, HX.out⟩
set_option maxRecDepth 100000 in
theorem rvalidR_any (w : World) (b : Bool) (m u : Value) (xs ys : List Nat) (h : Arr w m xs) (h' : Arr w u ys) (hn : xs.length ≤ 1000000) (hn' : ys.length ≤ 1000000) :
    Calls Tryz.prog 33 #[.agg #[.bool b, m, u]] w fun e w' => e = .returned (.bool (validR b xs ys)) ∧ Ext w w' := by
  have HI := Lib.hid (fun W (hx : Ext w W) => rvalid5_any W b m xs (h.ext hx) hn)
  have HV := Lib.hid (fun W (hx : Ext w W) => rvalid1_any W u ys (h'.ext hx) hn')
  have hvx : validI b xs = true → limbs (val xs) = xs := fun e => trim_limbs h.ok (by unfold validI at e; revert e; cases trimB xs <;> simp)
  have hvy : trimB ys = true → limbs (val ys) = ys := fun e => trim_limbs h'.ok e
  have HG : Hid (validI b xs = true → trimB ys = true → ∀ W (_ : Ext w W), Calls Tryz.prog 94 #[m, u] W fun e w' => ∃ v', e = .returned v' ∧ Arr w' v' (limbs (Nat.gcd (val xs) (val ys))) ∧ Ext W w') := Lib.hid (fun a c W hx => rgcd_any W m u (val xs) (val ys) (by rw [hvx a]; exact h.ext hx) (by rw [hvy c]; exact h'.ext hx) (by rw [hvx a]; omega) (by rw [hvy c]; omega))
  have hgl : (limbs (Nat.gcd (val xs) (val ys))).length ≤ 1000001 := by
    rcases Nat.eq_zero_or_pos (val xs) with hz | hz
    · rw [hz, Nat.gcd_zero_left]
      have := length_limbs_val h'.ok
      omega
    · have h1 := limbs_mono (Nat.gcd_le_left (val ys) hz)
      have := length_limbs_val h.ok
      omega
  have HOF := Lib.hid (fun W => rof_any W 1 (by decide))
  rw [show ((1 : Nat) : Int) = 1 from rfl] at HOF
  have HSM := Lib.hid (fun W v v' a a' => rsame_any W v v' (limbs (Nat.gcd (val xs) (val ys))) (limbs 1) a a' (by omega) (by rw [limbs_one]; simp))
  have hsm : (decide ((limbs (Nat.gcd (val xs) (val ys))).length = (limbs 1).length) && decide (val (limbs (Nat.gcd (val xs) (val ys))) = val (limbs 1))) = (Nat.gcd (val xs) (val ys) == 1) := by
    rw [val_limbs, val_limbs]
    generalize Nat.gcd (val xs) (val ys) = G
    by_cases e : G = 1
    · rw [e]; rfl
    · rw [decide_eq_false e, Bool.and_false, beq_eq_false_iff_ne.2 e]
  rw [hsm] at HSM
  obtain ⟨_, A0, c0, rfl, _, _, _⟩ := h.open
  obtain ⟨_, A1, c1, rfl, _, _, _⟩ := h'.open
  unfold validR
  clear h h' hn hn' hvx hvy hgl hsm
  generalize Nat.gcd (val xs) (val ys) = G at *
  generalize (G == 1) = gb at *
  generalize validI b xs = t1 at *
  generalize trimB ys = t2 at *
  generalize xs.length = L0 at *
  generalize ys.length = L1 at *
  obtain ⟨dl, hdl⟩ : ∃ dl, decide (0 < L1) = dl := ⟨_, rfl⟩
  rw [hdl]
  have HDL := Lib.hid hdl
  clear hdl
  cases t1
  · go_enter Tryz.func33, Tryz.ntmps33
    go_wp2_with fail
    have hb0 := Blk.new w 26 #[Value.bool b, Value.slice A0 L0 c0, Value.slice A1 L1 c1]
    have HX := Lib.hid (Ext.alloc (Ext.refl w) (.cells #[Value.bool b, Value.slice A0 L0 c0, Value.slice A1 L1 c1] 26))
    refine (HI.out _ HX.out).mono ?_
    rintro e w1 ⟨rfl, hx1⟩
    have HX := Lib.hid (HX.out.trans hx1)
    go_wp2_with fail
    go_ret
    exact ⟨rfl, HX.out⟩
  go_enter Tryz.func33, Tryz.ntmps33
  go_wp2_with fail
  have hb0 := Blk.new w 26 #[Value.bool b, Value.slice A0 L0 c0, Value.slice A1 L1 c1]
  have HX0 := Lib.hid (Ext.alloc (Ext.refl w) (.cells #[Value.bool b, Value.slice A0 L0 c0, Value.slice A1 L1 c1] 26))
  refine (HI.out _ HX0.out).mono ?_
  rintro e w1 ⟨rfl, hx1⟩
  have HX := Lib.hid (HX0.out.trans hx1)
  have HB := Lib.hid (hb0.ext hx1)
  clear hb0 hx1 HX0
  obtain ⟨q0, q1, q2, f0, f1, f2, qz⟩ := HB.out.three
  go_wp2_with fail
  refine (HV.out _ HX.out).mono ?_
  rintro e w' ⟨rfl, rfl⟩
  cases t2
  · go_wp2_with fail
    go_ret
    exact ⟨rfl, HX.out⟩
  rcases Nat.eq_zero_or_pos L1 with hL | hL
  · subst hL
    have hd : dl = false := by rw [← HDL.out]; rfl
    clear HDL
    subst hd
    go_wp2_with fail
    go_ret
    exact ⟨rfl, HX.out⟩
  have hd : dl = true := by rw [← HDL.out]; exact decide_eq_true hL
  clear HDL
  subst hd
  have hLi : (0 : Int) < (L1 : Int) := by omega
  have hL0 : ((L1 : Int) == 0) = false := by rw [beq_eq_false_iff_ne]; omega
  clear hL
  have HG2 := Lib.hid (HG.out (by trivial) (by trivial))
  go_wp2_with fail
  refine (HG2.out _ HX.out).mono ?_
  rintro e w2 ⟨r2, rfl, hi2, hx2⟩
  have HX := Lib.hid (HX.out.trans hx2)
  have R2 := Lib.hid hi2
  obtain ⟨g2, A2, c2, rfl⟩ := hi2.shape
  clear hi2 hx2 q0 q1 q2 f0 f1 f2 qz
  go_wp2_with fail
  refine (HOF.out _).mono ?_
  rintro e w3 ⟨r3, rfl, hi3, hx3⟩
  have HX := Lib.hid (HX.out.trans hx3)
  have R2 := Lib.hid (R2.out.ext hx3)
  have R3 := Lib.hid hi3
  obtain ⟨g3, A3, c3, rfl⟩ := hi3.shape
  clear hi3 hx3
  go_wp2_with fail
  refine (HSM.out _ _ _ R2.out R3.out.arr).mono ?_
  rintro e w' ⟨rfl, rfl⟩
  go_wp2_with fail
  go_ret
  exact ⟨by cases gb <;> rfl, HX.out⟩
end Big
end Go.Proofs.YtplmldkfgeiklaaGreatDoor
/- RationalMakes. Printed by a program. -/
namespace Go.Proofs.YtplmldkfgeiklaaGreatDoor
namespace Big
open Go.RowKit
/-- mill.Int at any integer. -/
theorem mintp_any (w : World) (b : Bool) (m : Value) (xs : List Nat) (N : Nat) (h : Arr w m xs) (hN : N ≤ 1000) :
    Calls Tryz.prog 29 #[.agg #[.bool b, m], .int .i64 (N : Int)] w fun e w' => ∃ v' ok z, e = .returned (.tuple #[v', .bool ok]) ∧ IsInt w.heap.size w' v' z ∧ (ok = true → (limbs z.natAbs).length ≤ N) ∧ Ext w w' := by
  by_cases hx : xs.length ≤ N
  · refine (mint_any w b m xs (N : Int) h (by omega) (by omega)).mono ?_
    rintro e w' ⟨v', he, hi, hx'⟩
    exact ⟨v', true, _, he, hi, fun _ => by rw [natAbs_sgn]; exact Nat.le_trans (length_limbs_val h.ok) hx, hx'⟩
  · obtain ⟨l, A, c, rfl⟩ := h.shape
    have hl := h.len
    refine (mint_big2 w b A l c (N : Int) (by omega)).mono ?_
    rintro e w' ⟨he, hx'⟩
    exact ⟨_, false, 0, he, ⟨_, rfl, Own.none_ _ _⟩, fun e => absurd e (by decide), hx'⟩
/-- Both Makes: a code and a fraction. -/
theorem make_both {x y : Int} {N : Nat} (hN : N ≤ 1000) (a : (limbs x.natAbs).length ≤ N) (b : (limbs y.natAbs).length ≤ N) :
    ∃ (cd : Nat) (P : Int) (Q : Nat), (cd = 0 ∧ Low P Q ∨ cd = 2 ∧ P = 0 ∧ Q = 0) ∧ (limbs P.natAbs).length ≤ N ∧ (limbs Q).length ≤ N ∧
      (∀ W v u, ArrInt W v x → ArrInt W u y → Calls Tryz.prog 30 #[v, u] W fun e w' => ∃ v', e = .returned (.tuple #[v', .int .i64 (cd : Int)]) ∧ IsRat W.heap.size w' v' P Q ∧ Ext W w') ∧
      (∀ W v u, ArrInt W v x → ArrInt W u y → Calls Tryz.prog 31 #[v, u] W fun e w' => ∃ v', e = .returned (.tuple #[v', .int .i64 (cd : Int)]) ∧ IsRat W.heap.size w' v' P Q ∧ Ext W w') := by
  by_cases hy : y = 0
  · subst hy
    exact ⟨2, 0, 0, .inr ⟨rfl, rfl, rfl⟩, by rw [show limbs (0 : Int).natAbs = [] by decide +kernel]; exact Nat.zero_le _, by rw [show limbs 0 = [] by decide +kernel]; exact Nat.zero_le _,
      fun W v u e f => pmake_zero W v x e (by omega) u 0 f (by omega) rfl, fun W v u e f => rmake_zero W v u x e f⟩
  · have hm := make_low2 x y
    have hl : Low (makeN x y) (makeD x y) := by rw [← hm.1, ← hm.2]; exact low_of _ (by omega)
    have hs : (limbs (makeN x y).natAbs).length ≤ N ∧ (limbs (makeD x y)).length ≤ N := by
      rw [← hm.1, ← hm.2]
      exact low_szn (by rw [natAbs_sgn]; exact a) b
    exact ⟨0, _, _, .inl ⟨rfl, hl⟩, hs.1, hs.2, fun W v u e f => pmake_pos W v x e (by omega) u y f (by omega) hy, fun W v u e f => rmake_any W v u x y e f (by omega) (by omega) hy⟩
theorem pvalid_low {p : Int} {q : Nat} (h : Low p q) (a : (limbs p.natAbs).length ≤ 1000000) (b : (limbs q).length ≤ 1000000) (W : World) (v : Value) (hv : ArrRat W v p q) :
    Calls Tryz.prog 32 #[v] W fun e w' => e = .returned (.bool true) ∧ Ext W w' := by
  obtain ⟨m, d, rfl, hm, hd⟩ := hv
  have := pvalidR_any W (decide (p < 0)) m d (limbs p.natAbs) (limbs q) hm hd a b
  rw [valid_low h] at this
  exact this
set_option maxHeartbeats 4000000 in
set_option maxRecDepth 100000 in
theorem rationalMakes_any (w : World) (b0 : Bool) (m0 d0 : Value) (xs0 ys0 : List Nat) (h0 : Arr w m0 xs0) (e0 : Arr w d0 ys0) (b1 : Bool) (m1 : Value) (xs1 : List Nat) (h1 : Arr w m1 xs1) (b2 : Bool) (m2 : Value) (xs2 : List Nat) (h2 : Arr w m2 xs2) (hm : MaxV w) (ht : Tab32 w) :
    Calls Tryz.prog 6 #[.agg #[.bool b0, m0, d0], .agg #[.bool b1, m1], .agg #[.bool b2, m2]] w fun e w' => e = .returned (.bool true) ∧ Ext w w' := by
  have HAW := Lib.hid (fun W hx => awake07_any W (hm.ext (w' := W) hx) (ht.ext hx))
  have HI1 := Lib.hid (fun W (hx : Ext w W) => mintp_any W b1 m1 xs1 12 (h1.ext hx) (by decide))
  have HI2 := Lib.hid (fun W (hx : Ext w W) => mintp_any W b2 m2 xs2 12 (h2.ext hx) (by decide))
  rw [show ((12 : Nat) : Int) = 12 from rfl] at HI1 HI2
  have HPV : Hid (xs0.length ≤ 12 → ys0.length ≤ 12 → ∀ W, Ext w W → Calls Tryz.prog 32 #[.agg #[.bool b0, m0, d0]] W fun e w' => e = .returned (.bool (validR b0 xs0 ys0)) ∧ Ext W w') := Lib.hid (fun p q W hx => pvalidR_any W b0 m0 d0 xs0 ys0 (h0.ext hx) (e0.ext hx) (by omega) (by omega))
  have HRV : Hid (xs0.length ≤ 12 → ys0.length ≤ 12 → ∀ W, Ext w W → Calls Tryz.prog 33 #[.agg #[.bool b0, m0, d0]] W fun e w' => e = .returned (.bool (validR b0 xs0 ys0)) ∧ Ext W w') := Lib.hid (fun p q W hx => rvalidR_any W b0 m0 d0 xs0 ys0 (h0.ext hx) (e0.ext hx) (by omega) (by omega))
  generalize validR b0 xs0 ys0 = vb at *
  have hvb : (vb == vb) = true := by simp
  obtain ⟨l0, A0, c0, rfl⟩ := h0.shape
  obtain ⟨k0, D0, t0, rfl⟩ := e0.shape
  obtain ⟨l1, A1, c1, rfl⟩ := h1.shape
  obtain ⟨l2, A2, c2, rfl⟩ := h2.shape
  have HL0 := Lib.hid h0.len
  have HK0 := Lib.hid e0.len
  clear h0 e0 h1 h2 hm ht
  go_enter Tryz.func6, Tryz.ntmps6
  go_wp2_with fail
  have hb0 := (((Blk.new w 26 #[Value.bool b0, Value.slice A0 l0 c0, Value.slice D0 k0 t0]).alloc (.cells #[Value.bool b1, Value.slice A1 l1 c1] 24)).alloc (.cells #[Value.bool b2, Value.slice A2 l2 c2] 24))
  have hb1 := ((Blk.new (w.alloc (.cells #[Value.bool b0, Value.slice A0 l0 c0, Value.slice D0 k0 t0] 26)) 24 #[Value.bool b1, Value.slice A1 l1 c1]).alloc (.cells #[Value.bool b2, Value.slice A2 l2 c2] 24))
  have hb2 := (Blk.new ((w.alloc (.cells #[Value.bool b0, Value.slice A0 l0 c0, Value.slice D0 k0 t0] 26)).alloc (.cells #[Value.bool b1, Value.slice A1 l1 c1] 24)) 24 #[Value.bool b2, Value.slice A2 l2 c2])
  have hxo := ((((Ext.refl w).alloc (.cells #[Value.bool b0, Value.slice A0 l0 c0, Value.slice D0 k0 t0] 26)).alloc (.cells #[Value.bool b1, Value.slice A1 l1 c1] 24)).alloc (.cells #[Value.bool b2, Value.slice A2 l2 c2] 24))
  have hszo : w.heap.size + 1 + 1 + 1 = (((w.alloc (.cells #[Value.bool b0, Value.slice A0 l0 c0, Value.slice D0 k0 t0] 26)).alloc (.cells #[Value.bool b1, Value.slice A1 l1 c1] 24)).alloc (.cells #[Value.bool b2, Value.slice A2 l2 c2] 24)).heap.size := by simp
  simp only [World.size_alloc] at hb1 hb2
  generalize ((w.alloc (.cells #[Value.bool b0, Value.slice A0 l0 c0, Value.slice D0 k0 t0] 26)).alloc (.cells #[Value.bool b1, Value.slice A1 l1 c1] 24)).alloc (.cells #[Value.bool b2, Value.slice A2 l2 c2] 24) = wo at *
  have HX := Lib.hid hxo
  have HZ : Hid (w.heap.size + 1 + 1 + 1 ≤ wo.heap.size) := Lib.hid (by omega)
  have HB0 := Lib.hid hb0
  have HB1 := Lib.hid hb1
  have HB2 := Lib.hid hb2
  clear hxo hszo hb0 hb1 hb2
  refine (HAW.out _ HX.out).mono ?_
  rintro e w11 ⟨rfl, hx10⟩
  have HX := Lib.hid (HX.out.trans hx10)
  have HB0 := Lib.hid (HB0.out.ext hx10)
  have HB1 := Lib.hid (HB1.out.ext hx10)
  have HB2 := Lib.hid (HB2.out.ext hx10)
  clear hx10
  obtain ⟨hb0_0, hb0_1, hb0_2, hb0_3, hb0_4, hb0_5, hb0_6⟩ := HB0.out.three
  obtain ⟨hb1_0, hb1_1, hb1_2, hb1_3, hb1_4⟩ := HB1.out.two
  obtain ⟨hb2_0, hb2_1, hb2_2, hb2_3, hb2_4⟩ := HB2.out.two
  go_wp2_with fail
  clear hb0_0 hb0_1 hb0_2 hb0_3 hb0_4 hb0_5 hb0_6 hb1_0 hb1_1 hb1_2 hb1_3 hb1_4 hb2_0 hb2_1 hb2_2 hb2_3 hb2_4
  refine (HI1.out _ HX.out).mono ?_
  rintro e w12 ⟨r11, ok1, x, rfl, hi11, hl11, hx11⟩
  have HX := Lib.hid (HX.out.trans hx11)
  have HB0 := Lib.hid (HB0.out.ext hx11)
  have HB1 := Lib.hid (HB1.out.ext hx11)
  have HB2 := Lib.hid (HB2.out.ext hx11)
  clear hx11
  have QX := Lib.hid hi11
  have HLx := Lib.hid hl11
  obtain ⟨f11, g11, G11, j11, rfl⟩ := hi11.shape
  clear hi11 hl11
  obtain ⟨hb0_0, hb0_1, hb0_2, hb0_3, hb0_4, hb0_5, hb0_6⟩ := HB0.out.three
  obtain ⟨hb1_0, hb1_1, hb1_2, hb1_3, hb1_4⟩ := HB1.out.two
  obtain ⟨hb2_0, hb2_1, hb2_2, hb2_3, hb2_4⟩ := HB2.out.two
  go_upto_region 4 with fail
  clear hb0_0 hb0_1 hb0_2 hb0_3 hb0_4 hb0_5 hb0_6 hb1_0 hb1_1 hb1_2 hb1_3 hb1_4 hb2_0 hb2_1 hb2_2 hb2_3 hb2_4
  have hb12 := Blk.new w12 24 #[Value.bool f11, Value.slice G11 g11 j11]
  have hx12 := (Ext.refl w12).alloc (.cells #[Value.bool f11, Value.slice G11 g11 j11] 24)
  have HX := Lib.hid (HX.out.trans hx12)
  have QX := Lib.hid (QX.out.ext hx12)
  have HB0 := Lib.hid (HB0.out.ext hx12)
  have HB1 := Lib.hid (HB1.out.ext hx12)
  have HB2 := Lib.hid (HB2.out.ext hx12)
  have BX := Lib.hid hb12
  generalize w12.alloc (.cells #[Value.bool f11, Value.slice G11 g11 j11] 24) = w13 at *
  generalize w12.heap.size = a12 at *
  clear hb12 hx12
  obtain ⟨hb0_0, hb0_1, hb0_2, hb0_3, hb0_4, hb0_5, hb0_6⟩ := HB0.out.three
  obtain ⟨hb1_0, hb1_1, hb1_2, hb1_3, hb1_4⟩ := HB1.out.two
  obtain ⟨hb2_0, hb2_1, hb2_2, hb2_3, hb2_4⟩ := HB2.out.two
  obtain ⟨bx_0, bx_1, bx_2, bx_3, bx_4⟩ := BX.out.two
  go_wp2_with fail
  clear hb0_0 hb0_1 hb0_2 hb0_3 hb0_4 hb0_5 hb0_6 hb1_0 hb1_1 hb1_2 hb1_3 hb1_4 hb2_0 hb2_1 hb2_2 hb2_3 hb2_4 bx_0 bx_1 bx_2 bx_3 bx_4
  refine (HI2.out _ HX.out).mono ?_
  rintro e w14 ⟨r13, ok2, y, rfl, hi13, hl13, hx13⟩
  have HX := Lib.hid (HX.out.trans hx13)
  have QX := Lib.hid (QX.out.ext hx13)
  have HB0 := Lib.hid (HB0.out.ext hx13)
  have HB1 := Lib.hid (HB1.out.ext hx13)
  have HB2 := Lib.hid (HB2.out.ext hx13)
  have BX := Lib.hid (BX.out.ext hx13)
  clear hx13
  have QY := Lib.hid hi13
  have HLy := Lib.hid hl13
  obtain ⟨f13, g13, G13, j13, rfl⟩ := hi13.shape
  clear hi13 hl13
  obtain ⟨hb0_0, hb0_1, hb0_2, hb0_3, hb0_4, hb0_5, hb0_6⟩ := HB0.out.three
  obtain ⟨hb1_0, hb1_1, hb1_2, hb1_3, hb1_4⟩ := HB1.out.two
  obtain ⟨hb2_0, hb2_1, hb2_2, hb2_3, hb2_4⟩ := HB2.out.two
  obtain ⟨bx_0, bx_1, bx_2, bx_3, bx_4⟩ := BX.out.two
  go_upto_region 5 with fail
  clear hb0_0 hb0_1 hb0_2 hb0_3 hb0_4 hb0_5 hb0_6 hb1_0 hb1_1 hb1_2 hb1_3 hb1_4 hb2_0 hb2_1 hb2_2 hb2_3 hb2_4 bx_0 bx_1 bx_2 bx_3 bx_4
  have hb14 := Blk.new w14 24 #[Value.bool f13, Value.slice G13 g13 j13]
  have hx14 := (Ext.refl w14).alloc (.cells #[Value.bool f13, Value.slice G13 g13 j13] 24)
  have HX := Lib.hid (HX.out.trans hx14)
  have QX := Lib.hid (QX.out.ext hx14)
  have QY := Lib.hid (QY.out.ext hx14)
  have HB0 := Lib.hid (HB0.out.ext hx14)
  have HB1 := Lib.hid (HB1.out.ext hx14)
  have HB2 := Lib.hid (HB2.out.ext hx14)
  have BX := Lib.hid (BX.out.ext hx14)
  have BY := Lib.hid hb14
  generalize w14.alloc (.cells #[Value.bool f13, Value.slice G13 g13 j13] 24) = w15 at *
  generalize w14.heap.size = a14 at *
  clear hb14 hx14
  obtain ⟨hb0_0, hb0_1, hb0_2, hb0_3, hb0_4, hb0_5, hb0_6⟩ := HB0.out.three
  obtain ⟨hb1_0, hb1_1, hb1_2, hb1_3, hb1_4⟩ := HB1.out.two
  obtain ⟨hb2_0, hb2_1, hb2_2, hb2_3, hb2_4⟩ := HB2.out.two
  obtain ⟨bx_0, bx_1, bx_2, bx_3, bx_4⟩ := BX.out.two
  obtain ⟨by_0, by_1, by_2, by_3, by_4⟩ := BY.out.two
  clear hb0_0 hb0_1 hb0_2 hb0_3 hb0_4 hb0_5 hb0_6 hb1_0 hb1_1 hb1_2 hb1_3 hb1_4 hb2_0 hb2_1 hb2_2 hb2_3 hb2_4 bx_0 bx_1 bx_2 bx_3 bx_4 by_0 by_1 by_2 by_3 by_4
  clear HB1 HB2 HAW HI1 HI2
  obtain ⟨hb0_0, hb0_1, hb0_2, hb0_3, hb0_4, hb0_5, hb0_6⟩ := HB0.out.three
  obtain ⟨bx_0, bx_1, bx_2, bx_3, bx_4⟩ := BX.out.two
  obtain ⟨by_0, by_1, by_2, by_3, by_4⟩ := BY.out.two
  cases ok1 with
  | false => (go_wp2_with fail; go_ret; exact ⟨rfl, HX.out⟩)
  | true =>
  cases ok2 with
  | false => (go_wp2_with fail; go_ret; exact ⟨rfl, HX.out⟩)
  | true =>
  rcases Nat.lt_or_ge 12 l0 with hl0 | hl0
  · have hc : (12 : Int) < (l0 : Int) := by omega
    (go_wp2_with fail; go_ret; exact ⟨rfl, HX.out⟩)
  have hc : ¬ (12 : Int) < (l0 : Int) := by omega
  rcases Nat.lt_or_ge 12 k0 with hk0 | hk0
  · have hd : (12 : Int) < (k0 : Int) := by omega
    (go_wp2_with fail; go_ret; exact ⟨rfl, HX.out⟩)
  have hd : ¬ (12 : Int) < (k0 : Int) := by omega
  have HPV2 := Lib.hid (HPV.out (by have := HL0.out; omega) (by have := HK0.out; omega))
  have HRV2 := Lib.hid (HRV.out (by have := HL0.out; omega) (by have := HK0.out; omega))
  obtain ⟨cd, P, Q, hcd, hP, hQ, hmk, hrmk⟩ := make_both (N := 12) (by decide) (HLx.out rfl) (HLy.out rfl)
  have HMK := Lib.hid hmk
  have HRMK := Lib.hid hrmk
  have HSM := Lib.hid (rsameR_self hP hQ (by decide))
  have HVL : Hid (Low P Q → ∀ W v, ArrRat W v P Q → Calls Tryz.prog 32 #[v] W fun e w' => e = .returned (.bool true) ∧ Ext W w') := Lib.hid (fun h W v a => pvalid_low h (by omega) (by omega) W v a)
  have hcb : ((cd : Int) == (cd : Int)) = true := by simp
  have HCD := Lib.hid hcd
  clear HPV HRV HL0 HK0 HLx HLy hmk hrmk hP hQ hcd hl0 hk0
  go_wp2_with fail
  clear hc hd
  clear hb0_0 hb0_1 hb0_2 hb0_3 hb0_4 hb0_5 hb0_6 bx_0 bx_1 bx_2 bx_3 bx_4 by_0 by_1 by_2 by_3 by_4
  refine (HMK.out _ _ _ QX.out.arr QY.out.arr).mono ?_
  rintro e w16 ⟨r15, rfl, hi15, hx15⟩
  have HX := Lib.hid (HX.out.trans hx15)
  have QX := Lib.hid (QX.out.ext hx15)
  have QY := Lib.hid (QY.out.ext hx15)
  have HB0 := Lib.hid (HB0.out.ext hx15)
  have BX := Lib.hid (BX.out.ext hx15)
  have BY := Lib.hid (BY.out.ext hx15)
  have QR := Lib.hid hi15
  obtain ⟨f15, g15, G15, j15, y15, Y15, z15, rfl⟩ := hi15.shape
  clear hi15
  clear hx15
  obtain ⟨hb0_0, hb0_1, hb0_2, hb0_3, hb0_4, hb0_5, hb0_6⟩ := HB0.out.three
  obtain ⟨bx_0, bx_1, bx_2, bx_3, bx_4⟩ := BX.out.two
  obtain ⟨by_0, by_1, by_2, by_3, by_4⟩ := BY.out.two
  go_wp2_with fail
  clear hb0_0 hb0_1 hb0_2 hb0_3 hb0_4 hb0_5 hb0_6 bx_0 bx_1 bx_2 bx_3 bx_4 by_0 by_1 by_2 by_3 by_4
  have hb16 := Blk.new w16 26 #[Value.bool f15, Value.slice G15 g15 j15, Value.slice Y15 y15 z15]
  have hx16 := (Ext.refl w16).alloc (.cells #[Value.bool f15, Value.slice G15 g15 j15, Value.slice Y15 y15 z15] 26)
  have HX := Lib.hid (HX.out.trans hx16)
  have QX := Lib.hid (QX.out.ext hx16)
  have QY := Lib.hid (QY.out.ext hx16)
  have QR := Lib.hid (QR.out.ext hx16)
  have HB0 := Lib.hid (HB0.out.ext hx16)
  have BX := Lib.hid (BX.out.ext hx16)
  have BY := Lib.hid (BY.out.ext hx16)
  have BR := Lib.hid hb16
  generalize w16.alloc (.cells #[Value.bool f15, Value.slice G15 g15 j15, Value.slice Y15 y15 z15] 26) = w17 at *
  generalize w16.heap.size = a16 at *
  clear hb16 hx16
  obtain ⟨hb0_0, hb0_1, hb0_2, hb0_3, hb0_4, hb0_5, hb0_6⟩ := HB0.out.three
  obtain ⟨bx_0, bx_1, bx_2, bx_3, bx_4⟩ := BX.out.two
  obtain ⟨by_0, by_1, by_2, by_3, by_4⟩ := BY.out.two
  obtain ⟨br_0, br_1, br_2, br_3, br_4, br_5, br_6⟩ := BR.out.three
  clear hb0_0 hb0_1 hb0_2 hb0_3 hb0_4 hb0_5 hb0_6 bx_0 bx_1 bx_2 bx_3 bx_4 by_0 by_1 by_2 by_3 by_4 br_0 br_1 br_2 br_3 br_4 br_5 br_6
  refine (HRMK.out _ _ _ QX.out.arr QY.out.arr).mono ?_
  rintro e w18 ⟨r17, rfl, hi17, hx17⟩
  have HX := Lib.hid (HX.out.trans hx17)
  have QX := Lib.hid (QX.out.ext hx17)
  have QY := Lib.hid (QY.out.ext hx17)
  have QR := Lib.hid (QR.out.ext hx17)
  have HB0 := Lib.hid (HB0.out.ext hx17)
  have BX := Lib.hid (BX.out.ext hx17)
  have BY := Lib.hid (BY.out.ext hx17)
  have BR := Lib.hid (BR.out.ext hx17)
  have QW := Lib.hid hi17
  obtain ⟨f17, g17, G17, j17, y17, Y17, z17, rfl⟩ := hi17.shape
  clear hi17
  clear hx17
  obtain ⟨hb0_0, hb0_1, hb0_2, hb0_3, hb0_4, hb0_5, hb0_6⟩ := HB0.out.three
  obtain ⟨bx_0, bx_1, bx_2, bx_3, bx_4⟩ := BX.out.two
  obtain ⟨by_0, by_1, by_2, by_3, by_4⟩ := BY.out.two
  obtain ⟨br_0, br_1, br_2, br_3, br_4, br_5, br_6⟩ := BR.out.three
  go_upto_region 9 with fail
  clear hb0_0 hb0_1 hb0_2 hb0_3 hb0_4 hb0_5 hb0_6 bx_0 bx_1 bx_2 bx_3 bx_4 by_0 by_1 by_2 by_3 by_4 br_0 br_1 br_2 br_3 br_4 br_5 br_6
  have hb18 := Blk.new w18 26 #[Value.bool f17, Value.slice G17 g17 j17, Value.slice Y17 y17 z17]
  have hx18 := (Ext.refl w18).alloc (.cells #[Value.bool f17, Value.slice G17 g17 j17, Value.slice Y17 y17 z17] 26)
  have HX := Lib.hid (HX.out.trans hx18)
  have QX := Lib.hid (QX.out.ext hx18)
  have QY := Lib.hid (QY.out.ext hx18)
  have QR := Lib.hid (QR.out.ext hx18)
  have QW := Lib.hid (QW.out.ext hx18)
  have HB0 := Lib.hid (HB0.out.ext hx18)
  have BX := Lib.hid (BX.out.ext hx18)
  have BY := Lib.hid (BY.out.ext hx18)
  have BR := Lib.hid (BR.out.ext hx18)
  have BW := Lib.hid hb18
  generalize w18.alloc (.cells #[Value.bool f17, Value.slice G17 g17 j17, Value.slice Y17 y17 z17] 26) = w19 at *
  generalize w18.heap.size = a18 at *
  clear hb18 hx18
  clear BX BY QX QY HMK HRMK
  obtain ⟨hb0_0, hb0_1, hb0_2, hb0_3, hb0_4, hb0_5, hb0_6⟩ := HB0.out.three
  obtain ⟨br_0, br_1, br_2, br_3, br_4, br_5, br_6⟩ := BR.out.three
  obtain ⟨bw_0, bw_1, bw_2, bw_3, bw_4, bw_5, bw_6⟩ := BW.out.three
  rcases HCD.out with ⟨hc0, hlow⟩ | ⟨hc0, hPz, hQz⟩
  · have HVL2 := Lib.hid (HVL.out hlow)
    have hne : ((cd : Int) != 0) = false := by rw [hc0]; rfl
    clear HCD HVL hc0 hlow
    go_region_held3 (fun w' => Ext w19 w' ∧ w'.cell? ⟨w.heap.size, 0, none⟩ = some (Value.bool b0) ∧ w'.cell? ⟨w.heap.size, 1, none⟩ = some (Value.slice A0 l0 c0) ∧ w'.cell? ⟨w.heap.size, 2, none⟩ = some (Value.slice D0 k0 t0) ∧ w'.cell? ⟨a16, 0, none⟩ = some (Value.bool f15) ∧ w'.cell? ⟨a16, 1, none⟩ = some (Value.slice G15 g15 j15) ∧ w'.cell? ⟨a16, 2, none⟩ = some (Value.slice Y15 y15 z15) ∧ w'.cell? ⟨a18, 0, none⟩ = some (Value.bool f17) ∧ w'.cell? ⟨a18, 1, none⟩ = some (Value.slice G17 g17 j17) ∧ w'.cell? ⟨a18, 2, none⟩ = some (Value.slice Y17 y17 z17))
      (first | (exact ⟨(Ext.refl w19).drew, hb0_0, hb0_1, hb0_2, br_0, br_1, br_2, bw_0, bw_1, bw_2⟩) | (exact keptS9_0 (by assumption) (by assumption)))
      (first
        | (go_at_call 32; have hchk22 := hz21; refine (HVL2.out _ _ (QR.out.arr.ext (And.left (by assumption)))).mono ?_; rintro e w23 ⟨rfl, hx22⟩; clear hz21 hchk22; have hz22 := hx22.size)
        | (go_at_call 22; have hchk21 := hz20; refine (HSM.out _ _ _ (QR.out.arr.ext (And.left (by assumption))) (QW.out.arr.ext (And.left (by assumption)))).mono ?_; rintro e w22 ⟨rfl, hx21⟩; clear hz20 hchk21; have hz21 := hx21.size)
        | (go_at_call 33; have hchk20 := hz19; refine (HRV2.out _ (HX.out.trans (And.left (by assumption)))).mono ?_; rintro e w21 ⟨rfl, hx20⟩; clear hz19 hchk20; have hz20 := hx20.size)
        | (go_at_call 32; refine (HPV2.out _ (HX.out.trans (And.left (by assumption)))).mono ?_; rintro e w20 ⟨rfl, hx19⟩; have hz19 := hx19.size))
    all_goals go_wp2_with fail
    rename_i hS
    have hE := And.left hS
    go_ret
    exact ⟨rfl, HX.out.trans hE⟩
  · have hne : ((cd : Int) != 0) = true := by rw [hc0]; rfl
    clear HCD HVL hc0 hPz hQz
    obtain ⟨hb0_0, hb0_1, hb0_2, hb0_3, hb0_4, hb0_5, hb0_6⟩ := HB0.out.three
    obtain ⟨br_0, br_1, br_2, br_3, br_4, br_5, br_6⟩ := BR.out.three
    obtain ⟨bw_0, bw_1, bw_2, bw_3, bw_4, bw_5, bw_6⟩ := BW.out.three
    have HE19 := Lib.hid (Ext.refl w19).drew
    go_region_law (first
      | (go_simp; go_at_call 22; have hchk21 := hx20; refine (HSM.out _ _ _ (QR.out.arr.ext HE21.out) (QW.out.arr.ext HE21.out)).mono ?_; rintro e w22 ⟨rfl, hx21⟩; have HE22 : Hid (Ext w19 w22) := Lib.hid (HE21.out.trans hx21); clear hb0_0 hb0_1 hb0_2 hb0_3 hb0_4 hb0_5 hb0_6 br_0 br_1 br_2 br_3 br_4 br_5 br_6 bw_0 bw_1 bw_2 bw_3 bw_4 bw_5 bw_6; obtain ⟨hb0_0, hb0_1, hb0_2, hb0_3, hb0_4, hb0_5, hb0_6⟩ := (HB0.out.ext HE22.out).three; obtain ⟨br_0, br_1, br_2, br_3, br_4, br_5, br_6⟩ := (BR.out.ext HE22.out).three; obtain ⟨bw_0, bw_1, bw_2, bw_3, bw_4, bw_5, bw_6⟩ := (BW.out.ext HE22.out).three)
      | (go_simp; go_at_call 33; have hchk20 := hx19; refine (HRV2.out _ (HX.out.trans HE20.out)).mono ?_; rintro e w21 ⟨rfl, hx20⟩; have HE21 : Hid (Ext w19 w21) := Lib.hid (HE20.out.trans hx20); clear hb0_0 hb0_1 hb0_2 hb0_3 hb0_4 hb0_5 hb0_6 br_0 br_1 br_2 br_3 br_4 br_5 br_6 bw_0 bw_1 bw_2 bw_3 bw_4 bw_5 bw_6; obtain ⟨hb0_0, hb0_1, hb0_2, hb0_3, hb0_4, hb0_5, hb0_6⟩ := (HB0.out.ext HE21.out).three; obtain ⟨br_0, br_1, br_2, br_3, br_4, br_5, br_6⟩ := (BR.out.ext HE21.out).three; obtain ⟨bw_0, bw_1, bw_2, bw_3, bw_4, bw_5, bw_6⟩ := (BW.out.ext HE21.out).three)
      | (go_simp; go_at_call 32; refine (HPV2.out _ (HX.out.trans HE19.out)).mono ?_; rintro e w20 ⟨rfl, hx19⟩; have HE20 : Hid (Ext w19 w20) := Lib.hid (HE19.out.trans hx19); clear hb0_0 hb0_1 hb0_2 hb0_3 hb0_4 hb0_5 hb0_6 br_0 br_1 br_2 br_3 br_4 br_5 br_6 bw_0 bw_1 bw_2 bw_3 bw_4 bw_5 bw_6; obtain ⟨hb0_0, hb0_1, hb0_2, hb0_3, hb0_4, hb0_5, hb0_6⟩ := (HB0.out.ext HE20.out).three; obtain ⟨br_0, br_1, br_2, br_3, br_4, br_5, br_6⟩ := (BR.out.ext HE20.out).three; obtain ⟨bw_0, bw_1, bw_2, bw_3, bw_4, bw_5, bw_6⟩ := (BW.out.ext HE20.out).three))
    all_goals go_wp2_with fail
    all_goals have hE := HE22.out
    all_goals go_ret
    all_goals exact ⟨rfl, HX.out.trans hE⟩
end Big
end Go.Proofs.YtplmldkfgeiklaaGreatDoor
/- The frame round a law's walk: the arguments opened; behind the call they read as they did. -/
namespace Go.Proofs.YtplmldkfgeiklaaGreatDoor
open Go.ChangeShapes Go.WideShapes Go.ChangeAt Go.RowKit

section
variable {H : Type} {enc : TypeId × Value → H} {P : Program}
theorem trodAll_stays (hl : laidOutB P = true) {W W' : World} (hb : Big.Ext W W') : ∀ (ts : List TypeId) (vs : List Value) (ds : List (DataW H)) (ps : List MemPlace),
    (∀ t ∈ ts, P.readableRec t = true ∧ t < P.types.size) → DataW.TrodAll enc P W 0 (fun _ => true) true ts vs ds ps → (∀ x ∈ ps, x.block < W.heap.size) →
    DataW.TrodAll enc P W' 0 (fun b => decide (b < W.heap.size)) true ts vs ds ps
  | [], vs, ds, ps, _, h, _ => by
    obtain ⟨rfl, rfl, rfl⟩ := trodAll_nil h
    exact trodAll_mk0
  | t :: ts, vs, ds, ps, ht, h, hlt => by
    obtain ⟨v, vs', d, ds', p, q, rfl, rfl, rfl, h1, h2⟩ := trodAll_cons h
    exact trodAll_cons_mk (Below.trod hl (ht t (by simp)).1 (ht t (by simp)).2 h1 hb (fun x hx => hlt x (List.mem_append_left _ hx)))
      (trodAll_stays hl hb ts vs' ds' q (fun t' h' => ht t' (by simp [h'])) h2 (fun x hx => hlt x (List.mem_append_right _ hx)))

/-- What the row asks of a law that returned true and left what was there. -/
theorem post_true {f : Func} {s : ChangeSpec} {W W' : World} {args : Array Value} {ds gs : List (DataW H)} {before : List MemPlace} {tb : TypeId} (hl : laidOutB P = true)
    (hts : (f.params.toList.all fun t => P.readableRec t && decide (t < P.types.size)) = true) (hv : s.vars = []) (hr : f.resultTypes = #[tb]) (htb : P.underlying tb = some .bool)
    (hW : DataW.Whole enc P f.params.toList s.vars false W args.toList ds gs before) (hfn : s.fn H ds = { results := [.lit (.bool true)], args := ds }) (hb : Big.Ext W W') :
    s.post enc P f false true false false W args (.bool true) W' := by
  have hlt := hW.lt
  have hW' := hW
  obtain ⟨p, q, hA, hV, rfl, hfz, hnd⟩ := hW
  rw [hv] at hV
  obtain ⟨rfl, rfl⟩ := trodVars_none hV
  have hfn' : s.fn H (ds ++ []) = { results := [.lit (.bool true)], args := ds } := by rw [List.append_nil]; exact hfn
  refine ⟨ds, [], p ++ [], [], p, [], hW', ?_, ?_, ?_, hb.frame _, fun h => by cases h⟩
  · rw [hfn', hr]
    exact trodAll_mk1 (shut_bool htb _)
  · rw [hfn']
    exact trodAll_stays hl hb _ _ _ _ (fun t ht => by
      have := List.all_eq_true.1 hts t ht
      simpa using this) hA (fun x hx => hlt x (by simpa using hx))
  · rw [hfn', hv]
    rfl
end

/-- A law under its row's conditions, with the form of the world at its beginning. -/
theorem handed_and_shaped {H : Type} {enc : TypeId × Value → H} {a : Assume} {C : Checked} {os : Os} {f : FuncId} {fn : Func} {s : ChangeSpec} {conds : List PathCond} {apart fresh handsOn again : Bool} {X : World → Array Value → Prop}
    (hX : ∀ (w w' : World) (args : Array Value), w.heap = w'.heap → X w args → X w' args)
    (own : ownKnob C.prog.godebug = none) (started : os.Started) (noInit : C.prog.inits.idxOf? f = none) (hfn : C.prog.funcs[f]? = some fn)
    (witness : ∃ (w : World) (tape : Tape) (i : Input), w.os = os ∧ (w.forCall tape i).Shaped C.prog ∧ i.vars = [] ∧ Input.okWide C.prog (w.forCall tape i) .any w.heap.size f i ∧
      ((s.pre enc C.prog fn conds apart (w.forCall tape i).memory i.args ∧ X (w.forCall tape i).memory i.args) ∧ sizedMet enc C.prog fn (OpenSpec.ofChange s) apart (w.forCall tape i).memory i.args) ∧ a.holds C.prog (lone (Frame.enter C.prog f i.args .normal) [] (w.forCall tape i)))
    (contract : ∀ (W : World) (base : Nat) (args : Array Value) (ds gs : List (DataW H)) (before : List MemPlace),
      (∀ (j : Nat) t v, fn.params[j]? = some t → args[j]? = some v → Value.okWide C.prog W .any base t v) →
      DataW.Whole enc C.prog fn.params.toList s.vars apart W args.toList ds gs before →
      (DataW.weightsEach C.prog (fn.params.toList ++ s.plain.varTypes C.prog) (ds ++ gs)).all (· ≤ reachBytes) = true → X W args → W.ShapedOpen C.prog →
      Calls C.prog f args W fun e W' => ∃ v, e = .returned v ∧ s.post enc C.prog fn apart fresh handsOn again W args v W') :
    ReturnsInHanded a C os f .any (fun w args => (s.pre enc C.prog fn conds apart w args ∧ X w args) ∧ sizedMet enc C.prog fn (OpenSpec.ofChange s) apart w args) (s.post enc C.prog fn apart fresh handsOn again) := by
  refine returnsInHanded_of_calls own started noInit witness ?_
  intro w tape i _ hsh _ hok hpre hholds
  obtain ⟨_, _, _, fn', hfn', _, _, _, _, hval⟩ := hok
  have e : fn' = fn := Option.some.inj (hfn'.symm.trans hfn)
  subst e
  obtain ⟨⟨⟨ds, gs, before, hw, hc⟩, hx⟩, hz⟩ := hpre
  have hw' := DataW.Whole.of_heap (w' := w.forCall tape i) (by rfl) hw
  refine (contract (w.forCall tape i) w.heap.size i.args ds gs before hval hw' (hz.weights hw) (hX _ _ _ (by rfl) hx) hsh).mono fun e W' ⟨v, he, hp⟩ => ?_
  subst he
  exact ChangeSpec.post_blind hp

theorem laid_out : laidOutB Tryz.prog = true := by kernel_rfl
theorem own : ownKnob Tryz.prog.godebug = none := by kernel_rfl

section
variable {P : Program} {W : World}
/-- One of several variables that a row lists. -/
theorem laidVars_at : ∀ (i : Nat) (l : List (String × DataW Unit)) (ps : List MemPlace) (n : String) (d : DataW Unit), DataW.LaidVars P W l ps → l[i]? = some (n, d) →
    ∃ g t cs f p, P.globalNamed n = some g ∧ (P.globals[g]?).map (·.type) = some t ∧ W.var? P n = some cs ∧ DataW.trod (fun _ => ()) P W 0 (fun _ => true) false f t cs.toList = some (d, p)
  | i, [], ps, n, d, _, hn => by simp at hn
  | 0, x :: l, ps, n, d, h, hn => by
    simp at hn
    subst hn
    obtain ⟨g, t, cs, f, p, q, h1, h2, h3, h4, _, _⟩ := h
    exact ⟨g, t, cs, f, p, h1, h2, h3, h4⟩
  | i + 1, x :: l, ps, n, d, h, hn => by
    obtain ⟨g, t, cs, f, p, q, _, _, _, _, hs, _⟩ := h
    exact laidVars_at i l q n d hs (by simpa using hn)
theorem laid_at (i : Nat) {l : List (String × DataW Unit)} {n : String} {d : DataW Unit} (h : laidMetH P l W) (hp : (l.all fun x => x.2.handleName?.isNone) = true) (hn : l[i]? = some (n, d)) :
    ∃ g t cs f p, P.globalNamed n = some g ∧ (P.globals[g]?).map (·.type) = some t ∧ W.var? P n = some cs ∧ DataW.trod (fun _ => ()) P W 0 (fun _ => true) false f t cs.toList = some (d, p) := by
  rw [MakeChecks.laidMetH_plain _ _ _ hp] at h
  obtain ⟨ps, hv, _⟩ := h
  exact laidVars_at i l ps n d hv hn
end

section
variable {H : Type} {enc : TypeId × Value → H} {W : World} {fuel : Nat} {v : Value} {y : DataW H × List MemPlace}
theorem cellsOf_u32 : Tryz.prog.cellsOf 74 = 1 := by kernel_rfl
/-- A slice of 32-bit digits that came in. -/
theorem arr_of_trod (h : DataW.trod enc Tryz.prog W 0 (fun _ => true) true fuel 22 [v] = some y) : ∃ xs, Big.Arr W v xs := by
  rcases open_ints Tryz.underlying22 Tryz.underlying74 cellsOf_u32 h with ⟨hv, _⟩ | ⟨a, len, cap, zs, hv, _, hl, hm, hz, _, hc, hw⟩
  · injection hv with hv
    subst hv
    exact ⟨[], Big.Arr.none_ W⟩
  · injection hv with hv
    subst hv
    simp only [if_true] at hz
    refine ⟨(zs.take len).map Int.toNat, ?_⟩
    have hlen : ((zs.take len).map Int.toNat).length = len := by simp; omega
    have hok : Big.Ok ((zs.take len).map Int.toNat) := fun x hx => by
      obtain ⟨n, hn, rfl⟩ := List.mem_map.1 hx
      have := bounds_u32 (hw n (List.mem_of_mem_take hn))
      omega
    have key := Big.Arr.mk (w := W) (A := some a) (c := cap) hok (by rw [hlen]; exact hl) hm (fun hp => by
      rw [hlen] at hp ⊢
      obtain ⟨b, off, rfl, hcell⟩ := ints_at hc (by omega)
      have h0 := hcell 0 (by omega)
      refine ⟨b, off, rfl, World.block_lt_of_cell? W _ h0, fun j hj => ?_⟩
      rw [hcell j (by omega)]
      have hj2 : j < zs.length := by omega
      have hb := bounds_u32 (hw zs[j] (List.getElem_mem hj2))
      have e1 : zs.getD j 0 = zs[j] := by rw [List.getD_eq_getElem?_getD, List.getElem?_eq_getElem hj2]; rfl
      have e2 : ((zs.take len).map Int.toNat).getD j 0 = zs[j].toNat := by
        rw [List.getD_eq_getElem?_getD, List.getElem?_map, List.getElem?_take_of_lt hj, List.getElem?_eq_getElem hj2]; rfl
      rw [e1, e2]
      unfold Big.d32
      rw [Int.toNat_of_nonneg hb.1])
    rw [hlen] at key
    exact key
theorem bool_of_trod (h : DataW.trod enc Tryz.prog W 0 (fun _ => true) true fuel 4 [v] = some y) : ∃ b, v = .bool b := by
  obtain ⟨b, hb, _⟩ := DataW.trod_bool Tryz.underlying4 h
  injection hb with hb
  exact ⟨b, hb⟩
end
section
variable {H : Type} {enc : TypeId × Value → H} {W : World} {v : Value} {d : DataW H} {p : List MemPlace} {r : Reach} {b0 : Nat}
set_option maxRecDepth 100000 in
theorem open_u32s (hv : Value.okWide Tryz.prog W r b0 22 v) (h : DataW.Trod enc Tryz.prog W 0 (fun _ => true) true 22 v d p) : ∃ xs, Big.Arr W v xs := by
  obtain ⟨a, len, cap, rfl⟩ := okWide_slice Tryz.underlying22 hv
  obtain ⟨fuel, hf⟩ := h
  obtain ⟨xs, hxs⟩ := arr_of_trod (by simpa [Value.cells] using hf)
  exact ⟨xs, hxs⟩
end
theorem byte_of_wf {z : Int} (w : (Lit.int .u8 z).wf = true) : ∃ d : UInt8, z = (d.toNat : Int) := by
  have h := bounds_u8 w
  refine ⟨UInt8.ofNat z.toNat, ?_⟩
  have e : (UInt8.ofNat z.toNat).toNat = z.toNat % 2 ^ 8 := UInt8.toNat_ofNat'
  rw [e, Nat.mod_eq_of_lt (by omega)]
  omega
theorem u64_of_wf {z : Int} (w : (Lit.int .u64 z).wf = true) : ∃ n : Nat, n < 18446744073709551616 ∧ z = (n : Int) := by
  have h := bounds_u64 w
  exact ⟨z.toNat, by omega, by omega⟩
theorem str_of_bytes {s : ByteArray} (h : s.size ≤ maxLen) : ∃ l : List UInt8, l.length ≤ maxLen ∧ s = ⟨l.toArray⟩ := by
  refine ⟨s.data.toList, by simpa using h, ?_⟩
  apply ByteArray.ext
  simp
end Go.Proofs.YtplmldkfgeiklaaGreatDoor
