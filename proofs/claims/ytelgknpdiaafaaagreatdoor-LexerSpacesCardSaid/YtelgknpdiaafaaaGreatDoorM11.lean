import Derived.Test.YtelgknpdiaafaaaGreatDoorM6
import Derived.Test.YtelgknpdiaafaaaGreatDoorM10
import Derived.Test.YtelgknpdiaafaaaGreatDoorM4
import Derived.Test.YtelgknpdiaafaaaGreatDoorM1
/- Words for a region that draws its order: what its loads read stays behind calls that make memory, and behind the store of its result. Printed by a program. -/
namespace Go.Proofs.YtelgknpdiaafaaaGreatDoor
namespace Big
open Go.RowKit
/-- What a cell holds, whatever that is. -/
@[irreducible] def was (w : World) (g o : Nat) : Value := (w.cell? ⟨g, o, none⟩).getD undef
theorem was_some {w : World} {g o : Nat} {u : Value} (h : w.cell? ⟨g, o, none⟩ = some u) : w.cell? ⟨g, o, none⟩ = some (was w g o) := by
  unfold was; rw [h]; rfl
theorem Ext.keepf {w w' : World} {b o : Nat} {u : Value} (hx : Ext w w') (h : w.cell? ⟨b, o, none⟩ = some u) (hf : w.frozen? ⟨b, o, none⟩ = false) : w'.frozen? ⟨b, o, none⟩ = false := (hx.frozen (World.block_lt_of_cell? w _ h)).trans hf
theorem set_far {w : World} {g i b o : Nat} {u v : Value} (h : w.cell? ⟨b, o, none⟩ = some v) (hne : b ≠ g) : (w.setCell ⟨g, i, none⟩ u).cell? ⟨b, o, none⟩ = some v :=
  (World.cell?_setCell_other w _ _ u (fun e => hne (by injection e with e1 _ _; exact e1.symm))).trans h
theorem set_was {w : World} {g i b o : Nat} {u v : Value} (h : w.cell? ⟨b, o, none⟩ = some v) : ∃ v', (w.setCell ⟨g, i, none⟩ u).cell? ⟨b, o, none⟩ = some v' := by
  obtain ⟨v', hv⟩ := cell?_setCell_some (w := w) (p := ⟨g, i, none⟩) (x := u) (q := ⟨b, o, none⟩) (v := v) h
  exact ⟨v', hv⟩
theorem set_fz {w : World} {g i b o : Nat} {u : Value} (hf : w.frozen? ⟨b, o, none⟩ = false) : (w.setCell ⟨g, i, none⟩ u).frozen? ⟨b, o, none⟩ = false := by
  rw [World.frozen?_setCell]; exact hf

theorem keptS0_2 {w w1 w2 : World} {g  : Nat} (h : Ext w w1 ∧ w1.cell? ⟨g, 0, none⟩ = some (was w1 g 0) ∧ w1.cell? ⟨g, 1, none⟩ = some (was w1 g 1) ∧ w1.frozen? ⟨g, 0, none⟩ = false ∧ w1.frozen? ⟨g, 1, none⟩ = false) (hx : Ext w1 w2) : Ext w w2 ∧ w2.cell? ⟨g, 0, none⟩ = some (was w2 g 0) ∧ w2.cell? ⟨g, 1, none⟩ = some (was w2 g 1) ∧ w2.frozen? ⟨g, 0, none⟩ = false ∧ w2.frozen? ⟨g, 1, none⟩ = false :=
  ⟨h.1.trans hx, was_some (hx.keep h.2.1), was_some (hx.keep h.2.2.1), hx.keepf h.2.1 h.2.2.2.1, hx.keepf h.2.2.1 h.2.2.2.2⟩
theorem keptS0_2_set {w w1 : World} {g  : Nat} {x0 x1 : Value} (h : Ext w w1 ∧ w1.cell? ⟨g, 0, none⟩ = some (was w1 g 0) ∧ w1.cell? ⟨g, 1, none⟩ = some (was w1 g 1) ∧ w1.frozen? ⟨g, 0, none⟩ = false ∧ w1.frozen? ⟨g, 1, none⟩ = false) (hg : w.heap.size ≤ g)  : Ext w ((w1.setCell ⟨g, 0, none⟩ x0).setCell ⟨g, 1, none⟩ x1) ∧ ((w1.setCell ⟨g, 0, none⟩ x0).setCell ⟨g, 1, none⟩ x1).cell? ⟨g, 0, none⟩ = some (was ((w1.setCell ⟨g, 0, none⟩ x0).setCell ⟨g, 1, none⟩ x1) g 0) ∧ ((w1.setCell ⟨g, 0, none⟩ x0).setCell ⟨g, 1, none⟩ x1).cell? ⟨g, 1, none⟩ = some (was ((w1.setCell ⟨g, 0, none⟩ x0).setCell ⟨g, 1, none⟩ x1) g 1) ∧ ((w1.setCell ⟨g, 0, none⟩ x0).setCell ⟨g, 1, none⟩ x1).frozen? ⟨g, 0, none⟩ = false ∧ ((w1.setCell ⟨g, 0, none⟩ x0).setCell ⟨g, 1, none⟩ x1).frozen? ⟨g, 1, none⟩ = false := by
  obtain ⟨_, k0⟩ := set_was (g := g) (i := 0) (u := x0) h.2.1
  obtain ⟨_, k0⟩ := set_was (g := g) (i := 1) (u := x1) k0
  obtain ⟨_, k1⟩ := set_was (g := g) (i := 0) (u := x0) h.2.2.1
  obtain ⟨_, k1⟩ := set_was (g := g) (i := 1) (u := x1) k1
  exact ⟨((h.1.setCell hg _).setCell hg _), was_some k0, was_some k1, (set_fz (set_fz h.2.2.2.1)), (set_fz (set_fz h.2.2.2.2))⟩
theorem keptS1_2 {w w1 w2 : World} {g b0 o0 : Nat} {u0 : Value} (h : Ext w w1 ∧ w1.cell? ⟨b0, o0, none⟩ = some u0 ∧ w1.cell? ⟨g, 0, none⟩ = some (was w1 g 0) ∧ w1.cell? ⟨g, 1, none⟩ = some (was w1 g 1) ∧ w1.frozen? ⟨g, 0, none⟩ = false ∧ w1.frozen? ⟨g, 1, none⟩ = false) (hx : Ext w1 w2) : Ext w w2 ∧ w2.cell? ⟨b0, o0, none⟩ = some u0 ∧ w2.cell? ⟨g, 0, none⟩ = some (was w2 g 0) ∧ w2.cell? ⟨g, 1, none⟩ = some (was w2 g 1) ∧ w2.frozen? ⟨g, 0, none⟩ = false ∧ w2.frozen? ⟨g, 1, none⟩ = false :=
  ⟨h.1.trans hx, hx.keep h.2.1, was_some (hx.keep h.2.2.1), was_some (hx.keep h.2.2.2.1), hx.keepf h.2.2.1 h.2.2.2.2.1, hx.keepf h.2.2.2.1 h.2.2.2.2.2⟩
theorem keptS1_2_set {w w1 : World} {g b0 o0 : Nat} {u0 : Value} {x0 x1 : Value} (h : Ext w w1 ∧ w1.cell? ⟨b0, o0, none⟩ = some u0 ∧ w1.cell? ⟨g, 0, none⟩ = some (was w1 g 0) ∧ w1.cell? ⟨g, 1, none⟩ = some (was w1 g 1) ∧ w1.frozen? ⟨g, 0, none⟩ = false ∧ w1.frozen? ⟨g, 1, none⟩ = false) (hg : w.heap.size ≤ g) (n0 : b0 ≠ g) : Ext w ((w1.setCell ⟨g, 0, none⟩ x0).setCell ⟨g, 1, none⟩ x1) ∧ ((w1.setCell ⟨g, 0, none⟩ x0).setCell ⟨g, 1, none⟩ x1).cell? ⟨b0, o0, none⟩ = some u0 ∧ ((w1.setCell ⟨g, 0, none⟩ x0).setCell ⟨g, 1, none⟩ x1).cell? ⟨g, 0, none⟩ = some (was ((w1.setCell ⟨g, 0, none⟩ x0).setCell ⟨g, 1, none⟩ x1) g 0) ∧ ((w1.setCell ⟨g, 0, none⟩ x0).setCell ⟨g, 1, none⟩ x1).cell? ⟨g, 1, none⟩ = some (was ((w1.setCell ⟨g, 0, none⟩ x0).setCell ⟨g, 1, none⟩ x1) g 1) ∧ ((w1.setCell ⟨g, 0, none⟩ x0).setCell ⟨g, 1, none⟩ x1).frozen? ⟨g, 0, none⟩ = false ∧ ((w1.setCell ⟨g, 0, none⟩ x0).setCell ⟨g, 1, none⟩ x1).frozen? ⟨g, 1, none⟩ = false := by
  obtain ⟨_, k0⟩ := set_was (g := g) (i := 0) (u := x0) h.2.2.1
  obtain ⟨_, k0⟩ := set_was (g := g) (i := 1) (u := x1) k0
  obtain ⟨_, k1⟩ := set_was (g := g) (i := 0) (u := x0) h.2.2.2.1
  obtain ⟨_, k1⟩ := set_was (g := g) (i := 1) (u := x1) k1
  exact ⟨((h.1.setCell hg _).setCell hg _), (set_far (set_far h.2.1 n0) n0), was_some k0, was_some k1, (set_fz (set_fz h.2.2.2.2.1)), (set_fz (set_fz h.2.2.2.2.2))⟩
theorem keptS2_2 {w w1 w2 : World} {g b0 o0 b1 o1 : Nat} {u0 u1 : Value} (h : Ext w w1 ∧ w1.cell? ⟨b0, o0, none⟩ = some u0 ∧ w1.cell? ⟨b1, o1, none⟩ = some u1 ∧ w1.cell? ⟨g, 0, none⟩ = some (was w1 g 0) ∧ w1.cell? ⟨g, 1, none⟩ = some (was w1 g 1) ∧ w1.frozen? ⟨g, 0, none⟩ = false ∧ w1.frozen? ⟨g, 1, none⟩ = false) (hx : Ext w1 w2) : Ext w w2 ∧ w2.cell? ⟨b0, o0, none⟩ = some u0 ∧ w2.cell? ⟨b1, o1, none⟩ = some u1 ∧ w2.cell? ⟨g, 0, none⟩ = some (was w2 g 0) ∧ w2.cell? ⟨g, 1, none⟩ = some (was w2 g 1) ∧ w2.frozen? ⟨g, 0, none⟩ = false ∧ w2.frozen? ⟨g, 1, none⟩ = false :=
  ⟨h.1.trans hx, hx.keep h.2.1, hx.keep h.2.2.1, was_some (hx.keep h.2.2.2.1), was_some (hx.keep h.2.2.2.2.1), hx.keepf h.2.2.2.1 h.2.2.2.2.2.1, hx.keepf h.2.2.2.2.1 h.2.2.2.2.2.2⟩
theorem keptS2_2_set {w w1 : World} {g b0 o0 b1 o1 : Nat} {u0 u1 : Value} {x0 x1 : Value} (h : Ext w w1 ∧ w1.cell? ⟨b0, o0, none⟩ = some u0 ∧ w1.cell? ⟨b1, o1, none⟩ = some u1 ∧ w1.cell? ⟨g, 0, none⟩ = some (was w1 g 0) ∧ w1.cell? ⟨g, 1, none⟩ = some (was w1 g 1) ∧ w1.frozen? ⟨g, 0, none⟩ = false ∧ w1.frozen? ⟨g, 1, none⟩ = false) (hg : w.heap.size ≤ g) (n0 : b0 ≠ g) (n1 : b1 ≠ g) : Ext w ((w1.setCell ⟨g, 0, none⟩ x0).setCell ⟨g, 1, none⟩ x1) ∧ ((w1.setCell ⟨g, 0, none⟩ x0).setCell ⟨g, 1, none⟩ x1).cell? ⟨b0, o0, none⟩ = some u0 ∧ ((w1.setCell ⟨g, 0, none⟩ x0).setCell ⟨g, 1, none⟩ x1).cell? ⟨b1, o1, none⟩ = some u1 ∧ ((w1.setCell ⟨g, 0, none⟩ x0).setCell ⟨g, 1, none⟩ x1).cell? ⟨g, 0, none⟩ = some (was ((w1.setCell ⟨g, 0, none⟩ x0).setCell ⟨g, 1, none⟩ x1) g 0) ∧ ((w1.setCell ⟨g, 0, none⟩ x0).setCell ⟨g, 1, none⟩ x1).cell? ⟨g, 1, none⟩ = some (was ((w1.setCell ⟨g, 0, none⟩ x0).setCell ⟨g, 1, none⟩ x1) g 1) ∧ ((w1.setCell ⟨g, 0, none⟩ x0).setCell ⟨g, 1, none⟩ x1).frozen? ⟨g, 0, none⟩ = false ∧ ((w1.setCell ⟨g, 0, none⟩ x0).setCell ⟨g, 1, none⟩ x1).frozen? ⟨g, 1, none⟩ = false := by
  obtain ⟨_, k0⟩ := set_was (g := g) (i := 0) (u := x0) h.2.2.2.1
  obtain ⟨_, k0⟩ := set_was (g := g) (i := 1) (u := x1) k0
  obtain ⟨_, k1⟩ := set_was (g := g) (i := 0) (u := x0) h.2.2.2.2.1
  obtain ⟨_, k1⟩ := set_was (g := g) (i := 1) (u := x1) k1
  exact ⟨((h.1.setCell hg _).setCell hg _), (set_far (set_far h.2.1 n0) n0), (set_far (set_far h.2.2.1 n1) n1), was_some k0, was_some k1, (set_fz (set_fz h.2.2.2.2.2.1)), (set_fz (set_fz h.2.2.2.2.2.2))⟩
theorem keptS3_2 {w w1 w2 : World} {g b0 o0 b1 o1 b2 o2 : Nat} {u0 u1 u2 : Value} (h : Ext w w1 ∧ w1.cell? ⟨b0, o0, none⟩ = some u0 ∧ w1.cell? ⟨b1, o1, none⟩ = some u1 ∧ w1.cell? ⟨b2, o2, none⟩ = some u2 ∧ w1.cell? ⟨g, 0, none⟩ = some (was w1 g 0) ∧ w1.cell? ⟨g, 1, none⟩ = some (was w1 g 1) ∧ w1.frozen? ⟨g, 0, none⟩ = false ∧ w1.frozen? ⟨g, 1, none⟩ = false) (hx : Ext w1 w2) : Ext w w2 ∧ w2.cell? ⟨b0, o0, none⟩ = some u0 ∧ w2.cell? ⟨b1, o1, none⟩ = some u1 ∧ w2.cell? ⟨b2, o2, none⟩ = some u2 ∧ w2.cell? ⟨g, 0, none⟩ = some (was w2 g 0) ∧ w2.cell? ⟨g, 1, none⟩ = some (was w2 g 1) ∧ w2.frozen? ⟨g, 0, none⟩ = false ∧ w2.frozen? ⟨g, 1, none⟩ = false :=
  ⟨h.1.trans hx, hx.keep h.2.1, hx.keep h.2.2.1, hx.keep h.2.2.2.1, was_some (hx.keep h.2.2.2.2.1), was_some (hx.keep h.2.2.2.2.2.1), hx.keepf h.2.2.2.2.1 h.2.2.2.2.2.2.1, hx.keepf h.2.2.2.2.2.1 h.2.2.2.2.2.2.2⟩
theorem keptS3_2_set {w w1 : World} {g b0 o0 b1 o1 b2 o2 : Nat} {u0 u1 u2 : Value} {x0 x1 : Value} (h : Ext w w1 ∧ w1.cell? ⟨b0, o0, none⟩ = some u0 ∧ w1.cell? ⟨b1, o1, none⟩ = some u1 ∧ w1.cell? ⟨b2, o2, none⟩ = some u2 ∧ w1.cell? ⟨g, 0, none⟩ = some (was w1 g 0) ∧ w1.cell? ⟨g, 1, none⟩ = some (was w1 g 1) ∧ w1.frozen? ⟨g, 0, none⟩ = false ∧ w1.frozen? ⟨g, 1, none⟩ = false) (hg : w.heap.size ≤ g) (n0 : b0 ≠ g) (n1 : b1 ≠ g) (n2 : b2 ≠ g) : Ext w ((w1.setCell ⟨g, 0, none⟩ x0).setCell ⟨g, 1, none⟩ x1) ∧ ((w1.setCell ⟨g, 0, none⟩ x0).setCell ⟨g, 1, none⟩ x1).cell? ⟨b0, o0, none⟩ = some u0 ∧ ((w1.setCell ⟨g, 0, none⟩ x0).setCell ⟨g, 1, none⟩ x1).cell? ⟨b1, o1, none⟩ = some u1 ∧ ((w1.setCell ⟨g, 0, none⟩ x0).setCell ⟨g, 1, none⟩ x1).cell? ⟨b2, o2, none⟩ = some u2 ∧ ((w1.setCell ⟨g, 0, none⟩ x0).setCell ⟨g, 1, none⟩ x1).cell? ⟨g, 0, none⟩ = some (was ((w1.setCell ⟨g, 0, none⟩ x0).setCell ⟨g, 1, none⟩ x1) g 0) ∧ ((w1.setCell ⟨g, 0, none⟩ x0).setCell ⟨g, 1, none⟩ x1).cell? ⟨g, 1, none⟩ = some (was ((w1.setCell ⟨g, 0, none⟩ x0).setCell ⟨g, 1, none⟩ x1) g 1) ∧ ((w1.setCell ⟨g, 0, none⟩ x0).setCell ⟨g, 1, none⟩ x1).frozen? ⟨g, 0, none⟩ = false ∧ ((w1.setCell ⟨g, 0, none⟩ x0).setCell ⟨g, 1, none⟩ x1).frozen? ⟨g, 1, none⟩ = false := by
  obtain ⟨_, k0⟩ := set_was (g := g) (i := 0) (u := x0) h.2.2.2.2.1
  obtain ⟨_, k0⟩ := set_was (g := g) (i := 1) (u := x1) k0
  obtain ⟨_, k1⟩ := set_was (g := g) (i := 0) (u := x0) h.2.2.2.2.2.1
  obtain ⟨_, k1⟩ := set_was (g := g) (i := 1) (u := x1) k1
  exact ⟨((h.1.setCell hg _).setCell hg _), (set_far (set_far h.2.1 n0) n0), (set_far (set_far h.2.2.1 n1) n1), (set_far (set_far h.2.2.2.1 n2) n2), was_some k0, was_some k1, (set_fz (set_fz h.2.2.2.2.2.2.1)), (set_fz (set_fz h.2.2.2.2.2.2.2))⟩
theorem keptS4_2 {w w1 w2 : World} {g b0 o0 b1 o1 b2 o2 b3 o3 : Nat} {u0 u1 u2 u3 : Value} (h : Ext w w1 ∧ w1.cell? ⟨b0, o0, none⟩ = some u0 ∧ w1.cell? ⟨b1, o1, none⟩ = some u1 ∧ w1.cell? ⟨b2, o2, none⟩ = some u2 ∧ w1.cell? ⟨b3, o3, none⟩ = some u3 ∧ w1.cell? ⟨g, 0, none⟩ = some (was w1 g 0) ∧ w1.cell? ⟨g, 1, none⟩ = some (was w1 g 1) ∧ w1.frozen? ⟨g, 0, none⟩ = false ∧ w1.frozen? ⟨g, 1, none⟩ = false) (hx : Ext w1 w2) : Ext w w2 ∧ w2.cell? ⟨b0, o0, none⟩ = some u0 ∧ w2.cell? ⟨b1, o1, none⟩ = some u1 ∧ w2.cell? ⟨b2, o2, none⟩ = some u2 ∧ w2.cell? ⟨b3, o3, none⟩ = some u3 ∧ w2.cell? ⟨g, 0, none⟩ = some (was w2 g 0) ∧ w2.cell? ⟨g, 1, none⟩ = some (was w2 g 1) ∧ w2.frozen? ⟨g, 0, none⟩ = false ∧ w2.frozen? ⟨g, 1, none⟩ = false :=
  ⟨h.1.trans hx, hx.keep h.2.1, hx.keep h.2.2.1, hx.keep h.2.2.2.1, hx.keep h.2.2.2.2.1, was_some (hx.keep h.2.2.2.2.2.1), was_some (hx.keep h.2.2.2.2.2.2.1), hx.keepf h.2.2.2.2.2.1 h.2.2.2.2.2.2.2.1, hx.keepf h.2.2.2.2.2.2.1 h.2.2.2.2.2.2.2.2⟩
theorem keptS4_2_set {w w1 : World} {g b0 o0 b1 o1 b2 o2 b3 o3 : Nat} {u0 u1 u2 u3 : Value} {x0 x1 : Value} (h : Ext w w1 ∧ w1.cell? ⟨b0, o0, none⟩ = some u0 ∧ w1.cell? ⟨b1, o1, none⟩ = some u1 ∧ w1.cell? ⟨b2, o2, none⟩ = some u2 ∧ w1.cell? ⟨b3, o3, none⟩ = some u3 ∧ w1.cell? ⟨g, 0, none⟩ = some (was w1 g 0) ∧ w1.cell? ⟨g, 1, none⟩ = some (was w1 g 1) ∧ w1.frozen? ⟨g, 0, none⟩ = false ∧ w1.frozen? ⟨g, 1, none⟩ = false) (hg : w.heap.size ≤ g) (n0 : b0 ≠ g) (n1 : b1 ≠ g) (n2 : b2 ≠ g) (n3 : b3 ≠ g) : Ext w ((w1.setCell ⟨g, 0, none⟩ x0).setCell ⟨g, 1, none⟩ x1) ∧ ((w1.setCell ⟨g, 0, none⟩ x0).setCell ⟨g, 1, none⟩ x1).cell? ⟨b0, o0, none⟩ = some u0 ∧ ((w1.setCell ⟨g, 0, none⟩ x0).setCell ⟨g, 1, none⟩ x1).cell? ⟨b1, o1, none⟩ = some u1 ∧ ((w1.setCell ⟨g, 0, none⟩ x0).setCell ⟨g, 1, none⟩ x1).cell? ⟨b2, o2, none⟩ = some u2 ∧ ((w1.setCell ⟨g, 0, none⟩ x0).setCell ⟨g, 1, none⟩ x1).cell? ⟨b3, o3, none⟩ = some u3 ∧ ((w1.setCell ⟨g, 0, none⟩ x0).setCell ⟨g, 1, none⟩ x1).cell? ⟨g, 0, none⟩ = some (was ((w1.setCell ⟨g, 0, none⟩ x0).setCell ⟨g, 1, none⟩ x1) g 0) ∧ ((w1.setCell ⟨g, 0, none⟩ x0).setCell ⟨g, 1, none⟩ x1).cell? ⟨g, 1, none⟩ = some (was ((w1.setCell ⟨g, 0, none⟩ x0).setCell ⟨g, 1, none⟩ x1) g 1) ∧ ((w1.setCell ⟨g, 0, none⟩ x0).setCell ⟨g, 1, none⟩ x1).frozen? ⟨g, 0, none⟩ = false ∧ ((w1.setCell ⟨g, 0, none⟩ x0).setCell ⟨g, 1, none⟩ x1).frozen? ⟨g, 1, none⟩ = false := by
  obtain ⟨_, k0⟩ := set_was (g := g) (i := 0) (u := x0) h.2.2.2.2.2.1
  obtain ⟨_, k0⟩ := set_was (g := g) (i := 1) (u := x1) k0
  obtain ⟨_, k1⟩ := set_was (g := g) (i := 0) (u := x0) h.2.2.2.2.2.2.1
  obtain ⟨_, k1⟩ := set_was (g := g) (i := 1) (u := x1) k1
  exact ⟨((h.1.setCell hg _).setCell hg _), (set_far (set_far h.2.1 n0) n0), (set_far (set_far h.2.2.1 n1) n1), (set_far (set_far h.2.2.2.1 n2) n2), (set_far (set_far h.2.2.2.2.1 n3) n3), was_some k0, was_some k1, (set_fz (set_fz h.2.2.2.2.2.2.2.1)), (set_fz (set_fz h.2.2.2.2.2.2.2.2))⟩
theorem keptS5_2 {w w1 w2 : World} {g b0 o0 b1 o1 b2 o2 b3 o3 b4 o4 : Nat} {u0 u1 u2 u3 u4 : Value} (h : Ext w w1 ∧ w1.cell? ⟨b0, o0, none⟩ = some u0 ∧ w1.cell? ⟨b1, o1, none⟩ = some u1 ∧ w1.cell? ⟨b2, o2, none⟩ = some u2 ∧ w1.cell? ⟨b3, o3, none⟩ = some u3 ∧ w1.cell? ⟨b4, o4, none⟩ = some u4 ∧ w1.cell? ⟨g, 0, none⟩ = some (was w1 g 0) ∧ w1.cell? ⟨g, 1, none⟩ = some (was w1 g 1) ∧ w1.frozen? ⟨g, 0, none⟩ = false ∧ w1.frozen? ⟨g, 1, none⟩ = false) (hx : Ext w1 w2) : Ext w w2 ∧ w2.cell? ⟨b0, o0, none⟩ = some u0 ∧ w2.cell? ⟨b1, o1, none⟩ = some u1 ∧ w2.cell? ⟨b2, o2, none⟩ = some u2 ∧ w2.cell? ⟨b3, o3, none⟩ = some u3 ∧ w2.cell? ⟨b4, o4, none⟩ = some u4 ∧ w2.cell? ⟨g, 0, none⟩ = some (was w2 g 0) ∧ w2.cell? ⟨g, 1, none⟩ = some (was w2 g 1) ∧ w2.frozen? ⟨g, 0, none⟩ = false ∧ w2.frozen? ⟨g, 1, none⟩ = false :=
  ⟨h.1.trans hx, hx.keep h.2.1, hx.keep h.2.2.1, hx.keep h.2.2.2.1, hx.keep h.2.2.2.2.1, hx.keep h.2.2.2.2.2.1, was_some (hx.keep h.2.2.2.2.2.2.1), was_some (hx.keep h.2.2.2.2.2.2.2.1), hx.keepf h.2.2.2.2.2.2.1 h.2.2.2.2.2.2.2.2.1, hx.keepf h.2.2.2.2.2.2.2.1 h.2.2.2.2.2.2.2.2.2⟩
theorem keptS5_2_set {w w1 : World} {g b0 o0 b1 o1 b2 o2 b3 o3 b4 o4 : Nat} {u0 u1 u2 u3 u4 : Value} {x0 x1 : Value} (h : Ext w w1 ∧ w1.cell? ⟨b0, o0, none⟩ = some u0 ∧ w1.cell? ⟨b1, o1, none⟩ = some u1 ∧ w1.cell? ⟨b2, o2, none⟩ = some u2 ∧ w1.cell? ⟨b3, o3, none⟩ = some u3 ∧ w1.cell? ⟨b4, o4, none⟩ = some u4 ∧ w1.cell? ⟨g, 0, none⟩ = some (was w1 g 0) ∧ w1.cell? ⟨g, 1, none⟩ = some (was w1 g 1) ∧ w1.frozen? ⟨g, 0, none⟩ = false ∧ w1.frozen? ⟨g, 1, none⟩ = false) (hg : w.heap.size ≤ g) (n0 : b0 ≠ g) (n1 : b1 ≠ g) (n2 : b2 ≠ g) (n3 : b3 ≠ g) (n4 : b4 ≠ g) : Ext w ((w1.setCell ⟨g, 0, none⟩ x0).setCell ⟨g, 1, none⟩ x1) ∧ ((w1.setCell ⟨g, 0, none⟩ x0).setCell ⟨g, 1, none⟩ x1).cell? ⟨b0, o0, none⟩ = some u0 ∧ ((w1.setCell ⟨g, 0, none⟩ x0).setCell ⟨g, 1, none⟩ x1).cell? ⟨b1, o1, none⟩ = some u1 ∧ ((w1.setCell ⟨g, 0, none⟩ x0).setCell ⟨g, 1, none⟩ x1).cell? ⟨b2, o2, none⟩ = some u2 ∧ ((w1.setCell ⟨g, 0, none⟩ x0).setCell ⟨g, 1, none⟩ x1).cell? ⟨b3, o3, none⟩ = some u3 ∧ ((w1.setCell ⟨g, 0, none⟩ x0).setCell ⟨g, 1, none⟩ x1).cell? ⟨b4, o4, none⟩ = some u4 ∧ ((w1.setCell ⟨g, 0, none⟩ x0).setCell ⟨g, 1, none⟩ x1).cell? ⟨g, 0, none⟩ = some (was ((w1.setCell ⟨g, 0, none⟩ x0).setCell ⟨g, 1, none⟩ x1) g 0) ∧ ((w1.setCell ⟨g, 0, none⟩ x0).setCell ⟨g, 1, none⟩ x1).cell? ⟨g, 1, none⟩ = some (was ((w1.setCell ⟨g, 0, none⟩ x0).setCell ⟨g, 1, none⟩ x1) g 1) ∧ ((w1.setCell ⟨g, 0, none⟩ x0).setCell ⟨g, 1, none⟩ x1).frozen? ⟨g, 0, none⟩ = false ∧ ((w1.setCell ⟨g, 0, none⟩ x0).setCell ⟨g, 1, none⟩ x1).frozen? ⟨g, 1, none⟩ = false := by
  obtain ⟨_, k0⟩ := set_was (g := g) (i := 0) (u := x0) h.2.2.2.2.2.2.1
  obtain ⟨_, k0⟩ := set_was (g := g) (i := 1) (u := x1) k0
  obtain ⟨_, k1⟩ := set_was (g := g) (i := 0) (u := x0) h.2.2.2.2.2.2.2.1
  obtain ⟨_, k1⟩ := set_was (g := g) (i := 1) (u := x1) k1
  exact ⟨((h.1.setCell hg _).setCell hg _), (set_far (set_far h.2.1 n0) n0), (set_far (set_far h.2.2.1 n1) n1), (set_far (set_far h.2.2.2.1 n2) n2), (set_far (set_far h.2.2.2.2.1 n3) n3), (set_far (set_far h.2.2.2.2.2.1 n4) n4), was_some k0, was_some k1, (set_fz (set_fz h.2.2.2.2.2.2.2.2.1)), (set_fz (set_fz h.2.2.2.2.2.2.2.2.2))⟩
theorem keptS6_2 {w w1 w2 : World} {g b0 o0 b1 o1 b2 o2 b3 o3 b4 o4 b5 o5 : Nat} {u0 u1 u2 u3 u4 u5 : Value} (h : Ext w w1 ∧ w1.cell? ⟨b0, o0, none⟩ = some u0 ∧ w1.cell? ⟨b1, o1, none⟩ = some u1 ∧ w1.cell? ⟨b2, o2, none⟩ = some u2 ∧ w1.cell? ⟨b3, o3, none⟩ = some u3 ∧ w1.cell? ⟨b4, o4, none⟩ = some u4 ∧ w1.cell? ⟨b5, o5, none⟩ = some u5 ∧ w1.cell? ⟨g, 0, none⟩ = some (was w1 g 0) ∧ w1.cell? ⟨g, 1, none⟩ = some (was w1 g 1) ∧ w1.frozen? ⟨g, 0, none⟩ = false ∧ w1.frozen? ⟨g, 1, none⟩ = false) (hx : Ext w1 w2) : Ext w w2 ∧ w2.cell? ⟨b0, o0, none⟩ = some u0 ∧ w2.cell? ⟨b1, o1, none⟩ = some u1 ∧ w2.cell? ⟨b2, o2, none⟩ = some u2 ∧ w2.cell? ⟨b3, o3, none⟩ = some u3 ∧ w2.cell? ⟨b4, o4, none⟩ = some u4 ∧ w2.cell? ⟨b5, o5, none⟩ = some u5 ∧ w2.cell? ⟨g, 0, none⟩ = some (was w2 g 0) ∧ w2.cell? ⟨g, 1, none⟩ = some (was w2 g 1) ∧ w2.frozen? ⟨g, 0, none⟩ = false ∧ w2.frozen? ⟨g, 1, none⟩ = false :=
  ⟨h.1.trans hx, hx.keep h.2.1, hx.keep h.2.2.1, hx.keep h.2.2.2.1, hx.keep h.2.2.2.2.1, hx.keep h.2.2.2.2.2.1, hx.keep h.2.2.2.2.2.2.1, was_some (hx.keep h.2.2.2.2.2.2.2.1), was_some (hx.keep h.2.2.2.2.2.2.2.2.1), hx.keepf h.2.2.2.2.2.2.2.1 h.2.2.2.2.2.2.2.2.2.1, hx.keepf h.2.2.2.2.2.2.2.2.1 h.2.2.2.2.2.2.2.2.2.2⟩
theorem keptS6_2_set {w w1 : World} {g b0 o0 b1 o1 b2 o2 b3 o3 b4 o4 b5 o5 : Nat} {u0 u1 u2 u3 u4 u5 : Value} {x0 x1 : Value} (h : Ext w w1 ∧ w1.cell? ⟨b0, o0, none⟩ = some u0 ∧ w1.cell? ⟨b1, o1, none⟩ = some u1 ∧ w1.cell? ⟨b2, o2, none⟩ = some u2 ∧ w1.cell? ⟨b3, o3, none⟩ = some u3 ∧ w1.cell? ⟨b4, o4, none⟩ = some u4 ∧ w1.cell? ⟨b5, o5, none⟩ = some u5 ∧ w1.cell? ⟨g, 0, none⟩ = some (was w1 g 0) ∧ w1.cell? ⟨g, 1, none⟩ = some (was w1 g 1) ∧ w1.frozen? ⟨g, 0, none⟩ = false ∧ w1.frozen? ⟨g, 1, none⟩ = false) (hg : w.heap.size ≤ g) (n0 : b0 ≠ g) (n1 : b1 ≠ g) (n2 : b2 ≠ g) (n3 : b3 ≠ g) (n4 : b4 ≠ g) (n5 : b5 ≠ g) : Ext w ((w1.setCell ⟨g, 0, none⟩ x0).setCell ⟨g, 1, none⟩ x1) ∧ ((w1.setCell ⟨g, 0, none⟩ x0).setCell ⟨g, 1, none⟩ x1).cell? ⟨b0, o0, none⟩ = some u0 ∧ ((w1.setCell ⟨g, 0, none⟩ x0).setCell ⟨g, 1, none⟩ x1).cell? ⟨b1, o1, none⟩ = some u1 ∧ ((w1.setCell ⟨g, 0, none⟩ x0).setCell ⟨g, 1, none⟩ x1).cell? ⟨b2, o2, none⟩ = some u2 ∧ ((w1.setCell ⟨g, 0, none⟩ x0).setCell ⟨g, 1, none⟩ x1).cell? ⟨b3, o3, none⟩ = some u3 ∧ ((w1.setCell ⟨g, 0, none⟩ x0).setCell ⟨g, 1, none⟩ x1).cell? ⟨b4, o4, none⟩ = some u4 ∧ ((w1.setCell ⟨g, 0, none⟩ x0).setCell ⟨g, 1, none⟩ x1).cell? ⟨b5, o5, none⟩ = some u5 ∧ ((w1.setCell ⟨g, 0, none⟩ x0).setCell ⟨g, 1, none⟩ x1).cell? ⟨g, 0, none⟩ = some (was ((w1.setCell ⟨g, 0, none⟩ x0).setCell ⟨g, 1, none⟩ x1) g 0) ∧ ((w1.setCell ⟨g, 0, none⟩ x0).setCell ⟨g, 1, none⟩ x1).cell? ⟨g, 1, none⟩ = some (was ((w1.setCell ⟨g, 0, none⟩ x0).setCell ⟨g, 1, none⟩ x1) g 1) ∧ ((w1.setCell ⟨g, 0, none⟩ x0).setCell ⟨g, 1, none⟩ x1).frozen? ⟨g, 0, none⟩ = false ∧ ((w1.setCell ⟨g, 0, none⟩ x0).setCell ⟨g, 1, none⟩ x1).frozen? ⟨g, 1, none⟩ = false := by
  obtain ⟨_, k0⟩ := set_was (g := g) (i := 0) (u := x0) h.2.2.2.2.2.2.2.1
  obtain ⟨_, k0⟩ := set_was (g := g) (i := 1) (u := x1) k0
  obtain ⟨_, k1⟩ := set_was (g := g) (i := 0) (u := x0) h.2.2.2.2.2.2.2.2.1
  obtain ⟨_, k1⟩ := set_was (g := g) (i := 1) (u := x1) k1
  exact ⟨((h.1.setCell hg _).setCell hg _), (set_far (set_far h.2.1 n0) n0), (set_far (set_far h.2.2.1 n1) n1), (set_far (set_far h.2.2.2.1 n2) n2), (set_far (set_far h.2.2.2.2.1 n3) n3), (set_far (set_far h.2.2.2.2.2.1 n4) n4), (set_far (set_far h.2.2.2.2.2.2.1 n5) n5), was_some k0, was_some k1, (set_fz (set_fz h.2.2.2.2.2.2.2.2.2.1)), (set_fz (set_fz h.2.2.2.2.2.2.2.2.2.2))⟩
theorem keptS7_2 {w w1 w2 : World} {g b0 o0 b1 o1 b2 o2 b3 o3 b4 o4 b5 o5 b6 o6 : Nat} {u0 u1 u2 u3 u4 u5 u6 : Value} (h : Ext w w1 ∧ w1.cell? ⟨b0, o0, none⟩ = some u0 ∧ w1.cell? ⟨b1, o1, none⟩ = some u1 ∧ w1.cell? ⟨b2, o2, none⟩ = some u2 ∧ w1.cell? ⟨b3, o3, none⟩ = some u3 ∧ w1.cell? ⟨b4, o4, none⟩ = some u4 ∧ w1.cell? ⟨b5, o5, none⟩ = some u5 ∧ w1.cell? ⟨b6, o6, none⟩ = some u6 ∧ w1.cell? ⟨g, 0, none⟩ = some (was w1 g 0) ∧ w1.cell? ⟨g, 1, none⟩ = some (was w1 g 1) ∧ w1.frozen? ⟨g, 0, none⟩ = false ∧ w1.frozen? ⟨g, 1, none⟩ = false) (hx : Ext w1 w2) : Ext w w2 ∧ w2.cell? ⟨b0, o0, none⟩ = some u0 ∧ w2.cell? ⟨b1, o1, none⟩ = some u1 ∧ w2.cell? ⟨b2, o2, none⟩ = some u2 ∧ w2.cell? ⟨b3, o3, none⟩ = some u3 ∧ w2.cell? ⟨b4, o4, none⟩ = some u4 ∧ w2.cell? ⟨b5, o5, none⟩ = some u5 ∧ w2.cell? ⟨b6, o6, none⟩ = some u6 ∧ w2.cell? ⟨g, 0, none⟩ = some (was w2 g 0) ∧ w2.cell? ⟨g, 1, none⟩ = some (was w2 g 1) ∧ w2.frozen? ⟨g, 0, none⟩ = false ∧ w2.frozen? ⟨g, 1, none⟩ = false :=
  ⟨h.1.trans hx, hx.keep h.2.1, hx.keep h.2.2.1, hx.keep h.2.2.2.1, hx.keep h.2.2.2.2.1, hx.keep h.2.2.2.2.2.1, hx.keep h.2.2.2.2.2.2.1, hx.keep h.2.2.2.2.2.2.2.1, was_some (hx.keep h.2.2.2.2.2.2.2.2.1), was_some (hx.keep h.2.2.2.2.2.2.2.2.2.1), hx.keepf h.2.2.2.2.2.2.2.2.1 h.2.2.2.2.2.2.2.2.2.2.1, hx.keepf h.2.2.2.2.2.2.2.2.2.1 h.2.2.2.2.2.2.2.2.2.2.2⟩
theorem keptS7_2_set {w w1 : World} {g b0 o0 b1 o1 b2 o2 b3 o3 b4 o4 b5 o5 b6 o6 : Nat} {u0 u1 u2 u3 u4 u5 u6 : Value} {x0 x1 : Value} (h : Ext w w1 ∧ w1.cell? ⟨b0, o0, none⟩ = some u0 ∧ w1.cell? ⟨b1, o1, none⟩ = some u1 ∧ w1.cell? ⟨b2, o2, none⟩ = some u2 ∧ w1.cell? ⟨b3, o3, none⟩ = some u3 ∧ w1.cell? ⟨b4, o4, none⟩ = some u4 ∧ w1.cell? ⟨b5, o5, none⟩ = some u5 ∧ w1.cell? ⟨b6, o6, none⟩ = some u6 ∧ w1.cell? ⟨g, 0, none⟩ = some (was w1 g 0) ∧ w1.cell? ⟨g, 1, none⟩ = some (was w1 g 1) ∧ w1.frozen? ⟨g, 0, none⟩ = false ∧ w1.frozen? ⟨g, 1, none⟩ = false) (hg : w.heap.size ≤ g) (n0 : b0 ≠ g) (n1 : b1 ≠ g) (n2 : b2 ≠ g) (n3 : b3 ≠ g) (n4 : b4 ≠ g) (n5 : b5 ≠ g) (n6 : b6 ≠ g) : Ext w ((w1.setCell ⟨g, 0, none⟩ x0).setCell ⟨g, 1, none⟩ x1) ∧ ((w1.setCell ⟨g, 0, none⟩ x0).setCell ⟨g, 1, none⟩ x1).cell? ⟨b0, o0, none⟩ = some u0 ∧ ((w1.setCell ⟨g, 0, none⟩ x0).setCell ⟨g, 1, none⟩ x1).cell? ⟨b1, o1, none⟩ = some u1 ∧ ((w1.setCell ⟨g, 0, none⟩ x0).setCell ⟨g, 1, none⟩ x1).cell? ⟨b2, o2, none⟩ = some u2 ∧ ((w1.setCell ⟨g, 0, none⟩ x0).setCell ⟨g, 1, none⟩ x1).cell? ⟨b3, o3, none⟩ = some u3 ∧ ((w1.setCell ⟨g, 0, none⟩ x0).setCell ⟨g, 1, none⟩ x1).cell? ⟨b4, o4, none⟩ = some u4 ∧ ((w1.setCell ⟨g, 0, none⟩ x0).setCell ⟨g, 1, none⟩ x1).cell? ⟨b5, o5, none⟩ = some u5 ∧ ((w1.setCell ⟨g, 0, none⟩ x0).setCell ⟨g, 1, none⟩ x1).cell? ⟨b6, o6, none⟩ = some u6 ∧ ((w1.setCell ⟨g, 0, none⟩ x0).setCell ⟨g, 1, none⟩ x1).cell? ⟨g, 0, none⟩ = some (was ((w1.setCell ⟨g, 0, none⟩ x0).setCell ⟨g, 1, none⟩ x1) g 0) ∧ ((w1.setCell ⟨g, 0, none⟩ x0).setCell ⟨g, 1, none⟩ x1).cell? ⟨g, 1, none⟩ = some (was ((w1.setCell ⟨g, 0, none⟩ x0).setCell ⟨g, 1, none⟩ x1) g 1) ∧ ((w1.setCell ⟨g, 0, none⟩ x0).setCell ⟨g, 1, none⟩ x1).frozen? ⟨g, 0, none⟩ = false ∧ ((w1.setCell ⟨g, 0, none⟩ x0).setCell ⟨g, 1, none⟩ x1).frozen? ⟨g, 1, none⟩ = false := by
  obtain ⟨_, k0⟩ := set_was (g := g) (i := 0) (u := x0) h.2.2.2.2.2.2.2.2.1
  obtain ⟨_, k0⟩ := set_was (g := g) (i := 1) (u := x1) k0
  obtain ⟨_, k1⟩ := set_was (g := g) (i := 0) (u := x0) h.2.2.2.2.2.2.2.2.2.1
  obtain ⟨_, k1⟩ := set_was (g := g) (i := 1) (u := x1) k1
  exact ⟨((h.1.setCell hg _).setCell hg _), (set_far (set_far h.2.1 n0) n0), (set_far (set_far h.2.2.1 n1) n1), (set_far (set_far h.2.2.2.1 n2) n2), (set_far (set_far h.2.2.2.2.1 n3) n3), (set_far (set_far h.2.2.2.2.2.1 n4) n4), (set_far (set_far h.2.2.2.2.2.2.1 n5) n5), (set_far (set_far h.2.2.2.2.2.2.2.1 n6) n6), was_some k0, was_some k1, (set_fz (set_fz h.2.2.2.2.2.2.2.2.2.2.1)), (set_fz (set_fz h.2.2.2.2.2.2.2.2.2.2.2))⟩
theorem keptS8_2 {w w1 w2 : World} {g b0 o0 b1 o1 b2 o2 b3 o3 b4 o4 b5 o5 b6 o6 b7 o7 : Nat} {u0 u1 u2 u3 u4 u5 u6 u7 : Value} (h : Ext w w1 ∧ w1.cell? ⟨b0, o0, none⟩ = some u0 ∧ w1.cell? ⟨b1, o1, none⟩ = some u1 ∧ w1.cell? ⟨b2, o2, none⟩ = some u2 ∧ w1.cell? ⟨b3, o3, none⟩ = some u3 ∧ w1.cell? ⟨b4, o4, none⟩ = some u4 ∧ w1.cell? ⟨b5, o5, none⟩ = some u5 ∧ w1.cell? ⟨b6, o6, none⟩ = some u6 ∧ w1.cell? ⟨b7, o7, none⟩ = some u7 ∧ w1.cell? ⟨g, 0, none⟩ = some (was w1 g 0) ∧ w1.cell? ⟨g, 1, none⟩ = some (was w1 g 1) ∧ w1.frozen? ⟨g, 0, none⟩ = false ∧ w1.frozen? ⟨g, 1, none⟩ = false) (hx : Ext w1 w2) : Ext w w2 ∧ w2.cell? ⟨b0, o0, none⟩ = some u0 ∧ w2.cell? ⟨b1, o1, none⟩ = some u1 ∧ w2.cell? ⟨b2, o2, none⟩ = some u2 ∧ w2.cell? ⟨b3, o3, none⟩ = some u3 ∧ w2.cell? ⟨b4, o4, none⟩ = some u4 ∧ w2.cell? ⟨b5, o5, none⟩ = some u5 ∧ w2.cell? ⟨b6, o6, none⟩ = some u6 ∧ w2.cell? ⟨b7, o7, none⟩ = some u7 ∧ w2.cell? ⟨g, 0, none⟩ = some (was w2 g 0) ∧ w2.cell? ⟨g, 1, none⟩ = some (was w2 g 1) ∧ w2.frozen? ⟨g, 0, none⟩ = false ∧ w2.frozen? ⟨g, 1, none⟩ = false :=
  ⟨h.1.trans hx, hx.keep h.2.1, hx.keep h.2.2.1, hx.keep h.2.2.2.1, hx.keep h.2.2.2.2.1, hx.keep h.2.2.2.2.2.1, hx.keep h.2.2.2.2.2.2.1, hx.keep h.2.2.2.2.2.2.2.1, hx.keep h.2.2.2.2.2.2.2.2.1, was_some (hx.keep h.2.2.2.2.2.2.2.2.2.1), was_some (hx.keep h.2.2.2.2.2.2.2.2.2.2.1), hx.keepf h.2.2.2.2.2.2.2.2.2.1 h.2.2.2.2.2.2.2.2.2.2.2.1, hx.keepf h.2.2.2.2.2.2.2.2.2.2.1 h.2.2.2.2.2.2.2.2.2.2.2.2⟩
theorem keptS8_2_set {w w1 : World} {g b0 o0 b1 o1 b2 o2 b3 o3 b4 o4 b5 o5 b6 o6 b7 o7 : Nat} {u0 u1 u2 u3 u4 u5 u6 u7 : Value} {x0 x1 : Value} (h : Ext w w1 ∧ w1.cell? ⟨b0, o0, none⟩ = some u0 ∧ w1.cell? ⟨b1, o1, none⟩ = some u1 ∧ w1.cell? ⟨b2, o2, none⟩ = some u2 ∧ w1.cell? ⟨b3, o3, none⟩ = some u3 ∧ w1.cell? ⟨b4, o4, none⟩ = some u4 ∧ w1.cell? ⟨b5, o5, none⟩ = some u5 ∧ w1.cell? ⟨b6, o6, none⟩ = some u6 ∧ w1.cell? ⟨b7, o7, none⟩ = some u7 ∧ w1.cell? ⟨g, 0, none⟩ = some (was w1 g 0) ∧ w1.cell? ⟨g, 1, none⟩ = some (was w1 g 1) ∧ w1.frozen? ⟨g, 0, none⟩ = false ∧ w1.frozen? ⟨g, 1, none⟩ = false) (hg : w.heap.size ≤ g) (n0 : b0 ≠ g) (n1 : b1 ≠ g) (n2 : b2 ≠ g) (n3 : b3 ≠ g) (n4 : b4 ≠ g) (n5 : b5 ≠ g) (n6 : b6 ≠ g) (n7 : b7 ≠ g) : Ext w ((w1.setCell ⟨g, 0, none⟩ x0).setCell ⟨g, 1, none⟩ x1) ∧ ((w1.setCell ⟨g, 0, none⟩ x0).setCell ⟨g, 1, none⟩ x1).cell? ⟨b0, o0, none⟩ = some u0 ∧ ((w1.setCell ⟨g, 0, none⟩ x0).setCell ⟨g, 1, none⟩ x1).cell? ⟨b1, o1, none⟩ = some u1 ∧ ((w1.setCell ⟨g, 0, none⟩ x0).setCell ⟨g, 1, none⟩ x1).cell? ⟨b2, o2, none⟩ = some u2 ∧ ((w1.setCell ⟨g, 0, none⟩ x0).setCell ⟨g, 1, none⟩ x1).cell? ⟨b3, o3, none⟩ = some u3 ∧ ((w1.setCell ⟨g, 0, none⟩ x0).setCell ⟨g, 1, none⟩ x1).cell? ⟨b4, o4, none⟩ = some u4 ∧ ((w1.setCell ⟨g, 0, none⟩ x0).setCell ⟨g, 1, none⟩ x1).cell? ⟨b5, o5, none⟩ = some u5 ∧ ((w1.setCell ⟨g, 0, none⟩ x0).setCell ⟨g, 1, none⟩ x1).cell? ⟨b6, o6, none⟩ = some u6 ∧ ((w1.setCell ⟨g, 0, none⟩ x0).setCell ⟨g, 1, none⟩ x1).cell? ⟨b7, o7, none⟩ = some u7 ∧ ((w1.setCell ⟨g, 0, none⟩ x0).setCell ⟨g, 1, none⟩ x1).cell? ⟨g, 0, none⟩ = some (was ((w1.setCell ⟨g, 0, none⟩ x0).setCell ⟨g, 1, none⟩ x1) g 0) ∧ ((w1.setCell ⟨g, 0, none⟩ x0).setCell ⟨g, 1, none⟩ x1).cell? ⟨g, 1, none⟩ = some (was ((w1.setCell ⟨g, 0, none⟩ x0).setCell ⟨g, 1, none⟩ x1) g 1) ∧ ((w1.setCell ⟨g, 0, none⟩ x0).setCell ⟨g, 1, none⟩ x1).frozen? ⟨g, 0, none⟩ = false ∧ ((w1.setCell ⟨g, 0, none⟩ x0).setCell ⟨g, 1, none⟩ x1).frozen? ⟨g, 1, none⟩ = false := by
  obtain ⟨_, k0⟩ := set_was (g := g) (i := 0) (u := x0) h.2.2.2.2.2.2.2.2.2.1
  obtain ⟨_, k0⟩ := set_was (g := g) (i := 1) (u := x1) k0
  obtain ⟨_, k1⟩ := set_was (g := g) (i := 0) (u := x0) h.2.2.2.2.2.2.2.2.2.2.1
  obtain ⟨_, k1⟩ := set_was (g := g) (i := 1) (u := x1) k1
  exact ⟨((h.1.setCell hg _).setCell hg _), (set_far (set_far h.2.1 n0) n0), (set_far (set_far h.2.2.1 n1) n1), (set_far (set_far h.2.2.2.1 n2) n2), (set_far (set_far h.2.2.2.2.1 n3) n3), (set_far (set_far h.2.2.2.2.2.1 n4) n4), (set_far (set_far h.2.2.2.2.2.2.1 n5) n5), (set_far (set_far h.2.2.2.2.2.2.2.1 n6) n6), (set_far (set_far h.2.2.2.2.2.2.2.2.1 n7) n7), was_some k0, was_some k1, (set_fz (set_fz h.2.2.2.2.2.2.2.2.2.2.2.1)), (set_fz (set_fz h.2.2.2.2.2.2.2.2.2.2.2.2))⟩
theorem keptS0_3 {w w1 w2 : World} {g  : Nat} (h : Ext w w1 ∧ w1.cell? ⟨g, 0, none⟩ = some (was w1 g 0) ∧ w1.cell? ⟨g, 1, none⟩ = some (was w1 g 1) ∧ w1.cell? ⟨g, 2, none⟩ = some (was w1 g 2) ∧ w1.frozen? ⟨g, 0, none⟩ = false ∧ w1.frozen? ⟨g, 1, none⟩ = false ∧ w1.frozen? ⟨g, 2, none⟩ = false) (hx : Ext w1 w2) : Ext w w2 ∧ w2.cell? ⟨g, 0, none⟩ = some (was w2 g 0) ∧ w2.cell? ⟨g, 1, none⟩ = some (was w2 g 1) ∧ w2.cell? ⟨g, 2, none⟩ = some (was w2 g 2) ∧ w2.frozen? ⟨g, 0, none⟩ = false ∧ w2.frozen? ⟨g, 1, none⟩ = false ∧ w2.frozen? ⟨g, 2, none⟩ = false :=
  ⟨h.1.trans hx, was_some (hx.keep h.2.1), was_some (hx.keep h.2.2.1), was_some (hx.keep h.2.2.2.1), hx.keepf h.2.1 h.2.2.2.2.1, hx.keepf h.2.2.1 h.2.2.2.2.2.1, hx.keepf h.2.2.2.1 h.2.2.2.2.2.2⟩
theorem keptS0_3_set {w w1 : World} {g  : Nat} {x0 x1 x2 : Value} (h : Ext w w1 ∧ w1.cell? ⟨g, 0, none⟩ = some (was w1 g 0) ∧ w1.cell? ⟨g, 1, none⟩ = some (was w1 g 1) ∧ w1.cell? ⟨g, 2, none⟩ = some (was w1 g 2) ∧ w1.frozen? ⟨g, 0, none⟩ = false ∧ w1.frozen? ⟨g, 1, none⟩ = false ∧ w1.frozen? ⟨g, 2, none⟩ = false) (hg : w.heap.size ≤ g)  : Ext w (((w1.setCell ⟨g, 0, none⟩ x0).setCell ⟨g, 1, none⟩ x1).setCell ⟨g, 2, none⟩ x2) ∧ (((w1.setCell ⟨g, 0, none⟩ x0).setCell ⟨g, 1, none⟩ x1).setCell ⟨g, 2, none⟩ x2).cell? ⟨g, 0, none⟩ = some (was (((w1.setCell ⟨g, 0, none⟩ x0).setCell ⟨g, 1, none⟩ x1).setCell ⟨g, 2, none⟩ x2) g 0) ∧ (((w1.setCell ⟨g, 0, none⟩ x0).setCell ⟨g, 1, none⟩ x1).setCell ⟨g, 2, none⟩ x2).cell? ⟨g, 1, none⟩ = some (was (((w1.setCell ⟨g, 0, none⟩ x0).setCell ⟨g, 1, none⟩ x1).setCell ⟨g, 2, none⟩ x2) g 1) ∧ (((w1.setCell ⟨g, 0, none⟩ x0).setCell ⟨g, 1, none⟩ x1).setCell ⟨g, 2, none⟩ x2).cell? ⟨g, 2, none⟩ = some (was (((w1.setCell ⟨g, 0, none⟩ x0).setCell ⟨g, 1, none⟩ x1).setCell ⟨g, 2, none⟩ x2) g 2) ∧ (((w1.setCell ⟨g, 0, none⟩ x0).setCell ⟨g, 1, none⟩ x1).setCell ⟨g, 2, none⟩ x2).frozen? ⟨g, 0, none⟩ = false ∧ (((w1.setCell ⟨g, 0, none⟩ x0).setCell ⟨g, 1, none⟩ x1).setCell ⟨g, 2, none⟩ x2).frozen? ⟨g, 1, none⟩ = false ∧ (((w1.setCell ⟨g, 0, none⟩ x0).setCell ⟨g, 1, none⟩ x1).setCell ⟨g, 2, none⟩ x2).frozen? ⟨g, 2, none⟩ = false := by
  obtain ⟨_, k0⟩ := set_was (g := g) (i := 0) (u := x0) h.2.1
  obtain ⟨_, k0⟩ := set_was (g := g) (i := 1) (u := x1) k0
  obtain ⟨_, k0⟩ := set_was (g := g) (i := 2) (u := x2) k0
  obtain ⟨_, k1⟩ := set_was (g := g) (i := 0) (u := x0) h.2.2.1
  obtain ⟨_, k1⟩ := set_was (g := g) (i := 1) (u := x1) k1
  obtain ⟨_, k1⟩ := set_was (g := g) (i := 2) (u := x2) k1
  obtain ⟨_, k2⟩ := set_was (g := g) (i := 0) (u := x0) h.2.2.2.1
  obtain ⟨_, k2⟩ := set_was (g := g) (i := 1) (u := x1) k2
  obtain ⟨_, k2⟩ := set_was (g := g) (i := 2) (u := x2) k2
  exact ⟨(((h.1.setCell hg _).setCell hg _).setCell hg _), was_some k0, was_some k1, was_some k2, (set_fz (set_fz (set_fz h.2.2.2.2.1))), (set_fz (set_fz (set_fz h.2.2.2.2.2.1))), (set_fz (set_fz (set_fz h.2.2.2.2.2.2)))⟩
theorem keptS1_3 {w w1 w2 : World} {g b0 o0 : Nat} {u0 : Value} (h : Ext w w1 ∧ w1.cell? ⟨b0, o0, none⟩ = some u0 ∧ w1.cell? ⟨g, 0, none⟩ = some (was w1 g 0) ∧ w1.cell? ⟨g, 1, none⟩ = some (was w1 g 1) ∧ w1.cell? ⟨g, 2, none⟩ = some (was w1 g 2) ∧ w1.frozen? ⟨g, 0, none⟩ = false ∧ w1.frozen? ⟨g, 1, none⟩ = false ∧ w1.frozen? ⟨g, 2, none⟩ = false) (hx : Ext w1 w2) : Ext w w2 ∧ w2.cell? ⟨b0, o0, none⟩ = some u0 ∧ w2.cell? ⟨g, 0, none⟩ = some (was w2 g 0) ∧ w2.cell? ⟨g, 1, none⟩ = some (was w2 g 1) ∧ w2.cell? ⟨g, 2, none⟩ = some (was w2 g 2) ∧ w2.frozen? ⟨g, 0, none⟩ = false ∧ w2.frozen? ⟨g, 1, none⟩ = false ∧ w2.frozen? ⟨g, 2, none⟩ = false :=
  ⟨h.1.trans hx, hx.keep h.2.1, was_some (hx.keep h.2.2.1), was_some (hx.keep h.2.2.2.1), was_some (hx.keep h.2.2.2.2.1), hx.keepf h.2.2.1 h.2.2.2.2.2.1, hx.keepf h.2.2.2.1 h.2.2.2.2.2.2.1, hx.keepf h.2.2.2.2.1 h.2.2.2.2.2.2.2⟩
theorem keptS1_3_set {w w1 : World} {g b0 o0 : Nat} {u0 : Value} {x0 x1 x2 : Value} (h : Ext w w1 ∧ w1.cell? ⟨b0, o0, none⟩ = some u0 ∧ w1.cell? ⟨g, 0, none⟩ = some (was w1 g 0) ∧ w1.cell? ⟨g, 1, none⟩ = some (was w1 g 1) ∧ w1.cell? ⟨g, 2, none⟩ = some (was w1 g 2) ∧ w1.frozen? ⟨g, 0, none⟩ = false ∧ w1.frozen? ⟨g, 1, none⟩ = false ∧ w1.frozen? ⟨g, 2, none⟩ = false) (hg : w.heap.size ≤ g) (n0 : b0 ≠ g) : Ext w (((w1.setCell ⟨g, 0, none⟩ x0).setCell ⟨g, 1, none⟩ x1).setCell ⟨g, 2, none⟩ x2) ∧ (((w1.setCell ⟨g, 0, none⟩ x0).setCell ⟨g, 1, none⟩ x1).setCell ⟨g, 2, none⟩ x2).cell? ⟨b0, o0, none⟩ = some u0 ∧ (((w1.setCell ⟨g, 0, none⟩ x0).setCell ⟨g, 1, none⟩ x1).setCell ⟨g, 2, none⟩ x2).cell? ⟨g, 0, none⟩ = some (was (((w1.setCell ⟨g, 0, none⟩ x0).setCell ⟨g, 1, none⟩ x1).setCell ⟨g, 2, none⟩ x2) g 0) ∧ (((w1.setCell ⟨g, 0, none⟩ x0).setCell ⟨g, 1, none⟩ x1).setCell ⟨g, 2, none⟩ x2).cell? ⟨g, 1, none⟩ = some (was (((w1.setCell ⟨g, 0, none⟩ x0).setCell ⟨g, 1, none⟩ x1).setCell ⟨g, 2, none⟩ x2) g 1) ∧ (((w1.setCell ⟨g, 0, none⟩ x0).setCell ⟨g, 1, none⟩ x1).setCell ⟨g, 2, none⟩ x2).cell? ⟨g, 2, none⟩ = some (was (((w1.setCell ⟨g, 0, none⟩ x0).setCell ⟨g, 1, none⟩ x1).setCell ⟨g, 2, none⟩ x2) g 2) ∧ (((w1.setCell ⟨g, 0, none⟩ x0).setCell ⟨g, 1, none⟩ x1).setCell ⟨g, 2, none⟩ x2).frozen? ⟨g, 0, none⟩ = false ∧ (((w1.setCell ⟨g, 0, none⟩ x0).setCell ⟨g, 1, none⟩ x1).setCell ⟨g, 2, none⟩ x2).frozen? ⟨g, 1, none⟩ = false ∧ (((w1.setCell ⟨g, 0, none⟩ x0).setCell ⟨g, 1, none⟩ x1).setCell ⟨g, 2, none⟩ x2).frozen? ⟨g, 2, none⟩ = false := by
  obtain ⟨_, k0⟩ := set_was (g := g) (i := 0) (u := x0) h.2.2.1
  obtain ⟨_, k0⟩ := set_was (g := g) (i := 1) (u := x1) k0
  obtain ⟨_, k0⟩ := set_was (g := g) (i := 2) (u := x2) k0
  obtain ⟨_, k1⟩ := set_was (g := g) (i := 0) (u := x0) h.2.2.2.1
  obtain ⟨_, k1⟩ := set_was (g := g) (i := 1) (u := x1) k1
  obtain ⟨_, k1⟩ := set_was (g := g) (i := 2) (u := x2) k1
  obtain ⟨_, k2⟩ := set_was (g := g) (i := 0) (u := x0) h.2.2.2.2.1
  obtain ⟨_, k2⟩ := set_was (g := g) (i := 1) (u := x1) k2
  obtain ⟨_, k2⟩ := set_was (g := g) (i := 2) (u := x2) k2
  exact ⟨(((h.1.setCell hg _).setCell hg _).setCell hg _), (set_far (set_far (set_far h.2.1 n0) n0) n0), was_some k0, was_some k1, was_some k2, (set_fz (set_fz (set_fz h.2.2.2.2.2.1))), (set_fz (set_fz (set_fz h.2.2.2.2.2.2.1))), (set_fz (set_fz (set_fz h.2.2.2.2.2.2.2)))⟩
theorem keptS2_3 {w w1 w2 : World} {g b0 o0 b1 o1 : Nat} {u0 u1 : Value} (h : Ext w w1 ∧ w1.cell? ⟨b0, o0, none⟩ = some u0 ∧ w1.cell? ⟨b1, o1, none⟩ = some u1 ∧ w1.cell? ⟨g, 0, none⟩ = some (was w1 g 0) ∧ w1.cell? ⟨g, 1, none⟩ = some (was w1 g 1) ∧ w1.cell? ⟨g, 2, none⟩ = some (was w1 g 2) ∧ w1.frozen? ⟨g, 0, none⟩ = false ∧ w1.frozen? ⟨g, 1, none⟩ = false ∧ w1.frozen? ⟨g, 2, none⟩ = false) (hx : Ext w1 w2) : Ext w w2 ∧ w2.cell? ⟨b0, o0, none⟩ = some u0 ∧ w2.cell? ⟨b1, o1, none⟩ = some u1 ∧ w2.cell? ⟨g, 0, none⟩ = some (was w2 g 0) ∧ w2.cell? ⟨g, 1, none⟩ = some (was w2 g 1) ∧ w2.cell? ⟨g, 2, none⟩ = some (was w2 g 2) ∧ w2.frozen? ⟨g, 0, none⟩ = false ∧ w2.frozen? ⟨g, 1, none⟩ = false ∧ w2.frozen? ⟨g, 2, none⟩ = false :=
  ⟨h.1.trans hx, hx.keep h.2.1, hx.keep h.2.2.1, was_some (hx.keep h.2.2.2.1), was_some (hx.keep h.2.2.2.2.1), was_some (hx.keep h.2.2.2.2.2.1), hx.keepf h.2.2.2.1 h.2.2.2.2.2.2.1, hx.keepf h.2.2.2.2.1 h.2.2.2.2.2.2.2.1, hx.keepf h.2.2.2.2.2.1 h.2.2.2.2.2.2.2.2⟩
theorem keptS2_3_set {w w1 : World} {g b0 o0 b1 o1 : Nat} {u0 u1 : Value} {x0 x1 x2 : Value} (h : Ext w w1 ∧ w1.cell? ⟨b0, o0, none⟩ = some u0 ∧ w1.cell? ⟨b1, o1, none⟩ = some u1 ∧ w1.cell? ⟨g, 0, none⟩ = some (was w1 g 0) ∧ w1.cell? ⟨g, 1, none⟩ = some (was w1 g 1) ∧ w1.cell? ⟨g, 2, none⟩ = some (was w1 g 2) ∧ w1.frozen? ⟨g, 0, none⟩ = false ∧ w1.frozen? ⟨g, 1, none⟩ = false ∧ w1.frozen? ⟨g, 2, none⟩ = false) (hg : w.heap.size ≤ g) (n0 : b0 ≠ g) (n1 : b1 ≠ g) : Ext w (((w1.setCell ⟨g, 0, none⟩ x0).setCell ⟨g, 1, none⟩ x1).setCell ⟨g, 2, none⟩ x2) ∧ (((w1.setCell ⟨g, 0, none⟩ x0).setCell ⟨g, 1, none⟩ x1).setCell ⟨g, 2, none⟩ x2).cell? ⟨b0, o0, none⟩ = some u0 ∧ (((w1.setCell ⟨g, 0, none⟩ x0).setCell ⟨g, 1, none⟩ x1).setCell ⟨g, 2, none⟩ x2).cell? ⟨b1, o1, none⟩ = some u1 ∧ (((w1.setCell ⟨g, 0, none⟩ x0).setCell ⟨g, 1, none⟩ x1).setCell ⟨g, 2, none⟩ x2).cell? ⟨g, 0, none⟩ = some (was (((w1.setCell ⟨g, 0, none⟩ x0).setCell ⟨g, 1, none⟩ x1).setCell ⟨g, 2, none⟩ x2) g 0) ∧ (((w1.setCell ⟨g, 0, none⟩ x0).setCell ⟨g, 1, none⟩ x1).setCell ⟨g, 2, none⟩ x2).cell? ⟨g, 1, none⟩ = some (was (((w1.setCell ⟨g, 0, none⟩ x0).setCell ⟨g, 1, none⟩ x1).setCell ⟨g, 2, none⟩ x2) g 1) ∧ (((w1.setCell ⟨g, 0, none⟩ x0).setCell ⟨g, 1, none⟩ x1).setCell ⟨g, 2, none⟩ x2).cell? ⟨g, 2, none⟩ = some (was (((w1.setCell ⟨g, 0, none⟩ x0).setCell ⟨g, 1, none⟩ x1).setCell ⟨g, 2, none⟩ x2) g 2) ∧ (((w1.setCell ⟨g, 0, none⟩ x0).setCell ⟨g, 1, none⟩ x1).setCell ⟨g, 2, none⟩ x2).frozen? ⟨g, 0, none⟩ = false ∧ (((w1.setCell ⟨g, 0, none⟩ x0).setCell ⟨g, 1, none⟩ x1).setCell ⟨g, 2, none⟩ x2).frozen? ⟨g, 1, none⟩ = false ∧ (((w1.setCell ⟨g, 0, none⟩ x0).setCell ⟨g, 1, none⟩ x1).setCell ⟨g, 2, none⟩ x2).frozen? ⟨g, 2, none⟩ = false := by
  obtain ⟨_, k0⟩ := set_was (g := g) (i := 0) (u := x0) h.2.2.2.1
  obtain ⟨_, k0⟩ := set_was (g := g) (i := 1) (u := x1) k0
  obtain ⟨_, k0⟩ := set_was (g := g) (i := 2) (u := x2) k0
  obtain ⟨_, k1⟩ := set_was (g := g) (i := 0) (u := x0) h.2.2.2.2.1
  obtain ⟨_, k1⟩ := set_was (g := g) (i := 1) (u := x1) k1
  obtain ⟨_, k1⟩ := set_was (g := g) (i := 2) (u := x2) k1
  obtain ⟨_, k2⟩ := set_was (g := g) (i := 0) (u := x0) h.2.2.2.2.2.1
  obtain ⟨_, k2⟩ := set_was (g := g) (i := 1) (u := x1) k2
  obtain ⟨_, k2⟩ := set_was (g := g) (i := 2) (u := x2) k2
  exact ⟨(((h.1.setCell hg _).setCell hg _).setCell hg _), (set_far (set_far (set_far h.2.1 n0) n0) n0), (set_far (set_far (set_far h.2.2.1 n1) n1) n1), was_some k0, was_some k1, was_some k2, (set_fz (set_fz (set_fz h.2.2.2.2.2.2.1))), (set_fz (set_fz (set_fz h.2.2.2.2.2.2.2.1))), (set_fz (set_fz (set_fz h.2.2.2.2.2.2.2.2)))⟩
theorem keptS3_3 {w w1 w2 : World} {g b0 o0 b1 o1 b2 o2 : Nat} {u0 u1 u2 : Value} (h : Ext w w1 ∧ w1.cell? ⟨b0, o0, none⟩ = some u0 ∧ w1.cell? ⟨b1, o1, none⟩ = some u1 ∧ w1.cell? ⟨b2, o2, none⟩ = some u2 ∧ w1.cell? ⟨g, 0, none⟩ = some (was w1 g 0) ∧ w1.cell? ⟨g, 1, none⟩ = some (was w1 g 1) ∧ w1.cell? ⟨g, 2, none⟩ = some (was w1 g 2) ∧ w1.frozen? ⟨g, 0, none⟩ = false ∧ w1.frozen? ⟨g, 1, none⟩ = false ∧ w1.frozen? ⟨g, 2, none⟩ = false) (hx : Ext w1 w2) : Ext w w2 ∧ w2.cell? ⟨b0, o0, none⟩ = some u0 ∧ w2.cell? ⟨b1, o1, none⟩ = some u1 ∧ w2.cell? ⟨b2, o2, none⟩ = some u2 ∧ w2.cell? ⟨g, 0, none⟩ = some (was w2 g 0) ∧ w2.cell? ⟨g, 1, none⟩ = some (was w2 g 1) ∧ w2.cell? ⟨g, 2, none⟩ = some (was w2 g 2) ∧ w2.frozen? ⟨g, 0, none⟩ = false ∧ w2.frozen? ⟨g, 1, none⟩ = false ∧ w2.frozen? ⟨g, 2, none⟩ = false :=
  ⟨h.1.trans hx, hx.keep h.2.1, hx.keep h.2.2.1, hx.keep h.2.2.2.1, was_some (hx.keep h.2.2.2.2.1), was_some (hx.keep h.2.2.2.2.2.1), was_some (hx.keep h.2.2.2.2.2.2.1), hx.keepf h.2.2.2.2.1 h.2.2.2.2.2.2.2.1, hx.keepf h.2.2.2.2.2.1 h.2.2.2.2.2.2.2.2.1, hx.keepf h.2.2.2.2.2.2.1 h.2.2.2.2.2.2.2.2.2⟩
theorem keptS3_3_set {w w1 : World} {g b0 o0 b1 o1 b2 o2 : Nat} {u0 u1 u2 : Value} {x0 x1 x2 : Value} (h : Ext w w1 ∧ w1.cell? ⟨b0, o0, none⟩ = some u0 ∧ w1.cell? ⟨b1, o1, none⟩ = some u1 ∧ w1.cell? ⟨b2, o2, none⟩ = some u2 ∧ w1.cell? ⟨g, 0, none⟩ = some (was w1 g 0) ∧ w1.cell? ⟨g, 1, none⟩ = some (was w1 g 1) ∧ w1.cell? ⟨g, 2, none⟩ = some (was w1 g 2) ∧ w1.frozen? ⟨g, 0, none⟩ = false ∧ w1.frozen? ⟨g, 1, none⟩ = false ∧ w1.frozen? ⟨g, 2, none⟩ = false) (hg : w.heap.size ≤ g) (n0 : b0 ≠ g) (n1 : b1 ≠ g) (n2 : b2 ≠ g) : Ext w (((w1.setCell ⟨g, 0, none⟩ x0).setCell ⟨g, 1, none⟩ x1).setCell ⟨g, 2, none⟩ x2) ∧ (((w1.setCell ⟨g, 0, none⟩ x0).setCell ⟨g, 1, none⟩ x1).setCell ⟨g, 2, none⟩ x2).cell? ⟨b0, o0, none⟩ = some u0 ∧ (((w1.setCell ⟨g, 0, none⟩ x0).setCell ⟨g, 1, none⟩ x1).setCell ⟨g, 2, none⟩ x2).cell? ⟨b1, o1, none⟩ = some u1 ∧ (((w1.setCell ⟨g, 0, none⟩ x0).setCell ⟨g, 1, none⟩ x1).setCell ⟨g, 2, none⟩ x2).cell? ⟨b2, o2, none⟩ = some u2 ∧ (((w1.setCell ⟨g, 0, none⟩ x0).setCell ⟨g, 1, none⟩ x1).setCell ⟨g, 2, none⟩ x2).cell? ⟨g, 0, none⟩ = some (was (((w1.setCell ⟨g, 0, none⟩ x0).setCell ⟨g, 1, none⟩ x1).setCell ⟨g, 2, none⟩ x2) g 0) ∧ (((w1.setCell ⟨g, 0, none⟩ x0).setCell ⟨g, 1, none⟩ x1).setCell ⟨g, 2, none⟩ x2).cell? ⟨g, 1, none⟩ = some (was (((w1.setCell ⟨g, 0, none⟩ x0).setCell ⟨g, 1, none⟩ x1).setCell ⟨g, 2, none⟩ x2) g 1) ∧ (((w1.setCell ⟨g, 0, none⟩ x0).setCell ⟨g, 1, none⟩ x1).setCell ⟨g, 2, none⟩ x2).cell? ⟨g, 2, none⟩ = some (was (((w1.setCell ⟨g, 0, none⟩ x0).setCell ⟨g, 1, none⟩ x1).setCell ⟨g, 2, none⟩ x2) g 2) ∧ (((w1.setCell ⟨g, 0, none⟩ x0).setCell ⟨g, 1, none⟩ x1).setCell ⟨g, 2, none⟩ x2).frozen? ⟨g, 0, none⟩ = false ∧ (((w1.setCell ⟨g, 0, none⟩ x0).setCell ⟨g, 1, none⟩ x1).setCell ⟨g, 2, none⟩ x2).frozen? ⟨g, 1, none⟩ = false ∧ (((w1.setCell ⟨g, 0, none⟩ x0).setCell ⟨g, 1, none⟩ x1).setCell ⟨g, 2, none⟩ x2).frozen? ⟨g, 2, none⟩ = false := by
  obtain ⟨_, k0⟩ := set_was (g := g) (i := 0) (u := x0) h.2.2.2.2.1
  obtain ⟨_, k0⟩ := set_was (g := g) (i := 1) (u := x1) k0
  obtain ⟨_, k0⟩ := set_was (g := g) (i := 2) (u := x2) k0
  obtain ⟨_, k1⟩ := set_was (g := g) (i := 0) (u := x0) h.2.2.2.2.2.1
  obtain ⟨_, k1⟩ := set_was (g := g) (i := 1) (u := x1) k1
  obtain ⟨_, k1⟩ := set_was (g := g) (i := 2) (u := x2) k1
  obtain ⟨_, k2⟩ := set_was (g := g) (i := 0) (u := x0) h.2.2.2.2.2.2.1
  obtain ⟨_, k2⟩ := set_was (g := g) (i := 1) (u := x1) k2
  obtain ⟨_, k2⟩ := set_was (g := g) (i := 2) (u := x2) k2
  exact ⟨(((h.1.setCell hg _).setCell hg _).setCell hg _), (set_far (set_far (set_far h.2.1 n0) n0) n0), (set_far (set_far (set_far h.2.2.1 n1) n1) n1), (set_far (set_far (set_far h.2.2.2.1 n2) n2) n2), was_some k0, was_some k1, was_some k2, (set_fz (set_fz (set_fz h.2.2.2.2.2.2.2.1))), (set_fz (set_fz (set_fz h.2.2.2.2.2.2.2.2.1))), (set_fz (set_fz (set_fz h.2.2.2.2.2.2.2.2.2)))⟩
theorem keptS4_3 {w w1 w2 : World} {g b0 o0 b1 o1 b2 o2 b3 o3 : Nat} {u0 u1 u2 u3 : Value} (h : Ext w w1 ∧ w1.cell? ⟨b0, o0, none⟩ = some u0 ∧ w1.cell? ⟨b1, o1, none⟩ = some u1 ∧ w1.cell? ⟨b2, o2, none⟩ = some u2 ∧ w1.cell? ⟨b3, o3, none⟩ = some u3 ∧ w1.cell? ⟨g, 0, none⟩ = some (was w1 g 0) ∧ w1.cell? ⟨g, 1, none⟩ = some (was w1 g 1) ∧ w1.cell? ⟨g, 2, none⟩ = some (was w1 g 2) ∧ w1.frozen? ⟨g, 0, none⟩ = false ∧ w1.frozen? ⟨g, 1, none⟩ = false ∧ w1.frozen? ⟨g, 2, none⟩ = false) (hx : Ext w1 w2) : Ext w w2 ∧ w2.cell? ⟨b0, o0, none⟩ = some u0 ∧ w2.cell? ⟨b1, o1, none⟩ = some u1 ∧ w2.cell? ⟨b2, o2, none⟩ = some u2 ∧ w2.cell? ⟨b3, o3, none⟩ = some u3 ∧ w2.cell? ⟨g, 0, none⟩ = some (was w2 g 0) ∧ w2.cell? ⟨g, 1, none⟩ = some (was w2 g 1) ∧ w2.cell? ⟨g, 2, none⟩ = some (was w2 g 2) ∧ w2.frozen? ⟨g, 0, none⟩ = false ∧ w2.frozen? ⟨g, 1, none⟩ = false ∧ w2.frozen? ⟨g, 2, none⟩ = false :=
  ⟨h.1.trans hx, hx.keep h.2.1, hx.keep h.2.2.1, hx.keep h.2.2.2.1, hx.keep h.2.2.2.2.1, was_some (hx.keep h.2.2.2.2.2.1), was_some (hx.keep h.2.2.2.2.2.2.1), was_some (hx.keep h.2.2.2.2.2.2.2.1), hx.keepf h.2.2.2.2.2.1 h.2.2.2.2.2.2.2.2.1, hx.keepf h.2.2.2.2.2.2.1 h.2.2.2.2.2.2.2.2.2.1, hx.keepf h.2.2.2.2.2.2.2.1 h.2.2.2.2.2.2.2.2.2.2⟩
theorem keptS4_3_set {w w1 : World} {g b0 o0 b1 o1 b2 o2 b3 o3 : Nat} {u0 u1 u2 u3 : Value} {x0 x1 x2 : Value} (h : Ext w w1 ∧ w1.cell? ⟨b0, o0, none⟩ = some u0 ∧ w1.cell? ⟨b1, o1, none⟩ = some u1 ∧ w1.cell? ⟨b2, o2, none⟩ = some u2 ∧ w1.cell? ⟨b3, o3, none⟩ = some u3 ∧ w1.cell? ⟨g, 0, none⟩ = some (was w1 g 0) ∧ w1.cell? ⟨g, 1, none⟩ = some (was w1 g 1) ∧ w1.cell? ⟨g, 2, none⟩ = some (was w1 g 2) ∧ w1.frozen? ⟨g, 0, none⟩ = false ∧ w1.frozen? ⟨g, 1, none⟩ = false ∧ w1.frozen? ⟨g, 2, none⟩ = false) (hg : w.heap.size ≤ g) (n0 : b0 ≠ g) (n1 : b1 ≠ g) (n2 : b2 ≠ g) (n3 : b3 ≠ g) : Ext w (((w1.setCell ⟨g, 0, none⟩ x0).setCell ⟨g, 1, none⟩ x1).setCell ⟨g, 2, none⟩ x2) ∧ (((w1.setCell ⟨g, 0, none⟩ x0).setCell ⟨g, 1, none⟩ x1).setCell ⟨g, 2, none⟩ x2).cell? ⟨b0, o0, none⟩ = some u0 ∧ (((w1.setCell ⟨g, 0, none⟩ x0).setCell ⟨g, 1, none⟩ x1).setCell ⟨g, 2, none⟩ x2).cell? ⟨b1, o1, none⟩ = some u1 ∧ (((w1.setCell ⟨g, 0, none⟩ x0).setCell ⟨g, 1, none⟩ x1).setCell ⟨g, 2, none⟩ x2).cell? ⟨b2, o2, none⟩ = some u2 ∧ (((w1.setCell ⟨g, 0, none⟩ x0).setCell ⟨g, 1, none⟩ x1).setCell ⟨g, 2, none⟩ x2).cell? ⟨b3, o3, none⟩ = some u3 ∧ (((w1.setCell ⟨g, 0, none⟩ x0).setCell ⟨g, 1, none⟩ x1).setCell ⟨g, 2, none⟩ x2).cell? ⟨g, 0, none⟩ = some (was (((w1.setCell ⟨g, 0, none⟩ x0).setCell ⟨g, 1, none⟩ x1).setCell ⟨g, 2, none⟩ x2) g 0) ∧ (((w1.setCell ⟨g, 0, none⟩ x0).setCell ⟨g, 1, none⟩ x1).setCell ⟨g, 2, none⟩ x2).cell? ⟨g, 1, none⟩ = some (was (((w1.setCell ⟨g, 0, none⟩ x0).setCell ⟨g, 1, none⟩ x1).setCell ⟨g, 2, none⟩ x2) g 1) ∧ (((w1.setCell ⟨g, 0, none⟩ x0).setCell ⟨g, 1, none⟩ x1).setCell ⟨g, 2, none⟩ x2).cell? ⟨g, 2, none⟩ = some (was (((w1.setCell ⟨g, 0, none⟩ x0).setCell ⟨g, 1, none⟩ x1).setCell ⟨g, 2, none⟩ x2) g 2) ∧ (((w1.setCell ⟨g, 0, none⟩ x0).setCell ⟨g, 1, none⟩ x1).setCell ⟨g, 2, none⟩ x2).frozen? ⟨g, 0, none⟩ = false ∧ (((w1.setCell ⟨g, 0, none⟩ x0).setCell ⟨g, 1, none⟩ x1).setCell ⟨g, 2, none⟩ x2).frozen? ⟨g, 1, none⟩ = false ∧ (((w1.setCell ⟨g, 0, none⟩ x0).setCell ⟨g, 1, none⟩ x1).setCell ⟨g, 2, none⟩ x2).frozen? ⟨g, 2, none⟩ = false := by
  obtain ⟨_, k0⟩ := set_was (g := g) (i := 0) (u := x0) h.2.2.2.2.2.1
  obtain ⟨_, k0⟩ := set_was (g := g) (i := 1) (u := x1) k0
  obtain ⟨_, k0⟩ := set_was (g := g) (i := 2) (u := x2) k0
  obtain ⟨_, k1⟩ := set_was (g := g) (i := 0) (u := x0) h.2.2.2.2.2.2.1
  obtain ⟨_, k1⟩ := set_was (g := g) (i := 1) (u := x1) k1
  obtain ⟨_, k1⟩ := set_was (g := g) (i := 2) (u := x2) k1
  obtain ⟨_, k2⟩ := set_was (g := g) (i := 0) (u := x0) h.2.2.2.2.2.2.2.1
  obtain ⟨_, k2⟩ := set_was (g := g) (i := 1) (u := x1) k2
  obtain ⟨_, k2⟩ := set_was (g := g) (i := 2) (u := x2) k2
  exact ⟨(((h.1.setCell hg _).setCell hg _).setCell hg _), (set_far (set_far (set_far h.2.1 n0) n0) n0), (set_far (set_far (set_far h.2.2.1 n1) n1) n1), (set_far (set_far (set_far h.2.2.2.1 n2) n2) n2), (set_far (set_far (set_far h.2.2.2.2.1 n3) n3) n3), was_some k0, was_some k1, was_some k2, (set_fz (set_fz (set_fz h.2.2.2.2.2.2.2.2.1))), (set_fz (set_fz (set_fz h.2.2.2.2.2.2.2.2.2.1))), (set_fz (set_fz (set_fz h.2.2.2.2.2.2.2.2.2.2)))⟩
theorem keptS5_3 {w w1 w2 : World} {g b0 o0 b1 o1 b2 o2 b3 o3 b4 o4 : Nat} {u0 u1 u2 u3 u4 : Value} (h : Ext w w1 ∧ w1.cell? ⟨b0, o0, none⟩ = some u0 ∧ w1.cell? ⟨b1, o1, none⟩ = some u1 ∧ w1.cell? ⟨b2, o2, none⟩ = some u2 ∧ w1.cell? ⟨b3, o3, none⟩ = some u3 ∧ w1.cell? ⟨b4, o4, none⟩ = some u4 ∧ w1.cell? ⟨g, 0, none⟩ = some (was w1 g 0) ∧ w1.cell? ⟨g, 1, none⟩ = some (was w1 g 1) ∧ w1.cell? ⟨g, 2, none⟩ = some (was w1 g 2) ∧ w1.frozen? ⟨g, 0, none⟩ = false ∧ w1.frozen? ⟨g, 1, none⟩ = false ∧ w1.frozen? ⟨g, 2, none⟩ = false) (hx : Ext w1 w2) : Ext w w2 ∧ w2.cell? ⟨b0, o0, none⟩ = some u0 ∧ w2.cell? ⟨b1, o1, none⟩ = some u1 ∧ w2.cell? ⟨b2, o2, none⟩ = some u2 ∧ w2.cell? ⟨b3, o3, none⟩ = some u3 ∧ w2.cell? ⟨b4, o4, none⟩ = some u4 ∧ w2.cell? ⟨g, 0, none⟩ = some (was w2 g 0) ∧ w2.cell? ⟨g, 1, none⟩ = some (was w2 g 1) ∧ w2.cell? ⟨g, 2, none⟩ = some (was w2 g 2) ∧ w2.frozen? ⟨g, 0, none⟩ = false ∧ w2.frozen? ⟨g, 1, none⟩ = false ∧ w2.frozen? ⟨g, 2, none⟩ = false :=
  ⟨h.1.trans hx, hx.keep h.2.1, hx.keep h.2.2.1, hx.keep h.2.2.2.1, hx.keep h.2.2.2.2.1, hx.keep h.2.2.2.2.2.1, was_some (hx.keep h.2.2.2.2.2.2.1), was_some (hx.keep h.2.2.2.2.2.2.2.1), was_some (hx.keep h.2.2.2.2.2.2.2.2.1), hx.keepf h.2.2.2.2.2.2.1 h.2.2.2.2.2.2.2.2.2.1, hx.keepf h.2.2.2.2.2.2.2.1 h.2.2.2.2.2.2.2.2.2.2.1, hx.keepf h.2.2.2.2.2.2.2.2.1 h.2.2.2.2.2.2.2.2.2.2.2⟩
theorem keptS5_3_set {w w1 : World} {g b0 o0 b1 o1 b2 o2 b3 o3 b4 o4 : Nat} {u0 u1 u2 u3 u4 : Value} {x0 x1 x2 : Value} (h : Ext w w1 ∧ w1.cell? ⟨b0, o0, none⟩ = some u0 ∧ w1.cell? ⟨b1, o1, none⟩ = some u1 ∧ w1.cell? ⟨b2, o2, none⟩ = some u2 ∧ w1.cell? ⟨b3, o3, none⟩ = some u3 ∧ w1.cell? ⟨b4, o4, none⟩ = some u4 ∧ w1.cell? ⟨g, 0, none⟩ = some (was w1 g 0) ∧ w1.cell? ⟨g, 1, none⟩ = some (was w1 g 1) ∧ w1.cell? ⟨g, 2, none⟩ = some (was w1 g 2) ∧ w1.frozen? ⟨g, 0, none⟩ = false ∧ w1.frozen? ⟨g, 1, none⟩ = false ∧ w1.frozen? ⟨g, 2, none⟩ = false) (hg : w.heap.size ≤ g) (n0 : b0 ≠ g) (n1 : b1 ≠ g) (n2 : b2 ≠ g) (n3 : b3 ≠ g) (n4 : b4 ≠ g) : Ext w (((w1.setCell ⟨g, 0, none⟩ x0).setCell ⟨g, 1, none⟩ x1).setCell ⟨g, 2, none⟩ x2) ∧ (((w1.setCell ⟨g, 0, none⟩ x0).setCell ⟨g, 1, none⟩ x1).setCell ⟨g, 2, none⟩ x2).cell? ⟨b0, o0, none⟩ = some u0 ∧ (((w1.setCell ⟨g, 0, none⟩ x0).setCell ⟨g, 1, none⟩ x1).setCell ⟨g, 2, none⟩ x2).cell? ⟨b1, o1, none⟩ = some u1 ∧ (((w1.setCell ⟨g, 0, none⟩ x0).setCell ⟨g, 1, none⟩ x1).setCell ⟨g, 2, none⟩ x2).cell? ⟨b2, o2, none⟩ = some u2 ∧ (((w1.setCell ⟨g, 0, none⟩ x0).setCell ⟨g, 1, none⟩ x1).setCell ⟨g, 2, none⟩ x2).cell? ⟨b3, o3, none⟩ = some u3 ∧ (((w1.setCell ⟨g, 0, none⟩ x0).setCell ⟨g, 1, none⟩ x1).setCell ⟨g, 2, none⟩ x2).cell? ⟨b4, o4, none⟩ = some u4 ∧ (((w1.setCell ⟨g, 0, none⟩ x0).setCell ⟨g, 1, none⟩ x1).setCell ⟨g, 2, none⟩ x2).cell? ⟨g, 0, none⟩ = some (was (((w1.setCell ⟨g, 0, none⟩ x0).setCell ⟨g, 1, none⟩ x1).setCell ⟨g, 2, none⟩ x2) g 0) ∧ (((w1.setCell ⟨g, 0, none⟩ x0).setCell ⟨g, 1, none⟩ x1).setCell ⟨g, 2, none⟩ x2).cell? ⟨g, 1, none⟩ = some (was (((w1.setCell ⟨g, 0, none⟩ x0).setCell ⟨g, 1, none⟩ x1).setCell ⟨g, 2, none⟩ x2) g 1) ∧ (((w1.setCell ⟨g, 0, none⟩ x0).setCell ⟨g, 1, none⟩ x1).setCell ⟨g, 2, none⟩ x2).cell? ⟨g, 2, none⟩ = some (was (((w1.setCell ⟨g, 0, none⟩ x0).setCell ⟨g, 1, none⟩ x1).setCell ⟨g, 2, none⟩ x2) g 2) ∧ (((w1.setCell ⟨g, 0, none⟩ x0).setCell ⟨g, 1, none⟩ x1).setCell ⟨g, 2, none⟩ x2).frozen? ⟨g, 0, none⟩ = false ∧ (((w1.setCell ⟨g, 0, none⟩ x0).setCell ⟨g, 1, none⟩ x1).setCell ⟨g, 2, none⟩ x2).frozen? ⟨g, 1, none⟩ = false ∧ (((w1.setCell ⟨g, 0, none⟩ x0).setCell ⟨g, 1, none⟩ x1).setCell ⟨g, 2, none⟩ x2).frozen? ⟨g, 2, none⟩ = false := by
  obtain ⟨_, k0⟩ := set_was (g := g) (i := 0) (u := x0) h.2.2.2.2.2.2.1
  obtain ⟨_, k0⟩ := set_was (g := g) (i := 1) (u := x1) k0
  obtain ⟨_, k0⟩ := set_was (g := g) (i := 2) (u := x2) k0
  obtain ⟨_, k1⟩ := set_was (g := g) (i := 0) (u := x0) h.2.2.2.2.2.2.2.1
  obtain ⟨_, k1⟩ := set_was (g := g) (i := 1) (u := x1) k1
  obtain ⟨_, k1⟩ := set_was (g := g) (i := 2) (u := x2) k1
  obtain ⟨_, k2⟩ := set_was (g := g) (i := 0) (u := x0) h.2.2.2.2.2.2.2.2.1
  obtain ⟨_, k2⟩ := set_was (g := g) (i := 1) (u := x1) k2
  obtain ⟨_, k2⟩ := set_was (g := g) (i := 2) (u := x2) k2
  exact ⟨(((h.1.setCell hg _).setCell hg _).setCell hg _), (set_far (set_far (set_far h.2.1 n0) n0) n0), (set_far (set_far (set_far h.2.2.1 n1) n1) n1), (set_far (set_far (set_far h.2.2.2.1 n2) n2) n2), (set_far (set_far (set_far h.2.2.2.2.1 n3) n3) n3), (set_far (set_far (set_far h.2.2.2.2.2.1 n4) n4) n4), was_some k0, was_some k1, was_some k2, (set_fz (set_fz (set_fz h.2.2.2.2.2.2.2.2.2.1))), (set_fz (set_fz (set_fz h.2.2.2.2.2.2.2.2.2.2.1))), (set_fz (set_fz (set_fz h.2.2.2.2.2.2.2.2.2.2.2)))⟩
theorem keptS6_3 {w w1 w2 : World} {g b0 o0 b1 o1 b2 o2 b3 o3 b4 o4 b5 o5 : Nat} {u0 u1 u2 u3 u4 u5 : Value} (h : Ext w w1 ∧ w1.cell? ⟨b0, o0, none⟩ = some u0 ∧ w1.cell? ⟨b1, o1, none⟩ = some u1 ∧ w1.cell? ⟨b2, o2, none⟩ = some u2 ∧ w1.cell? ⟨b3, o3, none⟩ = some u3 ∧ w1.cell? ⟨b4, o4, none⟩ = some u4 ∧ w1.cell? ⟨b5, o5, none⟩ = some u5 ∧ w1.cell? ⟨g, 0, none⟩ = some (was w1 g 0) ∧ w1.cell? ⟨g, 1, none⟩ = some (was w1 g 1) ∧ w1.cell? ⟨g, 2, none⟩ = some (was w1 g 2) ∧ w1.frozen? ⟨g, 0, none⟩ = false ∧ w1.frozen? ⟨g, 1, none⟩ = false ∧ w1.frozen? ⟨g, 2, none⟩ = false) (hx : Ext w1 w2) : Ext w w2 ∧ w2.cell? ⟨b0, o0, none⟩ = some u0 ∧ w2.cell? ⟨b1, o1, none⟩ = some u1 ∧ w2.cell? ⟨b2, o2, none⟩ = some u2 ∧ w2.cell? ⟨b3, o3, none⟩ = some u3 ∧ w2.cell? ⟨b4, o4, none⟩ = some u4 ∧ w2.cell? ⟨b5, o5, none⟩ = some u5 ∧ w2.cell? ⟨g, 0, none⟩ = some (was w2 g 0) ∧ w2.cell? ⟨g, 1, none⟩ = some (was w2 g 1) ∧ w2.cell? ⟨g, 2, none⟩ = some (was w2 g 2) ∧ w2.frozen? ⟨g, 0, none⟩ = false ∧ w2.frozen? ⟨g, 1, none⟩ = false ∧ w2.frozen? ⟨g, 2, none⟩ = false :=
  ⟨h.1.trans hx, hx.keep h.2.1, hx.keep h.2.2.1, hx.keep h.2.2.2.1, hx.keep h.2.2.2.2.1, hx.keep h.2.2.2.2.2.1, hx.keep h.2.2.2.2.2.2.1, was_some (hx.keep h.2.2.2.2.2.2.2.1), was_some (hx.keep h.2.2.2.2.2.2.2.2.1), was_some (hx.keep h.2.2.2.2.2.2.2.2.2.1), hx.keepf h.2.2.2.2.2.2.2.1 h.2.2.2.2.2.2.2.2.2.2.1, hx.keepf h.2.2.2.2.2.2.2.2.1 h.2.2.2.2.2.2.2.2.2.2.2.1, hx.keepf h.2.2.2.2.2.2.2.2.2.1 h.2.2.2.2.2.2.2.2.2.2.2.2⟩
theorem keptS6_3_set {w w1 : World} {g b0 o0 b1 o1 b2 o2 b3 o3 b4 o4 b5 o5 : Nat} {u0 u1 u2 u3 u4 u5 : Value} {x0 x1 x2 : Value} (h : Ext w w1 ∧ w1.cell? ⟨b0, o0, none⟩ = some u0 ∧ w1.cell? ⟨b1, o1, none⟩ = some u1 ∧ w1.cell? ⟨b2, o2, none⟩ = some u2 ∧ w1.cell? ⟨b3, o3, none⟩ = some u3 ∧ w1.cell? ⟨b4, o4, none⟩ = some u4 ∧ w1.cell? ⟨b5, o5, none⟩ = some u5 ∧ w1.cell? ⟨g, 0, none⟩ = some (was w1 g 0) ∧ w1.cell? ⟨g, 1, none⟩ = some (was w1 g 1) ∧ w1.cell? ⟨g, 2, none⟩ = some (was w1 g 2) ∧ w1.frozen? ⟨g, 0, none⟩ = false ∧ w1.frozen? ⟨g, 1, none⟩ = false ∧ w1.frozen? ⟨g, 2, none⟩ = false) (hg : w.heap.size ≤ g) (n0 : b0 ≠ g) (n1 : b1 ≠ g) (n2 : b2 ≠ g) (n3 : b3 ≠ g) (n4 : b4 ≠ g) (n5 : b5 ≠ g) : Ext w (((w1.setCell ⟨g, 0, none⟩ x0).setCell ⟨g, 1, none⟩ x1).setCell ⟨g, 2, none⟩ x2) ∧ (((w1.setCell ⟨g, 0, none⟩ x0).setCell ⟨g, 1, none⟩ x1).setCell ⟨g, 2, none⟩ x2).cell? ⟨b0, o0, none⟩ = some u0 ∧ (((w1.setCell ⟨g, 0, none⟩ x0).setCell ⟨g, 1, none⟩ x1).setCell ⟨g, 2, none⟩ x2).cell? ⟨b1, o1, none⟩ = some u1 ∧ (((w1.setCell ⟨g, 0, none⟩ x0).setCell ⟨g, 1, none⟩ x1).setCell ⟨g, 2, none⟩ x2).cell? ⟨b2, o2, none⟩ = some u2 ∧ (((w1.setCell ⟨g, 0, none⟩ x0).setCell ⟨g, 1, none⟩ x1).setCell ⟨g, 2, none⟩ x2).cell? ⟨b3, o3, none⟩ = some u3 ∧ (((w1.setCell ⟨g, 0, none⟩ x0).setCell ⟨g, 1, none⟩ x1).setCell ⟨g, 2, none⟩ x2).cell? ⟨b4, o4, none⟩ = some u4 ∧ (((w1.setCell ⟨g, 0, none⟩ x0).setCell ⟨g, 1, none⟩ x1).setCell ⟨g, 2, none⟩ x2).cell? ⟨b5, o5, none⟩ = some u5 ∧ (((w1.setCell ⟨g, 0, none⟩ x0).setCell ⟨g, 1, none⟩ x1).setCell ⟨g, 2, none⟩ x2).cell? ⟨g, 0, none⟩ = some (was (((w1.setCell ⟨g, 0, none⟩ x0).setCell ⟨g, 1, none⟩ x1).setCell ⟨g, 2, none⟩ x2) g 0) ∧ (((w1.setCell ⟨g, 0, none⟩ x0).setCell ⟨g, 1, none⟩ x1).setCell ⟨g, 2, none⟩ x2).cell? ⟨g, 1, none⟩ = some (was (((w1.setCell ⟨g, 0, none⟩ x0).setCell ⟨g, 1, none⟩ x1).setCell ⟨g, 2, none⟩ x2) g 1) ∧ (((w1.setCell ⟨g, 0, none⟩ x0).setCell ⟨g, 1, none⟩ x1).setCell ⟨g, 2, none⟩ x2).cell? ⟨g, 2, none⟩ = some (was (((w1.setCell ⟨g, 0, none⟩ x0).setCell ⟨g, 1, none⟩ x1).setCell ⟨g, 2, none⟩ x2) g 2) ∧ (((w1.setCell ⟨g, 0, none⟩ x0).setCell ⟨g, 1, none⟩ x1).setCell ⟨g, 2, none⟩ x2).frozen? ⟨g, 0, none⟩ = false ∧ (((w1.setCell ⟨g, 0, none⟩ x0).setCell ⟨g, 1, none⟩ x1).setCell ⟨g, 2, none⟩ x2).frozen? ⟨g, 1, none⟩ = false ∧ (((w1.setCell ⟨g, 0, none⟩ x0).setCell ⟨g, 1, none⟩ x1).setCell ⟨g, 2, none⟩ x2).frozen? ⟨g, 2, none⟩ = false := by
  obtain ⟨_, k0⟩ := set_was (g := g) (i := 0) (u := x0) h.2.2.2.2.2.2.2.1
  obtain ⟨_, k0⟩ := set_was (g := g) (i := 1) (u := x1) k0
  obtain ⟨_, k0⟩ := set_was (g := g) (i := 2) (u := x2) k0
  obtain ⟨_, k1⟩ := set_was (g := g) (i := 0) (u := x0) h.2.2.2.2.2.2.2.2.1
  obtain ⟨_, k1⟩ := set_was (g := g) (i := 1) (u := x1) k1
  obtain ⟨_, k1⟩ := set_was (g := g) (i := 2) (u := x2) k1
  obtain ⟨_, k2⟩ := set_was (g := g) (i := 0) (u := x0) h.2.2.2.2.2.2.2.2.2.1
  obtain ⟨_, k2⟩ := set_was (g := g) (i := 1) (u := x1) k2
  obtain ⟨_, k2⟩ := set_was (g := g) (i := 2) (u := x2) k2
  exact ⟨(((h.1.setCell hg _).setCell hg _).setCell hg _), (set_far (set_far (set_far h.2.1 n0) n0) n0), (set_far (set_far (set_far h.2.2.1 n1) n1) n1), (set_far (set_far (set_far h.2.2.2.1 n2) n2) n2), (set_far (set_far (set_far h.2.2.2.2.1 n3) n3) n3), (set_far (set_far (set_far h.2.2.2.2.2.1 n4) n4) n4), (set_far (set_far (set_far h.2.2.2.2.2.2.1 n5) n5) n5), was_some k0, was_some k1, was_some k2, (set_fz (set_fz (set_fz h.2.2.2.2.2.2.2.2.2.2.1))), (set_fz (set_fz (set_fz h.2.2.2.2.2.2.2.2.2.2.2.1))), (set_fz (set_fz (set_fz h.2.2.2.2.2.2.2.2.2.2.2.2)))⟩
theorem keptS7_3 {w w1 w2 : World} {g b0 o0 b1 o1 b2 o2 b3 o3 b4 o4 b5 o5 b6 o6 : Nat} {u0 u1 u2 u3 u4 u5 u6 : Value} (h : Ext w w1 ∧ w1.cell? ⟨b0, o0, none⟩ = some u0 ∧ w1.cell? ⟨b1, o1, none⟩ = some u1 ∧ w1.cell? ⟨b2, o2, none⟩ = some u2 ∧ w1.cell? ⟨b3, o3, none⟩ = some u3 ∧ w1.cell? ⟨b4, o4, none⟩ = some u4 ∧ w1.cell? ⟨b5, o5, none⟩ = some u5 ∧ w1.cell? ⟨b6, o6, none⟩ = some u6 ∧ w1.cell? ⟨g, 0, none⟩ = some (was w1 g 0) ∧ w1.cell? ⟨g, 1, none⟩ = some (was w1 g 1) ∧ w1.cell? ⟨g, 2, none⟩ = some (was w1 g 2) ∧ w1.frozen? ⟨g, 0, none⟩ = false ∧ w1.frozen? ⟨g, 1, none⟩ = false ∧ w1.frozen? ⟨g, 2, none⟩ = false) (hx : Ext w1 w2) : Ext w w2 ∧ w2.cell? ⟨b0, o0, none⟩ = some u0 ∧ w2.cell? ⟨b1, o1, none⟩ = some u1 ∧ w2.cell? ⟨b2, o2, none⟩ = some u2 ∧ w2.cell? ⟨b3, o3, none⟩ = some u3 ∧ w2.cell? ⟨b4, o4, none⟩ = some u4 ∧ w2.cell? ⟨b5, o5, none⟩ = some u5 ∧ w2.cell? ⟨b6, o6, none⟩ = some u6 ∧ w2.cell? ⟨g, 0, none⟩ = some (was w2 g 0) ∧ w2.cell? ⟨g, 1, none⟩ = some (was w2 g 1) ∧ w2.cell? ⟨g, 2, none⟩ = some (was w2 g 2) ∧ w2.frozen? ⟨g, 0, none⟩ = false ∧ w2.frozen? ⟨g, 1, none⟩ = false ∧ w2.frozen? ⟨g, 2, none⟩ = false :=
  ⟨h.1.trans hx, hx.keep h.2.1, hx.keep h.2.2.1, hx.keep h.2.2.2.1, hx.keep h.2.2.2.2.1, hx.keep h.2.2.2.2.2.1, hx.keep h.2.2.2.2.2.2.1, hx.keep h.2.2.2.2.2.2.2.1, was_some (hx.keep h.2.2.2.2.2.2.2.2.1), was_some (hx.keep h.2.2.2.2.2.2.2.2.2.1), was_some (hx.keep h.2.2.2.2.2.2.2.2.2.2.1), hx.keepf h.2.2.2.2.2.2.2.2.1 h.2.2.2.2.2.2.2.2.2.2.2.1, hx.keepf h.2.2.2.2.2.2.2.2.2.1 h.2.2.2.2.2.2.2.2.2.2.2.2.1, hx.keepf h.2.2.2.2.2.2.2.2.2.2.1 h.2.2.2.2.2.2.2.2.2.2.2.2.2⟩
theorem keptS7_3_set {w w1 : World} {g b0 o0 b1 o1 b2 o2 b3 o3 b4 o4 b5 o5 b6 o6 : Nat} {u0 u1 u2 u3 u4 u5 u6 : Value} {x0 x1 x2 : Value} (h : Ext w w1 ∧ w1.cell? ⟨b0, o0, none⟩ = some u0 ∧ w1.cell? ⟨b1, o1, none⟩ = some u1 ∧ w1.cell? ⟨b2, o2, none⟩ = some u2 ∧ w1.cell? ⟨b3, o3, none⟩ = some u3 ∧ w1.cell? ⟨b4, o4, none⟩ = some u4 ∧ w1.cell? ⟨b5, o5, none⟩ = some u5 ∧ w1.cell? ⟨b6, o6, none⟩ = some u6 ∧ w1.cell? ⟨g, 0, none⟩ = some (was w1 g 0) ∧ w1.cell? ⟨g, 1, none⟩ = some (was w1 g 1) ∧ w1.cell? ⟨g, 2, none⟩ = some (was w1 g 2) ∧ w1.frozen? ⟨g, 0, none⟩ = false ∧ w1.frozen? ⟨g, 1, none⟩ = false ∧ w1.frozen? ⟨g, 2, none⟩ = false) (hg : w.heap.size ≤ g) (n0 : b0 ≠ g) (n1 : b1 ≠ g) (n2 : b2 ≠ g) (n3 : b3 ≠ g) (n4 : b4 ≠ g) (n5 : b5 ≠ g) (n6 : b6 ≠ g) : Ext w (((w1.setCell ⟨g, 0, none⟩ x0).setCell ⟨g, 1, none⟩ x1).setCell ⟨g, 2, none⟩ x2) ∧ (((w1.setCell ⟨g, 0, none⟩ x0).setCell ⟨g, 1, none⟩ x1).setCell ⟨g, 2, none⟩ x2).cell? ⟨b0, o0, none⟩ = some u0 ∧ (((w1.setCell ⟨g, 0, none⟩ x0).setCell ⟨g, 1, none⟩ x1).setCell ⟨g, 2, none⟩ x2).cell? ⟨b1, o1, none⟩ = some u1 ∧ (((w1.setCell ⟨g, 0, none⟩ x0).setCell ⟨g, 1, none⟩ x1).setCell ⟨g, 2, none⟩ x2).cell? ⟨b2, o2, none⟩ = some u2 ∧ (((w1.setCell ⟨g, 0, none⟩ x0).setCell ⟨g, 1, none⟩ x1).setCell ⟨g, 2, none⟩ x2).cell? ⟨b3, o3, none⟩ = some u3 ∧ (((w1.setCell ⟨g, 0, none⟩ x0).setCell ⟨g, 1, none⟩ x1).setCell ⟨g, 2, none⟩ x2).cell? ⟨b4, o4, none⟩ = some u4 ∧ (((w1.setCell ⟨g, 0, none⟩ x0).setCell ⟨g, 1, none⟩ x1).setCell ⟨g, 2, none⟩ x2).cell? ⟨b5, o5, none⟩ = some u5 ∧ (((w1.setCell ⟨g, 0, none⟩ x0).setCell ⟨g, 1, none⟩ x1).setCell ⟨g, 2, none⟩ x2).cell? ⟨b6, o6, none⟩ = some u6 ∧ (((w1.setCell ⟨g, 0, none⟩ x0).setCell ⟨g, 1, none⟩ x1).setCell ⟨g, 2, none⟩ x2).cell? ⟨g, 0, none⟩ = some (was (((w1.setCell ⟨g, 0, none⟩ x0).setCell ⟨g, 1, none⟩ x1).setCell ⟨g, 2, none⟩ x2) g 0) ∧ (((w1.setCell ⟨g, 0, none⟩ x0).setCell ⟨g, 1, none⟩ x1).setCell ⟨g, 2, none⟩ x2).cell? ⟨g, 1, none⟩ = some (was (((w1.setCell ⟨g, 0, none⟩ x0).setCell ⟨g, 1, none⟩ x1).setCell ⟨g, 2, none⟩ x2) g 1) ∧ (((w1.setCell ⟨g, 0, none⟩ x0).setCell ⟨g, 1, none⟩ x1).setCell ⟨g, 2, none⟩ x2).cell? ⟨g, 2, none⟩ = some (was (((w1.setCell ⟨g, 0, none⟩ x0).setCell ⟨g, 1, none⟩ x1).setCell ⟨g, 2, none⟩ x2) g 2) ∧ (((w1.setCell ⟨g, 0, none⟩ x0).setCell ⟨g, 1, none⟩ x1).setCell ⟨g, 2, none⟩ x2).frozen? ⟨g, 0, none⟩ = false ∧ (((w1.setCell ⟨g, 0, none⟩ x0).setCell ⟨g, 1, none⟩ x1).setCell ⟨g, 2, none⟩ x2).frozen? ⟨g, 1, none⟩ = false ∧ (((w1.setCell ⟨g, 0, none⟩ x0).setCell ⟨g, 1, none⟩ x1).setCell ⟨g, 2, none⟩ x2).frozen? ⟨g, 2, none⟩ = false := by
  obtain ⟨_, k0⟩ := set_was (g := g) (i := 0) (u := x0) h.2.2.2.2.2.2.2.2.1
  obtain ⟨_, k0⟩ := set_was (g := g) (i := 1) (u := x1) k0
  obtain ⟨_, k0⟩ := set_was (g := g) (i := 2) (u := x2) k0
  obtain ⟨_, k1⟩ := set_was (g := g) (i := 0) (u := x0) h.2.2.2.2.2.2.2.2.2.1
  obtain ⟨_, k1⟩ := set_was (g := g) (i := 1) (u := x1) k1
  obtain ⟨_, k1⟩ := set_was (g := g) (i := 2) (u := x2) k1
  obtain ⟨_, k2⟩ := set_was (g := g) (i := 0) (u := x0) h.2.2.2.2.2.2.2.2.2.2.1
  obtain ⟨_, k2⟩ := set_was (g := g) (i := 1) (u := x1) k2
  obtain ⟨_, k2⟩ := set_was (g := g) (i := 2) (u := x2) k2
  exact ⟨(((h.1.setCell hg _).setCell hg _).setCell hg _), (set_far (set_far (set_far h.2.1 n0) n0) n0), (set_far (set_far (set_far h.2.2.1 n1) n1) n1), (set_far (set_far (set_far h.2.2.2.1 n2) n2) n2), (set_far (set_far (set_far h.2.2.2.2.1 n3) n3) n3), (set_far (set_far (set_far h.2.2.2.2.2.1 n4) n4) n4), (set_far (set_far (set_far h.2.2.2.2.2.2.1 n5) n5) n5), (set_far (set_far (set_far h.2.2.2.2.2.2.2.1 n6) n6) n6), was_some k0, was_some k1, was_some k2, (set_fz (set_fz (set_fz h.2.2.2.2.2.2.2.2.2.2.2.1))), (set_fz (set_fz (set_fz h.2.2.2.2.2.2.2.2.2.2.2.2.1))), (set_fz (set_fz (set_fz h.2.2.2.2.2.2.2.2.2.2.2.2.2)))⟩
theorem keptS8_3 {w w1 w2 : World} {g b0 o0 b1 o1 b2 o2 b3 o3 b4 o4 b5 o5 b6 o6 b7 o7 : Nat} {u0 u1 u2 u3 u4 u5 u6 u7 : Value} (h : Ext w w1 ∧ w1.cell? ⟨b0, o0, none⟩ = some u0 ∧ w1.cell? ⟨b1, o1, none⟩ = some u1 ∧ w1.cell? ⟨b2, o2, none⟩ = some u2 ∧ w1.cell? ⟨b3, o3, none⟩ = some u3 ∧ w1.cell? ⟨b4, o4, none⟩ = some u4 ∧ w1.cell? ⟨b5, o5, none⟩ = some u5 ∧ w1.cell? ⟨b6, o6, none⟩ = some u6 ∧ w1.cell? ⟨b7, o7, none⟩ = some u7 ∧ w1.cell? ⟨g, 0, none⟩ = some (was w1 g 0) ∧ w1.cell? ⟨g, 1, none⟩ = some (was w1 g 1) ∧ w1.cell? ⟨g, 2, none⟩ = some (was w1 g 2) ∧ w1.frozen? ⟨g, 0, none⟩ = false ∧ w1.frozen? ⟨g, 1, none⟩ = false ∧ w1.frozen? ⟨g, 2, none⟩ = false) (hx : Ext w1 w2) : Ext w w2 ∧ w2.cell? ⟨b0, o0, none⟩ = some u0 ∧ w2.cell? ⟨b1, o1, none⟩ = some u1 ∧ w2.cell? ⟨b2, o2, none⟩ = some u2 ∧ w2.cell? ⟨b3, o3, none⟩ = some u3 ∧ w2.cell? ⟨b4, o4, none⟩ = some u4 ∧ w2.cell? ⟨b5, o5, none⟩ = some u5 ∧ w2.cell? ⟨b6, o6, none⟩ = some u6 ∧ w2.cell? ⟨b7, o7, none⟩ = some u7 ∧ w2.cell? ⟨g, 0, none⟩ = some (was w2 g 0) ∧ w2.cell? ⟨g, 1, none⟩ = some (was w2 g 1) ∧ w2.cell? ⟨g, 2, none⟩ = some (was w2 g 2) ∧ w2.frozen? ⟨g, 0, none⟩ = false ∧ w2.frozen? ⟨g, 1, none⟩ = false ∧ w2.frozen? ⟨g, 2, none⟩ = false :=
  ⟨h.1.trans hx, hx.keep h.2.1, hx.keep h.2.2.1, hx.keep h.2.2.2.1, hx.keep h.2.2.2.2.1, hx.keep h.2.2.2.2.2.1, hx.keep h.2.2.2.2.2.2.1, hx.keep h.2.2.2.2.2.2.2.1, hx.keep h.2.2.2.2.2.2.2.2.1, was_some (hx.keep h.2.2.2.2.2.2.2.2.2.1), was_some (hx.keep h.2.2.2.2.2.2.2.2.2.2.1), was_some (hx.keep h.2.2.2.2.2.2.2.2.2.2.2.1), hx.keepf h.2.2.2.2.2.2.2.2.2.1 h.2.2.2.2.2.2.2.2.2.2.2.2.1, hx.keepf h.2.2.2.2.2.2.2.2.2.2.1 h.2.2.2.2.2.2.2.2.2.2.2.2.2.1, hx.keepf h.2.2.2.2.2.2.2.2.2.2.2.1 h.2.2.2.2.2.2.2.2.2.2.2.2.2.2⟩
theorem keptS8_3_set {w w1 : World} {g b0 o0 b1 o1 b2 o2 b3 o3 b4 o4 b5 o5 b6 o6 b7 o7 : Nat} {u0 u1 u2 u3 u4 u5 u6 u7 : Value} {x0 x1 x2 : Value} (h : Ext w w1 ∧ w1.cell? ⟨b0, o0, none⟩ = some u0 ∧ w1.cell? ⟨b1, o1, none⟩ = some u1 ∧ w1.cell? ⟨b2, o2, none⟩ = some u2 ∧ w1.cell? ⟨b3, o3, none⟩ = some u3 ∧ w1.cell? ⟨b4, o4, none⟩ = some u4 ∧ w1.cell? ⟨b5, o5, none⟩ = some u5 ∧ w1.cell? ⟨b6, o6, none⟩ = some u6 ∧ w1.cell? ⟨b7, o7, none⟩ = some u7 ∧ w1.cell? ⟨g, 0, none⟩ = some (was w1 g 0) ∧ w1.cell? ⟨g, 1, none⟩ = some (was w1 g 1) ∧ w1.cell? ⟨g, 2, none⟩ = some (was w1 g 2) ∧ w1.frozen? ⟨g, 0, none⟩ = false ∧ w1.frozen? ⟨g, 1, none⟩ = false ∧ w1.frozen? ⟨g, 2, none⟩ = false) (hg : w.heap.size ≤ g) (n0 : b0 ≠ g) (n1 : b1 ≠ g) (n2 : b2 ≠ g) (n3 : b3 ≠ g) (n4 : b4 ≠ g) (n5 : b5 ≠ g) (n6 : b6 ≠ g) (n7 : b7 ≠ g) : Ext w (((w1.setCell ⟨g, 0, none⟩ x0).setCell ⟨g, 1, none⟩ x1).setCell ⟨g, 2, none⟩ x2) ∧ (((w1.setCell ⟨g, 0, none⟩ x0).setCell ⟨g, 1, none⟩ x1).setCell ⟨g, 2, none⟩ x2).cell? ⟨b0, o0, none⟩ = some u0 ∧ (((w1.setCell ⟨g, 0, none⟩ x0).setCell ⟨g, 1, none⟩ x1).setCell ⟨g, 2, none⟩ x2).cell? ⟨b1, o1, none⟩ = some u1 ∧ (((w1.setCell ⟨g, 0, none⟩ x0).setCell ⟨g, 1, none⟩ x1).setCell ⟨g, 2, none⟩ x2).cell? ⟨b2, o2, none⟩ = some u2 ∧ (((w1.setCell ⟨g, 0, none⟩ x0).setCell ⟨g, 1, none⟩ x1).setCell ⟨g, 2, none⟩ x2).cell? ⟨b3, o3, none⟩ = some u3 ∧ (((w1.setCell ⟨g, 0, none⟩ x0).setCell ⟨g, 1, none⟩ x1).setCell ⟨g, 2, none⟩ x2).cell? ⟨b4, o4, none⟩ = some u4 ∧ (((w1.setCell ⟨g, 0, none⟩ x0).setCell ⟨g, 1, none⟩ x1).setCell ⟨g, 2, none⟩ x2).cell? ⟨b5, o5, none⟩ = some u5 ∧ (((w1.setCell ⟨g, 0, none⟩ x0).setCell ⟨g, 1, none⟩ x1).setCell ⟨g, 2, none⟩ x2).cell? ⟨b6, o6, none⟩ = some u6 ∧ (((w1.setCell ⟨g, 0, none⟩ x0).setCell ⟨g, 1, none⟩ x1).setCell ⟨g, 2, none⟩ x2).cell? ⟨b7, o7, none⟩ = some u7 ∧ (((w1.setCell ⟨g, 0, none⟩ x0).setCell ⟨g, 1, none⟩ x1).setCell ⟨g, 2, none⟩ x2).cell? ⟨g, 0, none⟩ = some (was (((w1.setCell ⟨g, 0, none⟩ x0).setCell ⟨g, 1, none⟩ x1).setCell ⟨g, 2, none⟩ x2) g 0) ∧ (((w1.setCell ⟨g, 0, none⟩ x0).setCell ⟨g, 1, none⟩ x1).setCell ⟨g, 2, none⟩ x2).cell? ⟨g, 1, none⟩ = some (was (((w1.setCell ⟨g, 0, none⟩ x0).setCell ⟨g, 1, none⟩ x1).setCell ⟨g, 2, none⟩ x2) g 1) ∧ (((w1.setCell ⟨g, 0, none⟩ x0).setCell ⟨g, 1, none⟩ x1).setCell ⟨g, 2, none⟩ x2).cell? ⟨g, 2, none⟩ = some (was (((w1.setCell ⟨g, 0, none⟩ x0).setCell ⟨g, 1, none⟩ x1).setCell ⟨g, 2, none⟩ x2) g 2) ∧ (((w1.setCell ⟨g, 0, none⟩ x0).setCell ⟨g, 1, none⟩ x1).setCell ⟨g, 2, none⟩ x2).frozen? ⟨g, 0, none⟩ = false ∧ (((w1.setCell ⟨g, 0, none⟩ x0).setCell ⟨g, 1, none⟩ x1).setCell ⟨g, 2, none⟩ x2).frozen? ⟨g, 1, none⟩ = false ∧ (((w1.setCell ⟨g, 0, none⟩ x0).setCell ⟨g, 1, none⟩ x1).setCell ⟨g, 2, none⟩ x2).frozen? ⟨g, 2, none⟩ = false := by
  obtain ⟨_, k0⟩ := set_was (g := g) (i := 0) (u := x0) h.2.2.2.2.2.2.2.2.2.1
  obtain ⟨_, k0⟩ := set_was (g := g) (i := 1) (u := x1) k0
  obtain ⟨_, k0⟩ := set_was (g := g) (i := 2) (u := x2) k0
  obtain ⟨_, k1⟩ := set_was (g := g) (i := 0) (u := x0) h.2.2.2.2.2.2.2.2.2.2.1
  obtain ⟨_, k1⟩ := set_was (g := g) (i := 1) (u := x1) k1
  obtain ⟨_, k1⟩ := set_was (g := g) (i := 2) (u := x2) k1
  obtain ⟨_, k2⟩ := set_was (g := g) (i := 0) (u := x0) h.2.2.2.2.2.2.2.2.2.2.2.1
  obtain ⟨_, k2⟩ := set_was (g := g) (i := 1) (u := x1) k2
  obtain ⟨_, k2⟩ := set_was (g := g) (i := 2) (u := x2) k2
  exact ⟨(((h.1.setCell hg _).setCell hg _).setCell hg _), (set_far (set_far (set_far h.2.1 n0) n0) n0), (set_far (set_far (set_far h.2.2.1 n1) n1) n1), (set_far (set_far (set_far h.2.2.2.1 n2) n2) n2), (set_far (set_far (set_far h.2.2.2.2.1 n3) n3) n3), (set_far (set_far (set_far h.2.2.2.2.2.1 n4) n4) n4), (set_far (set_far (set_far h.2.2.2.2.2.2.1 n5) n5) n5), (set_far (set_far (set_far h.2.2.2.2.2.2.2.1 n6) n6) n6), (set_far (set_far (set_far h.2.2.2.2.2.2.2.2.1 n7) n7) n7), was_some k0, was_some k1, was_some k2, (set_fz (set_fz (set_fz h.2.2.2.2.2.2.2.2.2.2.2.2.1))), (set_fz (set_fz (set_fz h.2.2.2.2.2.2.2.2.2.2.2.2.2.1))), (set_fz (set_fz (set_fz h.2.2.2.2.2.2.2.2.2.2.2.2.2.2)))⟩
theorem cell_before {w : World} {p q : Addr} {v u : Value} (h : (w.setCell p v).cell? q = some u) : ∃ u', w.cell? q = some u' := by
  by_cases e : p = q
  · subst e
    cases hc : w.cell? p with
    | some u' => exact ⟨u', rfl⟩
    | none =>
      exfalso
      simp only [World.setCell, World.cell?, Array.getElem?_modify, if_true] at h
      unfold World.cell? at hc
      cases hb : w.heap[p.block]? with
      | none => rw [hb] at h; simp at h
      | some x =>
        rw [hb] at h hc
        cases x with
        | cells c t f =>
          simp at h hc
          split at h
          · simp_all
          · obtain ⟨hs, h⟩ := h
            have hge := hc hs
            rw [Array.getElem?_eq_none (by simpa using hge)] at h
            cases h
        | _ => simp at h
  · rw [World.cell?_setCell_other _ _ _ _ e] at h
    exact ⟨u, h⟩
/-- A struct of two cells stored into a block: its cells behind the stores. -/
theorem final2 {w : World} {g : Nat} {a b u u' : Value} (h0 : ((w.setCell ⟨g, 0, none⟩ a).setCell ⟨g, 1, none⟩ b).cell? ⟨g, 0, none⟩ = some u) (h1 : ((w.setCell ⟨g, 0, none⟩ a).setCell ⟨g, 1, none⟩ b).cell? ⟨g, 1, none⟩ = some u') :
    (w.setCell ⟨g, 0, none⟩ a).cell? ⟨g, 0, none⟩ = some a ∧ ((w.setCell ⟨g, 0, none⟩ a).setCell ⟨g, 1, none⟩ b).cell? ⟨g, 1, none⟩ = some b := by
  obtain ⟨_, k0⟩ := cell_before h0
  obtain ⟨_, k0⟩ := cell_before k0
  obtain ⟨_, k1⟩ := cell_before h1
  exact ⟨World.cell?_setCell_same _ _ _ k0, World.cell?_setCell_same _ _ _ k1⟩
theorem IsInt.put {w w1 w' : World} {g : Nat} {bi : Bool} {m : Value} {z : Int} (hi : IsInt w1.heap.size w' (.agg #[.bool bi, m]) z) (hg : g < w1.heap.size) (hw : w.heap.size ≤ w1.heap.size) :
    IsInt w.heap.size ((w'.setCell ⟨g, 0, none⟩ (.bool bi)).setCell ⟨g, 1, none⟩ m) (.agg #[.bool bi, m]) z := ((hi.far hg _).far hg _).mono hw


end Big
end Go.Proofs.YtelgknpdiaafaaaGreatDoor
/- Fractions in memory. -/
namespace Go.Proofs.YtelgknpdiaafaaaGreatDoor
namespace Big
open Go.RowKit
/-- v is the fraction p / q, in memory of the call's own. -/
def IsRat (B : Nat) (w : World) (v : Value) (p : Int) (q : Nat) : Prop := ∃ m d, v = .agg #[.bool (decide (p < 0)), m, d] ∧ Own B w m (limbs p.natAbs) ∧ Own B w d (limbs q)
/-- v is the fraction p / q. -/
def ArrRat (w : World) (v : Value) (p : Int) (q : Nat) : Prop := ∃ m d, v = .agg #[.bool (decide (p < 0)), m, d] ∧ Arr w m (limbs p.natAbs) ∧ Arr w d (limbs q)
section
variable {B B' : Nat} {w w' : World} {v : Value} {p : Int} {q : Nat}
theorem IsRat.ext (h : IsRat B w v p q) (hb : Ext w w') : IsRat B w' v p q := by
  obtain ⟨m, d, rfl, h1, h2⟩ := h
  exact ⟨m, d, rfl, h1.ext hb, h2.ext hb⟩
theorem IsRat.mono (h : IsRat B w v p q) (hB : B' ≤ B) : IsRat B' w v p q := by
  obtain ⟨m, d, rfl, h1, h2⟩ := h
  exact ⟨m, d, rfl, h1.mono hB, h2.mono hB⟩
theorem IsRat.far (h : IsRat B w v p q) {a : Addr} (ha : a.block < B) (u : Value) : IsRat B (w.setCell a u) v p q := by
  obtain ⟨m, d, rfl, h1, h2⟩ := h
  exact ⟨m, d, rfl, h1.far ha u, h2.far ha u⟩
theorem IsRat.arr (h : IsRat B w v p q) : ArrRat w v p q := by
  obtain ⟨m, d, rfl, h1, h2⟩ := h
  exact ⟨m, d, rfl, h1.arr, h2.arr⟩
theorem ArrRat.ext (h : ArrRat w v p q) (hb : Ext w w') : ArrRat w' v p q := by
  obtain ⟨m, d, rfl, h1, h2⟩ := h
  exact ⟨m, d, rfl, h1.ext hb, h2.ext hb⟩
theorem ArrRat.shape (h : ArrRat w v p q) : ∃ b n A c n' A' c', v = .agg #[.bool b, .slice A n c, .slice A' n' c'] := by
  obtain ⟨m, d, rfl, h1, h2⟩ := h
  obtain ⟨n, A, c, rfl⟩ := h1.shape
  obtain ⟨n', A', c', rfl⟩ := h2.shape
  exact ⟨_, n, A, c, n', A', c', rfl⟩
theorem IsRat.shape (h : IsRat B w v p q) : ∃ b n A c n' A' c', v = .agg #[.bool b, .slice A n c, .slice A' n' c'] := h.arr.shape
theorem agg3 {a b c a' b' c' : Value} (h : Value.agg #[a, b, c] = .agg #[a', b', c']) : a = a' ∧ b = b' ∧ c = c' := by
  injection h with h
  injection h with h
  injection h with h1 h
  injection h with h2 h
  injection h with h3 h
  exact ⟨h1, h2, h3⟩
theorem ArrRat.sign {bb : Bool} {m d : Value} (h : ArrRat w (.agg #[.bool bb, m, d]) p q) : bb = decide (p < 0) := by
  obtain ⟨m', d', he, h1, h2⟩ := h
  obtain ⟨e1, _, _⟩ := agg3 he
  injection e1
theorem ArrRat.num {bb : Bool} {m d : Value} (h : ArrRat w (.agg #[.bool bb, m, d]) p q) : Arr w m (limbs p.natAbs) := by
  obtain ⟨m', d', he, h1, h2⟩ := h
  obtain ⟨_, e2, _⟩ := agg3 he
  rw [e2]; exact h1
theorem ArrRat.den {bb : Bool} {m d : Value} (h : ArrRat w (.agg #[.bool bb, m, d]) p q) : Arr w d (limbs q) := by
  obtain ⟨m', d', he, h1, h2⟩ := h
  obtain ⟨_, _, e3⟩ := agg3 he
  rw [e3]; exact h2
theorem ArrRat.int {bb : Bool} {m d : Value} (h : ArrRat w (.agg #[.bool bb, m, d]) p q) : ArrInt w (.agg #[.bool bb, m]) p := ⟨m, by rw [h.sign], h.num⟩
theorem IsRat.mk {bb : Bool} {m d : Value} (h : IsInt B w (.agg #[.bool bb, m]) p) (h' : Own B w d (limbs q)) : IsRat B w (.agg #[.bool bb, m, d]) p q := ⟨m, d, by rw [h.sign], h.mag, h'⟩
end
/-- The numerator and the denominator of z / d in lowest terms. -/
def lowN (z : Int) (d : Nat) : Int := sgn (decide (z < 0)) (z.natAbs / Nat.gcd z.natAbs d)
def lowD (z : Int) (d : Nat) : Nat := d / Nat.gcd z.natAbs d
theorem three_set {w : World} {g : Nat} {t : TypeId} {a b c : Value} (h : Blk w g t #[a, b, c]) (a' b' c' : Value) :
    (w.setCell ⟨g, 0, none⟩ a').cell? ⟨g, 0, none⟩ = some a' ∧ ((w.setCell ⟨g, 0, none⟩ a').setCell ⟨g, 1, none⟩ b').cell? ⟨g, 1, none⟩ = some b' ∧ (((w.setCell ⟨g, 0, none⟩ a').setCell ⟨g, 1, none⟩ b').setCell ⟨g, 2, none⟩ c').cell? ⟨g, 2, none⟩ = some c' :=
  ⟨(h.set_ 0 a').cell 0, ((h.set_ 0 a').set_ 1 b').cell 1, (((h.set_ 0 a').set_ 1 b').set_ 2 c').cell 2⟩
theorem IsRat.put {w w1 w' : World} {g : Nat} {bi : Bool} {m d : Value} {p : Int} {q : Nat} (hi : IsRat w1.heap.size w' (.agg #[.bool bi, m, d]) p q) (hg : g < w1.heap.size) (hw : w.heap.size ≤ w1.heap.size) :
    IsRat w.heap.size (((w'.setCell ⟨g, 0, none⟩ (.bool bi)).setCell ⟨g, 1, none⟩ m).setCell ⟨g, 2, none⟩ d) (.agg #[.bool bi, m, d]) p q := (((hi.far hg _).far hg _).far hg _).mono hw
theorem IsRat.zero (B : Nat) (w : World) : IsRat B w (.agg #[.bool false, .slice none 0 0, .slice none 0 0]) 0 0 := ⟨_, _, rfl, Own.none_ _ _, Own.none_ _ _⟩
end Big
end Go.Proofs.YtelgknpdiaafaaaGreatDoor
/- rational.lowest. -/
namespace Go.Proofs.YtelgknpdiaafaaaGreatDoor
namespace Big
open Go.RowKit
set_option maxRecDepth 100000 in
theorem lowestR_any (w : World) (v u : Value) (z : Int) (ys : List Nat) (h : ArrInt w v z) (h' : Arr w u ys) (hn : (limbs z.natAbs).length ≤ 134217728) (hn' : ys.length ≤ 134217728) (hy : val ys ≠ 0) :
    Calls Tryz.prog 56 #[v, u] w fun e w' => ∃ v', e = .returned v' ∧ IsRat w.heap.size w' v' (lowN z (val ys)) (lowD z (val ys)) ∧ Ext w w' := by
  have HA := Lib.hid h
  have HB := Lib.hid h'
  obtain ⟨b, n, A, c, rfl⟩ := h.shape
  have HL := Lib.hid (fun W hx => lowest_any W (.slice A n c) u (limbs z.natAbs) ys (h.mag.ext hx) (h'.ext hx) hn hn' hy)
  rw [val_limbs] at HL
  have HI := Lib.hid (fun W m a => inat_any W b m (limbs (z.natAbs / Nat.gcd z.natAbs (val ys))) a (Nat.le_trans (limbs_div _ _) (by omega)))
  rw [val_limbs] at HI
  have HS := Lib.hid h.sign
  clear h h'
  go_enter Tryz.func56, Tryz.ntmps56
  go_wp2_with fail
  have hb0 := (Blk.new w 55 #[Value.bool b, Value.slice A n c]).alloc (.cells #[Value.bool false, Value.slice none 0 0, Value.slice none 0 0] 57)
  have hb1 := Blk.new (w.alloc (.cells #[Value.bool b, Value.slice A n c] 55)) 57 #[Value.bool false, Value.slice none 0 0, Value.slice none 0 0]
  have hxo := ((Ext.refl w).alloc (.cells #[Value.bool b, Value.slice A n c] 55)).alloc (.cells #[Value.bool false, Value.slice none 0 0, Value.slice none 0 0] 57)
  have hszo : w.heap.size + 1 < ((w.alloc (.cells #[Value.bool b, Value.slice A n c] 55)).alloc (.cells #[Value.bool false, Value.slice none 0 0, Value.slice none 0 0] 57)).heap.size := by simp
  simp only [World.size_alloc] at hb1
  generalize (w.alloc (.cells #[Value.bool b, Value.slice A n c] 55)).alloc (.cells #[Value.bool false, Value.slice none 0 0, Value.slice none 0 0] 57) = wo at *
  refine (HL.out _ hxo).mono ?_
  rintro e w1 ⟨v1, u1, rfl, ho1, hr1, hx1⟩
  have hk0 := hb0.ext hx1
  have hk1 := hb1.ext hx1
  have HO1 := Lib.hid ho1
  have HR1 := Lib.hid hr1
  obtain ⟨n1, A1, c1, rfl⟩ := ho1.shape
  obtain ⟨n2, A2, c2, rfl⟩ := hr1.shape
  obtain ⟨h0, h1, _, _, _⟩ := hk0.two
  have HK1 := Lib.hid hk1
  have HX1 := Lib.hid (hxo.trans hx1)
  have HSZ := Lib.hid hx1.size
  clear hb0 hb1 hx1 ho1 hr1 hk0 hk1 hxo
  go_wp2_with fail
  refine (HI.out _ _ HO1.out.arr).mono ?_
  rintro e w2 ⟨v2, rfl, hi2, hx2⟩
  have HI2 := Lib.hid hi2
  have HR2 := Lib.hid (HR1.out.ext hx2)
  have hk1 := HK1.out.ext hx2
  obtain ⟨b3, n3, A3, c3, rfl⟩ := hi2.shape
  obtain ⟨k0, k1, k2, f0, f1, f2, hgz⟩ := hk1.three
  have HX2 := Lib.hid (HX1.out.trans hx2)
  have HK2 := Lib.hid hk1
  clear hi2 hx2 hk1
  go_wp2_with fail
  obtain ⟨hr0, hr1, hr2⟩ := three_set HK2.out (.bool b3) (.slice A3 n3 c3) (.slice A2 n2 c2)
  refine bodyPost_ret (v := .agg #[.bool b3, .slice A3 n3 c3, .slice A2 n2 c2]) (by simp [results, Tryz.results56, go_sem, hr0, hr1, hr2]) rfl ?_
  have hfin : IsRat wo.heap.size w2 (.agg #[.bool b3, .slice A3 n3 c3, .slice A2 n2 c2]) (lowN z (val ys)) (lowD z (val ys)) := IsRat.mk (by
    have h1 := HI2.out.mono HSZ.out
    rw [HS.out] at h1
    exact h1) HR2.out
  exact ⟨_, rfl, hfin.put hszo (by omega), ((HX2.out.setCell (Nat.le_succ _) _).setCell (Nat.le_succ _) _).setCell (Nat.le_succ _) _⟩
end Big
end Go.Proofs.YtelgknpdiaafaaaGreatDoor
namespace Go.Proofs.YtelgknpdiaafaaaGreatDoor
namespace Big
open Go.RowKit

theorem natural_long (w : World) (l : List UInt8) (h : 20001 < l.length) :
    Calls Tryz.prog 54 #[str l] w fun e w' => e = .returned (.tuple #[.slice none 0 0, .int .i64 7]) ∧ w = w' := by
  have h' : (20001 : Int) < (l.length : Int) := by omega
  clear h
  go_enter Tryz.func54, Tryz.ntmps54
  go_wp2_with fail
  go_ret2
  exact ⟨rfl, rfl⟩

theorem natural_empty (w : World) :
    Calls Tryz.prog 54 #[str []] w fun e w' => e = .returned (.tuple #[.slice none 0 0, .int .i64 6]) ∧ w = w' := by
  go_enter Tryz.func54, Tryz.ntmps54
  go_wp2_with fail
  go_ret2
  exact ⟨rfl, rfl⟩

theorem natural_zero (w : World) (l : List UInt8) (h0 : byteAt l 0 = 48) (h1 : 1 < l.length) (h : l.length ≤ 20001) :
    Calls Tryz.prog 54 #[str l] w fun e w' => e = .returned (.tuple #[.slice none 0 0, .int .i64 6]) ∧ w = w' := by
  have h00 : ((byteAt l 0 : Int) == 48) = true := by rw [h0]; rfl
  have hle : ¬ (20001 : Int) < (l.length : Int) := by omega
  have hne : (l == []) = false := by cases l <;> simp_all
  clear h h0
  go_enter Tryz.func54, Tryz.ntmps54
  go_wp2_with fail
  go_ret2
  exact ⟨rfl, rfl⟩

/-- What decimal.Natural holds after k digits. -/
def NumAt (w0 wr : World) (out : Value) (l : List UInt8) (k j c : Nat) : Prop :=
  ∃ a : Nat, Own w0.heap.size wr out (limbs a) ∧ numOf (l.take k) = a * 10 ^ j + c ∧ a < 10 ^ k ∧ Ext w0 wr

/-- What reading a natural returns. -/
def NatRes (w0 : World) (r : Nat × Nat) (e : Ending) (w' : World) : Prop :=
  ∃ v' : Value, e = .returned (.tuple #[v', .int .i64 (r.2 : Int)]) ∧ Own w0.heap.size w' v' (limbs r.1) ∧ Ext w0 w'

set_option maxHeartbeats 1000000 in
theorem natural_some (w : World) (l : List UInt8) (hne : l ≠ []) (hz : ¬ (byteAt l 0 = 48 ∧ 1 < l.length)) (h : l.length ≤ 20001) (r : Nat × Nat) (hr1 : l.all isDig = true → r = (numOf l, 0)) (hr2 : l.all isDig = false → r = (0, 6)) :
    Calls Tryz.prog 54 #[str l] w (NatRes w r) := by
  have HR1 := Lib.hid hr1
  have HR2 := Lib.hid hr2
  clear hr1 hr2
  have hle : ¬ (20001 : Int) < (l.length : Int) := by omega
  have hne' : (l == []) = false := by cases l <;> simp_all
  have hl0 : 0 < l.length := by cases l <;> simp_all
  have hcase : ((byteAt l 0 : Int) == 48) = false ∨ (((byteAt l 0 : Int) == 48) = true ∧ ¬ (1 : Int) < (l.length : Int)) := by
    by_cases h0 : byteAt l 0 = 48
    · exact .inr ⟨by rw [h0]; rfl, by omega⟩
    · exact .inl (by rw [beq_eq_false_iff_ne]; omega)
  have HL := Lib.hid h
  clear h hne hz
  rcases hcase with h00 | ⟨h00, h11⟩
  all_goals
    go_enter Tryz.func54, Tryz.ntmps54
    go_wp2_with fail
    go_loopw [4, 5, 6, 25] (fun out cv sv i wr => ∃ k j c : Nat, k ≤ l.length ∧ j ≤ 8 ∧ c < 10 ^ j ∧ (k = l.length → j = 0) ∧ i = .int .i64 k ∧ cv = .int .u32 c ∧ sv = .int .u32 ((10 ^ j : Nat) : Int) ∧ (l.take k).all isDig = true ∧ NumAt w wr out l k j c) (fun _ _ _ i _ => l.length - (intOf i).toNat)
    case atStart => exact ⟨0, 0, 0, by omega, by omega, by omega, fun _ => rfl, rfl, rfl, rfl, rfl, 0, Own.none_ _ _, rfl, by omega, Ext.refl _⟩
    case round =>
      obtain ⟨k, j, c, hk, hj, hc, hkl, rfl, rfl, rfl, hall, hN⟩ := hrel
      by_cases hlt : k < l.length
      · have hb := byteAt_lt l k
        have hbe := byteAt_eq l k hlt
        have hdig := isDig_iff l[k]
        rw [← hbe] at hdig
        have hta := take_all l k hlt
        have hnt := numOf_take l k hlt
        rw [← hbe] at hnt
        rw [hall, Bool.true_and] at hta
        have HAF := Lib.hid (fun hf => all_false_of hlt hf)
        have HDIG := Lib.hid hdig
        have HTA := Lib.hid hta
        have HNT := Lib.hid hnt
        clear hbe hdig hta hnt
        obtain ⟨b, hbb⟩ : ∃ b, byteAt l k = b := ⟨_, rfl⟩
        have HBB := Lib.hid hbb
        rw [hbb] at HDIG HNT hb
        have HC10 := Lib.hid hc
        by_cases hd : 48 ≤ b ∧ b ≤ 57
        · have HT1 := Lib.hid (HTA.out.trans (HDIG.out.2 hd))
          obtain ⟨a, hown, hnum, hak, hext⟩ := hN
          have hP8 := ten_pow_bound hj
          have hP9 := ten_pow_9 hj
          have HALL := Lib.hid hall
          have HA10 := Lib.hid hak
          have hll := limbs_len_pow hak
          have HGD := Lib.hid (group_digit (d := b - 48) hnum)
          have HNUM := Lib.hid hnum
          clear hall hak hnum hkl
          have HPS := Lib.hid (show 10 ^ (j + 1) = 10 * 10 ^ j by rw [Nat.pow_succ, Nat.mul_comm])
          obtain ⟨P, hP⟩ : ∃ P, 10 ^ j = P := ⟨_, rfl⟩
          rw [hP] at hc hP8 hP9 HGD HNUM HPS ⊢
          have HP := Lib.hid hP
          clear hP
          have hw10 : IntKind.u32.wrap (10 * (c : Int)) = ((10 * c : Nat) : Int) := by rw [IntWalk.u32_in _ (by omega)]; omega
          obtain ⟨hd1, hd2⟩ := hd
          have e1 : (10 * (c : Int) + ((b : Int) - 48)) = ((10 * c + (b - 48) : Nat) : Int) := by omega
          have e2 : (P : Int) * 10 = ((P * 10 : Nat) : Int) := by omega
          have E1 := Lib.hid e1
          have E2 := Lib.hid e2
          clear e1 e2
          by_cases hflush : j = 8 ∨ k + 1 = l.length
          · have hfl : ((P : Int) * 10 == 1000000000) = true ∨ (((P : Int) * 10 == 1000000000) = false ∧ ((k : Int) == (l.length : Int) - 1) = true) := by
              by_cases h8 : P * 10 = 1000000000
              · exact .inl (by rw [beq_iff_eq]; omega)
              · exact .inr ⟨by rw [beq_eq_false_iff_ne]; omega, by rw [beq_iff_eq]; omega⟩
            have HPR := Lib.hid (psmall_any wr _ (limbs a) (P * 10) (10 * c + (b - 48)) hown.arr (by omega) (by omega) (by omega))
            clear hP9
            have HK := Lib.hid hflush
            clear hflush
            have hnew : numOf (l.take (k + 1)) = a * (P * 10) + (10 * c + (b - 48)) := by rw [HNT.out, HGD.out, Nat.mul_comm P 10]
            have hlt10 := take_all_lt HT1.out (show k + 1 ≤ l.length by omega)
            have HNEW := Lib.hid hnew
            have HLT10 := Lib.hid hlt10
            clear hnew hlt10
            rcases hfl with hfl | ⟨hfl1, hfl2⟩
            all_goals
              go_wp2_with fail
              rw [E1.out, E2.out]
              refine HPR.out.mono ?_
              rintro e w1 ⟨v1, rfl, ho1, hx1⟩
              rw [val_limbs, ← HNEW.out] at ho1
              go_wp2_with fail
              go_roundw
              case rel => exact ⟨k + 1, 0, 0, by omega, by omega, by omega, fun _ => rfl, by go_num, rfl, rfl, HT1.out, _, ho1.mono hext.size, by simp, HLT10.out, hext.trans hx1⟩
              case measure => simp [intOf]; omega
          · have hfl1 : ((P : Int) * 10 == 1000000000) = false := by rw [beq_eq_false_iff_ne]; omega
            have hfl2 : ((k : Int) == (l.length : Int) - 1) = false := by rw [beq_eq_false_iff_ne]; omega
            have hlt10 := take_all_lt HT1.out (show k + 1 ≤ l.length by omega)
            have HLT10 := Lib.hid hlt10
            have hakk : a < 10 ^ (k + 1) := Nat.lt_of_lt_of_le HA10.out (Nat.pow_le_pow_right (by omega) (by omega))
            have HAKK := Lib.hid hakk
            have HNF := Lib.hid hflush
            clear hP9 hlt10 hakk hflush
            go_wp2_with fail
            go_roundw
            case rel =>
              refine ⟨k + 1, j + 1, 10 * c + (b - 48), by omega, by have := HNF.out; omega, by rw [HPS.out]; omega, fun he => absurd (Or.inr he) HNF.out, by go_num, by rw [E1.out], ?_, HT1.out, a, hown, by rw [HNT.out, HGD.out, HPS.out], HAKK.out, hext⟩
              rw [HPS.out, Nat.mul_comm 10 P, E2.out]
            case measure => simp [intOf]; omega
        · have hbad : isDig l[k] = false := by
            rw [← Bool.not_eq_true]
            exact fun ht => hd (HDIG.out.1 ht)
          have HBAD := Lib.hid (HAF.out hbad)
          obtain ⟨a, hown, hnum0, hak0, hext⟩ := hN
          clear hnum0 hak0 hown
          have hor : b < 48 ∨ 57 < b := by omega
          clear hbad hc hkl hall hd hj hk
          generalize 10 ^ j = P at *
          rcases hor with hlo | hlo
          all_goals
            go_wp2_with fail
            go_ret2
            rw [HR2.out HBAD.out]
            exact ⟨_, rfl, Own.none_ _ _, hext⟩
      · obtain rfl : k = l.length := by omega
        obtain ⟨a, hown, hnum, _, hext⟩ := hN
        have hj0 := hkl rfl
        subst hj0
        rw [List.take_of_length_le (Nat.le_refl _)] at hnum hall
        have hc0 : c = 0 := by simpa using hc
        subst hc0
        have hna : numOf l = a := by simpa using hnum
        have HNA := Lib.hid hna
        have HALL := Lib.hid hall
        clear hnum hna hall hc hkl
        go_wp2_with fail
        go_ret2
        rw [HR1.out HALL.out, HNA.out]
        exact ⟨_, rfl, hown, hext⟩

theorem natural_any (w : World) (l : List UInt8) : Calls Tryz.prog 54 #[str l] w (NatRes w (natural l)) := by
  unfold natural
  by_cases h1 : 20001 < l.length
  · rw [if_pos h1]
    refine (natural_long w l h1).mono ?_
    rintro e w' ⟨rfl, rfl⟩
    exact ⟨_, rfl, Own.none_ _ _, Ext.refl _⟩
  · rw [if_neg h1]
    by_cases h2 : l = []
    · subst h2
      rw [if_pos rfl]
      refine (natural_empty w).mono ?_
      rintro e w' ⟨rfl, rfl⟩
      exact ⟨_, rfl, Own.none_ _ _, Ext.refl _⟩
    · rw [if_neg h2]
      have hl0 : 0 < l.length := by cases l <;> simp_all
      have hb : byteAt l 0 = 48 ↔ l[0]? = some 48 := by
        rw [byteAt_eq l 0 hl0, List.getElem?_eq_getElem hl0]
        constructor
        · intro h; exact congrArg some (UInt8.toNat_inj.1 h)
        · intro h; injection h with h; rw [h]; rfl
      by_cases h3 : l[0]? = some 48 ∧ 1 < l.length
      · rw [if_pos h3]
        refine (natural_zero w l (hb.2 h3.1) h3.2 (by omega)).mono ?_
        rintro e w' ⟨rfl, rfl⟩
        exact ⟨_, rfl, Own.none_ _ _, Ext.refl _⟩
      · rw [if_neg h3]
        exact natural_some w l h2 (fun h => h3 ⟨hb.1 h.1, h.2⟩) (by omega) _ (fun h => if_pos h) (fun h => if_neg (by rw [h]; decide))
end Big
end Go.Proofs.YtelgknpdiaafaaaGreatDoor
