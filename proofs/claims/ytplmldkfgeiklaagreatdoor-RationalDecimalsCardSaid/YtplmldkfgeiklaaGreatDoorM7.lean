import Derived.Test.YtplmldkfgeiklaaGreatDoorM6
import Derived.Deep.RegionHeld3
import Derived.Test.YtplmldkfgeiklaaGreatDoorM4
/- Words for a region that draws its order: what its loads read stays behind calls that make memory, and behind the store of its result. Printed by a program. -/
namespace Go.Proofs.YtplmldkfgeiklaaGreatDoor
namespace Big
open Go.RowKit
/-- What a cell holds, whatever that is. -/
@[irreducible] def was (w : World) (g o : Nat) : Value := (w.cell? ⟨g, o, none⟩).getD undef
theorem was_some {w : World} {g o : Nat} {u : Value} (h : w.cell? ⟨g, o, none⟩ = some u) : w.cell? ⟨g, o, none⟩ = some (was w g o) := by
  unfold was; rw [h]; rfl
theorem Ext.keepf {w w' : World} {b o : Nat} {u : Value} (hx : Ext w w') (h : w.cell? ⟨b, o, none⟩ = some u) (hf : w.frozen? ⟨b, o, none⟩ = false) : w'.frozen? ⟨b, o, none⟩ = false := (hx.frozen (World.block_lt_of_cell? w _ h)).trans hf
theorem set_far {w : World} {g i b o : Nat} {u v : Value} (h : w.cell? ⟨b, o, none⟩ = some v) (hne : b ≠ g) : (w.setCell ⟨g, i, none⟩ u).cell? ⟨b, o, none⟩ = some v :=
  (World.cell?_setCell_other w _ _ u (fun e => hne (by injection e with e1 _ _; exact e1.symm))).trans h
theorem set_was {w : World} {g i b o : Nat} {u v : Value} (h : w.cell? ⟨b, o, none⟩ = some v) : ∃ v', (w.setCell ⟨g, i, none⟩ u).cell? ⟨b, o, none⟩ = some v' := by
  obtain ⟨v', hv⟩ := cell?_setCell_some (w := w) (p := ⟨g, i, none⟩) (x := u) (q := ⟨b, o, none⟩) (v := v) h
  exact ⟨v', hv⟩
theorem set_fz {w : World} {g i b o : Nat} {u : Value} (hf : w.frozen? ⟨b, o, none⟩ = false) : (w.setCell ⟨g, i, none⟩ u).frozen? ⟨b, o, none⟩ = false := by
  rw [World.frozen?_setCell]; exact hf

theorem keptS0_2 {w w1 w2 : World} {g  : Nat} (h : Ext w w1 ∧ w1.cell? ⟨g, 0, none⟩ = some (was w1 g 0) ∧ w1.cell? ⟨g, 1, none⟩ = some (was w1 g 1) ∧ w1.frozen? ⟨g, 0, none⟩ = false ∧ w1.frozen? ⟨g, 1, none⟩ = false) (hx : Ext w1 w2) : Ext w w2 ∧ w2.cell? ⟨g, 0, none⟩ = some (was w2 g 0) ∧ w2.cell? ⟨g, 1, none⟩ = some (was w2 g 1) ∧ w2.frozen? ⟨g, 0, none⟩ = false ∧ w2.frozen? ⟨g, 1, none⟩ = false :=
  ⟨h.1.trans hx, was_some (hx.keep h.2.1), was_some (hx.keep h.2.2.1), hx.keepf h.2.1 h.2.2.2.1, hx.keepf h.2.2.1 h.2.2.2.2⟩
theorem keptS0_2_set {w w1 : World} {g  : Nat} {x0 x1 : Value} (h : Ext w w1 ∧ w1.cell? ⟨g, 0, none⟩ = some (was w1 g 0) ∧ w1.cell? ⟨g, 1, none⟩ = some (was w1 g 1) ∧ w1.frozen? ⟨g, 0, none⟩ = false ∧ w1.frozen? ⟨g, 1, none⟩ = false) (hg : w.heap.size ≤ g)  : Ext w ((w1.setCell ⟨g, 0, none⟩ x0).setCell ⟨g, 1, none⟩ x1) ∧ ((w1.setCell ⟨g, 0, none⟩ x0).setCell ⟨g, 1, none⟩ x1).cell? ⟨g, 0, none⟩ = some (was ((w1.setCell ⟨g, 0, none⟩ x0).setCell ⟨g, 1, none⟩ x1) g 0) ∧ ((w1.setCell ⟨g, 0, none⟩ x0).setCell ⟨g, 1, none⟩ x1).cell? ⟨g, 1, none⟩ = some (was ((w1.setCell ⟨g, 0, none⟩ x0).setCell ⟨g, 1, none⟩ x1) g 1) ∧ ((w1.setCell ⟨g, 0, none⟩ x0).setCell ⟨g, 1, none⟩ x1).frozen? ⟨g, 0, none⟩ = false ∧ ((w1.setCell ⟨g, 0, none⟩ x0).setCell ⟨g, 1, none⟩ x1).frozen? ⟨g, 1, none⟩ = false := by
  obtain ⟨_, k0⟩ := set_was (g := g) (i := 0) (u := x0) h.2.1
  obtain ⟨_, k0⟩ := set_was (g := g) (i := 1) (u := x1) k0
  obtain ⟨_, k1⟩ := set_was (g := g) (i := 0) (u := x0) h.2.2.1
  obtain ⟨_, k1⟩ := set_was (g := g) (i := 1) (u := x1) k1
  exact ⟨((h.1.setCell hg _).setCell hg _), was_some k0, was_some k1, (set_fz (set_fz h.2.2.2.1)), (set_fz (set_fz h.2.2.2.2))⟩
theorem keptS1_2 {w w1 w2 : World} {g b0 o0 : Nat} {u0 : Value} (h : Ext w w1 ∧ w1.cell? ⟨b0, o0, none⟩ = some u0 ∧ w1.cell? ⟨g, 0, none⟩ = some (was w1 g 0) ∧ w1.cell? ⟨g, 1, none⟩ = some (was w1 g 1) ∧ w1.frozen? ⟨g, 0, none⟩ = false ∧ w1.frozen? ⟨g, 1, none⟩ = false) (hx : Ext w1 w2) : Ext w w2 ∧ w2.cell? ⟨b0, o0, none⟩ = some u0 ∧ w2.cell? ⟨g, 0, none⟩ = some (was w2 g 0) ∧ w2.cell? ⟨g, 1, none⟩ = some (was w2 g 1) ∧ w2.frozen? ⟨g, 0, none⟩ = false ∧ w2.frozen? ⟨g, 1, none⟩ = false :=
  ⟨h.1.trans hx, hx.keep h.2.1, was_some (hx.keep h.2.2.1), was_some (hx.keep h.2.2.2.1), hx.keepf h.2.2.1 h.2.2.2.2.1, hx.keepf h.2.2.2.1 h.2.2.2.2.2⟩
theorem keptS1_2_set {w w1 : World} {g b0 o0 : Nat} {u0 : Value} {x0 x1 : Value} (h : Ext w w1 ∧ w1.cell? ⟨b0, o0, none⟩ = some u0 ∧ w1.cell? ⟨g, 0, none⟩ = some (was w1 g 0) ∧ w1.cell? ⟨g, 1, none⟩ = some (was w1 g 1) ∧ w1.frozen? ⟨g, 0, none⟩ = false ∧ w1.frozen? ⟨g, 1, none⟩ = false) (hg : w.heap.size ≤ g) (n0 : b0 ≠ g) : Ext w ((w1.setCell ⟨g, 0, none⟩ x0).setCell ⟨g, 1, none⟩ x1) ∧ ((w1.setCell ⟨g, 0, none⟩ x0).setCell ⟨g, 1, none⟩ x1).cell? ⟨b0, o0, none⟩ = some u0 ∧ ((w1.setCell ⟨g, 0, none⟩ x0).setCell ⟨g, 1, none⟩ x1).cell? ⟨g, 0, none⟩ = some (was ((w1.setCell ⟨g, 0, none⟩ x0).setCell ⟨g, 1, none⟩ x1) g 0) ∧ ((w1.setCell ⟨g, 0, none⟩ x0).setCell ⟨g, 1, none⟩ x1).cell? ⟨g, 1, none⟩ = some (was ((w1.setCell ⟨g, 0, none⟩ x0).setCell ⟨g, 1, none⟩ x1) g 1) ∧ ((w1.setCell ⟨g, 0, none⟩ x0).setCell ⟨g, 1, none⟩ x1).frozen? ⟨g, 0, none⟩ = false ∧ ((w1.setCell ⟨g, 0, none⟩ x0).setCell ⟨g, 1, none⟩ x1).frozen? ⟨g, 1, none⟩ = false := by
  obtain ⟨_, k0⟩ := set_was (g := g) (i := 0) (u := x0) h.2.2.1
  obtain ⟨_, k0⟩ := set_was (g := g) (i := 1) (u := x1) k0
  obtain ⟨_, k1⟩ := set_was (g := g) (i := 0) (u := x0) h.2.2.2.1
  obtain ⟨_, k1⟩ := set_was (g := g) (i := 1) (u := x1) k1
  exact ⟨((h.1.setCell hg _).setCell hg _), (set_far (set_far h.2.1 n0) n0), was_some k0, was_some k1, (set_fz (set_fz h.2.2.2.2.1)), (set_fz (set_fz h.2.2.2.2.2))⟩
theorem keptS2_2 {w w1 w2 : World} {g b0 o0 b1 o1 : Nat} {u0 u1 : Value} (h : Ext w w1 ∧ w1.cell? ⟨b0, o0, none⟩ = some u0 ∧ w1.cell? ⟨b1, o1, none⟩ = some u1 ∧ w1.cell? ⟨g, 0, none⟩ = some (was w1 g 0) ∧ w1.cell? ⟨g, 1, none⟩ = some (was w1 g 1) ∧ w1.frozen? ⟨g, 0, none⟩ = false ∧ w1.frozen? ⟨g, 1, none⟩ = false) (hx : Ext w1 w2) : Ext w w2 ∧ w2.cell? ⟨b0, o0, none⟩ = some u0 ∧ w2.cell? ⟨b1, o1, none⟩ = some u1 ∧ w2.cell? ⟨g, 0, none⟩ = some (was w2 g 0) ∧ w2.cell? ⟨g, 1, none⟩ = some (was w2 g 1) ∧ w2.frozen? ⟨g, 0, none⟩ = false ∧ w2.frozen? ⟨g, 1, none⟩ = false :=
  ⟨h.1.trans hx, hx.keep h.2.1, hx.keep h.2.2.1, was_some (hx.keep h.2.2.2.1), was_some (hx.keep h.2.2.2.2.1), hx.keepf h.2.2.2.1 h.2.2.2.2.2.1, hx.keepf h.2.2.2.2.1 h.2.2.2.2.2.2⟩
theorem keptS2_2_set {w w1 : World} {g b0 o0 b1 o1 : Nat} {u0 u1 : Value} {x0 x1 : Value} (h : Ext w w1 ∧ w1.cell? ⟨b0, o0, none⟩ = some u0 ∧ w1.cell? ⟨b1, o1, none⟩ = some u1 ∧ w1.cell? ⟨g, 0, none⟩ = some (was w1 g 0) ∧ w1.cell? ⟨g, 1, none⟩ = some (was w1 g 1) ∧ w1.frozen? ⟨g, 0, none⟩ = false ∧ w1.frozen? ⟨g, 1, none⟩ = false) (hg : w.heap.size ≤ g) (n0 : b0 ≠ g) (n1 : b1 ≠ g) : Ext w ((w1.setCell ⟨g, 0, none⟩ x0).setCell ⟨g, 1, none⟩ x1) ∧ ((w1.setCell ⟨g, 0, none⟩ x0).setCell ⟨g, 1, none⟩ x1).cell? ⟨b0, o0, none⟩ = some u0 ∧ ((w1.setCell ⟨g, 0, none⟩ x0).setCell ⟨g, 1, none⟩ x1).cell? ⟨b1, o1, none⟩ = some u1 ∧ ((w1.setCell ⟨g, 0, none⟩ x0).setCell ⟨g, 1, none⟩ x1).cell? ⟨g, 0, none⟩ = some (was ((w1.setCell ⟨g, 0, none⟩ x0).setCell ⟨g, 1, none⟩ x1) g 0) ∧ ((w1.setCell ⟨g, 0, none⟩ x0).setCell ⟨g, 1, none⟩ x1).cell? ⟨g, 1, none⟩ = some (was ((w1.setCell ⟨g, 0, none⟩ x0).setCell ⟨g, 1, none⟩ x1) g 1) ∧ ((w1.setCell ⟨g, 0, none⟩ x0).setCell ⟨g, 1, none⟩ x1).frozen? ⟨g, 0, none⟩ = false ∧ ((w1.setCell ⟨g, 0, none⟩ x0).setCell ⟨g, 1, none⟩ x1).frozen? ⟨g, 1, none⟩ = false := by
  obtain ⟨_, k0⟩ := set_was (g := g) (i := 0) (u := x0) h.2.2.2.1
  obtain ⟨_, k0⟩ := set_was (g := g) (i := 1) (u := x1) k0
  obtain ⟨_, k1⟩ := set_was (g := g) (i := 0) (u := x0) h.2.2.2.2.1
  obtain ⟨_, k1⟩ := set_was (g := g) (i := 1) (u := x1) k1
  exact ⟨((h.1.setCell hg _).setCell hg _), (set_far (set_far h.2.1 n0) n0), (set_far (set_far h.2.2.1 n1) n1), was_some k0, was_some k1, (set_fz (set_fz h.2.2.2.2.2.1)), (set_fz (set_fz h.2.2.2.2.2.2))⟩
theorem keptS3_2 {w w1 w2 : World} {g b0 o0 b1 o1 b2 o2 : Nat} {u0 u1 u2 : Value} (h : Ext w w1 ∧ w1.cell? ⟨b0, o0, none⟩ = some u0 ∧ w1.cell? ⟨b1, o1, none⟩ = some u1 ∧ w1.cell? ⟨b2, o2, none⟩ = some u2 ∧ w1.cell? ⟨g, 0, none⟩ = some (was w1 g 0) ∧ w1.cell? ⟨g, 1, none⟩ = some (was w1 g 1) ∧ w1.frozen? ⟨g, 0, none⟩ = false ∧ w1.frozen? ⟨g, 1, none⟩ = false) (hx : Ext w1 w2) : Ext w w2 ∧ w2.cell? ⟨b0, o0, none⟩ = some u0 ∧ w2.cell? ⟨b1, o1, none⟩ = some u1 ∧ w2.cell? ⟨b2, o2, none⟩ = some u2 ∧ w2.cell? ⟨g, 0, none⟩ = some (was w2 g 0) ∧ w2.cell? ⟨g, 1, none⟩ = some (was w2 g 1) ∧ w2.frozen? ⟨g, 0, none⟩ = false ∧ w2.frozen? ⟨g, 1, none⟩ = false :=
  ⟨h.1.trans hx, hx.keep h.2.1, hx.keep h.2.2.1, hx.keep h.2.2.2.1, was_some (hx.keep h.2.2.2.2.1), was_some (hx.keep h.2.2.2.2.2.1), hx.keepf h.2.2.2.2.1 h.2.2.2.2.2.2.1, hx.keepf h.2.2.2.2.2.1 h.2.2.2.2.2.2.2⟩
theorem keptS3_2_set {w w1 : World} {g b0 o0 b1 o1 b2 o2 : Nat} {u0 u1 u2 : Value} {x0 x1 : Value} (h : Ext w w1 ∧ w1.cell? ⟨b0, o0, none⟩ = some u0 ∧ w1.cell? ⟨b1, o1, none⟩ = some u1 ∧ w1.cell? ⟨b2, o2, none⟩ = some u2 ∧ w1.cell? ⟨g, 0, none⟩ = some (was w1 g 0) ∧ w1.cell? ⟨g, 1, none⟩ = some (was w1 g 1) ∧ w1.frozen? ⟨g, 0, none⟩ = false ∧ w1.frozen? ⟨g, 1, none⟩ = false) (hg : w.heap.size ≤ g) (n0 : b0 ≠ g) (n1 : b1 ≠ g) (n2 : b2 ≠ g) : Ext w ((w1.setCell ⟨g, 0, none⟩ x0).setCell ⟨g, 1, none⟩ x1) ∧ ((w1.setCell ⟨g, 0, none⟩ x0).setCell ⟨g, 1, none⟩ x1).cell? ⟨b0, o0, none⟩ = some u0 ∧ ((w1.setCell ⟨g, 0, none⟩ x0).setCell ⟨g, 1, none⟩ x1).cell? ⟨b1, o1, none⟩ = some u1 ∧ ((w1.setCell ⟨g, 0, none⟩ x0).setCell ⟨g, 1, none⟩ x1).cell? ⟨b2, o2, none⟩ = some u2 ∧ ((w1.setCell ⟨g, 0, none⟩ x0).setCell ⟨g, 1, none⟩ x1).cell? ⟨g, 0, none⟩ = some (was ((w1.setCell ⟨g, 0, none⟩ x0).setCell ⟨g, 1, none⟩ x1) g 0) ∧ ((w1.setCell ⟨g, 0, none⟩ x0).setCell ⟨g, 1, none⟩ x1).cell? ⟨g, 1, none⟩ = some (was ((w1.setCell ⟨g, 0, none⟩ x0).setCell ⟨g, 1, none⟩ x1) g 1) ∧ ((w1.setCell ⟨g, 0, none⟩ x0).setCell ⟨g, 1, none⟩ x1).frozen? ⟨g, 0, none⟩ = false ∧ ((w1.setCell ⟨g, 0, none⟩ x0).setCell ⟨g, 1, none⟩ x1).frozen? ⟨g, 1, none⟩ = false := by
  obtain ⟨_, k0⟩ := set_was (g := g) (i := 0) (u := x0) h.2.2.2.2.1
  obtain ⟨_, k0⟩ := set_was (g := g) (i := 1) (u := x1) k0
  obtain ⟨_, k1⟩ := set_was (g := g) (i := 0) (u := x0) h.2.2.2.2.2.1
  obtain ⟨_, k1⟩ := set_was (g := g) (i := 1) (u := x1) k1
  exact ⟨((h.1.setCell hg _).setCell hg _), (set_far (set_far h.2.1 n0) n0), (set_far (set_far h.2.2.1 n1) n1), (set_far (set_far h.2.2.2.1 n2) n2), was_some k0, was_some k1, (set_fz (set_fz h.2.2.2.2.2.2.1)), (set_fz (set_fz h.2.2.2.2.2.2.2))⟩
theorem keptS4_2 {w w1 w2 : World} {g b0 o0 b1 o1 b2 o2 b3 o3 : Nat} {u0 u1 u2 u3 : Value} (h : Ext w w1 ∧ w1.cell? ⟨b0, o0, none⟩ = some u0 ∧ w1.cell? ⟨b1, o1, none⟩ = some u1 ∧ w1.cell? ⟨b2, o2, none⟩ = some u2 ∧ w1.cell? ⟨b3, o3, none⟩ = some u3 ∧ w1.cell? ⟨g, 0, none⟩ = some (was w1 g 0) ∧ w1.cell? ⟨g, 1, none⟩ = some (was w1 g 1) ∧ w1.frozen? ⟨g, 0, none⟩ = false ∧ w1.frozen? ⟨g, 1, none⟩ = false) (hx : Ext w1 w2) : Ext w w2 ∧ w2.cell? ⟨b0, o0, none⟩ = some u0 ∧ w2.cell? ⟨b1, o1, none⟩ = some u1 ∧ w2.cell? ⟨b2, o2, none⟩ = some u2 ∧ w2.cell? ⟨b3, o3, none⟩ = some u3 ∧ w2.cell? ⟨g, 0, none⟩ = some (was w2 g 0) ∧ w2.cell? ⟨g, 1, none⟩ = some (was w2 g 1) ∧ w2.frozen? ⟨g, 0, none⟩ = false ∧ w2.frozen? ⟨g, 1, none⟩ = false :=
  ⟨h.1.trans hx, hx.keep h.2.1, hx.keep h.2.2.1, hx.keep h.2.2.2.1, hx.keep h.2.2.2.2.1, was_some (hx.keep h.2.2.2.2.2.1), was_some (hx.keep h.2.2.2.2.2.2.1), hx.keepf h.2.2.2.2.2.1 h.2.2.2.2.2.2.2.1, hx.keepf h.2.2.2.2.2.2.1 h.2.2.2.2.2.2.2.2⟩
theorem keptS4_2_set {w w1 : World} {g b0 o0 b1 o1 b2 o2 b3 o3 : Nat} {u0 u1 u2 u3 : Value} {x0 x1 : Value} (h : Ext w w1 ∧ w1.cell? ⟨b0, o0, none⟩ = some u0 ∧ w1.cell? ⟨b1, o1, none⟩ = some u1 ∧ w1.cell? ⟨b2, o2, none⟩ = some u2 ∧ w1.cell? ⟨b3, o3, none⟩ = some u3 ∧ w1.cell? ⟨g, 0, none⟩ = some (was w1 g 0) ∧ w1.cell? ⟨g, 1, none⟩ = some (was w1 g 1) ∧ w1.frozen? ⟨g, 0, none⟩ = false ∧ w1.frozen? ⟨g, 1, none⟩ = false) (hg : w.heap.size ≤ g) (n0 : b0 ≠ g) (n1 : b1 ≠ g) (n2 : b2 ≠ g) (n3 : b3 ≠ g) : Ext w ((w1.setCell ⟨g, 0, none⟩ x0).setCell ⟨g, 1, none⟩ x1) ∧ ((w1.setCell ⟨g, 0, none⟩ x0).setCell ⟨g, 1, none⟩ x1).cell? ⟨b0, o0, none⟩ = some u0 ∧ ((w1.setCell ⟨g, 0, none⟩ x0).setCell ⟨g, 1, none⟩ x1).cell? ⟨b1, o1, none⟩ = some u1 ∧ ((w1.setCell ⟨g, 0, none⟩ x0).setCell ⟨g, 1, none⟩ x1).cell? ⟨b2, o2, none⟩ = some u2 ∧ ((w1.setCell ⟨g, 0, none⟩ x0).setCell ⟨g, 1, none⟩ x1).cell? ⟨b3, o3, none⟩ = some u3 ∧ ((w1.setCell ⟨g, 0, none⟩ x0).setCell ⟨g, 1, none⟩ x1).cell? ⟨g, 0, none⟩ = some (was ((w1.setCell ⟨g, 0, none⟩ x0).setCell ⟨g, 1, none⟩ x1) g 0) ∧ ((w1.setCell ⟨g, 0, none⟩ x0).setCell ⟨g, 1, none⟩ x1).cell? ⟨g, 1, none⟩ = some (was ((w1.setCell ⟨g, 0, none⟩ x0).setCell ⟨g, 1, none⟩ x1) g 1) ∧ ((w1.setCell ⟨g, 0, none⟩ x0).setCell ⟨g, 1, none⟩ x1).frozen? ⟨g, 0, none⟩ = false ∧ ((w1.setCell ⟨g, 0, none⟩ x0).setCell ⟨g, 1, none⟩ x1).frozen? ⟨g, 1, none⟩ = false := by
  obtain ⟨_, k0⟩ := set_was (g := g) (i := 0) (u := x0) h.2.2.2.2.2.1
  obtain ⟨_, k0⟩ := set_was (g := g) (i := 1) (u := x1) k0
  obtain ⟨_, k1⟩ := set_was (g := g) (i := 0) (u := x0) h.2.2.2.2.2.2.1
  obtain ⟨_, k1⟩ := set_was (g := g) (i := 1) (u := x1) k1
  exact ⟨((h.1.setCell hg _).setCell hg _), (set_far (set_far h.2.1 n0) n0), (set_far (set_far h.2.2.1 n1) n1), (set_far (set_far h.2.2.2.1 n2) n2), (set_far (set_far h.2.2.2.2.1 n3) n3), was_some k0, was_some k1, (set_fz (set_fz h.2.2.2.2.2.2.2.1)), (set_fz (set_fz h.2.2.2.2.2.2.2.2))⟩
theorem keptS5_2 {w w1 w2 : World} {g b0 o0 b1 o1 b2 o2 b3 o3 b4 o4 : Nat} {u0 u1 u2 u3 u4 : Value} (h : Ext w w1 ∧ w1.cell? ⟨b0, o0, none⟩ = some u0 ∧ w1.cell? ⟨b1, o1, none⟩ = some u1 ∧ w1.cell? ⟨b2, o2, none⟩ = some u2 ∧ w1.cell? ⟨b3, o3, none⟩ = some u3 ∧ w1.cell? ⟨b4, o4, none⟩ = some u4 ∧ w1.cell? ⟨g, 0, none⟩ = some (was w1 g 0) ∧ w1.cell? ⟨g, 1, none⟩ = some (was w1 g 1) ∧ w1.frozen? ⟨g, 0, none⟩ = false ∧ w1.frozen? ⟨g, 1, none⟩ = false) (hx : Ext w1 w2) : Ext w w2 ∧ w2.cell? ⟨b0, o0, none⟩ = some u0 ∧ w2.cell? ⟨b1, o1, none⟩ = some u1 ∧ w2.cell? ⟨b2, o2, none⟩ = some u2 ∧ w2.cell? ⟨b3, o3, none⟩ = some u3 ∧ w2.cell? ⟨b4, o4, none⟩ = some u4 ∧ w2.cell? ⟨g, 0, none⟩ = some (was w2 g 0) ∧ w2.cell? ⟨g, 1, none⟩ = some (was w2 g 1) ∧ w2.frozen? ⟨g, 0, none⟩ = false ∧ w2.frozen? ⟨g, 1, none⟩ = false :=
  ⟨h.1.trans hx, hx.keep h.2.1, hx.keep h.2.2.1, hx.keep h.2.2.2.1, hx.keep h.2.2.2.2.1, hx.keep h.2.2.2.2.2.1, was_some (hx.keep h.2.2.2.2.2.2.1), was_some (hx.keep h.2.2.2.2.2.2.2.1), hx.keepf h.2.2.2.2.2.2.1 h.2.2.2.2.2.2.2.2.1, hx.keepf h.2.2.2.2.2.2.2.1 h.2.2.2.2.2.2.2.2.2⟩
theorem keptS5_2_set {w w1 : World} {g b0 o0 b1 o1 b2 o2 b3 o3 b4 o4 : Nat} {u0 u1 u2 u3 u4 : Value} {x0 x1 : Value} (h : Ext w w1 ∧ w1.cell? ⟨b0, o0, none⟩ = some u0 ∧ w1.cell? ⟨b1, o1, none⟩ = some u1 ∧ w1.cell? ⟨b2, o2, none⟩ = some u2 ∧ w1.cell? ⟨b3, o3, none⟩ = some u3 ∧ w1.cell? ⟨b4, o4, none⟩ = some u4 ∧ w1.cell? ⟨g, 0, none⟩ = some (was w1 g 0) ∧ w1.cell? ⟨g, 1, none⟩ = some (was w1 g 1) ∧ w1.frozen? ⟨g, 0, none⟩ = false ∧ w1.frozen? ⟨g, 1, none⟩ = false) (hg : w.heap.size ≤ g) (n0 : b0 ≠ g) (n1 : b1 ≠ g) (n2 : b2 ≠ g) (n3 : b3 ≠ g) (n4 : b4 ≠ g) : Ext w ((w1.setCell ⟨g, 0, none⟩ x0).setCell ⟨g, 1, none⟩ x1) ∧ ((w1.setCell ⟨g, 0, none⟩ x0).setCell ⟨g, 1, none⟩ x1).cell? ⟨b0, o0, none⟩ = some u0 ∧ ((w1.setCell ⟨g, 0, none⟩ x0).setCell ⟨g, 1, none⟩ x1).cell? ⟨b1, o1, none⟩ = some u1 ∧ ((w1.setCell ⟨g, 0, none⟩ x0).setCell ⟨g, 1, none⟩ x1).cell? ⟨b2, o2, none⟩ = some u2 ∧ ((w1.setCell ⟨g, 0, none⟩ x0).setCell ⟨g, 1, none⟩ x1).cell? ⟨b3, o3, none⟩ = some u3 ∧ ((w1.setCell ⟨g, 0, none⟩ x0).setCell ⟨g, 1, none⟩ x1).cell? ⟨b4, o4, none⟩ = some u4 ∧ ((w1.setCell ⟨g, 0, none⟩ x0).setCell ⟨g, 1, none⟩ x1).cell? ⟨g, 0, none⟩ = some (was ((w1.setCell ⟨g, 0, none⟩ x0).setCell ⟨g, 1, none⟩ x1) g 0) ∧ ((w1.setCell ⟨g, 0, none⟩ x0).setCell ⟨g, 1, none⟩ x1).cell? ⟨g, 1, none⟩ = some (was ((w1.setCell ⟨g, 0, none⟩ x0).setCell ⟨g, 1, none⟩ x1) g 1) ∧ ((w1.setCell ⟨g, 0, none⟩ x0).setCell ⟨g, 1, none⟩ x1).frozen? ⟨g, 0, none⟩ = false ∧ ((w1.setCell ⟨g, 0, none⟩ x0).setCell ⟨g, 1, none⟩ x1).frozen? ⟨g, 1, none⟩ = false := by
  obtain ⟨_, k0⟩ := set_was (g := g) (i := 0) (u := x0) h.2.2.2.2.2.2.1
  obtain ⟨_, k0⟩ := set_was (g := g) (i := 1) (u := x1) k0
  obtain ⟨_, k1⟩ := set_was (g := g) (i := 0) (u := x0) h.2.2.2.2.2.2.2.1
  obtain ⟨_, k1⟩ := set_was (g := g) (i := 1) (u := x1) k1
  exact ⟨((h.1.setCell hg _).setCell hg _), (set_far (set_far h.2.1 n0) n0), (set_far (set_far h.2.2.1 n1) n1), (set_far (set_far h.2.2.2.1 n2) n2), (set_far (set_far h.2.2.2.2.1 n3) n3), (set_far (set_far h.2.2.2.2.2.1 n4) n4), was_some k0, was_some k1, (set_fz (set_fz h.2.2.2.2.2.2.2.2.1)), (set_fz (set_fz h.2.2.2.2.2.2.2.2.2))⟩
theorem keptS6_2 {w w1 w2 : World} {g b0 o0 b1 o1 b2 o2 b3 o3 b4 o4 b5 o5 : Nat} {u0 u1 u2 u3 u4 u5 : Value} (h : Ext w w1 ∧ w1.cell? ⟨b0, o0, none⟩ = some u0 ∧ w1.cell? ⟨b1, o1, none⟩ = some u1 ∧ w1.cell? ⟨b2, o2, none⟩ = some u2 ∧ w1.cell? ⟨b3, o3, none⟩ = some u3 ∧ w1.cell? ⟨b4, o4, none⟩ = some u4 ∧ w1.cell? ⟨b5, o5, none⟩ = some u5 ∧ w1.cell? ⟨g, 0, none⟩ = some (was w1 g 0) ∧ w1.cell? ⟨g, 1, none⟩ = some (was w1 g 1) ∧ w1.frozen? ⟨g, 0, none⟩ = false ∧ w1.frozen? ⟨g, 1, none⟩ = false) (hx : Ext w1 w2) : Ext w w2 ∧ w2.cell? ⟨b0, o0, none⟩ = some u0 ∧ w2.cell? ⟨b1, o1, none⟩ = some u1 ∧ w2.cell? ⟨b2, o2, none⟩ = some u2 ∧ w2.cell? ⟨b3, o3, none⟩ = some u3 ∧ w2.cell? ⟨b4, o4, none⟩ = some u4 ∧ w2.cell? ⟨b5, o5, none⟩ = some u5 ∧ w2.cell? ⟨g, 0, none⟩ = some (was w2 g 0) ∧ w2.cell? ⟨g, 1, none⟩ = some (was w2 g 1) ∧ w2.frozen? ⟨g, 0, none⟩ = false ∧ w2.frozen? ⟨g, 1, none⟩ = false :=
  ⟨h.1.trans hx, hx.keep h.2.1, hx.keep h.2.2.1, hx.keep h.2.2.2.1, hx.keep h.2.2.2.2.1, hx.keep h.2.2.2.2.2.1, hx.keep h.2.2.2.2.2.2.1, was_some (hx.keep h.2.2.2.2.2.2.2.1), was_some (hx.keep h.2.2.2.2.2.2.2.2.1), hx.keepf h.2.2.2.2.2.2.2.1 h.2.2.2.2.2.2.2.2.2.1, hx.keepf h.2.2.2.2.2.2.2.2.1 h.2.2.2.2.2.2.2.2.2.2⟩
theorem keptS6_2_set {w w1 : World} {g b0 o0 b1 o1 b2 o2 b3 o3 b4 o4 b5 o5 : Nat} {u0 u1 u2 u3 u4 u5 : Value} {x0 x1 : Value} (h : Ext w w1 ∧ w1.cell? ⟨b0, o0, none⟩ = some u0 ∧ w1.cell? ⟨b1, o1, none⟩ = some u1 ∧ w1.cell? ⟨b2, o2, none⟩ = some u2 ∧ w1.cell? ⟨b3, o3, none⟩ = some u3 ∧ w1.cell? ⟨b4, o4, none⟩ = some u4 ∧ w1.cell? ⟨b5, o5, none⟩ = some u5 ∧ w1.cell? ⟨g, 0, none⟩ = some (was w1 g 0) ∧ w1.cell? ⟨g, 1, none⟩ = some (was w1 g 1) ∧ w1.frozen? ⟨g, 0, none⟩ = false ∧ w1.frozen? ⟨g, 1, none⟩ = false) (hg : w.heap.size ≤ g) (n0 : b0 ≠ g) (n1 : b1 ≠ g) (n2 : b2 ≠ g) (n3 : b3 ≠ g) (n4 : b4 ≠ g) (n5 : b5 ≠ g) : Ext w ((w1.setCell ⟨g, 0, none⟩ x0).setCell ⟨g, 1, none⟩ x1) ∧ ((w1.setCell ⟨g, 0, none⟩ x0).setCell ⟨g, 1, none⟩ x1).cell? ⟨b0, o0, none⟩ = some u0 ∧ ((w1.setCell ⟨g, 0, none⟩ x0).setCell ⟨g, 1, none⟩ x1).cell? ⟨b1, o1, none⟩ = some u1 ∧ ((w1.setCell ⟨g, 0, none⟩ x0).setCell ⟨g, 1, none⟩ x1).cell? ⟨b2, o2, none⟩ = some u2 ∧ ((w1.setCell ⟨g, 0, none⟩ x0).setCell ⟨g, 1, none⟩ x1).cell? ⟨b3, o3, none⟩ = some u3 ∧ ((w1.setCell ⟨g, 0, none⟩ x0).setCell ⟨g, 1, none⟩ x1).cell? ⟨b4, o4, none⟩ = some u4 ∧ ((w1.setCell ⟨g, 0, none⟩ x0).setCell ⟨g, 1, none⟩ x1).cell? ⟨b5, o5, none⟩ = some u5 ∧ ((w1.setCell ⟨g, 0, none⟩ x0).setCell ⟨g, 1, none⟩ x1).cell? ⟨g, 0, none⟩ = some (was ((w1.setCell ⟨g, 0, none⟩ x0).setCell ⟨g, 1, none⟩ x1) g 0) ∧ ((w1.setCell ⟨g, 0, none⟩ x0).setCell ⟨g, 1, none⟩ x1).cell? ⟨g, 1, none⟩ = some (was ((w1.setCell ⟨g, 0, none⟩ x0).setCell ⟨g, 1, none⟩ x1) g 1) ∧ ((w1.setCell ⟨g, 0, none⟩ x0).setCell ⟨g, 1, none⟩ x1).frozen? ⟨g, 0, none⟩ = false ∧ ((w1.setCell ⟨g, 0, none⟩ x0).setCell ⟨g, 1, none⟩ x1).frozen? ⟨g, 1, none⟩ = false := by
  obtain ⟨_, k0⟩ := set_was (g := g) (i := 0) (u := x0) h.2.2.2.2.2.2.2.1
  obtain ⟨_, k0⟩ := set_was (g := g) (i := 1) (u := x1) k0
  obtain ⟨_, k1⟩ := set_was (g := g) (i := 0) (u := x0) h.2.2.2.2.2.2.2.2.1
  obtain ⟨_, k1⟩ := set_was (g := g) (i := 1) (u := x1) k1
  exact ⟨((h.1.setCell hg _).setCell hg _), (set_far (set_far h.2.1 n0) n0), (set_far (set_far h.2.2.1 n1) n1), (set_far (set_far h.2.2.2.1 n2) n2), (set_far (set_far h.2.2.2.2.1 n3) n3), (set_far (set_far h.2.2.2.2.2.1 n4) n4), (set_far (set_far h.2.2.2.2.2.2.1 n5) n5), was_some k0, was_some k1, (set_fz (set_fz h.2.2.2.2.2.2.2.2.2.1)), (set_fz (set_fz h.2.2.2.2.2.2.2.2.2.2))⟩
theorem keptS7_2 {w w1 w2 : World} {g b0 o0 b1 o1 b2 o2 b3 o3 b4 o4 b5 o5 b6 o6 : Nat} {u0 u1 u2 u3 u4 u5 u6 : Value} (h : Ext w w1 ∧ w1.cell? ⟨b0, o0, none⟩ = some u0 ∧ w1.cell? ⟨b1, o1, none⟩ = some u1 ∧ w1.cell? ⟨b2, o2, none⟩ = some u2 ∧ w1.cell? ⟨b3, o3, none⟩ = some u3 ∧ w1.cell? ⟨b4, o4, none⟩ = some u4 ∧ w1.cell? ⟨b5, o5, none⟩ = some u5 ∧ w1.cell? ⟨b6, o6, none⟩ = some u6 ∧ w1.cell? ⟨g, 0, none⟩ = some (was w1 g 0) ∧ w1.cell? ⟨g, 1, none⟩ = some (was w1 g 1) ∧ w1.frozen? ⟨g, 0, none⟩ = false ∧ w1.frozen? ⟨g, 1, none⟩ = false) (hx : Ext w1 w2) : Ext w w2 ∧ w2.cell? ⟨b0, o0, none⟩ = some u0 ∧ w2.cell? ⟨b1, o1, none⟩ = some u1 ∧ w2.cell? ⟨b2, o2, none⟩ = some u2 ∧ w2.cell? ⟨b3, o3, none⟩ = some u3 ∧ w2.cell? ⟨b4, o4, none⟩ = some u4 ∧ w2.cell? ⟨b5, o5, none⟩ = some u5 ∧ w2.cell? ⟨b6, o6, none⟩ = some u6 ∧ w2.cell? ⟨g, 0, none⟩ = some (was w2 g 0) ∧ w2.cell? ⟨g, 1, none⟩ = some (was w2 g 1) ∧ w2.frozen? ⟨g, 0, none⟩ = false ∧ w2.frozen? ⟨g, 1, none⟩ = false :=
  ⟨h.1.trans hx, hx.keep h.2.1, hx.keep h.2.2.1, hx.keep h.2.2.2.1, hx.keep h.2.2.2.2.1, hx.keep h.2.2.2.2.2.1, hx.keep h.2.2.2.2.2.2.1, hx.keep h.2.2.2.2.2.2.2.1, was_some (hx.keep h.2.2.2.2.2.2.2.2.1), was_some (hx.keep h.2.2.2.2.2.2.2.2.2.1), hx.keepf h.2.2.2.2.2.2.2.2.1 h.2.2.2.2.2.2.2.2.2.2.1, hx.keepf h.2.2.2.2.2.2.2.2.2.1 h.2.2.2.2.2.2.2.2.2.2.2⟩
theorem keptS7_2_set {w w1 : World} {g b0 o0 b1 o1 b2 o2 b3 o3 b4 o4 b5 o5 b6 o6 : Nat} {u0 u1 u2 u3 u4 u5 u6 : Value} {x0 x1 : Value} (h : Ext w w1 ∧ w1.cell? ⟨b0, o0, none⟩ = some u0 ∧ w1.cell? ⟨b1, o1, none⟩ = some u1 ∧ w1.cell? ⟨b2, o2, none⟩ = some u2 ∧ w1.cell? ⟨b3, o3, none⟩ = some u3 ∧ w1.cell? ⟨b4, o4, none⟩ = some u4 ∧ w1.cell? ⟨b5, o5, none⟩ = some u5 ∧ w1.cell? ⟨b6, o6, none⟩ = some u6 ∧ w1.cell? ⟨g, 0, none⟩ = some (was w1 g 0) ∧ w1.cell? ⟨g, 1, none⟩ = some (was w1 g 1) ∧ w1.frozen? ⟨g, 0, none⟩ = false ∧ w1.frozen? ⟨g, 1, none⟩ = false) (hg : w.heap.size ≤ g) (n0 : b0 ≠ g) (n1 : b1 ≠ g) (n2 : b2 ≠ g) (n3 : b3 ≠ g) (n4 : b4 ≠ g) (n5 : b5 ≠ g) (n6 : b6 ≠ g) : Ext w ((w1.setCell ⟨g, 0, none⟩ x0).setCell ⟨g, 1, none⟩ x1) ∧ ((w1.setCell ⟨g, 0, none⟩ x0).setCell ⟨g, 1, none⟩ x1).cell? ⟨b0, o0, none⟩ = some u0 ∧ ((w1.setCell ⟨g, 0, none⟩ x0).setCell ⟨g, 1, none⟩ x1).cell? ⟨b1, o1, none⟩ = some u1 ∧ ((w1.setCell ⟨g, 0, none⟩ x0).setCell ⟨g, 1, none⟩ x1).cell? ⟨b2, o2, none⟩ = some u2 ∧ ((w1.setCell ⟨g, 0, none⟩ x0).setCell ⟨g, 1, none⟩ x1).cell? ⟨b3, o3, none⟩ = some u3 ∧ ((w1.setCell ⟨g, 0, none⟩ x0).setCell ⟨g, 1, none⟩ x1).cell? ⟨b4, o4, none⟩ = some u4 ∧ ((w1.setCell ⟨g, 0, none⟩ x0).setCell ⟨g, 1, none⟩ x1).cell? ⟨b5, o5, none⟩ = some u5 ∧ ((w1.setCell ⟨g, 0, none⟩ x0).setCell ⟨g, 1, none⟩ x1).cell? ⟨b6, o6, none⟩ = some u6 ∧ ((w1.setCell ⟨g, 0, none⟩ x0).setCell ⟨g, 1, none⟩ x1).cell? ⟨g, 0, none⟩ = some (was ((w1.setCell ⟨g, 0, none⟩ x0).setCell ⟨g, 1, none⟩ x1) g 0) ∧ ((w1.setCell ⟨g, 0, none⟩ x0).setCell ⟨g, 1, none⟩ x1).cell? ⟨g, 1, none⟩ = some (was ((w1.setCell ⟨g, 0, none⟩ x0).setCell ⟨g, 1, none⟩ x1) g 1) ∧ ((w1.setCell ⟨g, 0, none⟩ x0).setCell ⟨g, 1, none⟩ x1).frozen? ⟨g, 0, none⟩ = false ∧ ((w1.setCell ⟨g, 0, none⟩ x0).setCell ⟨g, 1, none⟩ x1).frozen? ⟨g, 1, none⟩ = false := by
  obtain ⟨_, k0⟩ := set_was (g := g) (i := 0) (u := x0) h.2.2.2.2.2.2.2.2.1
  obtain ⟨_, k0⟩ := set_was (g := g) (i := 1) (u := x1) k0
  obtain ⟨_, k1⟩ := set_was (g := g) (i := 0) (u := x0) h.2.2.2.2.2.2.2.2.2.1
  obtain ⟨_, k1⟩ := set_was (g := g) (i := 1) (u := x1) k1
  exact ⟨((h.1.setCell hg _).setCell hg _), (set_far (set_far h.2.1 n0) n0), (set_far (set_far h.2.2.1 n1) n1), (set_far (set_far h.2.2.2.1 n2) n2), (set_far (set_far h.2.2.2.2.1 n3) n3), (set_far (set_far h.2.2.2.2.2.1 n4) n4), (set_far (set_far h.2.2.2.2.2.2.1 n5) n5), (set_far (set_far h.2.2.2.2.2.2.2.1 n6) n6), was_some k0, was_some k1, (set_fz (set_fz h.2.2.2.2.2.2.2.2.2.2.1)), (set_fz (set_fz h.2.2.2.2.2.2.2.2.2.2.2))⟩
theorem keptS8_2 {w w1 w2 : World} {g b0 o0 b1 o1 b2 o2 b3 o3 b4 o4 b5 o5 b6 o6 b7 o7 : Nat} {u0 u1 u2 u3 u4 u5 u6 u7 : Value} (h : Ext w w1 ∧ w1.cell? ⟨b0, o0, none⟩ = some u0 ∧ w1.cell? ⟨b1, o1, none⟩ = some u1 ∧ w1.cell? ⟨b2, o2, none⟩ = some u2 ∧ w1.cell? ⟨b3, o3, none⟩ = some u3 ∧ w1.cell? ⟨b4, o4, none⟩ = some u4 ∧ w1.cell? ⟨b5, o5, none⟩ = some u5 ∧ w1.cell? ⟨b6, o6, none⟩ = some u6 ∧ w1.cell? ⟨b7, o7, none⟩ = some u7 ∧ w1.cell? ⟨g, 0, none⟩ = some (was w1 g 0) ∧ w1.cell? ⟨g, 1, none⟩ = some (was w1 g 1) ∧ w1.frozen? ⟨g, 0, none⟩ = false ∧ w1.frozen? ⟨g, 1, none⟩ = false) (hx : Ext w1 w2) : Ext w w2 ∧ w2.cell? ⟨b0, o0, none⟩ = some u0 ∧ w2.cell? ⟨b1, o1, none⟩ = some u1 ∧ w2.cell? ⟨b2, o2, none⟩ = some u2 ∧ w2.cell? ⟨b3, o3, none⟩ = some u3 ∧ w2.cell? ⟨b4, o4, none⟩ = some u4 ∧ w2.cell? ⟨b5, o5, none⟩ = some u5 ∧ w2.cell? ⟨b6, o6, none⟩ = some u6 ∧ w2.cell? ⟨b7, o7, none⟩ = some u7 ∧ w2.cell? ⟨g, 0, none⟩ = some (was w2 g 0) ∧ w2.cell? ⟨g, 1, none⟩ = some (was w2 g 1) ∧ w2.frozen? ⟨g, 0, none⟩ = false ∧ w2.frozen? ⟨g, 1, none⟩ = false :=
  ⟨h.1.trans hx, hx.keep h.2.1, hx.keep h.2.2.1, hx.keep h.2.2.2.1, hx.keep h.2.2.2.2.1, hx.keep h.2.2.2.2.2.1, hx.keep h.2.2.2.2.2.2.1, hx.keep h.2.2.2.2.2.2.2.1, hx.keep h.2.2.2.2.2.2.2.2.1, was_some (hx.keep h.2.2.2.2.2.2.2.2.2.1), was_some (hx.keep h.2.2.2.2.2.2.2.2.2.2.1), hx.keepf h.2.2.2.2.2.2.2.2.2.1 h.2.2.2.2.2.2.2.2.2.2.2.1, hx.keepf h.2.2.2.2.2.2.2.2.2.2.1 h.2.2.2.2.2.2.2.2.2.2.2.2⟩
theorem keptS8_2_set {w w1 : World} {g b0 o0 b1 o1 b2 o2 b3 o3 b4 o4 b5 o5 b6 o6 b7 o7 : Nat} {u0 u1 u2 u3 u4 u5 u6 u7 : Value} {x0 x1 : Value} (h : Ext w w1 ∧ w1.cell? ⟨b0, o0, none⟩ = some u0 ∧ w1.cell? ⟨b1, o1, none⟩ = some u1 ∧ w1.cell? ⟨b2, o2, none⟩ = some u2 ∧ w1.cell? ⟨b3, o3, none⟩ = some u3 ∧ w1.cell? ⟨b4, o4, none⟩ = some u4 ∧ w1.cell? ⟨b5, o5, none⟩ = some u5 ∧ w1.cell? ⟨b6, o6, none⟩ = some u6 ∧ w1.cell? ⟨b7, o7, none⟩ = some u7 ∧ w1.cell? ⟨g, 0, none⟩ = some (was w1 g 0) ∧ w1.cell? ⟨g, 1, none⟩ = some (was w1 g 1) ∧ w1.frozen? ⟨g, 0, none⟩ = false ∧ w1.frozen? ⟨g, 1, none⟩ = false) (hg : w.heap.size ≤ g) (n0 : b0 ≠ g) (n1 : b1 ≠ g) (n2 : b2 ≠ g) (n3 : b3 ≠ g) (n4 : b4 ≠ g) (n5 : b5 ≠ g) (n6 : b6 ≠ g) (n7 : b7 ≠ g) : Ext w ((w1.setCell ⟨g, 0, none⟩ x0).setCell ⟨g, 1, none⟩ x1) ∧ ((w1.setCell ⟨g, 0, none⟩ x0).setCell ⟨g, 1, none⟩ x1).cell? ⟨b0, o0, none⟩ = some u0 ∧ ((w1.setCell ⟨g, 0, none⟩ x0).setCell ⟨g, 1, none⟩ x1).cell? ⟨b1, o1, none⟩ = some u1 ∧ ((w1.setCell ⟨g, 0, none⟩ x0).setCell ⟨g, 1, none⟩ x1).cell? ⟨b2, o2, none⟩ = some u2 ∧ ((w1.setCell ⟨g, 0, none⟩ x0).setCell ⟨g, 1, none⟩ x1).cell? ⟨b3, o3, none⟩ = some u3 ∧ ((w1.setCell ⟨g, 0, none⟩ x0).setCell ⟨g, 1, none⟩ x1).cell? ⟨b4, o4, none⟩ = some u4 ∧ ((w1.setCell ⟨g, 0, none⟩ x0).setCell ⟨g, 1, none⟩ x1).cell? ⟨b5, o5, none⟩ = some u5 ∧ ((w1.setCell ⟨g, 0, none⟩ x0).setCell ⟨g, 1, none⟩ x1).cell? ⟨b6, o6, none⟩ = some u6 ∧ ((w1.setCell ⟨g, 0, none⟩ x0).setCell ⟨g, 1, none⟩ x1).cell? ⟨b7, o7, none⟩ = some u7 ∧ ((w1.setCell ⟨g, 0, none⟩ x0).setCell ⟨g, 1, none⟩ x1).cell? ⟨g, 0, none⟩ = some (was ((w1.setCell ⟨g, 0, none⟩ x0).setCell ⟨g, 1, none⟩ x1) g 0) ∧ ((w1.setCell ⟨g, 0, none⟩ x0).setCell ⟨g, 1, none⟩ x1).cell? ⟨g, 1, none⟩ = some (was ((w1.setCell ⟨g, 0, none⟩ x0).setCell ⟨g, 1, none⟩ x1) g 1) ∧ ((w1.setCell ⟨g, 0, none⟩ x0).setCell ⟨g, 1, none⟩ x1).frozen? ⟨g, 0, none⟩ = false ∧ ((w1.setCell ⟨g, 0, none⟩ x0).setCell ⟨g, 1, none⟩ x1).frozen? ⟨g, 1, none⟩ = false := by
  obtain ⟨_, k0⟩ := set_was (g := g) (i := 0) (u := x0) h.2.2.2.2.2.2.2.2.2.1
  obtain ⟨_, k0⟩ := set_was (g := g) (i := 1) (u := x1) k0
  obtain ⟨_, k1⟩ := set_was (g := g) (i := 0) (u := x0) h.2.2.2.2.2.2.2.2.2.2.1
  obtain ⟨_, k1⟩ := set_was (g := g) (i := 1) (u := x1) k1
  exact ⟨((h.1.setCell hg _).setCell hg _), (set_far (set_far h.2.1 n0) n0), (set_far (set_far h.2.2.1 n1) n1), (set_far (set_far h.2.2.2.1 n2) n2), (set_far (set_far h.2.2.2.2.1 n3) n3), (set_far (set_far h.2.2.2.2.2.1 n4) n4), (set_far (set_far h.2.2.2.2.2.2.1 n5) n5), (set_far (set_far h.2.2.2.2.2.2.2.1 n6) n6), (set_far (set_far h.2.2.2.2.2.2.2.2.1 n7) n7), was_some k0, was_some k1, (set_fz (set_fz h.2.2.2.2.2.2.2.2.2.2.2.1)), (set_fz (set_fz h.2.2.2.2.2.2.2.2.2.2.2.2))⟩
theorem keptS0_3 {w w1 w2 : World} {g  : Nat} (h : Ext w w1 ∧ w1.cell? ⟨g, 0, none⟩ = some (was w1 g 0) ∧ w1.cell? ⟨g, 1, none⟩ = some (was w1 g 1) ∧ w1.cell? ⟨g, 2, none⟩ = some (was w1 g 2) ∧ w1.frozen? ⟨g, 0, none⟩ = false ∧ w1.frozen? ⟨g, 1, none⟩ = false ∧ w1.frozen? ⟨g, 2, none⟩ = false) (hx : Ext w1 w2) : Ext w w2 ∧ w2.cell? ⟨g, 0, none⟩ = some (was w2 g 0) ∧ w2.cell? ⟨g, 1, none⟩ = some (was w2 g 1) ∧ w2.cell? ⟨g, 2, none⟩ = some (was w2 g 2) ∧ w2.frozen? ⟨g, 0, none⟩ = false ∧ w2.frozen? ⟨g, 1, none⟩ = false ∧ w2.frozen? ⟨g, 2, none⟩ = false :=
  ⟨h.1.trans hx, was_some (hx.keep h.2.1), was_some (hx.keep h.2.2.1), was_some (hx.keep h.2.2.2.1), hx.keepf h.2.1 h.2.2.2.2.1, hx.keepf h.2.2.1 h.2.2.2.2.2.1, hx.keepf h.2.2.2.1 h.2.2.2.2.2.2⟩
theorem keptS0_3_set {w w1 : World} {g  : Nat} {x0 x1 x2 : Value} (h : Ext w w1 ∧ w1.cell? ⟨g, 0, none⟩ = some (was w1 g 0) ∧ w1.cell? ⟨g, 1, none⟩ = some (was w1 g 1) ∧ w1.cell? ⟨g, 2, none⟩ = some (was w1 g 2) ∧ w1.frozen? ⟨g, 0, none⟩ = false ∧ w1.frozen? ⟨g, 1, none⟩ = false ∧ w1.frozen? ⟨g, 2, none⟩ = false) (hg : w.heap.size ≤ g)  : Ext w (((w1.setCell ⟨g, 0, none⟩ x0).setCell ⟨g, 1, none⟩ x1).setCell ⟨g, 2, none⟩ x2) ∧ (((w1.setCell ⟨g, 0, none⟩ x0).setCell ⟨g, 1, none⟩ x1).setCell ⟨g, 2, none⟩ x2).cell? ⟨g, 0, none⟩ = some (was (((w1.setCell ⟨g, 0, none⟩ x0).setCell ⟨g, 1, none⟩ x1).setCell ⟨g, 2, none⟩ x2) g 0) ∧ (((w1.setCell ⟨g, 0, none⟩ x0).setCell ⟨g, 1, none⟩ x1).setCell ⟨g, 2, none⟩ x2).cell? ⟨g, 1, none⟩ = some (was (((w1.setCell ⟨g, 0, none⟩ x0).setCell ⟨g, 1, none⟩ x1).setCell ⟨g, 2, none⟩ x2) g 1) ∧ (((w1.setCell ⟨g, 0, none⟩ x0).setCell ⟨g, 1, none⟩ x1).setCell ⟨g, 2, none⟩ x2).cell? ⟨g, 2, none⟩ = some (was (((w1.setCell ⟨g, 0, none⟩ x0).setCell ⟨g, 1, none⟩ x1).setCell ⟨g, 2, none⟩ x2) g 2) ∧ (((w1.setCell ⟨g, 0, none⟩ x0).setCell ⟨g, 1, none⟩ x1).setCell ⟨g, 2, none⟩ x2).frozen? ⟨g, 0, none⟩ = false ∧ (((w1.setCell ⟨g, 0, none⟩ x0).setCell ⟨g, 1, none⟩ x1).setCell ⟨g, 2, none⟩ x2).frozen? ⟨g, 1, none⟩ = false ∧ (((w1.setCell ⟨g, 0, none⟩ x0).setCell ⟨g, 1, none⟩ x1).setCell ⟨g, 2, none⟩ x2).frozen? ⟨g, 2, none⟩ = false := by
  obtain ⟨_, k0⟩ := set_was (g := g) (i := 0) (u := x0) h.2.1
  obtain ⟨_, k0⟩ := set_was (g := g) (i := 1) (u := x1) k0
  obtain ⟨_, k0⟩ := set_was (g := g) (i := 2) (u := x2) k0
  obtain ⟨_, k1⟩ := set_was (g := g) (i := 0) (u := x0) h.2.2.1
  obtain ⟨_, k1⟩ := set_was (g := g) (i := 1) (u := x1) k1
  obtain ⟨_, k1⟩ := set_was (g := g) (i := 2) (u := x2) k1
  obtain ⟨_, k2⟩ := set_was (g := g) (i := 0) (u := x0) h.2.2.2.1
  obtain ⟨_, k2⟩ := set_was (g := g) (i := 1) (u := x1) k2
  obtain ⟨_, k2⟩ := set_was (g := g) (i := 2) (u := x2) k2
  exact ⟨(((h.1.setCell hg _).setCell hg _).setCell hg _), was_some k0, was_some k1, was_some k2, (set_fz (set_fz (set_fz h.2.2.2.2.1))), (set_fz (set_fz (set_fz h.2.2.2.2.2.1))), (set_fz (set_fz (set_fz h.2.2.2.2.2.2)))⟩
theorem keptS1_3 {w w1 w2 : World} {g b0 o0 : Nat} {u0 : Value} (h : Ext w w1 ∧ w1.cell? ⟨b0, o0, none⟩ = some u0 ∧ w1.cell? ⟨g, 0, none⟩ = some (was w1 g 0) ∧ w1.cell? ⟨g, 1, none⟩ = some (was w1 g 1) ∧ w1.cell? ⟨g, 2, none⟩ = some (was w1 g 2) ∧ w1.frozen? ⟨g, 0, none⟩ = false ∧ w1.frozen? ⟨g, 1, none⟩ = false ∧ w1.frozen? ⟨g, 2, none⟩ = false) (hx : Ext w1 w2) : Ext w w2 ∧ w2.cell? ⟨b0, o0, none⟩ = some u0 ∧ w2.cell? ⟨g, 0, none⟩ = some (was w2 g 0) ∧ w2.cell? ⟨g, 1, none⟩ = some (was w2 g 1) ∧ w2.cell? ⟨g, 2, none⟩ = some (was w2 g 2) ∧ w2.frozen? ⟨g, 0, none⟩ = false ∧ w2.frozen? ⟨g, 1, none⟩ = false ∧ w2.frozen? ⟨g, 2, none⟩ = false :=
  ⟨h.1.trans hx, hx.keep h.2.1, was_some (hx.keep h.2.2.1), was_some (hx.keep h.2.2.2.1), was_some (hx.keep h.2.2.2.2.1), hx.keepf h.2.2.1 h.2.2.2.2.2.1, hx.keepf h.2.2.2.1 h.2.2.2.2.2.2.1, hx.keepf h.2.2.2.2.1 h.2.2.2.2.2.2.2⟩
theorem keptS1_3_set {w w1 : World} {g b0 o0 : Nat} {u0 : Value} {x0 x1 x2 : Value} (h : Ext w w1 ∧ w1.cell? ⟨b0, o0, none⟩ = some u0 ∧ w1.cell? ⟨g, 0, none⟩ = some (was w1 g 0) ∧ w1.cell? ⟨g, 1, none⟩ = some (was w1 g 1) ∧ w1.cell? ⟨g, 2, none⟩ = some (was w1 g 2) ∧ w1.frozen? ⟨g, 0, none⟩ = false ∧ w1.frozen? ⟨g, 1, none⟩ = false ∧ w1.frozen? ⟨g, 2, none⟩ = false) (hg : w.heap.size ≤ g) (n0 : b0 ≠ g) : Ext w (((w1.setCell ⟨g, 0, none⟩ x0).setCell ⟨g, 1, none⟩ x1).setCell ⟨g, 2, none⟩ x2) ∧ (((w1.setCell ⟨g, 0, none⟩ x0).setCell ⟨g, 1, none⟩ x1).setCell ⟨g, 2, none⟩ x2).cell? ⟨b0, o0, none⟩ = some u0 ∧ (((w1.setCell ⟨g, 0, none⟩ x0).setCell ⟨g, 1, none⟩ x1).setCell ⟨g, 2, none⟩ x2).cell? ⟨g, 0, none⟩ = some (was (((w1.setCell ⟨g, 0, none⟩ x0).setCell ⟨g, 1, none⟩ x1).setCell ⟨g, 2, none⟩ x2) g 0) ∧ (((w1.setCell ⟨g, 0, none⟩ x0).setCell ⟨g, 1, none⟩ x1).setCell ⟨g, 2, none⟩ x2).cell? ⟨g, 1, none⟩ = some (was (((w1.setCell ⟨g, 0, none⟩ x0).setCell ⟨g, 1, none⟩ x1).setCell ⟨g, 2, none⟩ x2) g 1) ∧ (((w1.setCell ⟨g, 0, none⟩ x0).setCell ⟨g, 1, none⟩ x1).setCell ⟨g, 2, none⟩ x2).cell? ⟨g, 2, none⟩ = some (was (((w1.setCell ⟨g, 0, none⟩ x0).setCell ⟨g, 1, none⟩ x1).setCell ⟨g, 2, none⟩ x2) g 2) ∧ (((w1.setCell ⟨g, 0, none⟩ x0).setCell ⟨g, 1, none⟩ x1).setCell ⟨g, 2, none⟩ x2).frozen? ⟨g, 0, none⟩ = false ∧ (((w1.setCell ⟨g, 0, none⟩ x0).setCell ⟨g, 1, none⟩ x1).setCell ⟨g, 2, none⟩ x2).frozen? ⟨g, 1, none⟩ = false ∧ (((w1.setCell ⟨g, 0, none⟩ x0).setCell ⟨g, 1, none⟩ x1).setCell ⟨g, 2, none⟩ x2).frozen? ⟨g, 2, none⟩ = false := by
  obtain ⟨_, k0⟩ := set_was (g := g) (i := 0) (u := x0) h.2.2.1
  obtain ⟨_, k0⟩ := set_was (g := g) (i := 1) (u := x1) k0
  obtain ⟨_, k0⟩ := set_was (g := g) (i := 2) (u := x2) k0
  obtain ⟨_, k1⟩ := set_was (g := g) (i := 0) (u := x0) h.2.2.2.1
  obtain ⟨_, k1⟩ := set_was (g := g) (i := 1) (u := x1) k1
  obtain ⟨_, k1⟩ := set_was (g := g) (i := 2) (u := x2) k1
  obtain ⟨_, k2⟩ := set_was (g := g) (i := 0) (u := x0) h.2.2.2.2.1
  obtain ⟨_, k2⟩ := set_was (g := g) (i := 1) (u := x1) k2
  obtain ⟨_, k2⟩ := set_was (g := g) (i := 2) (u := x2) k2
  exact ⟨(((h.1.setCell hg _).setCell hg _).setCell hg _), (set_far (set_far (set_far h.2.1 n0) n0) n0), was_some k0, was_some k1, was_some k2, (set_fz (set_fz (set_fz h.2.2.2.2.2.1))), (set_fz (set_fz (set_fz h.2.2.2.2.2.2.1))), (set_fz (set_fz (set_fz h.2.2.2.2.2.2.2)))⟩
theorem keptS2_3 {w w1 w2 : World} {g b0 o0 b1 o1 : Nat} {u0 u1 : Value} (h : Ext w w1 ∧ w1.cell? ⟨b0, o0, none⟩ = some u0 ∧ w1.cell? ⟨b1, o1, none⟩ = some u1 ∧ w1.cell? ⟨g, 0, none⟩ = some (was w1 g 0) ∧ w1.cell? ⟨g, 1, none⟩ = some (was w1 g 1) ∧ w1.cell? ⟨g, 2, none⟩ = some (was w1 g 2) ∧ w1.frozen? ⟨g, 0, none⟩ = false ∧ w1.frozen? ⟨g, 1, none⟩ = false ∧ w1.frozen? ⟨g, 2, none⟩ = false) (hx : Ext w1 w2) : Ext w w2 ∧ w2.cell? ⟨b0, o0, none⟩ = some u0 ∧ w2.cell? ⟨b1, o1, none⟩ = some u1 ∧ w2.cell? ⟨g, 0, none⟩ = some (was w2 g 0) ∧ w2.cell? ⟨g, 1, none⟩ = some (was w2 g 1) ∧ w2.cell? ⟨g, 2, none⟩ = some (was w2 g 2) ∧ w2.frozen? ⟨g, 0, none⟩ = false ∧ w2.frozen? ⟨g, 1, none⟩ = false ∧ w2.frozen? ⟨g, 2, none⟩ = false :=
  ⟨h.1.trans hx, hx.keep h.2.1, hx.keep h.2.2.1, was_some (hx.keep h.2.2.2.1), was_some (hx.keep h.2.2.2.2.1), was_some (hx.keep h.2.2.2.2.2.1), hx.keepf h.2.2.2.1 h.2.2.2.2.2.2.1, hx.keepf h.2.2.2.2.1 h.2.2.2.2.2.2.2.1, hx.keepf h.2.2.2.2.2.1 h.2.2.2.2.2.2.2.2⟩
theorem keptS2_3_set {w w1 : World} {g b0 o0 b1 o1 : Nat} {u0 u1 : Value} {x0 x1 x2 : Value} (h : Ext w w1 ∧ w1.cell? ⟨b0, o0, none⟩ = some u0 ∧ w1.cell? ⟨b1, o1, none⟩ = some u1 ∧ w1.cell? ⟨g, 0, none⟩ = some (was w1 g 0) ∧ w1.cell? ⟨g, 1, none⟩ = some (was w1 g 1) ∧ w1.cell? ⟨g, 2, none⟩ = some (was w1 g 2) ∧ w1.frozen? ⟨g, 0, none⟩ = false ∧ w1.frozen? ⟨g, 1, none⟩ = false ∧ w1.frozen? ⟨g, 2, none⟩ = false) (hg : w.heap.size ≤ g) (n0 : b0 ≠ g) (n1 : b1 ≠ g) : Ext w (((w1.setCell ⟨g, 0, none⟩ x0).setCell ⟨g, 1, none⟩ x1).setCell ⟨g, 2, none⟩ x2) ∧ (((w1.setCell ⟨g, 0, none⟩ x0).setCell ⟨g, 1, none⟩ x1).setCell ⟨g, 2, none⟩ x2).cell? ⟨b0, o0, none⟩ = some u0 ∧ (((w1.setCell ⟨g, 0, none⟩ x0).setCell ⟨g, 1, none⟩ x1).setCell ⟨g, 2, none⟩ x2).cell? ⟨b1, o1, none⟩ = some u1 ∧ (((w1.setCell ⟨g, 0, none⟩ x0).setCell ⟨g, 1, none⟩ x1).setCell ⟨g, 2, none⟩ x2).cell? ⟨g, 0, none⟩ = some (was (((w1.setCell ⟨g, 0, none⟩ x0).setCell ⟨g, 1, none⟩ x1).setCell ⟨g, 2, none⟩ x2) g 0) ∧ (((w1.setCell ⟨g, 0, none⟩ x0).setCell ⟨g, 1, none⟩ x1).setCell ⟨g, 2, none⟩ x2).cell? ⟨g, 1, none⟩ = some (was (((w1.setCell ⟨g, 0, none⟩ x0).setCell ⟨g, 1, none⟩ x1).setCell ⟨g, 2, none⟩ x2) g 1) ∧ (((w1.setCell ⟨g, 0, none⟩ x0).setCell ⟨g, 1, none⟩ x1).setCell ⟨g, 2, none⟩ x2).cell? ⟨g, 2, none⟩ = some (was (((w1.setCell ⟨g, 0, none⟩ x0).setCell ⟨g, 1, none⟩ x1).setCell ⟨g, 2, none⟩ x2) g 2) ∧ (((w1.setCell ⟨g, 0, none⟩ x0).setCell ⟨g, 1, none⟩ x1).setCell ⟨g, 2, none⟩ x2).frozen? ⟨g, 0, none⟩ = false ∧ (((w1.setCell ⟨g, 0, none⟩ x0).setCell ⟨g, 1, none⟩ x1).setCell ⟨g, 2, none⟩ x2).frozen? ⟨g, 1, none⟩ = false ∧ (((w1.setCell ⟨g, 0, none⟩ x0).setCell ⟨g, 1, none⟩ x1).setCell ⟨g, 2, none⟩ x2).frozen? ⟨g, 2, none⟩ = false := by
  obtain ⟨_, k0⟩ := set_was (g := g) (i := 0) (u := x0) h.2.2.2.1
  obtain ⟨_, k0⟩ := set_was (g := g) (i := 1) (u := x1) k0
  obtain ⟨_, k0⟩ := set_was (g := g) (i := 2) (u := x2) k0
  obtain ⟨_, k1⟩ := set_was (g := g) (i := 0) (u := x0) h.2.2.2.2.1
  obtain ⟨_, k1⟩ := set_was (g := g) (i := 1) (u := x1) k1
  obtain ⟨_, k1⟩ := set_was (g := g) (i := 2) (u := x2) k1
  obtain ⟨_, k2⟩ := set_was (g := g) (i := 0) (u := x0) h.2.2.2.2.2.1
  obtain ⟨_, k2⟩ := set_was (g := g) (i := 1) (u := x1) k2
  obtain ⟨_, k2⟩ := set_was (g := g) (i := 2) (u := x2) k2
  exact ⟨(((h.1.setCell hg _).setCell hg _).setCell hg _), (set_far (set_far (set_far h.2.1 n0) n0) n0), (set_far (set_far (set_far h.2.2.1 n1) n1) n1), was_some k0, was_some k1, was_some k2, (set_fz (set_fz (set_fz h.2.2.2.2.2.2.1))), (set_fz (set_fz (set_fz h.2.2.2.2.2.2.2.1))), (set_fz (set_fz (set_fz h.2.2.2.2.2.2.2.2)))⟩
theorem keptS3_3 {w w1 w2 : World} {g b0 o0 b1 o1 b2 o2 : Nat} {u0 u1 u2 : Value} (h : Ext w w1 ∧ w1.cell? ⟨b0, o0, none⟩ = some u0 ∧ w1.cell? ⟨b1, o1, none⟩ = some u1 ∧ w1.cell? ⟨b2, o2, none⟩ = some u2 ∧ w1.cell? ⟨g, 0, none⟩ = some (was w1 g 0) ∧ w1.cell? ⟨g, 1, none⟩ = some (was w1 g 1) ∧ w1.cell? ⟨g, 2, none⟩ = some (was w1 g 2) ∧ w1.frozen? ⟨g, 0, none⟩ = false ∧ w1.frozen? ⟨g, 1, none⟩ = false ∧ w1.frozen? ⟨g, 2, none⟩ = false) (hx : Ext w1 w2) : Ext w w2 ∧ w2.cell? ⟨b0, o0, none⟩ = some u0 ∧ w2.cell? ⟨b1, o1, none⟩ = some u1 ∧ w2.cell? ⟨b2, o2, none⟩ = some u2 ∧ w2.cell? ⟨g, 0, none⟩ = some (was w2 g 0) ∧ w2.cell? ⟨g, 1, none⟩ = some (was w2 g 1) ∧ w2.cell? ⟨g, 2, none⟩ = some (was w2 g 2) ∧ w2.frozen? ⟨g, 0, none⟩ = false ∧ w2.frozen? ⟨g, 1, none⟩ = false ∧ w2.frozen? ⟨g, 2, none⟩ = false :=
  ⟨h.1.trans hx, hx.keep h.2.1, hx.keep h.2.2.1, hx.keep h.2.2.2.1, was_some (hx.keep h.2.2.2.2.1), was_some (hx.keep h.2.2.2.2.2.1), was_some (hx.keep h.2.2.2.2.2.2.1), hx.keepf h.2.2.2.2.1 h.2.2.2.2.2.2.2.1, hx.keepf h.2.2.2.2.2.1 h.2.2.2.2.2.2.2.2.1, hx.keepf h.2.2.2.2.2.2.1 h.2.2.2.2.2.2.2.2.2⟩
theorem keptS3_3_set {w w1 : World} {g b0 o0 b1 o1 b2 o2 : Nat} {u0 u1 u2 : Value} {x0 x1 x2 : Value} (h : Ext w w1 ∧ w1.cell? ⟨b0, o0, none⟩ = some u0 ∧ w1.cell? ⟨b1, o1, none⟩ = some u1 ∧ w1.cell? ⟨b2, o2, none⟩ = some u2 ∧ w1.cell? ⟨g, 0, none⟩ = some (was w1 g 0) ∧ w1.cell? ⟨g, 1, none⟩ = some (was w1 g 1) ∧ w1.cell? ⟨g, 2, none⟩ = some (was w1 g 2) ∧ w1.frozen? ⟨g, 0, none⟩ = false ∧ w1.frozen? ⟨g, 1, none⟩ = false ∧ w1.frozen? ⟨g, 2, none⟩ = false) (hg : w.heap.size ≤ g) (n0 : b0 ≠ g) (n1 : b1 ≠ g) (n2 : b2 ≠ g) : Ext w (((w1.setCell ⟨g, 0, none⟩ x0).setCell ⟨g, 1, none⟩ x1).setCell ⟨g, 2, none⟩ x2) ∧ (((w1.setCell ⟨g, 0, none⟩ x0).setCell ⟨g, 1, none⟩ x1).setCell ⟨g, 2, none⟩ x2).cell? ⟨b0, o0, none⟩ = some u0 ∧ (((w1.setCell ⟨g, 0, none⟩ x0).setCell ⟨g, 1, none⟩ x1).setCell ⟨g, 2, none⟩ x2).cell? ⟨b1, o1, none⟩ = some u1 ∧ (((w1.setCell ⟨g, 0, none⟩ x0).setCell ⟨g, 1, none⟩ x1).setCell ⟨g, 2, none⟩ x2).cell? ⟨b2, o2, none⟩ = some u2 ∧ (((w1.setCell ⟨g, 0, none⟩ x0).setCell ⟨g, 1, none⟩ x1).setCell ⟨g, 2, none⟩ x2).cell? ⟨g, 0, none⟩ = some (was (((w1.setCell ⟨g, 0, none⟩ x0).setCell ⟨g, 1, none⟩ x1).setCell ⟨g, 2, none⟩ x2) g 0) ∧ (((w1.setCell ⟨g, 0, none⟩ x0).setCell ⟨g, 1, none⟩ x1).setCell ⟨g, 2, none⟩ x2).cell? ⟨g, 1, none⟩ = some (was (((w1.setCell ⟨g, 0, none⟩ x0).setCell ⟨g, 1, none⟩ x1).setCell ⟨g, 2, none⟩ x2) g 1) ∧ (((w1.setCell ⟨g, 0, none⟩ x0).setCell ⟨g, 1, none⟩ x1).setCell ⟨g, 2, none⟩ x2).cell? ⟨g, 2, none⟩ = some (was (((w1.setCell ⟨g, 0, none⟩ x0).setCell ⟨g, 1, none⟩ x1).setCell ⟨g, 2, none⟩ x2) g 2) ∧ (((w1.setCell ⟨g, 0, none⟩ x0).setCell ⟨g, 1, none⟩ x1).setCell ⟨g, 2, none⟩ x2).frozen? ⟨g, 0, none⟩ = false ∧ (((w1.setCell ⟨g, 0, none⟩ x0).setCell ⟨g, 1, none⟩ x1).setCell ⟨g, 2, none⟩ x2).frozen? ⟨g, 1, none⟩ = false ∧ (((w1.setCell ⟨g, 0, none⟩ x0).setCell ⟨g, 1, none⟩ x1).setCell ⟨g, 2, none⟩ x2).frozen? ⟨g, 2, none⟩ = false := by
  obtain ⟨_, k0⟩ := set_was (g := g) (i := 0) (u := x0) h.2.2.2.2.1
  obtain ⟨_, k0⟩ := set_was (g := g) (i := 1) (u := x1) k0
  obtain ⟨_, k0⟩ := set_was (g := g) (i := 2) (u := x2) k0
  obtain ⟨_, k1⟩ := set_was (g := g) (i := 0) (u := x0) h.2.2.2.2.2.1
  obtain ⟨_, k1⟩ := set_was (g := g) (i := 1) (u := x1) k1
  obtain ⟨_, k1⟩ := set_was (g := g) (i := 2) (u := x2) k1
  obtain ⟨_, k2⟩ := set_was (g := g) (i := 0) (u := x0) h.2.2.2.2.2.2.1
  obtain ⟨_, k2⟩ := set_was (g := g) (i := 1) (u := x1) k2
  obtain ⟨_, k2⟩ := set_was (g := g) (i := 2) (u := x2) k2
  exact ⟨(((h.1.setCell hg _).setCell hg _).setCell hg _), (set_far (set_far (set_far h.2.1 n0) n0) n0), (set_far (set_far (set_far h.2.2.1 n1) n1) n1), (set_far (set_far (set_far h.2.2.2.1 n2) n2) n2), was_some k0, was_some k1, was_some k2, (set_fz (set_fz (set_fz h.2.2.2.2.2.2.2.1))), (set_fz (set_fz (set_fz h.2.2.2.2.2.2.2.2.1))), (set_fz (set_fz (set_fz h.2.2.2.2.2.2.2.2.2)))⟩
theorem keptS4_3 {w w1 w2 : World} {g b0 o0 b1 o1 b2 o2 b3 o3 : Nat} {u0 u1 u2 u3 : Value} (h : Ext w w1 ∧ w1.cell? ⟨b0, o0, none⟩ = some u0 ∧ w1.cell? ⟨b1, o1, none⟩ = some u1 ∧ w1.cell? ⟨b2, o2, none⟩ = some u2 ∧ w1.cell? ⟨b3, o3, none⟩ = some u3 ∧ w1.cell? ⟨g, 0, none⟩ = some (was w1 g 0) ∧ w1.cell? ⟨g, 1, none⟩ = some (was w1 g 1) ∧ w1.cell? ⟨g, 2, none⟩ = some (was w1 g 2) ∧ w1.frozen? ⟨g, 0, none⟩ = false ∧ w1.frozen? ⟨g, 1, none⟩ = false ∧ w1.frozen? ⟨g, 2, none⟩ = false) (hx : Ext w1 w2) : Ext w w2 ∧ w2.cell? ⟨b0, o0, none⟩ = some u0 ∧ w2.cell? ⟨b1, o1, none⟩ = some u1 ∧ w2.cell? ⟨b2, o2, none⟩ = some u2 ∧ w2.cell? ⟨b3, o3, none⟩ = some u3 ∧ w2.cell? ⟨g, 0, none⟩ = some (was w2 g 0) ∧ w2.cell? ⟨g, 1, none⟩ = some (was w2 g 1) ∧ w2.cell? ⟨g, 2, none⟩ = some (was w2 g 2) ∧ w2.frozen? ⟨g, 0, none⟩ = false ∧ w2.frozen? ⟨g, 1, none⟩ = false ∧ w2.frozen? ⟨g, 2, none⟩ = false :=
  ⟨h.1.trans hx, hx.keep h.2.1, hx.keep h.2.2.1, hx.keep h.2.2.2.1, hx.keep h.2.2.2.2.1, was_some (hx.keep h.2.2.2.2.2.1), was_some (hx.keep h.2.2.2.2.2.2.1), was_some (hx.keep h.2.2.2.2.2.2.2.1), hx.keepf h.2.2.2.2.2.1 h.2.2.2.2.2.2.2.2.1, hx.keepf h.2.2.2.2.2.2.1 h.2.2.2.2.2.2.2.2.2.1, hx.keepf h.2.2.2.2.2.2.2.1 h.2.2.2.2.2.2.2.2.2.2⟩
theorem keptS4_3_set {w w1 : World} {g b0 o0 b1 o1 b2 o2 b3 o3 : Nat} {u0 u1 u2 u3 : Value} {x0 x1 x2 : Value} (h : Ext w w1 ∧ w1.cell? ⟨b0, o0, none⟩ = some u0 ∧ w1.cell? ⟨b1, o1, none⟩ = some u1 ∧ w1.cell? ⟨b2, o2, none⟩ = some u2 ∧ w1.cell? ⟨b3, o3, none⟩ = some u3 ∧ w1.cell? ⟨g, 0, none⟩ = some (was w1 g 0) ∧ w1.cell? ⟨g, 1, none⟩ = some (was w1 g 1) ∧ w1.cell? ⟨g, 2, none⟩ = some (was w1 g 2) ∧ w1.frozen? ⟨g, 0, none⟩ = false ∧ w1.frozen? ⟨g, 1, none⟩ = false ∧ w1.frozen? ⟨g, 2, none⟩ = false) (hg : w.heap.size ≤ g) (n0 : b0 ≠ g) (n1 : b1 ≠ g) (n2 : b2 ≠ g) (n3 : b3 ≠ g) : Ext w (((w1.setCell ⟨g, 0, none⟩ x0).setCell ⟨g, 1, none⟩ x1).setCell ⟨g, 2, none⟩ x2) ∧ (((w1.setCell ⟨g, 0, none⟩ x0).setCell ⟨g, 1, none⟩ x1).setCell ⟨g, 2, none⟩ x2).cell? ⟨b0, o0, none⟩ = some u0 ∧ (((w1.setCell ⟨g, 0, none⟩ x0).setCell ⟨g, 1, none⟩ x1).setCell ⟨g, 2, none⟩ x2).cell? ⟨b1, o1, none⟩ = some u1 ∧ (((w1.setCell ⟨g, 0, none⟩ x0).setCell ⟨g, 1, none⟩ x1).setCell ⟨g, 2, none⟩ x2).cell? ⟨b2, o2, none⟩ = some u2 ∧ (((w1.setCell ⟨g, 0, none⟩ x0).setCell ⟨g, 1, none⟩ x1).setCell ⟨g, 2, none⟩ x2).cell? ⟨b3, o3, none⟩ = some u3 ∧ (((w1.setCell ⟨g, 0, none⟩ x0).setCell ⟨g, 1, none⟩ x1).setCell ⟨g, 2, none⟩ x2).cell? ⟨g, 0, none⟩ = some (was (((w1.setCell ⟨g, 0, none⟩ x0).setCell ⟨g, 1, none⟩ x1).setCell ⟨g, 2, none⟩ x2) g 0) ∧ (((w1.setCell ⟨g, 0, none⟩ x0).setCell ⟨g, 1, none⟩ x1).setCell ⟨g, 2, none⟩ x2).cell? ⟨g, 1, none⟩ = some (was (((w1.setCell ⟨g, 0, none⟩ x0).setCell ⟨g, 1, none⟩ x1).setCell ⟨g, 2, none⟩ x2) g 1) ∧ (((w1.setCell ⟨g, 0, none⟩ x0).setCell ⟨g, 1, none⟩ x1).setCell ⟨g, 2, none⟩ x2).cell? ⟨g, 2, none⟩ = some (was (((w1.setCell ⟨g, 0, none⟩ x0).setCell ⟨g, 1, none⟩ x1).setCell ⟨g, 2, none⟩ x2) g 2) ∧ (((w1.setCell ⟨g, 0, none⟩ x0).setCell ⟨g, 1, none⟩ x1).setCell ⟨g, 2, none⟩ x2).frozen? ⟨g, 0, none⟩ = false ∧ (((w1.setCell ⟨g, 0, none⟩ x0).setCell ⟨g, 1, none⟩ x1).setCell ⟨g, 2, none⟩ x2).frozen? ⟨g, 1, none⟩ = false ∧ (((w1.setCell ⟨g, 0, none⟩ x0).setCell ⟨g, 1, none⟩ x1).setCell ⟨g, 2, none⟩ x2).frozen? ⟨g, 2, none⟩ = false := by
  obtain ⟨_, k0⟩ := set_was (g := g) (i := 0) (u := x0) h.2.2.2.2.2.1
  obtain ⟨_, k0⟩ := set_was (g := g) (i := 1) (u := x1) k0
  obtain ⟨_, k0⟩ := set_was (g := g) (i := 2) (u := x2) k0
  obtain ⟨_, k1⟩ := set_was (g := g) (i := 0) (u := x0) h.2.2.2.2.2.2.1
  obtain ⟨_, k1⟩ := set_was (g := g) (i := 1) (u := x1) k1
  obtain ⟨_, k1⟩ := set_was (g := g) (i := 2) (u := x2) k1
  obtain ⟨_, k2⟩ := set_was (g := g) (i := 0) (u := x0) h.2.2.2.2.2.2.2.1
  obtain ⟨_, k2⟩ := set_was (g := g) (i := 1) (u := x1) k2
  obtain ⟨_, k2⟩ := set_was (g := g) (i := 2) (u := x2) k2
  exact ⟨(((h.1.setCell hg _).setCell hg _).setCell hg _), (set_far (set_far (set_far h.2.1 n0) n0) n0), (set_far (set_far (set_far h.2.2.1 n1) n1) n1), (set_far (set_far (set_far h.2.2.2.1 n2) n2) n2), (set_far (set_far (set_far h.2.2.2.2.1 n3) n3) n3), was_some k0, was_some k1, was_some k2, (set_fz (set_fz (set_fz h.2.2.2.2.2.2.2.2.1))), (set_fz (set_fz (set_fz h.2.2.2.2.2.2.2.2.2.1))), (set_fz (set_fz (set_fz h.2.2.2.2.2.2.2.2.2.2)))⟩
theorem keptS5_3 {w w1 w2 : World} {g b0 o0 b1 o1 b2 o2 b3 o3 b4 o4 : Nat} {u0 u1 u2 u3 u4 : Value} (h : Ext w w1 ∧ w1.cell? ⟨b0, o0, none⟩ = some u0 ∧ w1.cell? ⟨b1, o1, none⟩ = some u1 ∧ w1.cell? ⟨b2, o2, none⟩ = some u2 ∧ w1.cell? ⟨b3, o3, none⟩ = some u3 ∧ w1.cell? ⟨b4, o4, none⟩ = some u4 ∧ w1.cell? ⟨g, 0, none⟩ = some (was w1 g 0) ∧ w1.cell? ⟨g, 1, none⟩ = some (was w1 g 1) ∧ w1.cell? ⟨g, 2, none⟩ = some (was w1 g 2) ∧ w1.frozen? ⟨g, 0, none⟩ = false ∧ w1.frozen? ⟨g, 1, none⟩ = false ∧ w1.frozen? ⟨g, 2, none⟩ = false) (hx : Ext w1 w2) : Ext w w2 ∧ w2.cell? ⟨b0, o0, none⟩ = some u0 ∧ w2.cell? ⟨b1, o1, none⟩ = some u1 ∧ w2.cell? ⟨b2, o2, none⟩ = some u2 ∧ w2.cell? ⟨b3, o3, none⟩ = some u3 ∧ w2.cell? ⟨b4, o4, none⟩ = some u4 ∧ w2.cell? ⟨g, 0, none⟩ = some (was w2 g 0) ∧ w2.cell? ⟨g, 1, none⟩ = some (was w2 g 1) ∧ w2.cell? ⟨g, 2, none⟩ = some (was w2 g 2) ∧ w2.frozen? ⟨g, 0, none⟩ = false ∧ w2.frozen? ⟨g, 1, none⟩ = false ∧ w2.frozen? ⟨g, 2, none⟩ = false :=
  ⟨h.1.trans hx, hx.keep h.2.1, hx.keep h.2.2.1, hx.keep h.2.2.2.1, hx.keep h.2.2.2.2.1, hx.keep h.2.2.2.2.2.1, was_some (hx.keep h.2.2.2.2.2.2.1), was_some (hx.keep h.2.2.2.2.2.2.2.1), was_some (hx.keep h.2.2.2.2.2.2.2.2.1), hx.keepf h.2.2.2.2.2.2.1 h.2.2.2.2.2.2.2.2.2.1, hx.keepf h.2.2.2.2.2.2.2.1 h.2.2.2.2.2.2.2.2.2.2.1, hx.keepf h.2.2.2.2.2.2.2.2.1 h.2.2.2.2.2.2.2.2.2.2.2⟩
theorem keptS5_3_set {w w1 : World} {g b0 o0 b1 o1 b2 o2 b3 o3 b4 o4 : Nat} {u0 u1 u2 u3 u4 : Value} {x0 x1 x2 : Value} (h : Ext w w1 ∧ w1.cell? ⟨b0, o0, none⟩ = some u0 ∧ w1.cell? ⟨b1, o1, none⟩ = some u1 ∧ w1.cell? ⟨b2, o2, none⟩ = some u2 ∧ w1.cell? ⟨b3, o3, none⟩ = some u3 ∧ w1.cell? ⟨b4, o4, none⟩ = some u4 ∧ w1.cell? ⟨g, 0, none⟩ = some (was w1 g 0) ∧ w1.cell? ⟨g, 1, none⟩ = some (was w1 g 1) ∧ w1.cell? ⟨g, 2, none⟩ = some (was w1 g 2) ∧ w1.frozen? ⟨g, 0, none⟩ = false ∧ w1.frozen? ⟨g, 1, none⟩ = false ∧ w1.frozen? ⟨g, 2, none⟩ = false) (hg : w.heap.size ≤ g) (n0 : b0 ≠ g) (n1 : b1 ≠ g) (n2 : b2 ≠ g) (n3 : b3 ≠ g) (n4 : b4 ≠ g) : Ext w (((w1.setCell ⟨g, 0, none⟩ x0).setCell ⟨g, 1, none⟩ x1).setCell ⟨g, 2, none⟩ x2) ∧ (((w1.setCell ⟨g, 0, none⟩ x0).setCell ⟨g, 1, none⟩ x1).setCell ⟨g, 2, none⟩ x2).cell? ⟨b0, o0, none⟩ = some u0 ∧ (((w1.setCell ⟨g, 0, none⟩ x0).setCell ⟨g, 1, none⟩ x1).setCell ⟨g, 2, none⟩ x2).cell? ⟨b1, o1, none⟩ = some u1 ∧ (((w1.setCell ⟨g, 0, none⟩ x0).setCell ⟨g, 1, none⟩ x1).setCell ⟨g, 2, none⟩ x2).cell? ⟨b2, o2, none⟩ = some u2 ∧ (((w1.setCell ⟨g, 0, none⟩ x0).setCell ⟨g, 1, none⟩ x1).setCell ⟨g, 2, none⟩ x2).cell? ⟨b3, o3, none⟩ = some u3 ∧ (((w1.setCell ⟨g, 0, none⟩ x0).setCell ⟨g, 1, none⟩ x1).setCell ⟨g, 2, none⟩ x2).cell? ⟨b4, o4, none⟩ = some u4 ∧ (((w1.setCell ⟨g, 0, none⟩ x0).setCell ⟨g, 1, none⟩ x1).setCell ⟨g, 2, none⟩ x2).cell? ⟨g, 0, none⟩ = some (was (((w1.setCell ⟨g, 0, none⟩ x0).setCell ⟨g, 1, none⟩ x1).setCell ⟨g, 2, none⟩ x2) g 0) ∧ (((w1.setCell ⟨g, 0, none⟩ x0).setCell ⟨g, 1, none⟩ x1).setCell ⟨g, 2, none⟩ x2).cell? ⟨g, 1, none⟩ = some (was (((w1.setCell ⟨g, 0, none⟩ x0).setCell ⟨g, 1, none⟩ x1).setCell ⟨g, 2, none⟩ x2) g 1) ∧ (((w1.setCell ⟨g, 0, none⟩ x0).setCell ⟨g, 1, none⟩ x1).setCell ⟨g, 2, none⟩ x2).cell? ⟨g, 2, none⟩ = some (was (((w1.setCell ⟨g, 0, none⟩ x0).setCell ⟨g, 1, none⟩ x1).setCell ⟨g, 2, none⟩ x2) g 2) ∧ (((w1.setCell ⟨g, 0, none⟩ x0).setCell ⟨g, 1, none⟩ x1).setCell ⟨g, 2, none⟩ x2).frozen? ⟨g, 0, none⟩ = false ∧ (((w1.setCell ⟨g, 0, none⟩ x0).setCell ⟨g, 1, none⟩ x1).setCell ⟨g, 2, none⟩ x2).frozen? ⟨g, 1, none⟩ = false ∧ (((w1.setCell ⟨g, 0, none⟩ x0).setCell ⟨g, 1, none⟩ x1).setCell ⟨g, 2, none⟩ x2).frozen? ⟨g, 2, none⟩ = false := by
  obtain ⟨_, k0⟩ := set_was (g := g) (i := 0) (u := x0) h.2.2.2.2.2.2.1
  obtain ⟨_, k0⟩ := set_was (g := g) (i := 1) (u := x1) k0
  obtain ⟨_, k0⟩ := set_was (g := g) (i := 2) (u := x2) k0
  obtain ⟨_, k1⟩ := set_was (g := g) (i := 0) (u := x0) h.2.2.2.2.2.2.2.1
  obtain ⟨_, k1⟩ := set_was (g := g) (i := 1) (u := x1) k1
  obtain ⟨_, k1⟩ := set_was (g := g) (i := 2) (u := x2) k1
  obtain ⟨_, k2⟩ := set_was (g := g) (i := 0) (u := x0) h.2.2.2.2.2.2.2.2.1
  obtain ⟨_, k2⟩ := set_was (g := g) (i := 1) (u := x1) k2
  obtain ⟨_, k2⟩ := set_was (g := g) (i := 2) (u := x2) k2
  exact ⟨(((h.1.setCell hg _).setCell hg _).setCell hg _), (set_far (set_far (set_far h.2.1 n0) n0) n0), (set_far (set_far (set_far h.2.2.1 n1) n1) n1), (set_far (set_far (set_far h.2.2.2.1 n2) n2) n2), (set_far (set_far (set_far h.2.2.2.2.1 n3) n3) n3), (set_far (set_far (set_far h.2.2.2.2.2.1 n4) n4) n4), was_some k0, was_some k1, was_some k2, (set_fz (set_fz (set_fz h.2.2.2.2.2.2.2.2.2.1))), (set_fz (set_fz (set_fz h.2.2.2.2.2.2.2.2.2.2.1))), (set_fz (set_fz (set_fz h.2.2.2.2.2.2.2.2.2.2.2)))⟩
theorem keptS6_3 {w w1 w2 : World} {g b0 o0 b1 o1 b2 o2 b3 o3 b4 o4 b5 o5 : Nat} {u0 u1 u2 u3 u4 u5 : Value} (h : Ext w w1 ∧ w1.cell? ⟨b0, o0, none⟩ = some u0 ∧ w1.cell? ⟨b1, o1, none⟩ = some u1 ∧ w1.cell? ⟨b2, o2, none⟩ = some u2 ∧ w1.cell? ⟨b3, o3, none⟩ = some u3 ∧ w1.cell? ⟨b4, o4, none⟩ = some u4 ∧ w1.cell? ⟨b5, o5, none⟩ = some u5 ∧ w1.cell? ⟨g, 0, none⟩ = some (was w1 g 0) ∧ w1.cell? ⟨g, 1, none⟩ = some (was w1 g 1) ∧ w1.cell? ⟨g, 2, none⟩ = some (was w1 g 2) ∧ w1.frozen? ⟨g, 0, none⟩ = false ∧ w1.frozen? ⟨g, 1, none⟩ = false ∧ w1.frozen? ⟨g, 2, none⟩ = false) (hx : Ext w1 w2) : Ext w w2 ∧ w2.cell? ⟨b0, o0, none⟩ = some u0 ∧ w2.cell? ⟨b1, o1, none⟩ = some u1 ∧ w2.cell? ⟨b2, o2, none⟩ = some u2 ∧ w2.cell? ⟨b3, o3, none⟩ = some u3 ∧ w2.cell? ⟨b4, o4, none⟩ = some u4 ∧ w2.cell? ⟨b5, o5, none⟩ = some u5 ∧ w2.cell? ⟨g, 0, none⟩ = some (was w2 g 0) ∧ w2.cell? ⟨g, 1, none⟩ = some (was w2 g 1) ∧ w2.cell? ⟨g, 2, none⟩ = some (was w2 g 2) ∧ w2.frozen? ⟨g, 0, none⟩ = false ∧ w2.frozen? ⟨g, 1, none⟩ = false ∧ w2.frozen? ⟨g, 2, none⟩ = false :=
  ⟨h.1.trans hx, hx.keep h.2.1, hx.keep h.2.2.1, hx.keep h.2.2.2.1, hx.keep h.2.2.2.2.1, hx.keep h.2.2.2.2.2.1, hx.keep h.2.2.2.2.2.2.1, was_some (hx.keep h.2.2.2.2.2.2.2.1), was_some (hx.keep h.2.2.2.2.2.2.2.2.1), was_some (hx.keep h.2.2.2.2.2.2.2.2.2.1), hx.keepf h.2.2.2.2.2.2.2.1 h.2.2.2.2.2.2.2.2.2.2.1, hx.keepf h.2.2.2.2.2.2.2.2.1 h.2.2.2.2.2.2.2.2.2.2.2.1, hx.keepf h.2.2.2.2.2.2.2.2.2.1 h.2.2.2.2.2.2.2.2.2.2.2.2⟩
theorem keptS6_3_set {w w1 : World} {g b0 o0 b1 o1 b2 o2 b3 o3 b4 o4 b5 o5 : Nat} {u0 u1 u2 u3 u4 u5 : Value} {x0 x1 x2 : Value} (h : Ext w w1 ∧ w1.cell? ⟨b0, o0, none⟩ = some u0 ∧ w1.cell? ⟨b1, o1, none⟩ = some u1 ∧ w1.cell? ⟨b2, o2, none⟩ = some u2 ∧ w1.cell? ⟨b3, o3, none⟩ = some u3 ∧ w1.cell? ⟨b4, o4, none⟩ = some u4 ∧ w1.cell? ⟨b5, o5, none⟩ = some u5 ∧ w1.cell? ⟨g, 0, none⟩ = some (was w1 g 0) ∧ w1.cell? ⟨g, 1, none⟩ = some (was w1 g 1) ∧ w1.cell? ⟨g, 2, none⟩ = some (was w1 g 2) ∧ w1.frozen? ⟨g, 0, none⟩ = false ∧ w1.frozen? ⟨g, 1, none⟩ = false ∧ w1.frozen? ⟨g, 2, none⟩ = false) (hg : w.heap.size ≤ g) (n0 : b0 ≠ g) (n1 : b1 ≠ g) (n2 : b2 ≠ g) (n3 : b3 ≠ g) (n4 : b4 ≠ g) (n5 : b5 ≠ g) : Ext w (((w1.setCell ⟨g, 0, none⟩ x0).setCell ⟨g, 1, none⟩ x1).setCell ⟨g, 2, none⟩ x2) ∧ (((w1.setCell ⟨g, 0, none⟩ x0).setCell ⟨g, 1, none⟩ x1).setCell ⟨g, 2, none⟩ x2).cell? ⟨b0, o0, none⟩ = some u0 ∧ (((w1.setCell ⟨g, 0, none⟩ x0).setCell ⟨g, 1, none⟩ x1).setCell ⟨g, 2, none⟩ x2).cell? ⟨b1, o1, none⟩ = some u1 ∧ (((w1.setCell ⟨g, 0, none⟩ x0).setCell ⟨g, 1, none⟩ x1).setCell ⟨g, 2, none⟩ x2).cell? ⟨b2, o2, none⟩ = some u2 ∧ (((w1.setCell ⟨g, 0, none⟩ x0).setCell ⟨g, 1, none⟩ x1).setCell ⟨g, 2, none⟩ x2).cell? ⟨b3, o3, none⟩ = some u3 ∧ (((w1.setCell ⟨g, 0, none⟩ x0).setCell ⟨g, 1, none⟩ x1).setCell ⟨g, 2, none⟩ x2).cell? ⟨b4, o4, none⟩ = some u4 ∧ (((w1.setCell ⟨g, 0, none⟩ x0).setCell ⟨g, 1, none⟩ x1).setCell ⟨g, 2, none⟩ x2).cell? ⟨b5, o5, none⟩ = some u5 ∧ (((w1.setCell ⟨g, 0, none⟩ x0).setCell ⟨g, 1, none⟩ x1).setCell ⟨g, 2, none⟩ x2).cell? ⟨g, 0, none⟩ = some (was (((w1.setCell ⟨g, 0, none⟩ x0).setCell ⟨g, 1, none⟩ x1).setCell ⟨g, 2, none⟩ x2) g 0) ∧ (((w1.setCell ⟨g, 0, none⟩ x0).setCell ⟨g, 1, none⟩ x1).setCell ⟨g, 2, none⟩ x2).cell? ⟨g, 1, none⟩ = some (was (((w1.setCell ⟨g, 0, none⟩ x0).setCell ⟨g, 1, none⟩ x1).setCell ⟨g, 2, none⟩ x2) g 1) ∧ (((w1.setCell ⟨g, 0, none⟩ x0).setCell ⟨g, 1, none⟩ x1).setCell ⟨g, 2, none⟩ x2).cell? ⟨g, 2, none⟩ = some (was (((w1.setCell ⟨g, 0, none⟩ x0).setCell ⟨g, 1, none⟩ x1).setCell ⟨g, 2, none⟩ x2) g 2) ∧ (((w1.setCell ⟨g, 0, none⟩ x0).setCell ⟨g, 1, none⟩ x1).setCell ⟨g, 2, none⟩ x2).frozen? ⟨g, 0, none⟩ = false ∧ (((w1.setCell ⟨g, 0, none⟩ x0).setCell ⟨g, 1, none⟩ x1).setCell ⟨g, 2, none⟩ x2).frozen? ⟨g, 1, none⟩ = false ∧ (((w1.setCell ⟨g, 0, none⟩ x0).setCell ⟨g, 1, none⟩ x1).setCell ⟨g, 2, none⟩ x2).frozen? ⟨g, 2, none⟩ = false := by
  obtain ⟨_, k0⟩ := set_was (g := g) (i := 0) (u := x0) h.2.2.2.2.2.2.2.1
  obtain ⟨_, k0⟩ := set_was (g := g) (i := 1) (u := x1) k0
  obtain ⟨_, k0⟩ := set_was (g := g) (i := 2) (u := x2) k0
  obtain ⟨_, k1⟩ := set_was (g := g) (i := 0) (u := x0) h.2.2.2.2.2.2.2.2.1
  obtain ⟨_, k1⟩ := set_was (g := g) (i := 1) (u := x1) k1
  obtain ⟨_, k1⟩ := set_was (g := g) (i := 2) (u := x2) k1
  obtain ⟨_, k2⟩ := set_was (g := g) (i := 0) (u := x0) h.2.2.2.2.2.2.2.2.2.1
  obtain ⟨_, k2⟩ := set_was (g := g) (i := 1) (u := x1) k2
  obtain ⟨_, k2⟩ := set_was (g := g) (i := 2) (u := x2) k2
  exact ⟨(((h.1.setCell hg _).setCell hg _).setCell hg _), (set_far (set_far (set_far h.2.1 n0) n0) n0), (set_far (set_far (set_far h.2.2.1 n1) n1) n1), (set_far (set_far (set_far h.2.2.2.1 n2) n2) n2), (set_far (set_far (set_far h.2.2.2.2.1 n3) n3) n3), (set_far (set_far (set_far h.2.2.2.2.2.1 n4) n4) n4), (set_far (set_far (set_far h.2.2.2.2.2.2.1 n5) n5) n5), was_some k0, was_some k1, was_some k2, (set_fz (set_fz (set_fz h.2.2.2.2.2.2.2.2.2.2.1))), (set_fz (set_fz (set_fz h.2.2.2.2.2.2.2.2.2.2.2.1))), (set_fz (set_fz (set_fz h.2.2.2.2.2.2.2.2.2.2.2.2)))⟩
theorem keptS7_3 {w w1 w2 : World} {g b0 o0 b1 o1 b2 o2 b3 o3 b4 o4 b5 o5 b6 o6 : Nat} {u0 u1 u2 u3 u4 u5 u6 : Value} (h : Ext w w1 ∧ w1.cell? ⟨b0, o0, none⟩ = some u0 ∧ w1.cell? ⟨b1, o1, none⟩ = some u1 ∧ w1.cell? ⟨b2, o2, none⟩ = some u2 ∧ w1.cell? ⟨b3, o3, none⟩ = some u3 ∧ w1.cell? ⟨b4, o4, none⟩ = some u4 ∧ w1.cell? ⟨b5, o5, none⟩ = some u5 ∧ w1.cell? ⟨b6, o6, none⟩ = some u6 ∧ w1.cell? ⟨g, 0, none⟩ = some (was w1 g 0) ∧ w1.cell? ⟨g, 1, none⟩ = some (was w1 g 1) ∧ w1.cell? ⟨g, 2, none⟩ = some (was w1 g 2) ∧ w1.frozen? ⟨g, 0, none⟩ = false ∧ w1.frozen? ⟨g, 1, none⟩ = false ∧ w1.frozen? ⟨g, 2, none⟩ = false) (hx : Ext w1 w2) : Ext w w2 ∧ w2.cell? ⟨b0, o0, none⟩ = some u0 ∧ w2.cell? ⟨b1, o1, none⟩ = some u1 ∧ w2.cell? ⟨b2, o2, none⟩ = some u2 ∧ w2.cell? ⟨b3, o3, none⟩ = some u3 ∧ w2.cell? ⟨b4, o4, none⟩ = some u4 ∧ w2.cell? ⟨b5, o5, none⟩ = some u5 ∧ w2.cell? ⟨b6, o6, none⟩ = some u6 ∧ w2.cell? ⟨g, 0, none⟩ = some (was w2 g 0) ∧ w2.cell? ⟨g, 1, none⟩ = some (was w2 g 1) ∧ w2.cell? ⟨g, 2, none⟩ = some (was w2 g 2) ∧ w2.frozen? ⟨g, 0, none⟩ = false ∧ w2.frozen? ⟨g, 1, none⟩ = false ∧ w2.frozen? ⟨g, 2, none⟩ = false :=
  ⟨h.1.trans hx, hx.keep h.2.1, hx.keep h.2.2.1, hx.keep h.2.2.2.1, hx.keep h.2.2.2.2.1, hx.keep h.2.2.2.2.2.1, hx.keep h.2.2.2.2.2.2.1, hx.keep h.2.2.2.2.2.2.2.1, was_some (hx.keep h.2.2.2.2.2.2.2.2.1), was_some (hx.keep h.2.2.2.2.2.2.2.2.2.1), was_some (hx.keep h.2.2.2.2.2.2.2.2.2.2.1), hx.keepf h.2.2.2.2.2.2.2.2.1 h.2.2.2.2.2.2.2.2.2.2.2.1, hx.keepf h.2.2.2.2.2.2.2.2.2.1 h.2.2.2.2.2.2.2.2.2.2.2.2.1, hx.keepf h.2.2.2.2.2.2.2.2.2.2.1 h.2.2.2.2.2.2.2.2.2.2.2.2.2⟩
theorem keptS7_3_set {w w1 : World} {g b0 o0 b1 o1 b2 o2 b3 o3 b4 o4 b5 o5 b6 o6 : Nat} {u0 u1 u2 u3 u4 u5 u6 : Value} {x0 x1 x2 : Value} (h : Ext w w1 ∧ w1.cell? ⟨b0, o0, none⟩ = some u0 ∧ w1.cell? ⟨b1, o1, none⟩ = some u1 ∧ w1.cell? ⟨b2, o2, none⟩ = some u2 ∧ w1.cell? ⟨b3, o3, none⟩ = some u3 ∧ w1.cell? ⟨b4, o4, none⟩ = some u4 ∧ w1.cell? ⟨b5, o5, none⟩ = some u5 ∧ w1.cell? ⟨b6, o6, none⟩ = some u6 ∧ w1.cell? ⟨g, 0, none⟩ = some (was w1 g 0) ∧ w1.cell? ⟨g, 1, none⟩ = some (was w1 g 1) ∧ w1.cell? ⟨g, 2, none⟩ = some (was w1 g 2) ∧ w1.frozen? ⟨g, 0, none⟩ = false ∧ w1.frozen? ⟨g, 1, none⟩ = false ∧ w1.frozen? ⟨g, 2, none⟩ = false) (hg : w.heap.size ≤ g) (n0 : b0 ≠ g) (n1 : b1 ≠ g) (n2 : b2 ≠ g) (n3 : b3 ≠ g) (n4 : b4 ≠ g) (n5 : b5 ≠ g) (n6 : b6 ≠ g) : Ext w (((w1.setCell ⟨g, 0, none⟩ x0).setCell ⟨g, 1, none⟩ x1).setCell ⟨g, 2, none⟩ x2) ∧ (((w1.setCell ⟨g, 0, none⟩ x0).setCell ⟨g, 1, none⟩ x1).setCell ⟨g, 2, none⟩ x2).cell? ⟨b0, o0, none⟩ = some u0 ∧ (((w1.setCell ⟨g, 0, none⟩ x0).setCell ⟨g, 1, none⟩ x1).setCell ⟨g, 2, none⟩ x2).cell? ⟨b1, o1, none⟩ = some u1 ∧ (((w1.setCell ⟨g, 0, none⟩ x0).setCell ⟨g, 1, none⟩ x1).setCell ⟨g, 2, none⟩ x2).cell? ⟨b2, o2, none⟩ = some u2 ∧ (((w1.setCell ⟨g, 0, none⟩ x0).setCell ⟨g, 1, none⟩ x1).setCell ⟨g, 2, none⟩ x2).cell? ⟨b3, o3, none⟩ = some u3 ∧ (((w1.setCell ⟨g, 0, none⟩ x0).setCell ⟨g, 1, none⟩ x1).setCell ⟨g, 2, none⟩ x2).cell? ⟨b4, o4, none⟩ = some u4 ∧ (((w1.setCell ⟨g, 0, none⟩ x0).setCell ⟨g, 1, none⟩ x1).setCell ⟨g, 2, none⟩ x2).cell? ⟨b5, o5, none⟩ = some u5 ∧ (((w1.setCell ⟨g, 0, none⟩ x0).setCell ⟨g, 1, none⟩ x1).setCell ⟨g, 2, none⟩ x2).cell? ⟨b6, o6, none⟩ = some u6 ∧ (((w1.setCell ⟨g, 0, none⟩ x0).setCell ⟨g, 1, none⟩ x1).setCell ⟨g, 2, none⟩ x2).cell? ⟨g, 0, none⟩ = some (was (((w1.setCell ⟨g, 0, none⟩ x0).setCell ⟨g, 1, none⟩ x1).setCell ⟨g, 2, none⟩ x2) g 0) ∧ (((w1.setCell ⟨g, 0, none⟩ x0).setCell ⟨g, 1, none⟩ x1).setCell ⟨g, 2, none⟩ x2).cell? ⟨g, 1, none⟩ = some (was (((w1.setCell ⟨g, 0, none⟩ x0).setCell ⟨g, 1, none⟩ x1).setCell ⟨g, 2, none⟩ x2) g 1) ∧ (((w1.setCell ⟨g, 0, none⟩ x0).setCell ⟨g, 1, none⟩ x1).setCell ⟨g, 2, none⟩ x2).cell? ⟨g, 2, none⟩ = some (was (((w1.setCell ⟨g, 0, none⟩ x0).setCell ⟨g, 1, none⟩ x1).setCell ⟨g, 2, none⟩ x2) g 2) ∧ (((w1.setCell ⟨g, 0, none⟩ x0).setCell ⟨g, 1, none⟩ x1).setCell ⟨g, 2, none⟩ x2).frozen? ⟨g, 0, none⟩ = false ∧ (((w1.setCell ⟨g, 0, none⟩ x0).setCell ⟨g, 1, none⟩ x1).setCell ⟨g, 2, none⟩ x2).frozen? ⟨g, 1, none⟩ = false ∧ (((w1.setCell ⟨g, 0, none⟩ x0).setCell ⟨g, 1, none⟩ x1).setCell ⟨g, 2, none⟩ x2).frozen? ⟨g, 2, none⟩ = false := by
  obtain ⟨_, k0⟩ := set_was (g := g) (i := 0) (u := x0) h.2.2.2.2.2.2.2.2.1
  obtain ⟨_, k0⟩ := set_was (g := g) (i := 1) (u := x1) k0
  obtain ⟨_, k0⟩ := set_was (g := g) (i := 2) (u := x2) k0
  obtain ⟨_, k1⟩ := set_was (g := g) (i := 0) (u := x0) h.2.2.2.2.2.2.2.2.2.1
  obtain ⟨_, k1⟩ := set_was (g := g) (i := 1) (u := x1) k1
  obtain ⟨_, k1⟩ := set_was (g := g) (i := 2) (u := x2) k1
  obtain ⟨_, k2⟩ := set_was (g := g) (i := 0) (u := x0) h.2.2.2.2.2.2.2.2.2.2.1
  obtain ⟨_, k2⟩ := set_was (g := g) (i := 1) (u := x1) k2
  obtain ⟨_, k2⟩ := set_was (g := g) (i := 2) (u := x2) k2
  exact ⟨(((h.1.setCell hg _).setCell hg _).setCell hg _), (set_far (set_far (set_far h.2.1 n0) n0) n0), (set_far (set_far (set_far h.2.2.1 n1) n1) n1), (set_far (set_far (set_far h.2.2.2.1 n2) n2) n2), (set_far (set_far (set_far h.2.2.2.2.1 n3) n3) n3), (set_far (set_far (set_far h.2.2.2.2.2.1 n4) n4) n4), (set_far (set_far (set_far h.2.2.2.2.2.2.1 n5) n5) n5), (set_far (set_far (set_far h.2.2.2.2.2.2.2.1 n6) n6) n6), was_some k0, was_some k1, was_some k2, (set_fz (set_fz (set_fz h.2.2.2.2.2.2.2.2.2.2.2.1))), (set_fz (set_fz (set_fz h.2.2.2.2.2.2.2.2.2.2.2.2.1))), (set_fz (set_fz (set_fz h.2.2.2.2.2.2.2.2.2.2.2.2.2)))⟩
theorem keptS8_3 {w w1 w2 : World} {g b0 o0 b1 o1 b2 o2 b3 o3 b4 o4 b5 o5 b6 o6 b7 o7 : Nat} {u0 u1 u2 u3 u4 u5 u6 u7 : Value} (h : Ext w w1 ∧ w1.cell? ⟨b0, o0, none⟩ = some u0 ∧ w1.cell? ⟨b1, o1, none⟩ = some u1 ∧ w1.cell? ⟨b2, o2, none⟩ = some u2 ∧ w1.cell? ⟨b3, o3, none⟩ = some u3 ∧ w1.cell? ⟨b4, o4, none⟩ = some u4 ∧ w1.cell? ⟨b5, o5, none⟩ = some u5 ∧ w1.cell? ⟨b6, o6, none⟩ = some u6 ∧ w1.cell? ⟨b7, o7, none⟩ = some u7 ∧ w1.cell? ⟨g, 0, none⟩ = some (was w1 g 0) ∧ w1.cell? ⟨g, 1, none⟩ = some (was w1 g 1) ∧ w1.cell? ⟨g, 2, none⟩ = some (was w1 g 2) ∧ w1.frozen? ⟨g, 0, none⟩ = false ∧ w1.frozen? ⟨g, 1, none⟩ = false ∧ w1.frozen? ⟨g, 2, none⟩ = false) (hx : Ext w1 w2) : Ext w w2 ∧ w2.cell? ⟨b0, o0, none⟩ = some u0 ∧ w2.cell? ⟨b1, o1, none⟩ = some u1 ∧ w2.cell? ⟨b2, o2, none⟩ = some u2 ∧ w2.cell? ⟨b3, o3, none⟩ = some u3 ∧ w2.cell? ⟨b4, o4, none⟩ = some u4 ∧ w2.cell? ⟨b5, o5, none⟩ = some u5 ∧ w2.cell? ⟨b6, o6, none⟩ = some u6 ∧ w2.cell? ⟨b7, o7, none⟩ = some u7 ∧ w2.cell? ⟨g, 0, none⟩ = some (was w2 g 0) ∧ w2.cell? ⟨g, 1, none⟩ = some (was w2 g 1) ∧ w2.cell? ⟨g, 2, none⟩ = some (was w2 g 2) ∧ w2.frozen? ⟨g, 0, none⟩ = false ∧ w2.frozen? ⟨g, 1, none⟩ = false ∧ w2.frozen? ⟨g, 2, none⟩ = false :=
  ⟨h.1.trans hx, hx.keep h.2.1, hx.keep h.2.2.1, hx.keep h.2.2.2.1, hx.keep h.2.2.2.2.1, hx.keep h.2.2.2.2.2.1, hx.keep h.2.2.2.2.2.2.1, hx.keep h.2.2.2.2.2.2.2.1, hx.keep h.2.2.2.2.2.2.2.2.1, was_some (hx.keep h.2.2.2.2.2.2.2.2.2.1), was_some (hx.keep h.2.2.2.2.2.2.2.2.2.2.1), was_some (hx.keep h.2.2.2.2.2.2.2.2.2.2.2.1), hx.keepf h.2.2.2.2.2.2.2.2.2.1 h.2.2.2.2.2.2.2.2.2.2.2.2.1, hx.keepf h.2.2.2.2.2.2.2.2.2.2.1 h.2.2.2.2.2.2.2.2.2.2.2.2.2.1, hx.keepf h.2.2.2.2.2.2.2.2.2.2.2.1 h.2.2.2.2.2.2.2.2.2.2.2.2.2.2⟩
theorem keptS8_3_set {w w1 : World} {g b0 o0 b1 o1 b2 o2 b3 o3 b4 o4 b5 o5 b6 o6 b7 o7 : Nat} {u0 u1 u2 u3 u4 u5 u6 u7 : Value} {x0 x1 x2 : Value} (h : Ext w w1 ∧ w1.cell? ⟨b0, o0, none⟩ = some u0 ∧ w1.cell? ⟨b1, o1, none⟩ = some u1 ∧ w1.cell? ⟨b2, o2, none⟩ = some u2 ∧ w1.cell? ⟨b3, o3, none⟩ = some u3 ∧ w1.cell? ⟨b4, o4, none⟩ = some u4 ∧ w1.cell? ⟨b5, o5, none⟩ = some u5 ∧ w1.cell? ⟨b6, o6, none⟩ = some u6 ∧ w1.cell? ⟨b7, o7, none⟩ = some u7 ∧ w1.cell? ⟨g, 0, none⟩ = some (was w1 g 0) ∧ w1.cell? ⟨g, 1, none⟩ = some (was w1 g 1) ∧ w1.cell? ⟨g, 2, none⟩ = some (was w1 g 2) ∧ w1.frozen? ⟨g, 0, none⟩ = false ∧ w1.frozen? ⟨g, 1, none⟩ = false ∧ w1.frozen? ⟨g, 2, none⟩ = false) (hg : w.heap.size ≤ g) (n0 : b0 ≠ g) (n1 : b1 ≠ g) (n2 : b2 ≠ g) (n3 : b3 ≠ g) (n4 : b4 ≠ g) (n5 : b5 ≠ g) (n6 : b6 ≠ g) (n7 : b7 ≠ g) : Ext w (((w1.setCell ⟨g, 0, none⟩ x0).setCell ⟨g, 1, none⟩ x1).setCell ⟨g, 2, none⟩ x2) ∧ (((w1.setCell ⟨g, 0, none⟩ x0).setCell ⟨g, 1, none⟩ x1).setCell ⟨g, 2, none⟩ x2).cell? ⟨b0, o0, none⟩ = some u0 ∧ (((w1.setCell ⟨g, 0, none⟩ x0).setCell ⟨g, 1, none⟩ x1).setCell ⟨g, 2, none⟩ x2).cell? ⟨b1, o1, none⟩ = some u1 ∧ (((w1.setCell ⟨g, 0, none⟩ x0).setCell ⟨g, 1, none⟩ x1).setCell ⟨g, 2, none⟩ x2).cell? ⟨b2, o2, none⟩ = some u2 ∧ (((w1.setCell ⟨g, 0, none⟩ x0).setCell ⟨g, 1, none⟩ x1).setCell ⟨g, 2, none⟩ x2).cell? ⟨b3, o3, none⟩ = some u3 ∧ (((w1.setCell ⟨g, 0, none⟩ x0).setCell ⟨g, 1, none⟩ x1).setCell ⟨g, 2, none⟩ x2).cell? ⟨b4, o4, none⟩ = some u4 ∧ (((w1.setCell ⟨g, 0, none⟩ x0).setCell ⟨g, 1, none⟩ x1).setCell ⟨g, 2, none⟩ x2).cell? ⟨b5, o5, none⟩ = some u5 ∧ (((w1.setCell ⟨g, 0, none⟩ x0).setCell ⟨g, 1, none⟩ x1).setCell ⟨g, 2, none⟩ x2).cell? ⟨b6, o6, none⟩ = some u6 ∧ (((w1.setCell ⟨g, 0, none⟩ x0).setCell ⟨g, 1, none⟩ x1).setCell ⟨g, 2, none⟩ x2).cell? ⟨b7, o7, none⟩ = some u7 ∧ (((w1.setCell ⟨g, 0, none⟩ x0).setCell ⟨g, 1, none⟩ x1).setCell ⟨g, 2, none⟩ x2).cell? ⟨g, 0, none⟩ = some (was (((w1.setCell ⟨g, 0, none⟩ x0).setCell ⟨g, 1, none⟩ x1).setCell ⟨g, 2, none⟩ x2) g 0) ∧ (((w1.setCell ⟨g, 0, none⟩ x0).setCell ⟨g, 1, none⟩ x1).setCell ⟨g, 2, none⟩ x2).cell? ⟨g, 1, none⟩ = some (was (((w1.setCell ⟨g, 0, none⟩ x0).setCell ⟨g, 1, none⟩ x1).setCell ⟨g, 2, none⟩ x2) g 1) ∧ (((w1.setCell ⟨g, 0, none⟩ x0).setCell ⟨g, 1, none⟩ x1).setCell ⟨g, 2, none⟩ x2).cell? ⟨g, 2, none⟩ = some (was (((w1.setCell ⟨g, 0, none⟩ x0).setCell ⟨g, 1, none⟩ x1).setCell ⟨g, 2, none⟩ x2) g 2) ∧ (((w1.setCell ⟨g, 0, none⟩ x0).setCell ⟨g, 1, none⟩ x1).setCell ⟨g, 2, none⟩ x2).frozen? ⟨g, 0, none⟩ = false ∧ (((w1.setCell ⟨g, 0, none⟩ x0).setCell ⟨g, 1, none⟩ x1).setCell ⟨g, 2, none⟩ x2).frozen? ⟨g, 1, none⟩ = false ∧ (((w1.setCell ⟨g, 0, none⟩ x0).setCell ⟨g, 1, none⟩ x1).setCell ⟨g, 2, none⟩ x2).frozen? ⟨g, 2, none⟩ = false := by
  obtain ⟨_, k0⟩ := set_was (g := g) (i := 0) (u := x0) h.2.2.2.2.2.2.2.2.2.1
  obtain ⟨_, k0⟩ := set_was (g := g) (i := 1) (u := x1) k0
  obtain ⟨_, k0⟩ := set_was (g := g) (i := 2) (u := x2) k0
  obtain ⟨_, k1⟩ := set_was (g := g) (i := 0) (u := x0) h.2.2.2.2.2.2.2.2.2.2.1
  obtain ⟨_, k1⟩ := set_was (g := g) (i := 1) (u := x1) k1
  obtain ⟨_, k1⟩ := set_was (g := g) (i := 2) (u := x2) k1
  obtain ⟨_, k2⟩ := set_was (g := g) (i := 0) (u := x0) h.2.2.2.2.2.2.2.2.2.2.2.1
  obtain ⟨_, k2⟩ := set_was (g := g) (i := 1) (u := x1) k2
  obtain ⟨_, k2⟩ := set_was (g := g) (i := 2) (u := x2) k2
  exact ⟨(((h.1.setCell hg _).setCell hg _).setCell hg _), (set_far (set_far (set_far h.2.1 n0) n0) n0), (set_far (set_far (set_far h.2.2.1 n1) n1) n1), (set_far (set_far (set_far h.2.2.2.1 n2) n2) n2), (set_far (set_far (set_far h.2.2.2.2.1 n3) n3) n3), (set_far (set_far (set_far h.2.2.2.2.2.1 n4) n4) n4), (set_far (set_far (set_far h.2.2.2.2.2.2.1 n5) n5) n5), (set_far (set_far (set_far h.2.2.2.2.2.2.2.1 n6) n6) n6), (set_far (set_far (set_far h.2.2.2.2.2.2.2.2.1 n7) n7) n7), was_some k0, was_some k1, was_some k2, (set_fz (set_fz (set_fz h.2.2.2.2.2.2.2.2.2.2.2.2.1))), (set_fz (set_fz (set_fz h.2.2.2.2.2.2.2.2.2.2.2.2.2.1))), (set_fz (set_fz (set_fz h.2.2.2.2.2.2.2.2.2.2.2.2.2.2)))⟩
theorem cell_before {w : World} {p q : Addr} {v u : Value} (h : (w.setCell p v).cell? q = some u) : ∃ u', w.cell? q = some u' := by
  by_cases e : p = q
  · subst e
    cases hc : w.cell? p with
    | some u' => exact ⟨u', rfl⟩
    | none =>
      exfalso
      simp only [World.setCell, World.cell?, Array.getElem?_modify, if_true] at h
      unfold World.cell? at hc
      cases hb : w.heap[p.block]? with
      | none => rw [hb] at h; simp at h
      | some x =>
        rw [hb] at h hc
        cases x with
        | cells c t f =>
          simp at h hc
          split at h
          · simp_all
          · obtain ⟨hs, h⟩ := h
            have hge := hc hs
            rw [Array.getElem?_eq_none (by simpa using hge)] at h
            cases h
        | _ => simp at h
  · rw [World.cell?_setCell_other _ _ _ _ e] at h
    exact ⟨u, h⟩
/-- A struct of two cells stored into a block: its cells behind the stores. -/
theorem final2 {w : World} {g : Nat} {a b u u' : Value} (h0 : ((w.setCell ⟨g, 0, none⟩ a).setCell ⟨g, 1, none⟩ b).cell? ⟨g, 0, none⟩ = some u) (h1 : ((w.setCell ⟨g, 0, none⟩ a).setCell ⟨g, 1, none⟩ b).cell? ⟨g, 1, none⟩ = some u') :
    (w.setCell ⟨g, 0, none⟩ a).cell? ⟨g, 0, none⟩ = some a ∧ ((w.setCell ⟨g, 0, none⟩ a).setCell ⟨g, 1, none⟩ b).cell? ⟨g, 1, none⟩ = some b := by
  obtain ⟨_, k0⟩ := cell_before h0
  obtain ⟨_, k0⟩ := cell_before k0
  obtain ⟨_, k1⟩ := cell_before h1
  exact ⟨World.cell?_setCell_same _ _ _ k0, World.cell?_setCell_same _ _ _ k1⟩
theorem IsInt.put {w w1 w' : World} {g : Nat} {bi : Bool} {m : Value} {z : Int} (hi : IsInt w1.heap.size w' (.agg #[.bool bi, m]) z) (hg : g < w1.heap.size) (hw : w.heap.size ≤ w1.heap.size) :
    IsInt w.heap.size ((w'.setCell ⟨g, 0, none⟩ (.bool bi)).setCell ⟨g, 1, none⟩ m) (.agg #[.bool bi, m]) z := ((hi.far hg _).far hg _).mono hw


end Big
end Go.Proofs.YtplmldkfgeiklaaGreatDoor
/- integer.Mul, integer.Add, mill.Nat. -/
namespace Go.Proofs.YtplmldkfgeiklaaGreatDoor
namespace Big
open Go.RowKit

theorem mnat_any (w : World) (v : Value) (xs : List Nat) (n : Int) (h : Arr w v xs) (hn : xs.length ≤ 1073741824) (hle : (xs.length : Int) ≤ n) :
    Calls Tryz.prog 52 #[v, .int .i64 n] w fun e w' => ∃ v', e = .returned (.tuple #[v', .bool true]) ∧ Own w.heap.size w' v' (limbs (val xs)) ∧ Ext w w' := by
  have HT := Lib.hid (rtrim_any w v xs h hn)
  obtain ⟨hok, A, c, rfl, hc, hm, hcell⟩ := h.open
  have hlt : ¬ n < (xs.length : Int) := by omega
  clear h hcell hm hc hle
  go_enter Tryz.func52, Tryz.ntmps52
  go_wp2_with fail
  refine HT.out.mono ?_
  rintro e w' ⟨v', rfl, ho, hx⟩
  go_wp2_with fail
  go_ret2
  exact ⟨_, rfl, ho, hx⟩
theorem mnat_big (w : World) (A : Option Addr) (len c : Nat) (n : Int) (h : n < len) :
    Calls Tryz.prog 52 #[.slice A len c, .int .i64 n] w fun e w' => e = .returned (.tuple #[.slice none 0 0, .bool false]) ∧ w = w' := by
  go_enter Tryz.func52, Tryz.ntmps52
  go_wp2_with fail
  go_ret2
  exact ⟨rfl, rfl⟩

theorem length_limbs_sum {m n k : Nat} {j : Nat} (hm : (limbs m).length ≤ k) (hn : (limbs n).length ≤ j) : (limbs (m + n)).length ≤ k + j + 1 := by
  refine length_limbs_le ?_
  have h1 := val_lt (ok_limbs m)
  have h2 := val_lt (ok_limbs n)
  rw [val_limbs] at h1 h2
  have h3 := pow_mono (show (limbs m).length ≤ k + j by omega)
  have h4 := pow_mono (show (limbs n).length ≤ k + j by omega)
  rw [Nat.pow_succ]
  omega
theorem sgn_mul (x y : Int) : sgn (decide (x < 0) != decide (y < 0)) (x.natAbs * y.natAbs) = x * y := by
  have hx : x = sgn (decide (x < 0)) x.natAbs := by unfold sgn; by_cases h : x < 0 <;> simp [h] <;> omega
  have hy : y = sgn (decide (y < 0)) y.natAbs := by unfold sgn; by_cases h : y < 0 <;> simp [h] <;> omega
  generalize decide (x < 0) = b at *
  generalize decide (y < 0) = b' at *
  generalize x.natAbs = m at *
  generalize y.natAbs = n at *
  subst hx
  subst hy
  cases b <;> cases b' <;> simp [sgn, Int.neg_mul, Int.mul_neg]

theorem length_limbs_prod {m n k : Nat} {j : Nat} (hm : (limbs m).length ≤ k) (hn : (limbs n).length ≤ j) : (limbs (m * n)).length ≤ k + j := by
  refine length_limbs_le ?_
  have h1 := val_lt (ok_limbs m)
  have h2 := val_lt (ok_limbs n)
  rw [val_limbs] at h1 h2
  rw [Nat.pow_add]
  exact Nat.mul_lt_mul'' (Nat.lt_of_lt_of_le h1 (pow_mono hm)) (Nat.lt_of_lt_of_le h2 (pow_mono hn))
set_option maxRecDepth 100000 in
theorem imul_any (w : World) (v u : Value) (x y : Int) (h : ArrInt w v x) (h' : ArrInt w u y) (hn : (limbs x.natAbs).length ≤ 268435456) (hn' : (limbs y.natAbs).length ≤ 268435456) :
    Calls Tryz.prog 82 #[v, u] w fun e w' => ∃ v', e = .returned v' ∧ IsInt w.heap.size w' v' (x * y) ∧ Ext w w' := by
  have HA := Lib.hid h
  have HB := Lib.hid h'
  have HM := Lib.hid (fun W m m' a b => mul_any W m m' (limbs x.natAbs) (limbs y.natAbs) a b hn hn')
  rw [val_limbs, val_limbs] at HM
  have HS := Lib.hid (sgn_mul x y)
  obtain ⟨b, n, A, c, rfl⟩ := h.shape
  obtain ⟨b', n', A', c', rfl⟩ := h'.shape
  rw [← h.sign, ← h'.sign] at HS
  clear h h'
  go_enter Tryz.func82, Tryz.ntmps82
  go_wp2_with fail
  have hb0 := ((Blk.new w 24 #[Value.bool b, Value.slice A n c]).alloc (.cells #[Value.bool b', Value.slice A' n' c'] 24)).alloc (.cells #[Value.bool false, Value.slice none 0 0] 24)
  have hb1 := (Blk.new (w.alloc (.cells #[Value.bool b, Value.slice A n c] 24)) 24 #[Value.bool b', Value.slice A' n' c']).alloc (.cells #[Value.bool false, Value.slice none 0 0] 24)
  have hb2 := Blk.new ((w.alloc (.cells #[Value.bool b, Value.slice A n c] 24)).alloc (.cells #[Value.bool b', Value.slice A' n' c'] 24)) 24 #[Value.bool false, Value.slice none 0 0]
  have hxo := (((Ext.refl w).alloc (.cells #[Value.bool b, Value.slice A n c] 24)).alloc (.cells #[Value.bool b', Value.slice A' n' c'] 24)).alloc (.cells #[Value.bool false, Value.slice none 0 0] 24)
  simp only [World.size_alloc] at hb1 hb2
  generalize ((w.alloc (.cells #[Value.bool b, Value.slice A n c] 24)).alloc (.cells #[Value.bool b', Value.slice A' n' c'] 24)).alloc (.cells #[Value.bool false, Value.slice none 0 0] 24) = wo at *
  obtain ⟨h0, h1, _, _, _⟩ := hb0.two
  obtain ⟨h2, h3, _, _, _⟩ := hb1.two
  obtain ⟨h4, h5, h6, h7, hgz⟩ := hb2.two
  clear hb0 hb1 hb2
  have HI := Lib.hid (fun W m a => inat_any W (b != b') m (limbs (x.natAbs * y.natAbs)) a (by
    have := length_limbs_prod hn hn'
    omega))
  rw [val_limbs, HS.out] at HI
  go_region_held3 (fun w' => Ext w w' ∧ w'.cell? ⟨w.heap.size, 0, none⟩ = some (.bool b) ∧ w'.cell? ⟨w.heap.size, 1, none⟩ = some (.slice A n c) ∧ w'.cell? ⟨w.heap.size + 1, 0, none⟩ = some (.bool b') ∧ w'.cell? ⟨w.heap.size + 1, 1, none⟩ = some (.slice A' n' c') ∧
      w'.cell? ⟨w.heap.size + 1 + 1, 0, none⟩ = some (was w' (w.heap.size + 1 + 1) 0) ∧ w'.cell? ⟨w.heap.size + 1 + 1, 1, none⟩ = some (was w' (w.heap.size + 1 + 1) 1) ∧ w'.frozen? ⟨w.heap.size + 1 + 1, 0, none⟩ = false ∧ w'.frozen? ⟨w.heap.size + 1 + 1, 1, none⟩ = false)
    (first | (exact ⟨hxo.drew, h0, h1, h2, h3, was_some (w := wo.drew) h4, was_some (w := wo.drew) h5, h6, h7⟩) | (exact keptS4_2 (by assumption) (by assumption)) | (exact keptS4_2_set (by assumption) (by omega) (by omega) (by omega) (by omega) (by omega)))
    (first
      | (go_at_call 83; refine (HM.out _ _ _ ?_ ?_).mono ?_; (exact HA.out.mag.ext (And.left (by assumption))); (exact HB.out.mag.ext (And.left (by assumption))); rintro e w1 ⟨v', rfl, ho, hx⟩; obtain ⟨nm, Am, cm, rfl⟩ := ho.shape; have hra := ho.arr; have hz1 := hx.size)
      | (go_at_call 77; refine (HI.out _ _ (by assumption)).mono ?_; rintro e w' ⟨v', rfl, hi, hx⟩; have HIR := Lib.hid hi; obtain ⟨bi, ni, Ai, ci, rfl⟩ := hi.shape))
  go_wp2_with fail
  rename_i hS
  obtain ⟨hE, _, _, _, _, hc0, hc1, _, _⟩ := hS
  have hz0 := hxo.size
  simp only [World.size_drew] at hz1
  obtain ⟨hr0, hr1⟩ := final2 hc0 hc1
  refine bodyPost_ret (v := .agg #[.bool bi, .slice Ai ni ci]) (by simp [results, Tryz.results82, go_sem, hr0, hr1]) rfl ?_
  exact ⟨_, rfl, HIR.out.put (by omega) (by omega), hE⟩
set_option maxRecDepth 100000 in
theorem iadd_same (w : World) (v u : Value) (x y : Int) (h : ArrInt w v x) (h' : ArrInt w u y) (hn : (limbs x.natAbs).length ≤ 268435456) (hn' : (limbs y.natAbs).length ≤ 268435456) (hs : decide (x < 0) = decide (y < 0)) :
    Calls Tryz.prog 102 #[v, u] w fun e w' => ∃ v', e = .returned v' ∧ IsInt w.heap.size w' v' (x + y) ∧ Ext w w' := by
  have HA := Lib.hid h
  have HB := Lib.hid h'
  have HM := Lib.hid (fun W m m' a b => add_any W m m' (limbs x.natAbs) (limbs y.natAbs) a b (by omega) (by omega))
  rw [val_limbs, val_limbs] at HM
  obtain ⟨b, n, A, c, rfl⟩ := h.shape
  obtain ⟨b', n', A', c', rfl⟩ := h'.shape
  have hb : b' = b := by rw [h.sign, h'.sign, hs]
  subst hb
  have HS := Lib.hid (show sgn b' (x.natAbs + y.natAbs) = x + y by
    have h1 := h.sign
    have h2 := h'.sign
    unfold sgn
    cases b'
    · have := of_decide_eq_false h1.symm
      have := of_decide_eq_false h2.symm
      simp; omega
    · have := of_decide_eq_true h1.symm
      have := of_decide_eq_true h2.symm
      simp; omega)
  clear h h' hs
  go_enter Tryz.func102, Tryz.ntmps102
  go_wp2_with fail
  have hb0 := ((Blk.new w 24 #[Value.bool b', Value.slice A n c]).alloc (.cells #[Value.bool b', Value.slice A' n' c'] 24)).alloc (.cells #[Value.bool false, Value.slice none 0 0] 24)
  have hb1 := (Blk.new (w.alloc (.cells #[Value.bool b', Value.slice A n c] 24)) 24 #[Value.bool b', Value.slice A' n' c']).alloc (.cells #[Value.bool false, Value.slice none 0 0] 24)
  have hb2 := Blk.new ((w.alloc (.cells #[Value.bool b', Value.slice A n c] 24)).alloc (.cells #[Value.bool b', Value.slice A' n' c'] 24)) 24 #[Value.bool false, Value.slice none 0 0]
  have hxo := (((Ext.refl w).alloc (.cells #[Value.bool b', Value.slice A n c] 24)).alloc (.cells #[Value.bool b', Value.slice A' n' c'] 24)).alloc (.cells #[Value.bool false, Value.slice none 0 0] 24)
  simp only [World.size_alloc] at hb1 hb2
  generalize ((w.alloc (.cells #[Value.bool b', Value.slice A n c] 24)).alloc (.cells #[Value.bool b', Value.slice A' n' c'] 24)).alloc (.cells #[Value.bool false, Value.slice none 0 0] 24) = wo at *
  obtain ⟨h0, h1, _, _, _⟩ := hb0.two
  obtain ⟨h2, h3, _, _, _⟩ := hb1.two
  obtain ⟨h4, h5, h6, h7, hgz⟩ := hb2.two
  clear hb0 hb1 hb2
  have HI := Lib.hid (fun W m a => inat_any W b' m (limbs (x.natAbs + y.natAbs)) a (by
    have := length_limbs_sum hn hn'
    omega))
  rw [val_limbs, HS.out] at HI
  go_region_held3 (fun w' => Ext w w' ∧ w'.cell? ⟨w.heap.size, 0, none⟩ = some (.bool b') ∧ w'.cell? ⟨w.heap.size, 1, none⟩ = some (.slice A n c) ∧ w'.cell? ⟨w.heap.size + 1, 0, none⟩ = some (.bool b') ∧ w'.cell? ⟨w.heap.size + 1, 1, none⟩ = some (.slice A' n' c') ∧
      w'.cell? ⟨w.heap.size + 1 + 1, 0, none⟩ = some (was w' (w.heap.size + 1 + 1) 0) ∧ w'.cell? ⟨w.heap.size + 1 + 1, 1, none⟩ = some (was w' (w.heap.size + 1 + 1) 1) ∧ w'.frozen? ⟨w.heap.size + 1 + 1, 0, none⟩ = false ∧ w'.frozen? ⟨w.heap.size + 1 + 1, 1, none⟩ = false)
    (first | (exact ⟨hxo.drew, h0, h1, h2, h3, was_some (w := wo.drew) h4, was_some (w := wo.drew) h5, h6, h7⟩) | (exact keptS4_2 (by assumption) (by assumption)) | (exact keptS4_2_set (by assumption) (by omega) (by omega) (by omega) (by omega) (by omega)))
    (first
      | (go_at_call 140; refine (HM.out _ _ _ ?_ ?_).mono ?_; (exact HA.out.mag.ext (And.left (by assumption))); (exact HB.out.mag.ext (And.left (by assumption))); rintro e w1 ⟨v', rfl, ho, hx⟩; obtain ⟨nm, Am, cm, rfl⟩ := ho.shape; have hra := ho.arr; have hz1 := hx.size)
      | (go_at_call 77; refine (HI.out _ _ (by assumption)).mono ?_; rintro e w' ⟨v', rfl, hi, hx⟩; have HIR := Lib.hid hi; obtain ⟨bi, ni, Ai, ci, rfl⟩ := hi.shape))
  go_wp2_with fail
  rename_i hS
  obtain ⟨hE, _, _, _, _, hc0, hc1, _, _⟩ := hS
  have hz0 := hxo.size
  simp only [World.size_drew] at hz1
  obtain ⟨hr0, hr1⟩ := final2 hc0 hc1
  refine bodyPost_ret (v := .agg #[.bool bi, .slice Ai ni ci]) (by simp [results, Tryz.results102, go_sem, hr0, hr1]) rfl ?_
  exact ⟨_, rfl, HIR.out.put (by omega) (by omega), hE⟩

end Big
end Go.Proofs.YtplmldkfgeiklaaGreatDoor
/- nat.Cmp. -/
namespace Go.Proofs.YtplmldkfgeiklaaGreatDoor
namespace Big
open Go.RowKit
theorem limbs_mono {a b : Nat} (h : a ≤ b) : (limbs a).length ≤ (limbs b).length :=
  length_limbs_le (Nat.lt_of_le_of_lt h (by have := val_lt (ok_limbs b); rwa [val_limbs] at this))
theorem size_lt {xs ys : List Nat} (h : Ok xs) (h' : Ok ys) (hs : size xs < size ys) : val xs < val ys := by
  rcases Nat.lt_or_ge (val xs) (val ys) with h1 | h1
  · exact h1
  · have := limbs_mono h1
    rw [← size_eq h, ← size_eq h'] at this
    omega
theorem val_drop_size {xs : List Nat} (h : Ok xs) : val (xs.drop (size xs)) = 0 := by
  have h1 := val_split xs (size xs) (size_le xs)
  rw [take_size h, val_limbs] at h1
  have h2 := pow_pos' (size xs)
  rcases Nat.eq_zero_or_pos (val (xs.drop (size xs))) with h3 | h3
  · exact h3
  · have := Nat.mul_pos h2 h3
    omega
theorem cmp_any (w : World) (v u : Value) (xs ys : List Nat) (h : Arr w v xs) (h' : Arr w u ys) (hn : xs.length ≤ 1073741824) (hn' : ys.length ≤ 1073741824) :
    Calls Tryz.prog 146 #[v, u] w fun e w' => e = .returned (.int .i64 (cmpI (val xs) (val ys))) ∧ Ext w w' := by
  have HA := Lib.hid h
  have HB := Lib.hid h'
  obtain ⟨hok, A, c, rfl, hc, hm, hcell⟩ := h.open
  obtain ⟨hok', A', c', rfl, hc', hm', hcell'⟩ := h'.open
  have HSA := Lib.hid (fun W hx => size_any W _ xs (HA.out.ext hx))
  have HSB := Lib.hid (fun W hx => size_any W _ ys (HB.out.ext hx))
  have h1 := size_le xs
  have h2 := size_le ys
  have HL := Lib.hid (size_lt hok hok')
  have HG := Lib.hid (size_lt hok' hok)
  have HD := Lib.hid (show size xs = size ys → val (xs.drop (size xs)) = val (ys.drop (size xs)) from fun e => by rw [val_drop_size hok, e, val_drop_size hok'])
  have HCA := Lib.hid hcell
  have HCB := Lib.hid hcell'
  clear h h' hcell hcell' hm hm' hc hc'
  go_enter Tryz.func146, Tryz.ntmps146
  go_wp2_with fail
  refine (HSA.out _ (Ext.refl w)).mono ?_
  rintro e w' ⟨rfl, rfl⟩
  go_wp2_with fail
  refine (HSB.out _ (Ext.refl w)).mono ?_
  rintro e w' ⟨rfl, rfl⟩
  rcases Nat.lt_trichotomy (size xs) (size ys) with hs | hs | hs
  · have HC := Lib.hid (cmpI_lt (HL.out hs))
    have hs' : (size xs : Int) < (size ys : Int) := by omega
    clear hs
    go_wp2_with fail
    go_ret
    exact ⟨congrArg (fun z => Ending.returned (.int .i64 z)) HC.out.symm, Ext.refl _⟩
  · have HD2 := Lib.hid (HD.out hs)
    rw [← hs] at h2 ⊢
    clear hs HSA HSB HL HG HD HA HB
    generalize size xs = n at *
    go_wp2_with fail
    go_loopw [7] (fun i wr => ∃ k : Nat, k ≤ n ∧ i = .int .i64 ((k : Int) - 1) ∧ Hid (val (xs.drop k) = val (ys.drop k)) ∧ Ext w wr) (fun i _ => (intOf i + 1).toNat)
    case atStart => exact ⟨n, Nat.le_refl _, rfl, HD2, Ext.refl _⟩
    case round =>
      obtain ⟨k, hk, rfl, HV, hext⟩ := hrel
      rcases Nat.eq_zero_or_pos k with h0 | h0
      · subst h0
        have HE := Lib.hid (cmpI_eq (show val xs = val ys from HV.out))
        go_wp2_with fail
        go_ret
        exact ⟨congrArg (fun z => Ending.returned (.int .i64 z)) HE.out.symm, hext⟩
      · obtain ⟨m, rfl⟩ : ∃ m, k = m + 1 := ⟨k - 1, by omega⟩
        obtain ⟨b, o, rfl, hb, hcell⟩ := HCA.out (by omega)
        obtain ⟨b', o', rfl, hb', hcell'⟩ := HCB.out (by omega)
        have hx := (hext.cell hb).trans (hcell m (by omega))
        have hy := (hext.cell hb').trans (hcell' m (by omega))
        clear hcell hcell'
        have HL := Lib.hid (digit_lt hok m HV.out)
        have HG := Lib.hid (digit_lt hok' m HV.out.symm)
        have HE := Lib.hid (fun he => digit_eq (xs := xs) (ys := ys) m HV.out he)
        obtain ⟨x, hxe⟩ : ∃ x, xs.getD m 0 = x := ⟨_, rfl⟩
        obtain ⟨y, hye⟩ : ∃ y, ys.getD m 0 = y := ⟨_, rfl⟩
        rw [hxe] at hx HL HG HE
        rw [hye] at hy HL HG HE
        clear hxe hye
        simp only [d32] at hx hy
        have HX := Lib.hid hext
        clear hext
        have h3 : (m : Int) < (xs.length : Int) := by omega
        have h4 : (m : Int) < (ys.length : Int) := by omega
        have h5 : (0 : Int) ≤ (m : Int) := by omega
        rcases Nat.lt_trichotomy x y with hxy | rfl | hxy
        · have HC := Lib.hid (cmpI_lt (HL.out hxy))
          have hd : decide (x < y) = true := by simpa using hxy
          have hd2 : decide ((x : Int) < (y : Int)) = true := by simpa using hxy
          go_wp2_with fail
          go_quiet (fail)
          go_wp2_with fail
          go_ret
          exact ⟨congrArg (fun z => Ending.returned (.int .i64 z)) HC.out.symm, HX.out.drewN _⟩
        · have HE2 := Lib.hid (HE.out rfl)
          go_wp2_with fail
          go_quiet (fail)
          go_wp2_with fail
          go_quiet (fail)
          go_wp2_with fail
          go_roundw
          case rel => exact ⟨m, by omega, rfl, HE2, HX.out.drewN _⟩
          case measure => simp [intOf]
        · have HC := Lib.hid (cmpI_gt (HG.out hxy))
          have hd : decide (x < y) = false := by simp; omega
          have hd2 : decide ((x : Int) < (y : Int)) = false := by simp; omega
          have hd3 : decide (y < x) = true := by simpa using hxy
          have hd4 : decide ((y : Int) < (x : Int)) = true := by simpa using hxy
          go_wp2_with fail
          go_quiet (fail)
          go_wp2_with fail
          go_quiet (fail)
          go_wp2_with fail
          go_ret
          exact ⟨congrArg (fun z => Ending.returned (.int .i64 z)) HC.out.symm, (HX.out.drewN _).drewN _⟩
  · have HC := Lib.hid (cmpI_gt (HG.out hs))
    have hs' : (size ys : Int) < (size xs : Int) := by omega
    have hs'' : ¬ (size xs : Int) < (size ys : Int) := by omega
    clear hs
    go_wp2_with fail
    go_ret
    exact ⟨congrArg (fun z => Ending.returned (.int .i64 z)) HC.out.symm, Ext.refl _⟩
end Big
end Go.Proofs.YtplmldkfgeiklaaGreatDoor
/- bits.Sub32, bits.Add32, nat.places. -/
namespace Go.Proofs.YtplmldkfgeiklaaGreatDoor
namespace Big
open Go.RowKit
theorem bits_u32_and (a b : Nat) (ha : a < 4294967296) (hb : b < 4294967296) : bits .and .u32 (a : Int) (b : Int) = ((a &&& b : Nat) : Int) := by
  have hx : a &&& b < 2 ^ 32 := Nat.and_lt_two_pow _ (by omega)
  have h1 : (BitVec.ofInt 32 (a : Int)).toNat = a := by
    rw [BitVec.ofInt_natCast, BitVec.toNat_ofNat]; exact Nat.mod_eq_of_lt (by omega)
  have h2 : (BitVec.ofInt 32 (b : Int)).toNat = b := by
    rw [BitVec.ofInt_natCast, BitVec.toNat_ofNat]; exact Nat.mod_eq_of_lt (by omega)
  show IntKind.u32.wrap ((BitVec.ofInt 32 (a : Int) &&& BitVec.ofInt 32 (b : Int)).toNat : Int) = _
  rw [BitVec.toNat_and, h1, h2, IntKind.wrap_u32]
  omega
theorem bits_u32_or (a b : Nat) (ha : a < 4294967296) (hb : b < 4294967296) : bits .or .u32 (a : Int) (b : Int) = ((a ||| b : Nat) : Int) := by
  have hx : a ||| b < 2 ^ 32 := Nat.or_lt_two_pow (by omega) (by omega)
  have h1 : (BitVec.ofInt 32 (a : Int)).toNat = a := by
    rw [BitVec.ofInt_natCast, BitVec.toNat_ofNat]; exact Nat.mod_eq_of_lt (by omega)
  have h2 : (BitVec.ofInt 32 (b : Int)).toNat = b := by
    rw [BitVec.ofInt_natCast, BitVec.toNat_ofNat]; exact Nat.mod_eq_of_lt (by omega)
  show IntKind.u32.wrap ((BitVec.ofInt 32 (a : Int) ||| BitVec.ofInt 32 (b : Int)).toNat : Int) = _
  rw [BitVec.toNat_or, h1, h2, IntKind.wrap_u32]
  omega
theorem bits_u32_xor (a b : Nat) (ha : a < 4294967296) (hb : b < 4294967296) : bits .xor .u32 (a : Int) (b : Int) = ((a ^^^ b : Nat) : Int) := by
  have hx : a ^^^ b < 2 ^ 32 := Nat.xor_lt_two_pow (by omega) (by omega)
  have h1 : (BitVec.ofInt 32 (a : Int)).toNat = a := by
    rw [BitVec.ofInt_natCast, BitVec.toNat_ofNat]; exact Nat.mod_eq_of_lt (by omega)
  have h2 : (BitVec.ofInt 32 (b : Int)).toNat = b := by
    rw [BitVec.ofInt_natCast, BitVec.toNat_ofNat]; exact Nat.mod_eq_of_lt (by omega)
  show IntKind.u32.wrap ((BitVec.ofInt 32 (a : Int) ^^^ BitVec.ofInt 32 (b : Int)).toNat : Int) = _
  rw [BitVec.toNat_xor, h1, h2, IntKind.wrap_u32]
  omega
theorem top_bit {n : Nat} (h : n < 4294967296) : n / 2147483648 = (n.testBit 31).toNat := by
  rw [Nat.testBit_eq_decide_div_mod_eq, show (2 : Nat) ^ 31 = 2147483648 from rfl]
  have : n / 2147483648 < 2 := by omega
  rcases Nat.lt_or_ge (n / 2147483648) 1 with h1 | h1
  · have : n / 2147483648 = 0 := by omega
    rw [this]; rfl
  · have : n / 2147483648 = 1 := by omega
    rw [this]; rfl
theorem top_is {n : Nat} (h : n < 4294967296) : n.testBit 31 = decide (2147483648 ≤ n) := by
  rw [Nat.testBit_eq_decide_div_mod_eq, show (2 : Nat) ^ 31 = 2147483648 from rfl]
  rw [decide_eq_decide]
  omega
/-- What bits.Sub32 reckons as its borrow. -/
theorem borrow32 {x y b d b' : Nat} (hx : x < 4294967296) (hy : y < 4294967296) (hb : b ≤ 1) (hd : d < 4294967296) (hb' : b' ≤ 1) (h : x + 4294967296 * b' = d + y + b) :
    bits .or .u32 (bits .and .u32 (bits .xor .u32 IntKind.u32.max (x : Int)) (y : Int)) (bits .and .u32 (bits .xor .u32 IntKind.u32.max (bits .xor .u32 (x : Int) (y : Int))) (((x : Int) - (y : Int) - (b : Int)) % 4294967296)) / 2147483648 = ((b' : Nat) : Int) := by
  have e1 : ((x : Int) - (y : Int) - (b : Int)) % 4294967296 = ((d : Nat) : Int) := by omega
  have e2 : IntKind.u32.max = ((4294967295 : Nat) : Int) := by rfl
  have l1 : x ^^^ y < 4294967296 := Nat.xor_lt_two_pow (n := 32) hx hy
  have l2 : 4294967295 ^^^ x < 4294967296 := Nat.xor_lt_two_pow (n := 32) (by decide) hx
  have l3 : 4294967295 ^^^ (x ^^^ y) < 4294967296 := Nat.xor_lt_two_pow (n := 32) (by decide) l1
  have l4 : (4294967295 ^^^ x) &&& y < 4294967296 := Nat.and_lt_two_pow (n := 32) _ hy
  have l5 : (4294967295 ^^^ (x ^^^ y)) &&& d < 4294967296 := Nat.and_lt_two_pow (n := 32) _ hd
  have l6 : (4294967295 ^^^ x) &&& y ||| (4294967295 ^^^ (x ^^^ y)) &&& d < 4294967296 := Nat.or_lt_two_pow (n := 32) l4 l5
  rw [e1, e2, bits_u32_xor _ _ (by decide) hx, bits_u32_xor _ _ hx hy, bits_u32_xor _ _ (by decide) l1, bits_u32_and _ _ l2 hy, bits_u32_and _ _ l3 hd, bits_u32_or _ _ l4 l5]
  have key : ((4294967295 ^^^ x) &&& y ||| (4294967295 ^^^ (x ^^^ y)) &&& d) / 2147483648 = b' := by
    rw [top_bit l6, Nat.testBit_or, Nat.testBit_and, Nat.testBit_and, Nat.testBit_xor, Nat.testBit_xor, Nat.testBit_xor, top_is hx, top_is hy, top_is hd, top_is (show 4294967295 < 4294967296 by decide)]
    by_cases hX : 2147483648 ≤ x <;> by_cases hY : 2147483648 ≤ y <;> by_cases hD : 2147483648 ≤ d <;> simp [hX, hY, hD] <;> omega
  omega
theorem add32_any (w : World) (x y c : Nat) (hx : x < 4294967296) (hy : y < 4294967296) (hc : c ≤ 1) :
    Calls Tryz.prog 177 #[.int .u32 (x : Int), .int .u32 (y : Int), .int .u32 (c : Int)] w fun e w' => e = .returned (.tuple #[.int .u32 (((x + y + c) % 4294967296 : Nat) : Int), .int .u32 (((x + y + c) / 4294967296 : Nat) : Int)]) ∧ w = w' := by
  go_enter Tryz.func177, Tryz.ntmps177
  go_wp2_with fail
  go_ret2
  exact ⟨rfl, rfl⟩
theorem places_any (w : World) (n : Nat) (hn : n ≤ 1048576) :
    Calls Tryz.prog 113 #[.int .i64 (n : Int)] w fun e w' => e = .returned (.int .i64 (n : Int)) ∧ w = w' := by
  go_enter Tryz.func113, Tryz.ntmps113
  go_wp2_with fail
  go_ret
  exact ⟨rfl, rfl⟩
theorem sub32_any (w : World) (x y b : Nat) (hx : x < 4294967296) (hy : y < 4294967296) (hb : b ≤ 1) :
    Calls Tryz.prog 165 #[.int .u32 (x : Int), .int .u32 (y : Int), .int .u32 (b : Int)] w fun e w' => ∃ d b' : Nat, e = .returned (.tuple #[.int .u32 (d : Int), .int .u32 (b' : Int)]) ∧ d < 4294967296 ∧ b' ≤ 1 ∧ x + 4294967296 * b' = d + y + b ∧ w = w' := by
  obtain ⟨d, b', hd, hb', h⟩ : ∃ d b' : Nat, d < 4294967296 ∧ b' ≤ 1 ∧ x + 4294967296 * b' = d + y + b := by
    by_cases h : x < y + b
    · exact ⟨x + 4294967296 - (y + b), 1, by omega, by omega, by omega⟩
    · exact ⟨x - (y + b), 0, by omega, by omega, by omega⟩
  have H := Lib.hid h
  have hq := borrow32 hx hy hb hd hb' h
  have e1 : ((x : Int) - (y : Int) - (b : Int)) % 4294967296 = ((d : Nat) : Int) := by omega
  have E := Lib.hid e1
  have E2 : Hid (((((x : Int) - (y : Int)) % 4294967296) - (b : Int)) % 4294967296 = ((d : Nat) : Int)) := Lib.hid (by omega)
  have Q := Lib.hid hq
  have hu : (IntKind.u32.signed = true) = False := by simp [IntKind.signed]
  clear h hq e1
  go_enter Tryz.func165, Tryz.ntmps165
  go_wp2_with fail
  go_ret2
  rw [E.out] at Q
  refine ⟨d, b', ?_, hd, hb', H.out, rfl⟩
  simp only [E.out, E2.out, Q.out]
  rfl
end Big
end Go.Proofs.YtplmldkfgeiklaaGreatDoor
