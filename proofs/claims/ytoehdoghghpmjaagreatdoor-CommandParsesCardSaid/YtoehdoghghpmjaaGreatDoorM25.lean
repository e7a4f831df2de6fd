import Derived.Test.YtoehdoghghpmjaaGreatDoorM24
import Derived.Test.YtoehdoghghpmjaaGreatDoorM10
import Derived.Test.YtoehdoghghpmjaaGreatDoorM22
import Derived.Test.YtoehdoghghpmjaaGreatDoorM11
import Derived.Test.YtoehdoghghpmjaaGreatDoorM13
import Derived.Test.YtoehdoghghpmjaaGreatDoorM16
import Derived.Test.YtoehdoghghpmjaaGreatDoorM14
import Derived.Test.YtoehdoghghpmjaaGreatDoorM2
import Derived.Test.YtoehdoghghpmjaaGreatDoorM8
import Derived.Deep.LoopGhost
/- ref20.node: sums and products. -/
namespace Go.Proofs.YtoehdoghghpmjaaGreatDoor
namespace Big
open Go.RowKit
set_option maxHeartbeats 1000000 in
set_option maxRecDepth 100000 in
theorem node_add (l : List Nd) (x y : Ex) (hx : NodeC l x) (hy : NodeC l y) (hg : (Ex.bin 6 x y).Good) (hs : (nodeT fmtI x).length ≤ 999990) (hs2 : (nodeT fmtI y).length ≤ 999990) (hl : l.length ≤ 1000000) : NodeC l (.bin 6 x y) := by
  intro w v i I hr ha hI
  subst hI
  obtain ⟨j, hji, hnd, hax, hay⟩ := ha.bin
  have hi := ha.lt.1
  have hj : ((i - 1 : Nat) : Int) = (i : Int) - 1 := by omega
  have HXA := Lib.hid (fun W h => operand_any l x hx hg.2.1 (by omega) hl W v j (j : Int) 1 h hax rfl)
  have HXB := Lib.hid (fun W h => operand_any l y hy hg.2.2 (by omega) hl W v (i - 1) ((i - 1 : Nat) : Int) 2 h hay rfl)
  rw [show ((1 : Nat) : Int) = 1 from rfl] at HXA
  rw [hj, show ((2 : Nat) : Int) = 2 from rfl] at HXB
  have HR := Lib.hid hr
  obtain ⟨A, c, rfl, hc⟩ := hr
  obtain ⟨b, o, rfl, hb, hc⟩ := hc (by omega)
  have hat := hc i hi
  rw [List.getElem?_eq_getElem hi] at hnd
  injection hnd with hnd
  rw [hnd] at hat
  obtain ⟨k0, k1, k2, k3, k4⟩ := hat
  simp only at k0 k1 k2 k3 k4
  have hst : str [] = .string ⟨#[]⟩ := rfl
  rw [hst] at k4
  rw [hj] at k2
  rw [show ((6 : Nat) : Int) = 6 from rfl] at k0
  have hT : nodeT fmtI (.bin 6 x y) = parenT (decide (levelK x.kind < 1)) (nodeT fmtI x) ++ ([32, 43, 32] ++ parenT (decide (levelK y.kind < 2)) (nodeT fmtI y)) := rfl
  have HT := Lib.hid hT
  have hpl := parenT_len (decide (levelK x.kind < 1)) (nodeT fmtI x)
  have hpl2 := parenT_len (decide (levelK y.kind < 2)) (nodeT fmtI y)
  have HL := Lib.hid (fun W => level_any W 6 (j : Int) ((i : Int) - 1) 0 [] (by decide) (by decide))
  rw [hst, show ((6 : Nat) : Int) = 6 from rfl, show ((levelK 6 : Nat) : Int) = 1 from rfl] at HL
  generalize parenT (decide (levelK x.kind < 1)) (nodeT fmtI x) = s at *
  generalize parenT (decide (levelK y.kind < 2)) (nodeT fmtI y) = f at *
  have hadd1 : ∀ W : World, (binOp .add 9 (str s) (.string ⟨#[32, 43, 32]⟩)).run Tryz.prog W = .ok (str (s ++ [32, 43, 32])) W := fun W => run_add_str s [32, 43, 32] (by simp; omega) W
  have hadd2 : ∀ W : World, (binOp .add 9 (str (s ++ [32, 43, 32])) (str f)).run Tryz.prog W = .ok (str ((s ++ [32, 43, 32]) ++ f)) W := fun W => run_add_str (s ++ [32, 43, 32]) f (by simp; omega) W
  clear hx hy hg hc hnd ha hax hay hst hj hT
  go_enter Tryz.func47, Tryz.ntmps47
  go_wp2_with fail
  have hb0 := ((Blk.new w 101 #[.int .i64 6, .int .i64 (j : Int), .int .i64 ((i : Int) - 1), .int .i64 0, .string ⟨#[]⟩]).alloc (.cells #[.string ⟨#[32, 43, 32]⟩, .string ⟨#[32, 45, 32]⟩, .string ⟨#[32, 42, 32]⟩, .string ⟨#[32, 47, 32]⟩] 9)).alloc (.cells #[.string ⟨#[115, 113, 114, 116]⟩, .string ⟨#[101, 120, 112]⟩, .string ⟨#[108, 110]⟩, .string ⟨#[115, 105, 110]⟩, .string ⟨#[99, 111, 115]⟩, .string ⟨#[97, 116, 97, 110]⟩] 9)
  have hb1 := (Blk.new (w.alloc (.cells #[.int .i64 6, .int .i64 (j : Int), .int .i64 ((i : Int) - 1), .int .i64 0, .string ⟨#[]⟩] 101)) 9 #[.string ⟨#[32, 43, 32]⟩, .string ⟨#[32, 45, 32]⟩, .string ⟨#[32, 42, 32]⟩, .string ⟨#[32, 47, 32]⟩]).alloc (.cells #[.string ⟨#[115, 113, 114, 116]⟩, .string ⟨#[101, 120, 112]⟩, .string ⟨#[108, 110]⟩, .string ⟨#[115, 105, 110]⟩, .string ⟨#[99, 111, 115]⟩, .string ⟨#[97, 116, 97, 110]⟩] 9)
  have hsz : (w.alloc (.cells #[.int .i64 6, .int .i64 (j : Int), .int .i64 ((i : Int) - 1), .int .i64 0, .string ⟨#[]⟩] 101)).heap.size = w.heap.size + 1 := by simp
  rw [hsz] at hb1
  have HX3 := Lib.hid ((((Ext.refl w).alloc (.cells #[.int .i64 6, .int .i64 (j : Int), .int .i64 ((i : Int) - 1), .int .i64 0, .string ⟨#[]⟩] 101)).alloc (.cells #[.string ⟨#[32, 43, 32]⟩, .string ⟨#[32, 45, 32]⟩, .string ⟨#[32, 42, 32]⟩, .string ⟨#[32, 47, 32]⟩] 9)).alloc (.cells #[.string ⟨#[115, 113, 114, 116]⟩, .string ⟨#[101, 120, 112]⟩, .string ⟨#[108, 110]⟩, .string ⟨#[115, 105, 110]⟩, .string ⟨#[99, 111, 115]⟩, .string ⟨#[97, 116, 97, 110]⟩] 9))
  generalize ((w.alloc (.cells #[.int .i64 6, .int .i64 (j : Int), .int .i64 ((i : Int) - 1), .int .i64 0, .string ⟨#[]⟩] 101)).alloc (.cells #[.string ⟨#[32, 43, 32]⟩, .string ⟨#[32, 45, 32]⟩, .string ⟨#[32, 42, 32]⟩, .string ⟨#[32, 47, 32]⟩] 9)).alloc (.cells #[.string ⟨#[115, 113, 114, 116]⟩, .string ⟨#[101, 120, 112]⟩, .string ⟨#[108, 110]⟩, .string ⟨#[115, 105, 110]⟩, .string ⟨#[99, 111, 115]⟩, .string ⟨#[97, 116, 97, 110]⟩] 9) = w3 at *
  have hc0 : w3.cell? ⟨w.heap.size, 0, none⟩ = some (.int .i64 6) := hb0.cell 0
  have hc1 : w3.cell? ⟨w.heap.size, 1, none⟩ = some (.int .i64 (j : Int)) := hb0.cell 1
  have hc2 : w3.cell? ⟨w.heap.size, 2, none⟩ = some (.int .i64 ((i : Int) - 1)) := hb0.cell 2
  have hc3 : w3.cell? ⟨w.heap.size, 3, none⟩ = some (.int .i64 0) := hb0.cell 3
  have hc4 : w3.cell? ⟨w.heap.size, 4, none⟩ = some (.string ⟨#[]⟩) := hb0.cell 4
  have hc5 : w3.cell? ⟨w.heap.size + 1, 0, none⟩ = some (.string ⟨#[32, 43, 32]⟩) := hb1.cell 0
  have hi0 : IntKind.i64.wrap ((6 : Int) - 6) = 0 := by kernel_rfl
  have hi1 : IntKind.i64.wrap (0 : Int) = 0 := by kernel_rfl
  have hi2 : IntKind.i64.wrap ((1 : Int) + 1) = 2 := by kernel_rfl
  have hi3 : IntKind.i64.wrap (2 : Int) = 2 := by kernel_rfl
  clear hb0 hb1 hsz k0 k1 k2 k3 k4
  go_region_held3 (fun w' => Ext w3 w' ∧ w'.cell? ⟨w.heap.size, 0, none⟩ = some (.int .i64 6) ∧ w'.cell? ⟨w.heap.size, 1, none⟩ = some (.int .i64 (j : Int)) ∧ w'.cell? ⟨w.heap.size, 2, none⟩ = some (.int .i64 ((i : Int) - 1)) ∧ w'.cell? ⟨w.heap.size, 3, none⟩ = some (.int .i64 0) ∧ w'.cell? ⟨w.heap.size, 4, none⟩ = some (.string ⟨#[]⟩) ∧ w'.cell? ⟨w.heap.size + 1, 0, none⟩ = some (.string ⟨#[32, 43, 32]⟩))
    (first | (exact kept6_drew ⟨hc0, hc1, hc2, hc3, hc4, hc5⟩) | (exact kept6 (by assumption) (by assumption)))
    (first
      | (go_at_call 71; (with_reducible refine (HL.out _).mono ?_); rintro r w6 ⟨rfl, hx6⟩)
      | (go_at_call 70; (with_reducible refine (HXA.out _ ?_).mono ?_); (exact HR.out.ext (HX3.out.trans (And.left (by assumption)))); rintro r w5 ⟨rfl, hx5⟩)
      | (go_at_call 70; (with_reducible refine (HXB.out _ ?_).mono ?_); (exact HR.out.ext (HX3.out.trans (And.left (by assumption)))); rintro r w7 ⟨rfl, hx7⟩))
  all_goals
    go_wp2_with fail
    go_ret
    exact ⟨by rw [HT.out]; simp, HX3.out.trans (And.left (by assumption))⟩
set_option maxHeartbeats 1000000 in
set_option maxRecDepth 100000 in
theorem node_sub (l : List Nd) (x y : Ex) (hx : NodeC l x) (hy : NodeC l y) (hg : (Ex.bin 7 x y).Good) (hs : (nodeT fmtI x).length ≤ 999990) (hs2 : (nodeT fmtI y).length ≤ 999990) (hl : l.length ≤ 1000000) : NodeC l (.bin 7 x y) := by
  intro w v i I hr ha hI
  subst hI
  obtain ⟨j, hji, hnd, hax, hay⟩ := ha.bin
  have hi := ha.lt.1
  have hj : ((i - 1 : Nat) : Int) = (i : Int) - 1 := by omega
  have HXA := Lib.hid (fun W h => operand_any l x hx hg.2.1 (by omega) hl W v j (j : Int) 1 h hax rfl)
  have HXB := Lib.hid (fun W h => operand_any l y hy hg.2.2 (by omega) hl W v (i - 1) ((i - 1 : Nat) : Int) 2 h hay rfl)
  rw [show ((1 : Nat) : Int) = 1 from rfl] at HXA
  rw [hj, show ((2 : Nat) : Int) = 2 from rfl] at HXB
  have HR := Lib.hid hr
  obtain ⟨A, c, rfl, hc⟩ := hr
  obtain ⟨b, o, rfl, hb, hc⟩ := hc (by omega)
  have hat := hc i hi
  rw [List.getElem?_eq_getElem hi] at hnd
  injection hnd with hnd
  rw [hnd] at hat
  obtain ⟨k0, k1, k2, k3, k4⟩ := hat
  simp only at k0 k1 k2 k3 k4
  have hst : str [] = .string ⟨#[]⟩ := rfl
  rw [hst] at k4
  rw [hj] at k2
  rw [show ((7 : Nat) : Int) = 7 from rfl] at k0
  have hT : nodeT fmtI (.bin 7 x y) = parenT (decide (levelK x.kind < 1)) (nodeT fmtI x) ++ ([32, 45, 32] ++ parenT (decide (levelK y.kind < 2)) (nodeT fmtI y)) := rfl
  have HT := Lib.hid hT
  have hpl := parenT_len (decide (levelK x.kind < 1)) (nodeT fmtI x)
  have hpl2 := parenT_len (decide (levelK y.kind < 2)) (nodeT fmtI y)
  have HL := Lib.hid (fun W => level_any W 7 (j : Int) ((i : Int) - 1) 0 [] (by decide) (by decide))
  rw [hst, show ((7 : Nat) : Int) = 7 from rfl, show ((levelK 7 : Nat) : Int) = 1 from rfl] at HL
  generalize parenT (decide (levelK x.kind < 1)) (nodeT fmtI x) = s at *
  generalize parenT (decide (levelK y.kind < 2)) (nodeT fmtI y) = f at *
  have hadd1 : ∀ W : World, (binOp .add 9 (str s) (.string ⟨#[32, 45, 32]⟩)).run Tryz.prog W = .ok (str (s ++ [32, 45, 32])) W := fun W => run_add_str s [32, 45, 32] (by simp; omega) W
  have hadd2 : ∀ W : World, (binOp .add 9 (str (s ++ [32, 45, 32])) (str f)).run Tryz.prog W = .ok (str ((s ++ [32, 45, 32]) ++ f)) W := fun W => run_add_str (s ++ [32, 45, 32]) f (by simp; omega) W
  clear hx hy hg hc hnd ha hax hay hst hj hT
  go_enter Tryz.func47, Tryz.ntmps47
  go_wp2_with fail
  have hb0 := ((Blk.new w 101 #[.int .i64 7, .int .i64 (j : Int), .int .i64 ((i : Int) - 1), .int .i64 0, .string ⟨#[]⟩]).alloc (.cells #[.string ⟨#[32, 43, 32]⟩, .string ⟨#[32, 45, 32]⟩, .string ⟨#[32, 42, 32]⟩, .string ⟨#[32, 47, 32]⟩] 9)).alloc (.cells #[.string ⟨#[115, 113, 114, 116]⟩, .string ⟨#[101, 120, 112]⟩, .string ⟨#[108, 110]⟩, .string ⟨#[115, 105, 110]⟩, .string ⟨#[99, 111, 115]⟩, .string ⟨#[97, 116, 97, 110]⟩] 9)
  have hb1 := (Blk.new (w.alloc (.cells #[.int .i64 7, .int .i64 (j : Int), .int .i64 ((i : Int) - 1), .int .i64 0, .string ⟨#[]⟩] 101)) 9 #[.string ⟨#[32, 43, 32]⟩, .string ⟨#[32, 45, 32]⟩, .string ⟨#[32, 42, 32]⟩, .string ⟨#[32, 47, 32]⟩]).alloc (.cells #[.string ⟨#[115, 113, 114, 116]⟩, .string ⟨#[101, 120, 112]⟩, .string ⟨#[108, 110]⟩, .string ⟨#[115, 105, 110]⟩, .string ⟨#[99, 111, 115]⟩, .string ⟨#[97, 116, 97, 110]⟩] 9)
  have hsz : (w.alloc (.cells #[.int .i64 7, .int .i64 (j : Int), .int .i64 ((i : Int) - 1), .int .i64 0, .string ⟨#[]⟩] 101)).heap.size = w.heap.size + 1 := by simp
  rw [hsz] at hb1
  have HX3 := Lib.hid ((((Ext.refl w).alloc (.cells #[.int .i64 7, .int .i64 (j : Int), .int .i64 ((i : Int) - 1), .int .i64 0, .string ⟨#[]⟩] 101)).alloc (.cells #[.string ⟨#[32, 43, 32]⟩, .string ⟨#[32, 45, 32]⟩, .string ⟨#[32, 42, 32]⟩, .string ⟨#[32, 47, 32]⟩] 9)).alloc (.cells #[.string ⟨#[115, 113, 114, 116]⟩, .string ⟨#[101, 120, 112]⟩, .string ⟨#[108, 110]⟩, .string ⟨#[115, 105, 110]⟩, .string ⟨#[99, 111, 115]⟩, .string ⟨#[97, 116, 97, 110]⟩] 9))
  generalize ((w.alloc (.cells #[.int .i64 7, .int .i64 (j : Int), .int .i64 ((i : Int) - 1), .int .i64 0, .string ⟨#[]⟩] 101)).alloc (.cells #[.string ⟨#[32, 43, 32]⟩, .string ⟨#[32, 45, 32]⟩, .string ⟨#[32, 42, 32]⟩, .string ⟨#[32, 47, 32]⟩] 9)).alloc (.cells #[.string ⟨#[115, 113, 114, 116]⟩, .string ⟨#[101, 120, 112]⟩, .string ⟨#[108, 110]⟩, .string ⟨#[115, 105, 110]⟩, .string ⟨#[99, 111, 115]⟩, .string ⟨#[97, 116, 97, 110]⟩] 9) = w3 at *
  have hc0 : w3.cell? ⟨w.heap.size, 0, none⟩ = some (.int .i64 7) := hb0.cell 0
  have hc1 : w3.cell? ⟨w.heap.size, 1, none⟩ = some (.int .i64 (j : Int)) := hb0.cell 1
  have hc2 : w3.cell? ⟨w.heap.size, 2, none⟩ = some (.int .i64 ((i : Int) - 1)) := hb0.cell 2
  have hc3 : w3.cell? ⟨w.heap.size, 3, none⟩ = some (.int .i64 0) := hb0.cell 3
  have hc4 : w3.cell? ⟨w.heap.size, 4, none⟩ = some (.string ⟨#[]⟩) := hb0.cell 4
  have hc5 : w3.cell? ⟨w.heap.size + 1, 1, none⟩ = some (.string ⟨#[32, 45, 32]⟩) := hb1.cell 1
  have hi0 : IntKind.i64.wrap ((7 : Int) - 6) = 1 := by kernel_rfl
  have hi1 : IntKind.i64.wrap (1 : Int) = 1 := by kernel_rfl
  have hi2 : IntKind.i64.wrap ((1 : Int) + 1) = 2 := by kernel_rfl
  have hi3 : IntKind.i64.wrap (2 : Int) = 2 := by kernel_rfl
  clear hb0 hb1 hsz k0 k1 k2 k3 k4
  go_region_held3 (fun w' => Ext w3 w' ∧ w'.cell? ⟨w.heap.size, 0, none⟩ = some (.int .i64 7) ∧ w'.cell? ⟨w.heap.size, 1, none⟩ = some (.int .i64 (j : Int)) ∧ w'.cell? ⟨w.heap.size, 2, none⟩ = some (.int .i64 ((i : Int) - 1)) ∧ w'.cell? ⟨w.heap.size, 3, none⟩ = some (.int .i64 0) ∧ w'.cell? ⟨w.heap.size, 4, none⟩ = some (.string ⟨#[]⟩) ∧ w'.cell? ⟨w.heap.size + 1, 1, none⟩ = some (.string ⟨#[32, 45, 32]⟩))
    (first | (exact kept6_drew ⟨hc0, hc1, hc2, hc3, hc4, hc5⟩) | (exact kept6 (by assumption) (by assumption)))
    (first
      | (go_at_call 71; (with_reducible refine (HL.out _).mono ?_); rintro r w6 ⟨rfl, hx6⟩)
      | (go_at_call 70; (with_reducible refine (HXA.out _ ?_).mono ?_); (exact HR.out.ext (HX3.out.trans (And.left (by assumption)))); rintro r w5 ⟨rfl, hx5⟩)
      | (go_at_call 70; (with_reducible refine (HXB.out _ ?_).mono ?_); (exact HR.out.ext (HX3.out.trans (And.left (by assumption)))); rintro r w7 ⟨rfl, hx7⟩))
  all_goals
    go_wp2_with fail
    go_ret
    exact ⟨by rw [HT.out]; simp, HX3.out.trans (And.left (by assumption))⟩
set_option maxHeartbeats 1000000 in
set_option maxRecDepth 100000 in
theorem node_mul (l : List Nd) (x y : Ex) (hx : NodeC l x) (hy : NodeC l y) (hg : (Ex.bin 8 x y).Good) (hs : (nodeT fmtI x).length ≤ 999990) (hs2 : (nodeT fmtI y).length ≤ 999990) (hl : l.length ≤ 1000000) : NodeC l (.bin 8 x y) := by
  intro w v i I hr ha hI
  subst hI
  obtain ⟨j, hji, hnd, hax, hay⟩ := ha.bin
  have hi := ha.lt.1
  have hj : ((i - 1 : Nat) : Int) = (i : Int) - 1 := by omega
  have HXA := Lib.hid (fun W h => operand_any l x hx hg.2.1 (by omega) hl W v j (j : Int) 2 h hax rfl)
  have HXB := Lib.hid (fun W h => operand_any l y hy hg.2.2 (by omega) hl W v (i - 1) ((i - 1 : Nat) : Int) 3 h hay rfl)
  rw [show ((2 : Nat) : Int) = 2 from rfl] at HXA
  rw [hj, show ((3 : Nat) : Int) = 3 from rfl] at HXB
  have HR := Lib.hid hr
  obtain ⟨A, c, rfl, hc⟩ := hr
  obtain ⟨b, o, rfl, hb, hc⟩ := hc (by omega)
  have hat := hc i hi
  rw [List.getElem?_eq_getElem hi] at hnd
  injection hnd with hnd
  rw [hnd] at hat
  obtain ⟨k0, k1, k2, k3, k4⟩ := hat
  simp only at k0 k1 k2 k3 k4
  have hst : str [] = .string ⟨#[]⟩ := rfl
  rw [hst] at k4
  rw [hj] at k2
  rw [show ((8 : Nat) : Int) = 8 from rfl] at k0
  have hT : nodeT fmtI (.bin 8 x y) = parenT (decide (levelK x.kind < 2)) (nodeT fmtI x) ++ ([32, 42, 32] ++ parenT (decide (levelK y.kind < 3)) (nodeT fmtI y)) := rfl
  have HT := Lib.hid hT
  have hpl := parenT_len (decide (levelK x.kind < 2)) (nodeT fmtI x)
  have hpl2 := parenT_len (decide (levelK y.kind < 3)) (nodeT fmtI y)
  have HL := Lib.hid (fun W => level_any W 8 (j : Int) ((i : Int) - 1) 0 [] (by decide) (by decide))
  rw [hst, show ((8 : Nat) : Int) = 8 from rfl, show ((levelK 8 : Nat) : Int) = 2 from rfl] at HL
  generalize parenT (decide (levelK x.kind < 2)) (nodeT fmtI x) = s at *
  generalize parenT (decide (levelK y.kind < 3)) (nodeT fmtI y) = f at *
  have hadd1 : ∀ W : World, (binOp .add 9 (str s) (.string ⟨#[32, 42, 32]⟩)).run Tryz.prog W = .ok (str (s ++ [32, 42, 32])) W := fun W => run_add_str s [32, 42, 32] (by simp; omega) W
  have hadd2 : ∀ W : World, (binOp .add 9 (str (s ++ [32, 42, 32])) (str f)).run Tryz.prog W = .ok (str ((s ++ [32, 42, 32]) ++ f)) W := fun W => run_add_str (s ++ [32, 42, 32]) f (by simp; omega) W
  clear hx hy hg hc hnd ha hax hay hst hj hT
  go_enter Tryz.func47, Tryz.ntmps47
  go_wp2_with fail
  have hb0 := ((Blk.new w 101 #[.int .i64 8, .int .i64 (j : Int), .int .i64 ((i : Int) - 1), .int .i64 0, .string ⟨#[]⟩]).alloc (.cells #[.string ⟨#[32, 43, 32]⟩, .string ⟨#[32, 45, 32]⟩, .string ⟨#[32, 42, 32]⟩, .string ⟨#[32, 47, 32]⟩] 9)).alloc (.cells #[.string ⟨#[115, 113, 114, 116]⟩, .string ⟨#[101, 120, 112]⟩, .string ⟨#[108, 110]⟩, .string ⟨#[115, 105, 110]⟩, .string ⟨#[99, 111, 115]⟩, .string ⟨#[97, 116, 97, 110]⟩] 9)
  have hb1 := (Blk.new (w.alloc (.cells #[.int .i64 8, .int .i64 (j : Int), .int .i64 ((i : Int) - 1), .int .i64 0, .string ⟨#[]⟩] 101)) 9 #[.string ⟨#[32, 43, 32]⟩, .string ⟨#[32, 45, 32]⟩, .string ⟨#[32, 42, 32]⟩, .string ⟨#[32, 47, 32]⟩]).alloc (.cells #[.string ⟨#[115, 113, 114, 116]⟩, .string ⟨#[101, 120, 112]⟩, .string ⟨#[108, 110]⟩, .string ⟨#[115, 105, 110]⟩, .string ⟨#[99, 111, 115]⟩, .string ⟨#[97, 116, 97, 110]⟩] 9)
  have hsz : (w.alloc (.cells #[.int .i64 8, .int .i64 (j : Int), .int .i64 ((i : Int) - 1), .int .i64 0, .string ⟨#[]⟩] 101)).heap.size = w.heap.size + 1 := by simp
  rw [hsz] at hb1
  have HX3 := Lib.hid ((((Ext.refl w).alloc (.cells #[.int .i64 8, .int .i64 (j : Int), .int .i64 ((i : Int) - 1), .int .i64 0, .string ⟨#[]⟩] 101)).alloc (.cells #[.string ⟨#[32, 43, 32]⟩, .string ⟨#[32, 45, 32]⟩, .string ⟨#[32, 42, 32]⟩, .string ⟨#[32, 47, 32]⟩] 9)).alloc (.cells #[.string ⟨#[115, 113, 114, 116]⟩, .string ⟨#[101, 120, 112]⟩, .string ⟨#[108, 110]⟩, .string ⟨#[115, 105, 110]⟩, .string ⟨#[99, 111, 115]⟩, .string ⟨#[97, 116, 97, 110]⟩] 9))
  generalize ((w.alloc (.cells #[.int .i64 8, .int .i64 (j : Int), .int .i64 ((i : Int) - 1), .int .i64 0, .string ⟨#[]⟩] 101)).alloc (.cells #[.string ⟨#[32, 43, 32]⟩, .string ⟨#[32, 45, 32]⟩, .string ⟨#[32, 42, 32]⟩, .string ⟨#[32, 47, 32]⟩] 9)).alloc (.cells #[.string ⟨#[115, 113, 114, 116]⟩, .string ⟨#[101, 120, 112]⟩, .string ⟨#[108, 110]⟩, .string ⟨#[115, 105, 110]⟩, .string ⟨#[99, 111, 115]⟩, .string ⟨#[97, 116, 97, 110]⟩] 9) = w3 at *
  have hc0 : w3.cell? ⟨w.heap.size, 0, none⟩ = some (.int .i64 8) := hb0.cell 0
  have hc1 : w3.cell? ⟨w.heap.size, 1, none⟩ = some (.int .i64 (j : Int)) := hb0.cell 1
  have hc2 : w3.cell? ⟨w.heap.size, 2, none⟩ = some (.int .i64 ((i : Int) - 1)) := hb0.cell 2
  have hc3 : w3.cell? ⟨w.heap.size, 3, none⟩ = some (.int .i64 0) := hb0.cell 3
  have hc4 : w3.cell? ⟨w.heap.size, 4, none⟩ = some (.string ⟨#[]⟩) := hb0.cell 4
  have hc5 : w3.cell? ⟨w.heap.size + 1, 2, none⟩ = some (.string ⟨#[32, 42, 32]⟩) := hb1.cell 2
  have hi0 : IntKind.i64.wrap ((8 : Int) - 6) = 2 := by kernel_rfl
  have hi1 : IntKind.i64.wrap (2 : Int) = 2 := by kernel_rfl
  have hi2 : IntKind.i64.wrap ((2 : Int) + 1) = 3 := by kernel_rfl
  have hi3 : IntKind.i64.wrap (3 : Int) = 3 := by kernel_rfl
  clear hb0 hb1 hsz k0 k1 k2 k3 k4
  go_region_held3 (fun w' => Ext w3 w' ∧ w'.cell? ⟨w.heap.size, 0, none⟩ = some (.int .i64 8) ∧ w'.cell? ⟨w.heap.size, 1, none⟩ = some (.int .i64 (j : Int)) ∧ w'.cell? ⟨w.heap.size, 2, none⟩ = some (.int .i64 ((i : Int) - 1)) ∧ w'.cell? ⟨w.heap.size, 3, none⟩ = some (.int .i64 0) ∧ w'.cell? ⟨w.heap.size, 4, none⟩ = some (.string ⟨#[]⟩) ∧ w'.cell? ⟨w.heap.size + 1, 2, none⟩ = some (.string ⟨#[32, 42, 32]⟩))
    (first | (exact kept6_drew ⟨hc0, hc1, hc2, hc3, hc4, hc5⟩) | (exact kept6 (by assumption) (by assumption)))
    (first
      | (go_at_call 71; (with_reducible refine (HL.out _).mono ?_); rintro r w6 ⟨rfl, hx6⟩)
      | (go_at_call 70; (with_reducible refine (HXA.out _ ?_).mono ?_); (exact HR.out.ext (HX3.out.trans (And.left (by assumption)))); rintro r w5 ⟨rfl, hx5⟩)
      | (go_at_call 70; (with_reducible refine (HXB.out _ ?_).mono ?_); (exact HR.out.ext (HX3.out.trans (And.left (by assumption)))); rintro r w7 ⟨rfl, hx7⟩))
  all_goals
    go_wp2_with fail
    go_ret
    exact ⟨by rw [HT.out]; simp, HX3.out.trans (And.left (by assumption))⟩
set_option maxHeartbeats 1000000 in
set_option maxRecDepth 100000 in
theorem node_div (l : List Nd) (x y : Ex) (hx : NodeC l x) (hy : NodeC l y) (hg : (Ex.bin 9 x y).Good) (hs : (nodeT fmtI x).length ≤ 999990) (hs2 : (nodeT fmtI y).length ≤ 999990) (hl : l.length ≤ 1000000) : NodeC l (.bin 9 x y) := by
  intro w v i I hr ha hI
  subst hI
  obtain ⟨j, hji, hnd, hax, hay⟩ := ha.bin
  have hi := ha.lt.1
  have hj : ((i - 1 : Nat) : Int) = (i : Int) - 1 := by omega
  have HXA := Lib.hid (fun W h => operand_any l x hx hg.2.1 (by omega) hl W v j (j : Int) 2 h hax rfl)
  have HXB := Lib.hid (fun W h => operand_any l y hy hg.2.2 (by omega) hl W v (i - 1) ((i - 1 : Nat) : Int) 3 h hay rfl)
  rw [show ((2 : Nat) : Int) = 2 from rfl] at HXA
  rw [hj, show ((3 : Nat) : Int) = 3 from rfl] at HXB
  have HR := Lib.hid hr
  obtain ⟨A, c, rfl, hc⟩ := hr
  obtain ⟨b, o, rfl, hb, hc⟩ := hc (by omega)
  have hat := hc i hi
  rw [List.getElem?_eq_getElem hi] at hnd
  injection hnd with hnd
  rw [hnd] at hat
  obtain ⟨k0, k1, k2, k3, k4⟩ := hat
  simp only at k0 k1 k2 k3 k4
  have hst : str [] = .string ⟨#[]⟩ := rfl
  rw [hst] at k4
  rw [hj] at k2
  rw [show ((9 : Nat) : Int) = 9 from rfl] at k0
  have hT : nodeT fmtI (.bin 9 x y) = parenT (decide (levelK x.kind < 2)) (nodeT fmtI x) ++ ([32, 47, 32] ++ parenT (decide (levelK y.kind < 3)) (nodeT fmtI y)) := rfl
  have HT := Lib.hid hT
  have hpl := parenT_len (decide (levelK x.kind < 2)) (nodeT fmtI x)
  have hpl2 := parenT_len (decide (levelK y.kind < 3)) (nodeT fmtI y)
  have HL := Lib.hid (fun W => level_any W 9 (j : Int) ((i : Int) - 1) 0 [] (by decide) (by decide))
  rw [hst, show ((9 : Nat) : Int) = 9 from rfl, show ((levelK 9 : Nat) : Int) = 2 from rfl] at HL
  generalize parenT (decide (levelK x.kind < 2)) (nodeT fmtI x) = s at *
  generalize parenT (decide (levelK y.kind < 3)) (nodeT fmtI y) = f at *
  have hadd1 : ∀ W : World, (binOp .add 9 (str s) (.string ⟨#[32, 47, 32]⟩)).run Tryz.prog W = .ok (str (s ++ [32, 47, 32])) W := fun W => run_add_str s [32, 47, 32] (by simp; omega) W
  have hadd2 : ∀ W : World, (binOp .add 9 (str (s ++ [32, 47, 32])) (str f)).run Tryz.prog W = .ok (str ((s ++ [32, 47, 32]) ++ f)) W := fun W => run_add_str (s ++ [32, 47, 32]) f (by simp; omega) W
  clear hx hy hg hc hnd ha hax hay hst hj hT
  go_enter Tryz.func47, Tryz.ntmps47
  go_wp2_with fail
  have hb0 := ((Blk.new w 101 #[.int .i64 9, .int .i64 (j : Int), .int .i64 ((i : Int) - 1), .int .i64 0, .string ⟨#[]⟩]).alloc (.cells #[.string ⟨#[32, 43, 32]⟩, .string ⟨#[32, 45, 32]⟩, .string ⟨#[32, 42, 32]⟩, .string ⟨#[32, 47, 32]⟩] 9)).alloc (.cells #[.string ⟨#[115, 113, 114, 116]⟩, .string ⟨#[101, 120, 112]⟩, .string ⟨#[108, 110]⟩, .string ⟨#[115, 105, 110]⟩, .string ⟨#[99, 111, 115]⟩, .string ⟨#[97, 116, 97, 110]⟩] 9)
  have hb1 := (Blk.new (w.alloc (.cells #[.int .i64 9, .int .i64 (j : Int), .int .i64 ((i : Int) - 1), .int .i64 0, .string ⟨#[]⟩] 101)) 9 #[.string ⟨#[32, 43, 32]⟩, .string ⟨#[32, 45, 32]⟩, .string ⟨#[32, 42, 32]⟩, .string ⟨#[32, 47, 32]⟩]).alloc (.cells #[.string ⟨#[115, 113, 114, 116]⟩, .string ⟨#[101, 120, 112]⟩, .string ⟨#[108, 110]⟩, .string ⟨#[115, 105, 110]⟩, .string ⟨#[99, 111, 115]⟩, .string ⟨#[97, 116, 97, 110]⟩] 9)
  have hsz : (w.alloc (.cells #[.int .i64 9, .int .i64 (j : Int), .int .i64 ((i : Int) - 1), .int .i64 0, .string ⟨#[]⟩] 101)).heap.size = w.heap.size + 1 := by simp
  rw [hsz] at hb1
  have HX3 := Lib.hid ((((Ext.refl w).alloc (.cells #[.int .i64 9, .int .i64 (j : Int), .int .i64 ((i : Int) - 1), .int .i64 0, .string ⟨#[]⟩] 101)).alloc (.cells #[.string ⟨#[32, 43, 32]⟩, .string ⟨#[32, 45, 32]⟩, .string ⟨#[32, 42, 32]⟩, .string ⟨#[32, 47, 32]⟩] 9)).alloc (.cells #[.string ⟨#[115, 113, 114, 116]⟩, .string ⟨#[101, 120, 112]⟩, .string ⟨#[108, 110]⟩, .string ⟨#[115, 105, 110]⟩, .string ⟨#[99, 111, 115]⟩, .string ⟨#[97, 116, 97, 110]⟩] 9))
  generalize ((w.alloc (.cells #[.int .i64 9, .int .i64 (j : Int), .int .i64 ((i : Int) - 1), .int .i64 0, .string ⟨#[]⟩] 101)).alloc (.cells #[.string ⟨#[32, 43, 32]⟩, .string ⟨#[32, 45, 32]⟩, .string ⟨#[32, 42, 32]⟩, .string ⟨#[32, 47, 32]⟩] 9)).alloc (.cells #[.string ⟨#[115, 113, 114, 116]⟩, .string ⟨#[101, 120, 112]⟩, .string ⟨#[108, 110]⟩, .string ⟨#[115, 105, 110]⟩, .string ⟨#[99, 111, 115]⟩, .string ⟨#[97, 116, 97, 110]⟩] 9) = w3 at *
  have hc0 : w3.cell? ⟨w.heap.size, 0, none⟩ = some (.int .i64 9) := hb0.cell 0
  have hc1 : w3.cell? ⟨w.heap.size, 1, none⟩ = some (.int .i64 (j : Int)) := hb0.cell 1
  have hc2 : w3.cell? ⟨w.heap.size, 2, none⟩ = some (.int .i64 ((i : Int) - 1)) := hb0.cell 2
  have hc3 : w3.cell? ⟨w.heap.size, 3, none⟩ = some (.int .i64 0) := hb0.cell 3
  have hc4 : w3.cell? ⟨w.heap.size, 4, none⟩ = some (.string ⟨#[]⟩) := hb0.cell 4
  have hc5 : w3.cell? ⟨w.heap.size + 1, 3, none⟩ = some (.string ⟨#[32, 47, 32]⟩) := hb1.cell 3
  have hi0 : IntKind.i64.wrap ((9 : Int) - 6) = 3 := by kernel_rfl
  have hi1 : IntKind.i64.wrap (3 : Int) = 3 := by kernel_rfl
  have hi2 : IntKind.i64.wrap ((2 : Int) + 1) = 3 := by kernel_rfl
  have hi3 : IntKind.i64.wrap (3 : Int) = 3 := by kernel_rfl
  clear hb0 hb1 hsz k0 k1 k2 k3 k4
  go_region_held3 (fun w' => Ext w3 w' ∧ w'.cell? ⟨w.heap.size, 0, none⟩ = some (.int .i64 9) ∧ w'.cell? ⟨w.heap.size, 1, none⟩ = some (.int .i64 (j : Int)) ∧ w'.cell? ⟨w.heap.size, 2, none⟩ = some (.int .i64 ((i : Int) - 1)) ∧ w'.cell? ⟨w.heap.size, 3, none⟩ = some (.int .i64 0) ∧ w'.cell? ⟨w.heap.size, 4, none⟩ = some (.string ⟨#[]⟩) ∧ w'.cell? ⟨w.heap.size + 1, 3, none⟩ = some (.string ⟨#[32, 47, 32]⟩))
    (first | (exact kept6_drew ⟨hc0, hc1, hc2, hc3, hc4, hc5⟩) | (exact kept6 (by assumption) (by assumption)))
    (first
      | (go_at_call 71; (with_reducible refine (HL.out _).mono ?_); rintro r w6 ⟨rfl, hx6⟩)
      | (go_at_call 70; (with_reducible refine (HXA.out _ ?_).mono ?_); (exact HR.out.ext (HX3.out.trans (And.left (by assumption)))); rintro r w5 ⟨rfl, hx5⟩)
      | (go_at_call 70; (with_reducible refine (HXB.out _ ?_).mono ?_); (exact HR.out.ext (HX3.out.trans (And.left (by assumption)))); rintro r w7 ⟨rfl, hx7⟩))
  all_goals
    go_wp2_with fail
    go_ret
    exact ⟨by rw [HT.out]; simp, HX3.out.trans (And.left (by assumption))⟩
end Big
end Go.Proofs.YtoehdoghghpmjaaGreatDoor
/- ref20.node at every good tree. -/
namespace Go.Proofs.YtoehdoghghpmjaaGreatDoor
namespace Big
open Go.RowKit
theorem fmtI_len (n : Int) (h1 : -64 ≤ n) (h2 : n ≤ 64) : (fmtI n).length ≤ 100 := by
  have hall : ∀ k : Nat, k ≤ 64 → (dec k).length ≤ 99 := by
    have : ∀ k : Fin 65, (dec k.val).length ≤ 99 := by decide +kernel
    exact fun k hk => this ⟨k, by omega⟩
  have := hall n.natAbs (by omega)
  unfold fmtI
  split
  · rw [List.length_cons]; omega
  · omega
theorem node_any (l : List Nd) (hl : l.length ≤ 1000000) (e : Ex) (hg : e.Good) (hs : e.size ≤ 2000) : NodeC l e := by
  induction e with
  | leaf k t => exact node_leaf l k t hg
  | un k n x ih =>
    have hx := hg.2.2.2.2
    have hz : x.size + 1 ≤ 2000 := hs
    have h1 := ih hx (by omega)
    have h2 := nodeT_len fmtI fmtI_len x hx
    have h3 : (nodeT fmtI x).length ≤ 999990 := by omega
    have hk : k = 5 ∨ k = 10 ∨ k = 11 ∨ k = 12 ∨ k = 13 ∨ k = 14 ∨ k = 15 ∨ k = 16 := by have := hg.1; omega
    rcases hk with rfl | rfl | rfl | rfl | rfl | rfl | rfl | rfl
    · exact node_neg l n x h1 hg h3 hl
    · exact node_pow l n x h1 hg h3 hl
    · exact node_sqrt l n x h1 hg h3 hl
    · exact node_exp l n x h1 hg h3 hl
    · exact node_ln l n x h1 hg h3 hl
    · exact node_sin l n x h1 hg h3 hl
    · exact node_cos l n x h1 hg h3 hl
    · exact node_atan l n x h1 hg h3 hl
  | bin k x y ihx ihy =>
    have hz : x.size + y.size + 1 ≤ 2000 := hs
    have h1 := ihx hg.2.1 (by omega)
    have h2 := ihy hg.2.2 (by omega)
    have h3 := nodeT_len fmtI fmtI_len x hg.2.1
    have h4 := nodeT_len fmtI fmtI_len y hg.2.2
    have h5 : (nodeT fmtI x).length ≤ 999990 := by omega
    have h6 : (nodeT fmtI y).length ≤ 999990 := by omega
    have hk : k = 6 ∨ k = 7 ∨ k = 8 ∨ k = 9 := by have := hg.1; omega
    rcases hk with rfl | rfl | rfl | rfl
    · exact node_add l x y h1 h2 hg h5 h6 hl
    · exact node_sub l x y h1 h2 hg h5 h6 hl
    · exact node_mul l x y h1 h2 hg h5 h6 hl
    · exact node_div l x y h1 h2 hg h5 h6 hl
end Big
end Go.Proofs.YtoehdoghghpmjaaGreatDoor
/- Reserved words and functions; the reference's Word. -/
namespace Go.Proofs.YtoehdoghghpmjaaGreatDoor
namespace Big
open Go.RowKit
/-- The reserved words; from the third one on functions. -/
def words8 : List (List UInt8) := [[112, 105], [101], [115, 113, 114, 116], [101, 120, 112], [108, 110], [115, 105, 110], [99, 111, 115], [97, 116, 97, 110]]
/-- The kind of a function's node, or 0. -/
def funcK (l : List UInt8) : Nat := if l = [115, 113, 114, 116] then 11 else if l = [101, 120, 112] then 12 else if l = [108, 110] then 13 else if l = [115, 105, 110] then 14 else if l = [99, 111, 115] then 15 else if l = [97, 116, 97, 110] then 16 else 0
def reservedB (l : List UInt8) : Bool := l == [112, 105] || l == [101] || funcK l != 0
theorem words_any (w : World) : Calls Tryz.prog 129 #[] w fun e w' => ∃ v, e = .returned v ∧ OwnS w.heap.size w' v words8 ∧ Ext w w' := by
  go_enter Tryz.func129, Tryz.ntmps129
  go_wp2_with fail
  go_ret
  exact ⟨_, rfl, OwnS.block (ls := words8) (Blk.new w 9 _) (Nat.le_refl _) (by decide), (Ext.refl w).alloc _⟩
theorem reservedB_mem (l : List UInt8) : reservedB l = words8.contains l := by
  have h : reservedB l = (l == [112, 105] || l == [101] || l == [115, 113, 114, 116] || l == [101, 120, 112] || l == [108, 110] || l == [115, 105, 110] || l == [99, 111, 115] || l == [97, 116, 97, 110]) := by
    unfold reservedB
    by_cases h0 : l = [115, 113, 114, 116]
    · subst h0; rfl
    by_cases h1 : l = [101, 120, 112]
    · subst h1; rfl
    by_cases h2 : l = [108, 110]
    · subst h2; rfl
    by_cases h3 : l = [115, 105, 110]
    · subst h3; rfl
    by_cases h4 : l = [99, 111, 115]
    · subst h4; rfl
    by_cases h5 : l = [97, 116, 97, 110]
    · subst h5; rfl
    unfold funcK
    rw [if_neg h0, if_neg h1, if_neg h2, if_neg h3, if_neg h4, if_neg h5]
    rw [beq_false_of_ne h0, beq_false_of_ne h1, beq_false_of_ne h2, beq_false_of_ne h3, beq_false_of_ne h4, beq_false_of_ne h5]
    simp only [Bool.or_false]
    simp
  rw [h, Bool.eq_iff_iff]
  unfold words8
  simp [or_assoc]
theorem funcK_at (l : List UInt8) (j : Nat) (hj : j < words8.length) (h1 : 1 < j) (h : l = words8[j]) : funcK l = 11 + j - 2 := by
  subst h
  have : j = 2 ∨ j = 3 ∨ j = 4 ∨ j = 5 ∨ j = 6 ∨ j = 7 := by
    have : words8.length = 8 := rfl
    omega
  rcases this with rfl | rfl | rfl | rfl | rfl | rfl <;> rfl
theorem funcK_none (l : List UInt8) (h : ∀ j (hj : j < words8.length), 1 < j → l ≠ words8[j]) : funcK l = 0 := by
  have h2 : l ≠ [115, 113, 114, 116] := h 2 (by decide) (by decide)
  have h3 : l ≠ [101, 120, 112] := h 3 (by decide) (by decide)
  have h4 : l ≠ [108, 110] := h 4 (by decide) (by decide)
  have h5 : l ≠ [115, 105, 110] := h 5 (by decide) (by decide)
  have h6 : l ≠ [99, 111, 115] := h 6 (by decide) (by decide)
  have h7 : l ≠ [97, 116, 97, 110] := h 7 (by decide) (by decide)
  unfold funcK
  rw [if_neg h2, if_neg h3, if_neg h4, if_neg h5, if_neg h6, if_neg h7]
theorem rreserved_any (w : World) (l : List UInt8) : Calls Tryz.prog 120 #[str l] w fun e w' => e = .returned (.bool (reservedB l)) ∧ Ext w w' := by
  have HW := Lib.hid (fun W => words_any W)
  go_enter Tryz.func120, Tryz.ntmps120
  go_wp2_with fail
  refine (HW.out _).mono ?_
  rintro e w1 ⟨v1, rfl, ho, hx⟩
  have HX := Lib.hid hx
  obtain ⟨A, c, rfl, hc, hm, hcell⟩ := ho.arr.open
  obtain ⟨b, o, rfl, hb, hcell⟩ := hcell (by decide)
  have HC := Lib.hid hcell
  have hl8 : words8.length = 8 := rfl
  have HL8 := Lib.hid hl8
  rw [hl8] at hc ⊢
  clear hl8 ho hx hcell
  unfold maxLen at hm
  go_wp2_with fail
  go_loop [7] (fun s => ∃ i : Nat, i ≤ 8 ∧ s = .int .i64 (i : Int) ∧ Hid (∀ j (hj : j < words8.length), j < i → l ≠ words8[j])) (fun s => 8 - (intOf s).toNat)
  case atStart => exact ⟨0, Nat.zero_le _, rfl, Lib.hid (fun j hj h => by omega)⟩
  case round =>
    obtain ⟨i, hi, rfl, HN⟩ := hrel
    by_cases hlt : i < 8
    · have hi8 : i < words8.length := by rw [HL8.out]; exact hlt
      have hx := HC.out i hi8
      by_cases he : l = words8[i]
      · have HR : Hid (reservedB l = true) := Lib.hid (by rw [reservedB_mem, List.contains_iff_mem, he]; exact List.getElem_mem hi8)
        generalize words8[i] = m at *
        have hbe : (l == m) = true := by rw [beq_iff_eq]; exact he
        clear he
        go_wp2_with fail
        go_ret
        rw [HR.out]
        exact ⟨rfl, HX.out⟩
      · have HN2 : Hid (∀ j (hj : j < words8.length), j < i + 1 → l ≠ words8[j]) := Lib.hid (fun j hj h => by
          rcases Nat.lt_or_ge j i with h1 | h1
          · exact HN.out j hj h1
          · obtain rfl : j = i := by omega
            exact he)
        generalize words8[i] = m at *
        have hbe : (l == m) = false := by rw [beq_eq_false_iff_ne]; exact he
        clear he
        go_wp2_with fail
        go_round
        case rel => exact ⟨i + 1, by omega, by go_num, HN2⟩
        case measure => simp [intOf]; omega
    · obtain rfl : i = 8 := by omega
      have HR : Hid (reservedB l = false) := Lib.hid (by
        rw [reservedB_mem, Bool.eq_false_iff]
        intro hmem
        rw [List.contains_iff_mem] at hmem
        obtain ⟨j, hj, e⟩ := List.getElem_of_mem hmem
        exact HN.out j hj (by have := HL8.out; omega) e.symm)
      go_wp2_with fail
      go_ret
      rw [HR.out]
      exact ⟨rfl, HX.out⟩
end Big
end Go.Proofs.YtoehdoghghpmjaaGreatDoor
/- The reference's Gcd, Div, Lowest, Make, of. -/
namespace Go.Proofs.YtoehdoghghpmjaaGreatDoor
namespace Big
open Go.RowKit
theorem limbs_pos_len {g : Nat} (h : 0 < g) : 0 < (limbs g).length := List.length_pos_iff.2 (fun e => by rw [limbs_eq_nil] at e; omega)
theorem rgcd_any (w : World) (v u : Value) (X Y : Nat) (h : Arr w v (limbs X)) (h' : Arr w u (limbs Y)) (hn : (limbs X).length ≤ 134217728) (hn' : (limbs Y).length ≤ 134217728) :
    Calls Tryz.prog 133 #[v, u] w fun e w' => ∃ v', e = .returned v' ∧ Arr w' v' (limbs (Nat.gcd X Y)) ∧ Ext w w' := by
  have HA := Lib.hid h
  have HB := Lib.hid h'
  obtain ⟨n1, A1, c1, rfl⟩ := h.shape
  obtain ⟨n2, A2, c2, rfl⟩ := h'.shape
  clear h h'
  go_enter Tryz.func133, Tryz.ntmps133
  go_wp2_with fail
  go_loopg [0, 1] Y (fun gh s0 s1 wr => ∃ (g x : Nat) (na : Nat) (Aa : Option Addr) (ca nb : Nat) (Ab : Option Addr) (cb : Nat), gh = g ∧ s0 = .slice Aa na ca ∧ s1 = .slice Ab nb cb ∧ Arr wr s0 (limbs x) ∧ Arr wr s1 (limbs g) ∧ Nat.gcd x g = Nat.gcd X Y ∧ (limbs x).length ≤ 134217728 ∧ (limbs g).length ≤ 134217728 ∧ Ext w wr)
  case atStart => exact ⟨Y, X, n1, A1, c1, n2, A2, c2, rfl, rfl, rfl, HA.out, HB.out, rfl, hn, hn', Ext.refl _⟩
  case round =>
    obtain ⟨g, x, na, Aa, ca, nb, Ab, cb, hgg, rfl, rfl, hoa, hob, hg, hlx, hlg, hext⟩ := hrel
    have HGG := Lib.hid hgg
    have HG := Lib.hid hg
    have HXT := Lib.hid hext
    have HOB := Lib.hid hob
    have hnb := hob.len
    clear hgg hg hext HA HB
    rcases Nat.eq_zero_or_pos g with h0 | h0
    · subst h0
      rw [limbs_zero, List.length_nil] at hnb
      subst hnb
      have HV : Hid (Arr wr (.slice Aa na ca) (limbs (Nat.gcd X Y))) := Lib.hid (by
        have h1 := HG.out
        rw [Nat.gcd_zero_right] at h1
        rw [← h1]
        exact hoa)
      clear hoa hob
      go_wp2_with fail
      go_ret
      exact ⟨_, rfl, HV.out, HXT.out⟩
    · have hl1 : 0 < nb := by rw [hnb]; exact limbs_pos_len h0
      have HD := Lib.hid (rdivmod_any wr _ _ _ _ hoa hob hlx hlg (by rw [val_limbs]; exact h0))
      rw [val_limbs, val_limbs] at HD
      have hmod := Nat.mod_lt x h0
      have hlm := Nat.le_trans (limbs_mono (Nat.le_of_lt hmod)) hlg
      have HG2 := Lib.hid (show Nat.gcd g (x % g) = Nat.gcd X Y by rw [← gcd_step, HG.out])
      have hb0 : (0 : Int) < (nb : Int) := by omega
      clear hoa hob hnb
      go_wp2_with fail
      refine HD.out.mono ?_
      rintro e w3 ⟨v3, u3, rfl, hq3, hr3, hx3⟩
      have HB3 := Lib.hid (HOB.out.ext hx3)
      have HR3 := Lib.hid hr3
      have HX3 := Lib.hid (HXT.out.trans hx3)
      obtain ⟨n3, A3, c3, rfl⟩ := hq3.arr.2.shape
      obtain ⟨n4, A4, c4, rfl⟩ := hr3.2.shape
      clear hq3 hr3 hx3
      go_wp2_with fail
      go_roundg (x % g)
      case rel => exact ⟨x % g, g, nb, Ab, cb, n4, A4, c4, rfl, rfl, rfl, HB3.out, HR3.out, HG2.out, hlg, hlm, HX3.out⟩
      case measure => rw [HGG.out]; exact hmod
theorem rdiv_any (w : World) (v u : Value) (X Y : Nat) (h : Arr w v (limbs X)) (h' : Arr w u (limbs Y)) (hn : (limbs X).length ≤ 134217728) (hn' : (limbs Y).length ≤ 134217728) (hy : 0 < Y) :
    Calls Tryz.prog 134 #[v, u] w fun e w' => ∃ v', e = .returned v' ∧ Own w.heap.size w' v' (limbs (X / Y)) ∧ Ext w w' := by
  have HD := Lib.hid (rdivmod_any w v u _ _ h h' hn hn' (by rw [val_limbs]; exact hy))
  rw [val_limbs, val_limbs] at HD
  clear h h'
  go_enter Tryz.func134, Tryz.ntmps134
  go_wp2_with fail
  refine HD.out.mono ?_
  rintro e w3 ⟨v3, u3, rfl, hq3, hr3, hx3⟩
  have HQ3 := Lib.hid hq3
  have HX3 := Lib.hid hx3
  obtain ⟨n3, A3, c3, rfl⟩ := hq3.arr.2.shape
  obtain ⟨n4, A4, c4, rfl⟩ := hr3.2.shape
  clear hq3 hr3 hx3
  go_wp2_with fail
  go_ret
  exact ⟨_, rfl, HQ3.out, HX3.out⟩
theorem rlowest_zero (w : World) (v : Value) (A : Option Addr) (c : Nat) :
    Calls Tryz.prog 132 #[v, .slice A 0 c] w fun e w' => e = .returned (.tuple #[.slice none 0 0, .slice none 0 0, .bool false]) ∧ w = w' := by
  go_enter Tryz.func132, Tryz.ntmps132
  go_wp2_with fail
  go_ret3
  exact ⟨rfl, rfl⟩
/-- What the reference's Lowest promises. -/
def RLowPost (X Y : Nat) (w : World) (e : Ending) (w' : World) : Prop :=
  ∃ v' u', e = .returned (.tuple #[v', u', .bool true]) ∧ Own w.heap.size w' v' (limbs (X / Nat.gcd X Y)) ∧ Own w.heap.size w' u' (limbs (Y / Nat.gcd X Y)) ∧ Ext w w'
theorem rlowest_any (w : World) (v u : Value) (X Y : Nat) (h : Arr w v (limbs X)) (h' : Arr w u (limbs Y)) (hn : (limbs X).length ≤ 134217728) (hn' : (limbs Y).length ≤ 134217728) (hy : 0 < Y) :
    Calls Tryz.prog 132 #[v, u] w (RLowPost X Y w) := by
  have HG := Lib.hid (rgcd_any w v u X Y h h' hn hn')
  have hg0 : 0 < Nat.gcd X Y := Nat.gcd_pos_of_pos_right _ hy
  have hgl : (limbs (Nat.gcd X Y)).length ≤ 134217728 := Nat.le_trans (limbs_mono (Nat.gcd_le_right _ hy)) hn'
  have HD1 := Lib.hid (fun W z hx a => rdiv_any W v z X (Nat.gcd X Y) (h.ext hx) a hn hgl hg0)
  have HD2 := Lib.hid (fun W z hx a => rdiv_any W u z Y (Nat.gcd X Y) (h'.ext hx) a hn' hgl hg0)
  obtain ⟨nv, Av, cv, rfl⟩ := h.shape
  obtain ⟨nu, Au, cu, rfl⟩ := h'.shape
  have hl := h'.len
  have hl0 := limbs_pos_len hy
  rw [← hl] at hl0
  have hlb : ((nu : Int) == 0) = false := by rw [beq_eq_false_iff_ne]; omega
  clear h h' hn hn' hgl hl hg0 hl0
  go_enter Tryz.func132, Tryz.ntmps132
  go_wp2_with fail
  refine HG.out.mono ?_
  rintro e w1 ⟨v1, rfl, ho1, hx1⟩
  have HX1 := Lib.hid hx1
  have HO1 := Lib.hid ho1
  obtain ⟨n1, A1, c1, rfl⟩ := ho1.2.shape
  clear ho1 hx1
  go_wp2_with fail
  refine (HD1.out _ _ HX1.out HO1.out).mono ?_
  rintro e w2 ⟨v2, rfl, ho2, hx2⟩
  have HX2 := Lib.hid (HX1.out.trans hx2)
  have HO2 := Lib.hid (ho2.mono HX1.out.size)
  have HO1' := Lib.hid (HO1.out.ext hx2)
  obtain ⟨n2, A2, c2, rfl⟩ := ho2.shape
  clear ho2 hx2
  go_wp2_with fail
  refine (HD2.out _ _ HX2.out HO1'.out).mono ?_
  rintro e w3 ⟨v3, rfl, ho3, hx3⟩
  have HX3 := Lib.hid (HX2.out.trans hx3)
  have HO3 := Lib.hid (ho3.mono HX2.out.size)
  have HO2' := Lib.hid (HO2.out.ext hx3)
  obtain ⟨n3, A3, c3, rfl⟩ := ho3.shape
  clear ho3 hx3
  go_wp2_with fail
  go_ret3
  exact ⟨_, _, rfl, HO2'.out, HO3.out, HX3.out⟩

/-- The numerator of x / y in lowest terms. -/
def makeN (x y : Int) : Int := sgn (decide (x < 0) != decide (y < 0)) (x.natAbs / Nat.gcd x.natAbs y.natAbs)
def makeD (x y : Int) : Nat := y.natAbs / Nat.gcd x.natAbs y.natAbs
set_option maxRecDepth 100000 in
theorem rmake_zero (w : World) (v u : Value) (x : Int) (h : ArrInt w v x) (h' : ArrInt w u 0) :
    Calls Tryz.prog 128 #[v, u] w fun e w' => ∃ v', e = .returned (.tuple #[v', .int .i64 2]) ∧ IsRat w.heap.size w' v' 0 0 ∧ Ext w w' := by
  obtain ⟨b, n, A, c, rfl⟩ := h.shape
  obtain ⟨b', n', A', c', rfl⟩ := h'.shape
  have hl := h'.mag.len
  rw [show (0 : Int).natAbs = 0 from rfl, limbs_zero, List.length_nil] at hl
  subst hl
  clear h h'
  go_enter Tryz.func128, Tryz.ntmps128
  go_wp2_with fail
  refine (rlowest_zero _ _ _ _).mono ?_
  rintro e w1 ⟨rfl, rfl⟩
  go_wp2_with fail
  refine bodyPost_ret (v := .tuple #[.agg #[.bool false, .slice none 0 0, .slice none 0 0], .int .i64 2]) (by simp [results, Tryz.results128, go_sem]) rfl ?_
  exact ⟨_, rfl, IsRat.zero _ _, (((Ext.refl w).alloc _).alloc _).alloc _⟩
set_option maxHeartbeats 1000000 in
set_option maxRecDepth 100000 in
theorem rmake_any (w : World) (v u : Value) (x y : Int) (h : ArrInt w v x) (h' : ArrInt w u y) (hn : (limbs x.natAbs).length ≤ 134217728) (hn' : (limbs y.natAbs).length ≤ 134217728) (hy : y ≠ 0) :
    Calls Tryz.prog 128 #[v, u] w fun e w' => ∃ v', e = .returned (.tuple #[v', .int .i64 0]) ∧ IsRat w.heap.size w' v' (makeN x y) (makeD x y) ∧ Ext w w' := by
  obtain ⟨b, n, A, c, rfl⟩ := h.shape
  obtain ⟨b', n', A', c', rfl⟩ := h'.shape
  have HL := Lib.hid (fun W hx => rlowest_any W (.slice A n c) (.slice A' n' c') x.natAbs y.natAbs (h.mag.ext hx) (h'.mag.ext hx) hn hn' (by omega))
  have HI := Lib.hid (fun W m a => rnat_any W (b != b') m (limbs (x.natAbs / Nat.gcd x.natAbs y.natAbs)) a (Nat.le_trans (limbs_mono (Nat.div_le_self _ _)) (by omega)))
  rw [val_limbs] at HI
  have HS := Lib.hid h.sign
  have HS' := Lib.hid h'.sign
  clear h h' hn hn'
  go_enter Tryz.func128, Tryz.ntmps128
  go_wp2_with fail
  have hb0 := ((Blk.new w 48 #[Value.bool b, Value.slice A n c]).alloc (.cells #[Value.bool b', Value.slice A' n' c'] 48)).alloc (.cells #[Value.bool false, Value.slice none 0 0, Value.slice none 0 0] 132)
  have hb1 := (Blk.new (w.alloc (.cells #[Value.bool b, Value.slice A n c] 48)) 48 #[Value.bool b', Value.slice A' n' c']).alloc (.cells #[Value.bool false, Value.slice none 0 0, Value.slice none 0 0] 132)
  have hb2 := Blk.new ((w.alloc (.cells #[Value.bool b, Value.slice A n c] 48)).alloc (.cells #[Value.bool b', Value.slice A' n' c'] 48)) 132 #[Value.bool false, Value.slice none 0 0, Value.slice none 0 0]
  have hxo := (((Ext.refl w).alloc (.cells #[Value.bool b, Value.slice A n c] 48)).alloc (.cells #[Value.bool b', Value.slice A' n' c'] 48)).alloc (.cells #[Value.bool false, Value.slice none 0 0, Value.slice none 0 0] 132)
  have hszo : w.heap.size + 1 + 1 < (((w.alloc (.cells #[Value.bool b, Value.slice A n c] 48)).alloc (.cells #[Value.bool b', Value.slice A' n' c'] 48)).alloc (.cells #[Value.bool false, Value.slice none 0 0, Value.slice none 0 0] 132)).heap.size := by simp
  simp only [World.size_alloc] at hb1 hb2
  generalize ((w.alloc (.cells #[Value.bool b, Value.slice A n c] 48)).alloc (.cells #[Value.bool b', Value.slice A' n' c'] 48)).alloc (.cells #[Value.bool false, Value.slice none 0 0, Value.slice none 0 0] 132) = wo at *
  refine (HL.out _ hxo).mono ?_
  rintro e w1 ⟨v1, u1, rfl, ho1, hr1, hx1⟩
  have hk0 := hb0.ext hx1
  have hk1 := hb1.ext hx1
  have hk2 := hb2.ext hx1
  have HO1 := Lib.hid ho1
  have HR1 := Lib.hid hr1
  obtain ⟨n1, A1, c1, rfl⟩ := ho1.shape
  obtain ⟨n2, A2, c2, rfl⟩ := hr1.shape
  obtain ⟨h0, h1, _, _, _⟩ := hk0.two
  obtain ⟨h2, h3, _, _, _⟩ := hk1.two
  have HK1 := Lib.hid hk2
  have HX1 := Lib.hid (hxo.trans hx1)
  have HSZ := Lib.hid hx1.size
  clear hb0 hb1 hb2 hx1 ho1 hr1 hk0 hk1 hk2 hxo
  go_wp2_with fail
  refine (HI.out _ _ HO1.out.arr).mono ?_
  rintro e w2 ⟨v2, rfl, hi2, hx2⟩
  have HI2 := Lib.hid hi2
  have HR2 := Lib.hid (HR1.out.ext hx2)
  have hk1 := HK1.out.ext hx2
  obtain ⟨b3, n3, A3, c3, rfl⟩ := hi2.shape
  obtain ⟨k0, k1, k2, f0, f1, f2, hgz⟩ := hk1.three
  have HX2 := Lib.hid (HX1.out.trans hx2)
  have HK2 := Lib.hid hk1
  clear hi2 hx2 hk1
  go_wp2_with fail
  obtain ⟨hr0, hr1, hr2⟩ := three_set HK2.out (.bool b3) (.slice A3 n3 c3) (.slice A2 n2 c2)
  refine bodyPost_ret (v := .tuple #[.agg #[.bool b3, .slice A3 n3 c3, .slice A2 n2 c2], .int .i64 0]) (by simp [results, Tryz.results128, go_sem, hr0, hr1, hr2]) rfl ?_
  have hfin : IsRat wo.heap.size w2 (.agg #[.bool b3, .slice A3 n3 c3, .slice A2 n2 c2]) (makeN x y) (makeD x y) := IsRat.mk (by
    have h1 := HI2.out.mono HSZ.out
    rw [HS.out, HS'.out] at h1
    exact h1) HR2.out
  exact ⟨_, rfl, hfin.put hszo (by omega), ((HX2.out.setCell (by show _ ≤ w.heap.size + 1 + 1; omega) _).setCell (by show _ ≤ w.heap.size + 1 + 1; omega) _).setCell (by show _ ≤ w.heap.size + 1 + 1; omega) _⟩

set_option maxHeartbeats 1000000 in
set_option maxRecDepth 100000 in
theorem rof7_any (w : World) (v u : Value) (x y : Int) (h : ArrInt w v x) (h' : ArrInt w u y) (hn : (limbs x.natAbs).length ≤ 134217728) (hn' : (limbs y.natAbs).length ≤ 134217728) (hy : y ≠ 0) :
    Calls Tryz.prog 118 #[v, u] w fun e w' => ∃ v', e = .returned v' ∧ IsRat w.heap.size w' v' (makeN x y) (makeD x y) ∧ Ext w w' := by
  have HA := Lib.hid h
  have HB := Lib.hid h'
  obtain ⟨b, n, A, c, rfl⟩ := h.shape
  obtain ⟨b', n', A', c', rfl⟩ := h'.shape
  have HM := Lib.hid (fun W hx => rmake_any W _ _ x y (h.ext hx) (h'.ext hx) hn hn' hy)
  clear h h' hn hn'
  go_enter Tryz.func118, Tryz.ntmps118
  go_wp2_with fail
  have hb2 := Blk.new ((w.alloc (.cells #[Value.bool b, Value.slice A n c] 48)).alloc (.cells #[Value.bool b', Value.slice A' n' c'] 48)) 132 #[Value.bool false, Value.slice none 0 0, Value.slice none 0 0]
  have hxo := (((Ext.refl w).alloc (.cells #[Value.bool b, Value.slice A n c] 48)).alloc (.cells #[Value.bool b', Value.slice A' n' c'] 48)).alloc (.cells #[Value.bool false, Value.slice none 0 0, Value.slice none 0 0] 132)
  simp only [World.size_alloc] at hb2
  generalize ((w.alloc (.cells #[Value.bool b, Value.slice A n c] 48)).alloc (.cells #[Value.bool b', Value.slice A' n' c'] 48)).alloc (.cells #[Value.bool false, Value.slice none 0 0, Value.slice none 0 0] 132) = wo at *
  refine (HM.out _ hxo).mono ?_
  rintro e w1 ⟨v1, rfl, ho1, hx1⟩
  have HO1 := Lib.hid ho1
  obtain ⟨b1, n1, A1, c1, n2, A2, c2, rfl⟩ := ho1.shape
  have hk2 := hb2.ext hx1
  have HK := Lib.hid hk2
  have HX1 := Lib.hid (hxo.trans hx1)
  have HSZ := Lib.hid hx1.size
  have HS0 := Lib.hid hb2.lt
  obtain ⟨k0, k1, k2, f0, f1, f2, hgz⟩ := hk2.three
  clear ho1 hx1 hk2 hb2 hxo
  go_wp2_with fail
  obtain ⟨hr0, hr1, hr2⟩ := three_set HK.out (.bool b1) (.slice A1 n1 c1) (.slice A2 n2 c2)
  obtain ⟨hs0, hs1, hs2, _⟩ := ((((HK.out.set_ 0 (.bool b1)).set_ 1 (.slice A1 n1 c1)).set_ 2 (.slice A2 n2 c2)).alloc (.cells #[.bool b1, .slice A1 n1 c1, .slice A2 n2 c2] 132)).three
  refine bodyPost_ret (v := .agg #[.bool b1, .slice A1 n1 c1, .slice A2 n2 c2]) (by simp [results, Tryz.results118, go_sem, hs0, hs1, hs2]) rfl ?_
  have hfin := (HO1.out.put (w := w) HS0.out (by have := HS0.out; omega)).ext ((Ext.refl _).alloc (.cells #[.bool b1, .slice A1 n1 c1, .slice A2 n2 c2] 132))
  exact ⟨_, rfl, hfin, (((HX1.out.setCell (by show _ ≤ w.heap.size + 1 + 1; omega) _).setCell (by show _ ≤ w.heap.size + 1 + 1; omega) _).setCell (by show _ ≤ w.heap.size + 1 + 1; omega) _).alloc _⟩
end Big
end Go.Proofs.YtoehdoghghpmjaaGreatDoor
