import Derived.Test.YtgopljllknbelaaGreatDoorM13
import Derived.Deep.RegionHeld3
import Derived.Deep.RegionLaw
/- ref20.node: leaves, minus. -/
namespace Go.Proofs.YtgopljllknbelaaGreatDoor
namespace Big
open Go.RowKit
theorem Blk.five {w : World} {g : Nat} {t : TypeId} {a b c d e : Value} (h : Blk w g t #[a, b, c, d, e]) : w.cell? ⟨g, 0, none⟩ = some a ∧ w.cell? ⟨g, 1, none⟩ = some b ∧ w.cell? ⟨g, 2, none⟩ = some c ∧ w.cell? ⟨g, 3, none⟩ = some d ∧ w.cell? ⟨g, 4, none⟩ = some e :=
  ⟨h.cell 0, h.cell 1, h.cell 2, h.cell 3, h.cell 4⟩
set_option maxRecDepth 100000 in
theorem node_leaf (l : List Nd) (k : Nat) (t : List UInt8) (hg : (Ex.leaf k t).Good) : NodeC l (.leaf k t) := by
  intro w v i I hr ha hI
  subst hI
  obtain ⟨A, c, rfl, hc⟩ := hr
  have hi := ha.lt.1
  obtain ⟨b, o, rfl, hb, hc⟩ := hc (by omega)
  have hat := hc i hi
  have hnd := ha.leaf
  rw [List.getElem?_eq_getElem hi] at hnd
  injection hnd with hnd
  rw [hnd] at hat
  obtain ⟨k0, k1, k2, k3, k4⟩ := hat
  simp only at k0 k1 k2 k3 k4
  have hst : str t = .string ⟨t.toArray⟩ := rfl
  rw [hst] at k4
  have hsr : ∀ s : ByteArray, s = ⟨t.toArray⟩ → str t = .string s := fun s h => by rw [h]; rfl
  have key : (k = 1 ∨ k = 2) ∨ k = 3 ∨ k = 4 := by unfold Ex.Good at hg; omega
  have HSR := Lib.hid hsr
  clear hg hc hnd ha hst hsr
  obtain ⟨s, hs⟩ : ∃ s : ByteArray, s = ⟨t.toArray⟩ := ⟨_, rfl⟩
  rw [← hs] at k4
  have HS := Lib.hid (HSR.out s hs)
  clear hs HSR
  rcases key with hk | hk | hk
  · have HT : Hid (nodeT fmtI (.leaf k t) = t) := Lib.hid (by unfold nodeT; rw [if_neg (by omega), if_neg (by omega)])
    rcases hk with rfl | rfl
    all_goals
      go_enter Tryz.func77, Tryz.ntmps77
      go_wp2_with fail
      go_ret
      refine ⟨by rw [HT.out, HS.out]; rfl, ?_⟩
      exact (((Ext.refl w).alloc _).alloc _).alloc _
  · subst hk
    go_enter Tryz.func77, Tryz.ntmps77
    go_wp2_with fail
    go_ret
    exact ⟨rfl, (((Ext.refl w).alloc _).alloc _).alloc _⟩
  · subst hk
    go_enter Tryz.func77, Tryz.ntmps77
    go_wp2_with fail
    go_ret
    exact ⟨rfl, (((Ext.refl w).alloc _).alloc _).alloc _⟩
end Big
end Go.Proofs.YtgopljllknbelaaGreatDoor
/- ref20.node: minus, functions. -/
namespace Go.Proofs.YtgopljllknbelaaGreatDoor
namespace Big
open Go.RowKit
set_option maxRecDepth 100000 in
theorem node_neg (l : List Nd) (n : Int) (x : Ex) (hx : NodeC l x) (hg : (Ex.un 5 n x).Good) (hs : (nodeT fmtI x).length ≤ 999990) (hl : l.length ≤ 1000000) : NodeC l (.un 5 n x) := by
  intro w v i I hr ha hI
  subst hI
  obtain ⟨h1, hnd, hax⟩ := ha.un
  have hi := ha.lt.1
  have HOPD := Lib.hid (fun W h => operand_any l x hx hg.2.2.2.2 (by omega) hl W v (i - 1) ((i - 1 : Nat) : Int) 3 h hax rfl)
  have HR := Lib.hid hr
  obtain ⟨A, c, rfl, hc⟩ := hr
  obtain ⟨b, o, rfl, hb, hc⟩ := hc (by omega)
  have hat := hc i hi
  rw [List.getElem?_eq_getElem hi] at hnd
  injection hnd with hnd
  rw [hnd] at hat
  obtain ⟨k0, k1, k2, k3, k4⟩ := hat
  simp only at k0 k1 k2 k3 k4
  have hst : str [] = .string ⟨#[]⟩ := rfl
  rw [hst] at k4
  have HT : Hid (nodeT fmtI (.un 5 n x) = 45 :: parenT (decide (levelK x.kind < 3)) (nodeT fmtI x)) := Lib.hid rfl
  have hpl := parenT_len (decide (levelK x.kind < 3)) (nodeT fmtI x)
  have hj : ((i - 1 : Nat) : Int) = (i : Int) - 1 := by omega
  rw [hj] at k1 HOPD
  rw [show ((3 : Nat) : Int) = 3 from rfl] at HOPD
  generalize parenT (decide (levelK x.kind < 3)) (nodeT fmtI x) = s at *
  have hadd1 : ∀ W : World, (binOp .add 9 (.string ⟨#[45]⟩) (str s)).run Tryz.prog W = .ok (str (45 :: s)) W := fun W => run_add_str [45] s (by simp; omega) W
  clear hx hg hc hnd ha hax hst hj
  go_enter Tryz.func77, Tryz.ntmps77
  go_wp2_with fail
  refine (HOPD.out _ (HR.out.ext ((((Ext.refl w).alloc _).alloc _).alloc _))).mono ?_
  rintro r w1 ⟨rfl, hx1⟩
  have HX1 := Lib.hid (Ext.trans ((((Ext.refl w).alloc _).alloc _).alloc _) hx1)
  clear hx1
  go_wp2_with fail
  go_ret
  exact ⟨by rw [HT.out]; rfl, HX1.out⟩
end Big
end Go.Proofs.YtgopljllknbelaaGreatDoor
/- ref20.node: functions. -/
namespace Go.Proofs.YtgopljllknbelaaGreatDoor
namespace Big
open Go.RowKit
set_option maxRecDepth 100000 in
theorem node_sqrt (l : List Nd) (n : Int) (x : Ex) (hx : NodeC l x) (_hg : (Ex.un 11 n x).Good) (hs : (nodeT fmtI x).length ≤ 999990) (hl : l.length ≤ 1000000) : NodeC l (.un 11 n x) := by
  intro w v i I hr ha hI
  subst hI
  obtain ⟨h1, hnd, hax⟩ := ha.un
  have hi := ha.lt.1
  have hj : ((i - 1 : Nat) : Int) = (i : Int) - 1 := by omega
  have HX := Lib.hid (fun W h => hx W v (i - 1) ((i : Int) - 1) h hax hj.symm)
  have HR := Lib.hid hr
  obtain ⟨A, c, rfl, hc⟩ := hr
  obtain ⟨b, o, rfl, hb, hc⟩ := hc (by omega)
  have hat := hc i hi
  rw [List.getElem?_eq_getElem hi] at hnd
  injection hnd with hnd
  rw [hnd] at hat
  obtain ⟨k0, k1, k2, k3, k4⟩ := hat
  simp only at k0 k1 k2 k3 k4
  have hst : str [] = .string ⟨#[]⟩ := rfl
  rw [hst] at k4
  have HT : Hid (nodeT fmtI (.un 11 n x) = [115, 113, 114, 116] ++ (40 :: (nodeT fmtI x ++ [41]))) := Lib.hid rfl
  rw [hj] at k1
  rw [show ((11 : Nat) : Int) = 11 from rfl] at k0
  generalize nodeT fmtI x = s at *
  have hadd1 : ∀ W : World, (binOp .add 9 (.string ⟨#[115, 113, 114, 116, 40]⟩) (str s)).run Tryz.prog W = .ok (str (115 :: 113 :: 114 :: 116 :: 40 :: s)) W := fun W => run_add_str [115, 113, 114, 116, 40] s (by simp; omega) W
  clear hx _hg hc hnd ha hax hst hj
  go_enter Tryz.func77, Tryz.ntmps77
  go_wp2_with fail
  have hb0 := ((Blk.new w 42 #[.int .i64 11, .int .i64 ((i : Int) - 1), .int .i64 0, .int .i64 n, .string ⟨#[]⟩]).alloc (.cells #[.string ⟨#[32, 43, 32]⟩, .string ⟨#[32, 45, 32]⟩, .string ⟨#[32, 42, 32]⟩, .string ⟨#[32, 47, 32]⟩] 9)).alloc (.cells #[.string ⟨#[115, 113, 114, 116]⟩, .string ⟨#[101, 120, 112]⟩, .string ⟨#[108, 110]⟩, .string ⟨#[115, 105, 110]⟩, .string ⟨#[99, 111, 115]⟩, .string ⟨#[97, 116, 97, 110]⟩] 9)
  have hb1 := Blk.new ((w.alloc (.cells #[.int .i64 11, .int .i64 ((i : Int) - 1), .int .i64 0, .int .i64 n, .string ⟨#[]⟩] 42)).alloc (.cells #[.string ⟨#[32, 43, 32]⟩, .string ⟨#[32, 45, 32]⟩, .string ⟨#[32, 42, 32]⟩, .string ⟨#[32, 47, 32]⟩] 9)) 9 #[.string ⟨#[115, 113, 114, 116]⟩, .string ⟨#[101, 120, 112]⟩, .string ⟨#[108, 110]⟩, .string ⟨#[115, 105, 110]⟩, .string ⟨#[99, 111, 115]⟩, .string ⟨#[97, 116, 97, 110]⟩]
  have hsz : ((w.alloc (.cells #[.int .i64 11, .int .i64 ((i : Int) - 1), .int .i64 0, .int .i64 n, .string ⟨#[]⟩] 42)).alloc (.cells #[.string ⟨#[32, 43, 32]⟩, .string ⟨#[32, 45, 32]⟩, .string ⟨#[32, 42, 32]⟩, .string ⟨#[32, 47, 32]⟩] 9)).heap.size = w.heap.size + 1 + 1 := by simp
  rw [hsz] at hb1
  have HX3 := Lib.hid ((((Ext.refl w).alloc (.cells #[.int .i64 11, .int .i64 ((i : Int) - 1), .int .i64 0, .int .i64 n, .string ⟨#[]⟩] 42)).alloc (.cells #[.string ⟨#[32, 43, 32]⟩, .string ⟨#[32, 45, 32]⟩, .string ⟨#[32, 42, 32]⟩, .string ⟨#[32, 47, 32]⟩] 9)).alloc (.cells #[.string ⟨#[115, 113, 114, 116]⟩, .string ⟨#[101, 120, 112]⟩, .string ⟨#[108, 110]⟩, .string ⟨#[115, 105, 110]⟩, .string ⟨#[99, 111, 115]⟩, .string ⟨#[97, 116, 97, 110]⟩] 9))
  generalize ((w.alloc (.cells #[.int .i64 11, .int .i64 ((i : Int) - 1), .int .i64 0, .int .i64 n, .string ⟨#[]⟩] 42)).alloc (.cells #[.string ⟨#[32, 43, 32]⟩, .string ⟨#[32, 45, 32]⟩, .string ⟨#[32, 42, 32]⟩, .string ⟨#[32, 47, 32]⟩] 9)).alloc (.cells #[.string ⟨#[115, 113, 114, 116]⟩, .string ⟨#[101, 120, 112]⟩, .string ⟨#[108, 110]⟩, .string ⟨#[115, 105, 110]⟩, .string ⟨#[99, 111, 115]⟩, .string ⟨#[97, 116, 97, 110]⟩] 9) = w3 at *
  have hc0 : w3.cell? ⟨w.heap.size, 0, none⟩ = some (.int .i64 11) := hb0.cell 0
  have hc1 : w3.cell? ⟨w.heap.size, 1, none⟩ = some (.int .i64 ((i : Int) - 1)) := hb0.cell 1
  have hc2 : w3.cell? ⟨w.heap.size + 1 + 1, 0, none⟩ = some (.string ⟨#[115, 113, 114, 116]⟩) := hb1.cell 0
  have hadd2 : ∀ W : World, (binOp .add 9 (str (115 :: 113 :: 114 :: 116 :: 40 :: s)) (.string ⟨#[41]⟩)).run Tryz.prog W = .ok (str (115 :: 113 :: 114 :: 116 :: 40 :: (s ++ [41]))) W := fun W => run_add_str (115 :: 113 :: 114 :: 116 :: 40 :: s) [41] (by simp; omega) W
  have happ : (⟨#[115, 113, 114, 116]⟩ : ByteArray) ++ (⟨#[40]⟩ : ByteArray) = ⟨#[115, 113, 114, 116, 40]⟩ := by first | rfl | (apply ByteArray.ext; simp) | decide +kernel
  have hi0 : IntKind.i64.wrap ((11 : Int) - 11) = 0 := by kernel_rfl
  have hi1 : IntKind.i64.wrap (0 : Int) = 0 := by kernel_rfl
  clear hb0 hb1 hsz k0 k1 k2 k3 k4
  go_region_held3 (fun w' => Ext w3 w' ∧ w'.cell? ⟨w.heap.size, 0, none⟩ = some (.int .i64 11) ∧ w'.cell? ⟨w.heap.size, 1, none⟩ = some (.int .i64 ((i : Int) - 1)) ∧ w'.cell? ⟨w.heap.size + 1 + 1, 0, none⟩ = some (.string ⟨#[115, 113, 114, 116]⟩))
    (first | (exact kept3_drew ⟨hc0, hc1, hc2⟩) | (exact kept3 (by assumption) (by assumption)))
    (first
      | (go_at_call 77; refine (HX.out _ ?_).mono ?_; (exact HR.out.ext (HX3.out.trans (And.left (by assumption)))); rintro r w5 ⟨rfl, hx5⟩))
  all_goals
    go_wp2_with fail
    go_ret
    exact ⟨by rw [HT.out]; rfl, HX3.out.trans (And.left (by assumption))⟩
set_option maxRecDepth 100000 in
theorem node_exp (l : List Nd) (n : Int) (x : Ex) (hx : NodeC l x) (_hg : (Ex.un 12 n x).Good) (hs : (nodeT fmtI x).length ≤ 999990) (hl : l.length ≤ 1000000) : NodeC l (.un 12 n x) := by
  intro w v i I hr ha hI
  subst hI
  obtain ⟨h1, hnd, hax⟩ := ha.un
  have hi := ha.lt.1
  have hj : ((i - 1 : Nat) : Int) = (i : Int) - 1 := by omega
  have HX := Lib.hid (fun W h => hx W v (i - 1) ((i : Int) - 1) h hax hj.symm)
  have HR := Lib.hid hr
  obtain ⟨A, c, rfl, hc⟩ := hr
  obtain ⟨b, o, rfl, hb, hc⟩ := hc (by omega)
  have hat := hc i hi
  rw [List.getElem?_eq_getElem hi] at hnd
  injection hnd with hnd
  rw [hnd] at hat
  obtain ⟨k0, k1, k2, k3, k4⟩ := hat
  simp only at k0 k1 k2 k3 k4
  have hst : str [] = .string ⟨#[]⟩ := rfl
  rw [hst] at k4
  have HT : Hid (nodeT fmtI (.un 12 n x) = [101, 120, 112] ++ (40 :: (nodeT fmtI x ++ [41]))) := Lib.hid rfl
  rw [hj] at k1
  rw [show ((12 : Nat) : Int) = 12 from rfl] at k0
  generalize nodeT fmtI x = s at *
  have hadd1 : ∀ W : World, (binOp .add 9 (.string ⟨#[101, 120, 112, 40]⟩) (str s)).run Tryz.prog W = .ok (str (101 :: 120 :: 112 :: 40 :: s)) W := fun W => run_add_str [101, 120, 112, 40] s (by simp; omega) W
  clear hx _hg hc hnd ha hax hst hj
  go_enter Tryz.func77, Tryz.ntmps77
  go_wp2_with fail
  have hb0 := ((Blk.new w 42 #[.int .i64 12, .int .i64 ((i : Int) - 1), .int .i64 0, .int .i64 n, .string ⟨#[]⟩]).alloc (.cells #[.string ⟨#[32, 43, 32]⟩, .string ⟨#[32, 45, 32]⟩, .string ⟨#[32, 42, 32]⟩, .string ⟨#[32, 47, 32]⟩] 9)).alloc (.cells #[.string ⟨#[115, 113, 114, 116]⟩, .string ⟨#[101, 120, 112]⟩, .string ⟨#[108, 110]⟩, .string ⟨#[115, 105, 110]⟩, .string ⟨#[99, 111, 115]⟩, .string ⟨#[97, 116, 97, 110]⟩] 9)
  have hb1 := Blk.new ((w.alloc (.cells #[.int .i64 12, .int .i64 ((i : Int) - 1), .int .i64 0, .int .i64 n, .string ⟨#[]⟩] 42)).alloc (.cells #[.string ⟨#[32, 43, 32]⟩, .string ⟨#[32, 45, 32]⟩, .string ⟨#[32, 42, 32]⟩, .string ⟨#[32, 47, 32]⟩] 9)) 9 #[.string ⟨#[115, 113, 114, 116]⟩, .string ⟨#[101, 120, 112]⟩, .string ⟨#[108, 110]⟩, .string ⟨#[115, 105, 110]⟩, .string ⟨#[99, 111, 115]⟩, .string ⟨#[97, 116, 97, 110]⟩]
  have hsz : ((w.alloc (.cells #[.int .i64 12, .int .i64 ((i : Int) - 1), .int .i64 0, .int .i64 n, .string ⟨#[]⟩] 42)).alloc (.cells #[.string ⟨#[32, 43, 32]⟩, .string ⟨#[32, 45, 32]⟩, .string ⟨#[32, 42, 32]⟩, .string ⟨#[32, 47, 32]⟩] 9)).heap.size = w.heap.size + 1 + 1 := by simp
  rw [hsz] at hb1
  have HX3 := Lib.hid ((((Ext.refl w).alloc (.cells #[.int .i64 12, .int .i64 ((i : Int) - 1), .int .i64 0, .int .i64 n, .string ⟨#[]⟩] 42)).alloc (.cells #[.string ⟨#[32, 43, 32]⟩, .string ⟨#[32, 45, 32]⟩, .string ⟨#[32, 42, 32]⟩, .string ⟨#[32, 47, 32]⟩] 9)).alloc (.cells #[.string ⟨#[115, 113, 114, 116]⟩, .string ⟨#[101, 120, 112]⟩, .string ⟨#[108, 110]⟩, .string ⟨#[115, 105, 110]⟩, .string ⟨#[99, 111, 115]⟩, .string ⟨#[97, 116, 97, 110]⟩] 9))
  generalize ((w.alloc (.cells #[.int .i64 12, .int .i64 ((i : Int) - 1), .int .i64 0, .int .i64 n, .string ⟨#[]⟩] 42)).alloc (.cells #[.string ⟨#[32, 43, 32]⟩, .string ⟨#[32, 45, 32]⟩, .string ⟨#[32, 42, 32]⟩, .string ⟨#[32, 47, 32]⟩] 9)).alloc (.cells #[.string ⟨#[115, 113, 114, 116]⟩, .string ⟨#[101, 120, 112]⟩, .string ⟨#[108, 110]⟩, .string ⟨#[115, 105, 110]⟩, .string ⟨#[99, 111, 115]⟩, .string ⟨#[97, 116, 97, 110]⟩] 9) = w3 at *
  have hc0 : w3.cell? ⟨w.heap.size, 0, none⟩ = some (.int .i64 12) := hb0.cell 0
  have hc1 : w3.cell? ⟨w.heap.size, 1, none⟩ = some (.int .i64 ((i : Int) - 1)) := hb0.cell 1
  have hc2 : w3.cell? ⟨w.heap.size + 1 + 1, 1, none⟩ = some (.string ⟨#[101, 120, 112]⟩) := hb1.cell 1
  have hadd2 : ∀ W : World, (binOp .add 9 (str (101 :: 120 :: 112 :: 40 :: s)) (.string ⟨#[41]⟩)).run Tryz.prog W = .ok (str (101 :: 120 :: 112 :: 40 :: (s ++ [41]))) W := fun W => run_add_str (101 :: 120 :: 112 :: 40 :: s) [41] (by simp; omega) W
  have happ : (⟨#[101, 120, 112]⟩ : ByteArray) ++ (⟨#[40]⟩ : ByteArray) = ⟨#[101, 120, 112, 40]⟩ := by first | rfl | (apply ByteArray.ext; simp) | decide +kernel
  have hi0 : IntKind.i64.wrap ((12 : Int) - 11) = 1 := by kernel_rfl
  have hi1 : IntKind.i64.wrap (1 : Int) = 1 := by kernel_rfl
  clear hb0 hb1 hsz k0 k1 k2 k3 k4
  go_region_held3 (fun w' => Ext w3 w' ∧ w'.cell? ⟨w.heap.size, 0, none⟩ = some (.int .i64 12) ∧ w'.cell? ⟨w.heap.size, 1, none⟩ = some (.int .i64 ((i : Int) - 1)) ∧ w'.cell? ⟨w.heap.size + 1 + 1, 1, none⟩ = some (.string ⟨#[101, 120, 112]⟩))
    (first | (exact kept3_drew ⟨hc0, hc1, hc2⟩) | (exact kept3 (by assumption) (by assumption)))
    (first
      | (go_at_call 77; refine (HX.out _ ?_).mono ?_; (exact HR.out.ext (HX3.out.trans (And.left (by assumption)))); rintro r w5 ⟨rfl, hx5⟩))
  all_goals
    go_wp2_with fail
    go_ret
    exact ⟨by rw [HT.out]; rfl, HX3.out.trans (And.left (by assumption))⟩
set_option maxRecDepth 100000 in
theorem node_ln (l : List Nd) (n : Int) (x : Ex) (hx : NodeC l x) (_hg : (Ex.un 13 n x).Good) (hs : (nodeT fmtI x).length ≤ 999990) (hl : l.length ≤ 1000000) : NodeC l (.un 13 n x) := by
  intro w v i I hr ha hI
  subst hI
  obtain ⟨h1, hnd, hax⟩ := ha.un
  have hi := ha.lt.1
  have hj : ((i - 1 : Nat) : Int) = (i : Int) - 1 := by omega
  have HX := Lib.hid (fun W h => hx W v (i - 1) ((i : Int) - 1) h hax hj.symm)
  have HR := Lib.hid hr
  obtain ⟨A, c, rfl, hc⟩ := hr
  obtain ⟨b, o, rfl, hb, hc⟩ := hc (by omega)
  have hat := hc i hi
  rw [List.getElem?_eq_getElem hi] at hnd
  injection hnd with hnd
  rw [hnd] at hat
  obtain ⟨k0, k1, k2, k3, k4⟩ := hat
  simp only at k0 k1 k2 k3 k4
  have hst : str [] = .string ⟨#[]⟩ := rfl
  rw [hst] at k4
  have HT : Hid (nodeT fmtI (.un 13 n x) = [108, 110] ++ (40 :: (nodeT fmtI x ++ [41]))) := Lib.hid rfl
  rw [hj] at k1
  rw [show ((13 : Nat) : Int) = 13 from rfl] at k0
  generalize nodeT fmtI x = s at *
  have hadd1 : ∀ W : World, (binOp .add 9 (.string ⟨#[108, 110, 40]⟩) (str s)).run Tryz.prog W = .ok (str (108 :: 110 :: 40 :: s)) W := fun W => run_add_str [108, 110, 40] s (by simp; omega) W
  clear hx _hg hc hnd ha hax hst hj
  go_enter Tryz.func77, Tryz.ntmps77
  go_wp2_with fail
  have hb0 := ((Blk.new w 42 #[.int .i64 13, .int .i64 ((i : Int) - 1), .int .i64 0, .int .i64 n, .string ⟨#[]⟩]).alloc (.cells #[.string ⟨#[32, 43, 32]⟩, .string ⟨#[32, 45, 32]⟩, .string ⟨#[32, 42, 32]⟩, .string ⟨#[32, 47, 32]⟩] 9)).alloc (.cells #[.string ⟨#[115, 113, 114, 116]⟩, .string ⟨#[101, 120, 112]⟩, .string ⟨#[108, 110]⟩, .string ⟨#[115, 105, 110]⟩, .string ⟨#[99, 111, 115]⟩, .string ⟨#[97, 116, 97, 110]⟩] 9)
  have hb1 := Blk.new ((w.alloc (.cells #[.int .i64 13, .int .i64 ((i : Int) - 1), .int .i64 0, .int .i64 n, .string ⟨#[]⟩] 42)).alloc (.cells #[.string ⟨#[32, 43, 32]⟩, .string ⟨#[32, 45, 32]⟩, .string ⟨#[32, 42, 32]⟩, .string ⟨#[32, 47, 32]⟩] 9)) 9 #[.string ⟨#[115, 113, 114, 116]⟩, .string ⟨#[101, 120, 112]⟩, .string ⟨#[108, 110]⟩, .string ⟨#[115, 105, 110]⟩, .string ⟨#[99, 111, 115]⟩, .string ⟨#[97, 116, 97, 110]⟩]
  have hsz : ((w.alloc (.cells #[.int .i64 13, .int .i64 ((i : Int) - 1), .int .i64 0, .int .i64 n, .string ⟨#[]⟩] 42)).alloc (.cells #[.string ⟨#[32, 43, 32]⟩, .string ⟨#[32, 45, 32]⟩, .string ⟨#[32, 42, 32]⟩, .string ⟨#[32, 47, 32]⟩] 9)).heap.size = w.heap.size + 1 + 1 := by simp
  rw [hsz] at hb1
  have HX3 := Lib.hid ((((Ext.refl w).alloc (.cells #[.int .i64 13, .int .i64 ((i : Int) - 1), .int .i64 0, .int .i64 n, .string ⟨#[]⟩] 42)).alloc (.cells #[.string ⟨#[32, 43, 32]⟩, .string ⟨#[32, 45, 32]⟩, .string ⟨#[32, 42, 32]⟩, .string ⟨#[32, 47, 32]⟩] 9)).alloc (.cells #[.string ⟨#[115, 113, 114, 116]⟩, .string ⟨#[101, 120, 112]⟩, .string ⟨#[108, 110]⟩, .string ⟨#[115, 105, 110]⟩, .string ⟨#[99, 111, 115]⟩, .string ⟨#[97, 116, 97, 110]⟩] 9))
  generalize ((w.alloc (.cells #[.int .i64 13, .int .i64 ((i : Int) - 1), .int .i64 0, .int .i64 n, .string ⟨#[]⟩] 42)).alloc (.cells #[.string ⟨#[32, 43, 32]⟩, .string ⟨#[32, 45, 32]⟩, .string ⟨#[32, 42, 32]⟩, .string ⟨#[32, 47, 32]⟩] 9)).alloc (.cells #[.string ⟨#[115, 113, 114, 116]⟩, .string ⟨#[101, 120, 112]⟩, .string ⟨#[108, 110]⟩, .string ⟨#[115, 105, 110]⟩, .string ⟨#[99, 111, 115]⟩, .string ⟨#[97, 116, 97, 110]⟩] 9) = w3 at *
  have hc0 : w3.cell? ⟨w.heap.size, 0, none⟩ = some (.int .i64 13) := hb0.cell 0
  have hc1 : w3.cell? ⟨w.heap.size, 1, none⟩ = some (.int .i64 ((i : Int) - 1)) := hb0.cell 1
  have hc2 : w3.cell? ⟨w.heap.size + 1 + 1, 2, none⟩ = some (.string ⟨#[108, 110]⟩) := hb1.cell 2
  have hadd2 : ∀ W : World, (binOp .add 9 (str (108 :: 110 :: 40 :: s)) (.string ⟨#[41]⟩)).run Tryz.prog W = .ok (str (108 :: 110 :: 40 :: (s ++ [41]))) W := fun W => run_add_str (108 :: 110 :: 40 :: s) [41] (by simp; omega) W
  have happ : (⟨#[108, 110]⟩ : ByteArray) ++ (⟨#[40]⟩ : ByteArray) = ⟨#[108, 110, 40]⟩ := by first | rfl | (apply ByteArray.ext; simp) | decide +kernel
  have hi0 : IntKind.i64.wrap ((13 : Int) - 11) = 2 := by kernel_rfl
  have hi1 : IntKind.i64.wrap (2 : Int) = 2 := by kernel_rfl
  clear hb0 hb1 hsz k0 k1 k2 k3 k4
  go_region_held3 (fun w' => Ext w3 w' ∧ w'.cell? ⟨w.heap.size, 0, none⟩ = some (.int .i64 13) ∧ w'.cell? ⟨w.heap.size, 1, none⟩ = some (.int .i64 ((i : Int) - 1)) ∧ w'.cell? ⟨w.heap.size + 1 + 1, 2, none⟩ = some (.string ⟨#[108, 110]⟩))
    (first | (exact kept3_drew ⟨hc0, hc1, hc2⟩) | (exact kept3 (by assumption) (by assumption)))
    (first
      | (go_at_call 77; refine (HX.out _ ?_).mono ?_; (exact HR.out.ext (HX3.out.trans (And.left (by assumption)))); rintro r w5 ⟨rfl, hx5⟩))
  all_goals
    go_wp2_with fail
    go_ret
    exact ⟨by rw [HT.out]; rfl, HX3.out.trans (And.left (by assumption))⟩
set_option maxRecDepth 100000 in
theorem node_sin (l : List Nd) (n : Int) (x : Ex) (hx : NodeC l x) (_hg : (Ex.un 14 n x).Good) (hs : (nodeT fmtI x).length ≤ 999990) (hl : l.length ≤ 1000000) : NodeC l (.un 14 n x) := by
  intro w v i I hr ha hI
  subst hI
  obtain ⟨h1, hnd, hax⟩ := ha.un
  have hi := ha.lt.1
  have hj : ((i - 1 : Nat) : Int) = (i : Int) - 1 := by omega
  have HX := Lib.hid (fun W h => hx W v (i - 1) ((i : Int) - 1) h hax hj.symm)
  have HR := Lib.hid hr
  obtain ⟨A, c, rfl, hc⟩ := hr
  obtain ⟨b, o, rfl, hb, hc⟩ := hc (by omega)
  have hat := hc i hi
  rw [List.getElem?_eq_getElem hi] at hnd
  injection hnd with hnd
  rw [hnd] at hat
  obtain ⟨k0, k1, k2, k3, k4⟩ := hat
  simp only at k0 k1 k2 k3 k4
  have hst : str [] = .string ⟨#[]⟩ := rfl
  rw [hst] at k4
  have HT : Hid (nodeT fmtI (.un 14 n x) = [115, 105, 110] ++ (40 :: (nodeT fmtI x ++ [41]))) := Lib.hid rfl
  rw [hj] at k1
  rw [show ((14 : Nat) : Int) = 14 from rfl] at k0
  generalize nodeT fmtI x = s at *
  have hadd1 : ∀ W : World, (binOp .add 9 (.string ⟨#[115, 105, 110, 40]⟩) (str s)).run Tryz.prog W = .ok (str (115 :: 105 :: 110 :: 40 :: s)) W := fun W => run_add_str [115, 105, 110, 40] s (by simp; omega) W
  clear hx _hg hc hnd ha hax hst hj
  go_enter Tryz.func77, Tryz.ntmps77
  go_wp2_with fail
  have hb0 := ((Blk.new w 42 #[.int .i64 14, .int .i64 ((i : Int) - 1), .int .i64 0, .int .i64 n, .string ⟨#[]⟩]).alloc (.cells #[.string ⟨#[32, 43, 32]⟩, .string ⟨#[32, 45, 32]⟩, .string ⟨#[32, 42, 32]⟩, .string ⟨#[32, 47, 32]⟩] 9)).alloc (.cells #[.string ⟨#[115, 113, 114, 116]⟩, .string ⟨#[101, 120, 112]⟩, .string ⟨#[108, 110]⟩, .string ⟨#[115, 105, 110]⟩, .string ⟨#[99, 111, 115]⟩, .string ⟨#[97, 116, 97, 110]⟩] 9)
  have hb1 := Blk.new ((w.alloc (.cells #[.int .i64 14, .int .i64 ((i : Int) - 1), .int .i64 0, .int .i64 n, .string ⟨#[]⟩] 42)).alloc (.cells #[.string ⟨#[32, 43, 32]⟩, .string ⟨#[32, 45, 32]⟩, .string ⟨#[32, 42, 32]⟩, .string ⟨#[32, 47, 32]⟩] 9)) 9 #[.string ⟨#[115, 113, 114, 116]⟩, .string ⟨#[101, 120, 112]⟩, .string ⟨#[108, 110]⟩, .string ⟨#[115, 105, 110]⟩, .string ⟨#[99, 111, 115]⟩, .string ⟨#[97, 116, 97, 110]⟩]
  have hsz : ((w.alloc (.cells #[.int .i64 14, .int .i64 ((i : Int) - 1), .int .i64 0, .int .i64 n, .string ⟨#[]⟩] 42)).alloc (.cells #[.string ⟨#[32, 43, 32]⟩, .string ⟨#[32, 45, 32]⟩, .string ⟨#[32, 42, 32]⟩, .string ⟨#[32, 47, 32]⟩] 9)).heap.size = w.heap.size + 1 + 1 := by simp
  rw [hsz] at hb1
  have HX3 := Lib.hid ((((Ext.refl w).alloc (.cells #[.int .i64 14, .int .i64 ((i : Int) - 1), .int .i64 0, .int .i64 n, .string ⟨#[]⟩] 42)).alloc (.cells #[.string ⟨#[32, 43, 32]⟩, .string ⟨#[32, 45, 32]⟩, .string ⟨#[32, 42, 32]⟩, .string ⟨#[32, 47, 32]⟩] 9)).alloc (.cells #[.string ⟨#[115, 113, 114, 116]⟩, .string ⟨#[101, 120, 112]⟩, .string ⟨#[108, 110]⟩, .string ⟨#[115, 105, 110]⟩, .string ⟨#[99, 111, 115]⟩, .string ⟨#[97, 116, 97, 110]⟩] 9))
  generalize ((w.alloc (.cells #[.int .i64 14, .int .i64 ((i : Int) - 1), .int .i64 0, .int .i64 n, .string ⟨#[]⟩] 42)).alloc (.cells #[.string ⟨#[32, 43, 32]⟩, .string ⟨#[32, 45, 32]⟩, .string ⟨#[32, 42, 32]⟩, .string ⟨#[32, 47, 32]⟩] 9)).alloc (.cells #[.string ⟨#[115, 113, 114, 116]⟩, .string ⟨#[101, 120, 112]⟩, .string ⟨#[108, 110]⟩, .string ⟨#[115, 105, 110]⟩, .string ⟨#[99, 111, 115]⟩, .string ⟨#[97, 116, 97, 110]⟩] 9) = w3 at *
  have hc0 : w3.cell? ⟨w.heap.size, 0, none⟩ = some (.int .i64 14) := hb0.cell 0
  have hc1 : w3.cell? ⟨w.heap.size, 1, none⟩ = some (.int .i64 ((i : Int) - 1)) := hb0.cell 1
  have hc2 : w3.cell? ⟨w.heap.size + 1 + 1, 3, none⟩ = some (.string ⟨#[115, 105, 110]⟩) := hb1.cell 3
  have hadd2 : ∀ W : World, (binOp .add 9 (str (115 :: 105 :: 110 :: 40 :: s)) (.string ⟨#[41]⟩)).run Tryz.prog W = .ok (str (115 :: 105 :: 110 :: 40 :: (s ++ [41]))) W := fun W => run_add_str (115 :: 105 :: 110 :: 40 :: s) [41] (by simp; omega) W
  have happ : (⟨#[115, 105, 110]⟩ : ByteArray) ++ (⟨#[40]⟩ : ByteArray) = ⟨#[115, 105, 110, 40]⟩ := by first | rfl | (apply ByteArray.ext; simp) | decide +kernel
  have hi0 : IntKind.i64.wrap ((14 : Int) - 11) = 3 := by kernel_rfl
  have hi1 : IntKind.i64.wrap (3 : Int) = 3 := by kernel_rfl
  clear hb0 hb1 hsz k0 k1 k2 k3 k4
  go_region_held3 (fun w' => Ext w3 w' ∧ w'.cell? ⟨w.heap.size, 0, none⟩ = some (.int .i64 14) ∧ w'.cell? ⟨w.heap.size, 1, none⟩ = some (.int .i64 ((i : Int) - 1)) ∧ w'.cell? ⟨w.heap.size + 1 + 1, 3, none⟩ = some (.string ⟨#[115, 105, 110]⟩))
    (first | (exact kept3_drew ⟨hc0, hc1, hc2⟩) | (exact kept3 (by assumption) (by assumption)))
    (first
      | (go_at_call 77; refine (HX.out _ ?_).mono ?_; (exact HR.out.ext (HX3.out.trans (And.left (by assumption)))); rintro r w5 ⟨rfl, hx5⟩))
  all_goals
    go_wp2_with fail
    go_ret
    exact ⟨by rw [HT.out]; rfl, HX3.out.trans (And.left (by assumption))⟩
set_option maxRecDepth 100000 in
theorem node_cos (l : List Nd) (n : Int) (x : Ex) (hx : NodeC l x) (_hg : (Ex.un 15 n x).Good) (hs : (nodeT fmtI x).length ≤ 999990) (hl : l.length ≤ 1000000) : NodeC l (.un 15 n x) := by
  intro w v i I hr ha hI
  subst hI
  obtain ⟨h1, hnd, hax⟩ := ha.un
  have hi := ha.lt.1
  have hj : ((i - 1 : Nat) : Int) = (i : Int) - 1 := by omega
  have HX := Lib.hid (fun W h => hx W v (i - 1) ((i : Int) - 1) h hax hj.symm)
  have HR := Lib.hid hr
  obtain ⟨A, c, rfl, hc⟩ := hr
  obtain ⟨b, o, rfl, hb, hc⟩ := hc (by omega)
  have hat := hc i hi
  rw [List.getElem?_eq_getElem hi] at hnd
  injection hnd with hnd
  rw [hnd] at hat
  obtain ⟨k0, k1, k2, k3, k4⟩ := hat
  simp only at k0 k1 k2 k3 k4
  have hst : str [] = .string ⟨#[]⟩ := rfl
  rw [hst] at k4
  have HT : Hid (nodeT fmtI (.un 15 n x) = [99, 111, 115] ++ (40 :: (nodeT fmtI x ++ [41]))) := Lib.hid rfl
  rw [hj] at k1
  rw [show ((15 : Nat) : Int) = 15 from rfl] at k0
  generalize nodeT fmtI x = s at *
  have hadd1 : ∀ W : World, (binOp .add 9 (.string ⟨#[99, 111, 115, 40]⟩) (str s)).run Tryz.prog W = .ok (str (99 :: 111 :: 115 :: 40 :: s)) W := fun W => run_add_str [99, 111, 115, 40] s (by simp; omega) W
  clear hx _hg hc hnd ha hax hst hj
  go_enter Tryz.func77, Tryz.ntmps77
  go_wp2_with fail
  have hb0 := ((Blk.new w 42 #[.int .i64 15, .int .i64 ((i : Int) - 1), .int .i64 0, .int .i64 n, .string ⟨#[]⟩]).alloc (.cells #[.string ⟨#[32, 43, 32]⟩, .string ⟨#[32, 45, 32]⟩, .string ⟨#[32, 42, 32]⟩, .string ⟨#[32, 47, 32]⟩] 9)).alloc (.cells #[.string ⟨#[115, 113, 114, 116]⟩, .string ⟨#[101, 120, 112]⟩, .string ⟨#[108, 110]⟩, .string ⟨#[115, 105, 110]⟩, .string ⟨#[99, 111, 115]⟩, .string ⟨#[97, 116, 97, 110]⟩] 9)
  have hb1 := Blk.new ((w.alloc (.cells #[.int .i64 15, .int .i64 ((i : Int) - 1), .int .i64 0, .int .i64 n, .string ⟨#[]⟩] 42)).alloc (.cells #[.string ⟨#[32, 43, 32]⟩, .string ⟨#[32, 45, 32]⟩, .string ⟨#[32, 42, 32]⟩, .string ⟨#[32, 47, 32]⟩] 9)) 9 #[.string ⟨#[115, 113, 114, 116]⟩, .string ⟨#[101, 120, 112]⟩, .string ⟨#[108, 110]⟩, .string ⟨#[115, 105, 110]⟩, .string ⟨#[99, 111, 115]⟩, .string ⟨#[97, 116, 97, 110]⟩]
  have hsz : ((w.alloc (.cells #[.int .i64 15, .int .i64 ((i : Int) - 1), .int .i64 0, .int .i64 n, .string ⟨#[]⟩] 42)).alloc (.cells #[.string ⟨#[32, 43, 32]⟩, .string ⟨#[32, 45, 32]⟩, .string ⟨#[32, 42, 32]⟩, .string ⟨#[32, 47, 32]⟩] 9)).heap.size = w.heap.size + 1 + 1 := by simp
  rw [hsz] at hb1
  have HX3 := Lib.hid ((((Ext.refl w).alloc (.cells #[.int .i64 15, .int .i64 ((i : Int) - 1), .int .i64 0, .int .i64 n, .string ⟨#[]⟩] 42)).alloc (.cells #[.string ⟨#[32, 43, 32]⟩, .string ⟨#[32, 45, 32]⟩, .string ⟨#[32, 42, 32]⟩, .string ⟨#[32, 47, 32]⟩] 9)).alloc (.cells #[.string ⟨#[115, 113, 114, 116]⟩, .string ⟨#[101, 120, 112]⟩, .string ⟨#[108, 110]⟩, .string ⟨#[115, 105, 110]⟩, .string ⟨#[99, 111, 115]⟩, .string ⟨#[97, 116, 97, 110]⟩] 9))
  generalize ((w.alloc (.cells #[.int .i64 15, .int .i64 ((i : Int) - 1), .int .i64 0, .int .i64 n, .string ⟨#[]⟩] 42)).alloc (.cells #[.string ⟨#[32, 43, 32]⟩, .string ⟨#[32, 45, 32]⟩, .string ⟨#[32, 42, 32]⟩, .string ⟨#[32, 47, 32]⟩] 9)).alloc (.cells #[.string ⟨#[115, 113, 114, 116]⟩, .string ⟨#[101, 120, 112]⟩, .string ⟨#[108, 110]⟩, .string ⟨#[115, 105, 110]⟩, .string ⟨#[99, 111, 115]⟩, .string ⟨#[97, 116, 97, 110]⟩] 9) = w3 at *
  have hc0 : w3.cell? ⟨w.heap.size, 0, none⟩ = some (.int .i64 15) := hb0.cell 0
  have hc1 : w3.cell? ⟨w.heap.size, 1, none⟩ = some (.int .i64 ((i : Int) - 1)) := hb0.cell 1
  have hc2 : w3.cell? ⟨w.heap.size + 1 + 1, 4, none⟩ = some (.string ⟨#[99, 111, 115]⟩) := hb1.cell 4
  have hadd2 : ∀ W : World, (binOp .add 9 (str (99 :: 111 :: 115 :: 40 :: s)) (.string ⟨#[41]⟩)).run Tryz.prog W = .ok (str (99 :: 111 :: 115 :: 40 :: (s ++ [41]))) W := fun W => run_add_str (99 :: 111 :: 115 :: 40 :: s) [41] (by simp; omega) W
  have happ : (⟨#[99, 111, 115]⟩ : ByteArray) ++ (⟨#[40]⟩ : ByteArray) = ⟨#[99, 111, 115, 40]⟩ := by first | rfl | (apply ByteArray.ext; simp) | decide +kernel
  have hi0 : IntKind.i64.wrap ((15 : Int) - 11) = 4 := by kernel_rfl
  have hi1 : IntKind.i64.wrap (4 : Int) = 4 := by kernel_rfl
  clear hb0 hb1 hsz k0 k1 k2 k3 k4
  go_region_held3 (fun w' => Ext w3 w' ∧ w'.cell? ⟨w.heap.size, 0, none⟩ = some (.int .i64 15) ∧ w'.cell? ⟨w.heap.size, 1, none⟩ = some (.int .i64 ((i : Int) - 1)) ∧ w'.cell? ⟨w.heap.size + 1 + 1, 4, none⟩ = some (.string ⟨#[99, 111, 115]⟩))
    (first | (exact kept3_drew ⟨hc0, hc1, hc2⟩) | (exact kept3 (by assumption) (by assumption)))
    (first
      | (go_at_call 77; refine (HX.out _ ?_).mono ?_; (exact HR.out.ext (HX3.out.trans (And.left (by assumption)))); rintro r w5 ⟨rfl, hx5⟩))
  all_goals
    go_wp2_with fail
    go_ret
    exact ⟨by rw [HT.out]; rfl, HX3.out.trans (And.left (by assumption))⟩
set_option maxRecDepth 100000 in
theorem node_atan (l : List Nd) (n : Int) (x : Ex) (hx : NodeC l x) (_hg : (Ex.un 16 n x).Good) (hs : (nodeT fmtI x).length ≤ 999990) (hl : l.length ≤ 1000000) : NodeC l (.un 16 n x) := by
  intro w v i I hr ha hI
  subst hI
  obtain ⟨h1, hnd, hax⟩ := ha.un
  have hi := ha.lt.1
  have hj : ((i - 1 : Nat) : Int) = (i : Int) - 1 := by omega
  have HX := Lib.hid (fun W h => hx W v (i - 1) ((i : Int) - 1) h hax hj.symm)
  have HR := Lib.hid hr
  obtain ⟨A, c, rfl, hc⟩ := hr
  obtain ⟨b, o, rfl, hb, hc⟩ := hc (by omega)
  have hat := hc i hi
  rw [List.getElem?_eq_getElem hi] at hnd
  injection hnd with hnd
  rw [hnd] at hat
  obtain ⟨k0, k1, k2, k3, k4⟩ := hat
  simp only at k0 k1 k2 k3 k4
  have hst : str [] = .string ⟨#[]⟩ := rfl
  rw [hst] at k4
  have HT : Hid (nodeT fmtI (.un 16 n x) = [97, 116, 97, 110] ++ (40 :: (nodeT fmtI x ++ [41]))) := Lib.hid rfl
  rw [hj] at k1
  rw [show ((16 : Nat) : Int) = 16 from rfl] at k0
  generalize nodeT fmtI x = s at *
  have hadd1 : ∀ W : World, (binOp .add 9 (.string ⟨#[97, 116, 97, 110, 40]⟩) (str s)).run Tryz.prog W = .ok (str (97 :: 116 :: 97 :: 110 :: 40 :: s)) W := fun W => run_add_str [97, 116, 97, 110, 40] s (by simp; omega) W
  clear hx _hg hc hnd ha hax hst hj
  go_enter Tryz.func77, Tryz.ntmps77
  go_wp2_with fail
  have hb0 := ((Blk.new w 42 #[.int .i64 16, .int .i64 ((i : Int) - 1), .int .i64 0, .int .i64 n, .string ⟨#[]⟩]).alloc (.cells #[.string ⟨#[32, 43, 32]⟩, .string ⟨#[32, 45, 32]⟩, .string ⟨#[32, 42, 32]⟩, .string ⟨#[32, 47, 32]⟩] 9)).alloc (.cells #[.string ⟨#[115, 113, 114, 116]⟩, .string ⟨#[101, 120, 112]⟩, .string ⟨#[108, 110]⟩, .string ⟨#[115, 105, 110]⟩, .string ⟨#[99, 111, 115]⟩, .string ⟨#[97, 116, 97, 110]⟩] 9)
  have hb1 := Blk.new ((w.alloc (.cells #[.int .i64 16, .int .i64 ((i : Int) - 1), .int .i64 0, .int .i64 n, .string ⟨#[]⟩] 42)).alloc (.cells #[.string ⟨#[32, 43, 32]⟩, .string ⟨#[32, 45, 32]⟩, .string ⟨#[32, 42, 32]⟩, .string ⟨#[32, 47, 32]⟩] 9)) 9 #[.string ⟨#[115, 113, 114, 116]⟩, .string ⟨#[101, 120, 112]⟩, .string ⟨#[108, 110]⟩, .string ⟨#[115, 105, 110]⟩, .string ⟨#[99, 111, 115]⟩, .string ⟨#[97, 116, 97, 110]⟩]
  have hsz : ((w.alloc (.cells #[.int .i64 16, .int .i64 ((i : Int) - 1), .int .i64 0, .int .i64 n, .string ⟨#[]⟩] 42)).alloc (.cells #[.string ⟨#[32, 43, 32]⟩, .string ⟨#[32, 45, 32]⟩, .string ⟨#[32, 42, 32]⟩, .string ⟨#[32, 47, 32]⟩] 9)).heap.size = w.heap.size + 1 + 1 := by simp
  rw [hsz] at hb1
  have HX3 := Lib.hid ((((Ext.refl w).alloc (.cells #[.int .i64 16, .int .i64 ((i : Int) - 1), .int .i64 0, .int .i64 n, .string ⟨#[]⟩] 42)).alloc (.cells #[.string ⟨#[32, 43, 32]⟩, .string ⟨#[32, 45, 32]⟩, .string ⟨#[32, 42, 32]⟩, .string ⟨#[32, 47, 32]⟩] 9)).alloc (.cells #[.string ⟨#[115, 113, 114, 116]⟩, .string ⟨#[101, 120, 112]⟩, .string ⟨#[108, 110]⟩, .string ⟨#[115, 105, 110]⟩, .string ⟨#[99, 111, 115]⟩, .string ⟨#[97, 116, 97, 110]⟩] 9))
  generalize ((w.alloc (.cells #[.int .i64 16, .int .i64 ((i : Int) - 1), .int .i64 0, .int .i64 n, .string ⟨#[]⟩] 42)).alloc (.cells #[.string ⟨#[32, 43, 32]⟩, .string ⟨#[32, 45, 32]⟩, .string ⟨#[32, 42, 32]⟩, .string ⟨#[32, 47, 32]⟩] 9)).alloc (.cells #[.string ⟨#[115, 113, 114, 116]⟩, .string ⟨#[101, 120, 112]⟩, .string ⟨#[108, 110]⟩, .string ⟨#[115, 105, 110]⟩, .string ⟨#[99, 111, 115]⟩, .string ⟨#[97, 116, 97, 110]⟩] 9) = w3 at *
  have hc0 : w3.cell? ⟨w.heap.size, 0, none⟩ = some (.int .i64 16) := hb0.cell 0
  have hc1 : w3.cell? ⟨w.heap.size, 1, none⟩ = some (.int .i64 ((i : Int) - 1)) := hb0.cell 1
  have hc2 : w3.cell? ⟨w.heap.size + 1 + 1, 5, none⟩ = some (.string ⟨#[97, 116, 97, 110]⟩) := hb1.cell 5
  have hadd2 : ∀ W : World, (binOp .add 9 (str (97 :: 116 :: 97 :: 110 :: 40 :: s)) (.string ⟨#[41]⟩)).run Tryz.prog W = .ok (str (97 :: 116 :: 97 :: 110 :: 40 :: (s ++ [41]))) W := fun W => run_add_str (97 :: 116 :: 97 :: 110 :: 40 :: s) [41] (by simp; omega) W
  have happ : (⟨#[97, 116, 97, 110]⟩ : ByteArray) ++ (⟨#[40]⟩ : ByteArray) = ⟨#[97, 116, 97, 110, 40]⟩ := by first | rfl | (apply ByteArray.ext; simp) | decide +kernel
  have hi0 : IntKind.i64.wrap ((16 : Int) - 11) = 5 := by kernel_rfl
  have hi1 : IntKind.i64.wrap (5 : Int) = 5 := by kernel_rfl
  clear hb0 hb1 hsz k0 k1 k2 k3 k4
  go_region_held3 (fun w' => Ext w3 w' ∧ w'.cell? ⟨w.heap.size, 0, none⟩ = some (.int .i64 16) ∧ w'.cell? ⟨w.heap.size, 1, none⟩ = some (.int .i64 ((i : Int) - 1)) ∧ w'.cell? ⟨w.heap.size + 1 + 1, 5, none⟩ = some (.string ⟨#[97, 116, 97, 110]⟩))
    (first | (exact kept3_drew ⟨hc0, hc1, hc2⟩) | (exact kept3 (by assumption) (by assumption)))
    (first
      | (go_at_call 77; refine (HX.out _ ?_).mono ?_; (exact HR.out.ext (HX3.out.trans (And.left (by assumption)))); rintro r w5 ⟨rfl, hx5⟩))
  all_goals
    go_wp2_with fail
    go_ret
    exact ⟨by rw [HT.out]; rfl, HX3.out.trans (And.left (by assumption))⟩
end Big
end Go.Proofs.YtgopljllknbelaaGreatDoor
/- ref20.node: powers. First: ref05.Of at any small integer. -/
namespace Go.Proofs.YtgopljllknbelaaGreatDoor
namespace Big
open Go.RowKit
theorem r5of_any (w : World) (z : Int) (h1 : -1000000 ≤ z) (h2 : z ≤ 1000000) :
    Calls Tryz.prog 112 #[.int .i64 z] w fun e w' => ∃ v', e = .returned v' ∧ ArrInt w' v' z ∧ Ext w w' := by
  rcases Int.lt_or_le z 0 with h | h
  · obtain ⟨n, rfl⟩ : ∃ n : Nat, z = -(n : Int) := ⟨(-z).toNat, by omega⟩
    exact r5of_neg w n (by omega) (by omega)
  · obtain ⟨n, rfl⟩ := Int.eq_ofNat_of_zero_le h
    exact r5of_pos w n (by omega)
set_option maxRecDepth 100000 in
theorem node_pow (l : List Nd) (n : Int) (x : Ex) (hx : NodeC l x) (hg : (Ex.un 10 n x).Good) (hs : (nodeT fmtI x).length ≤ 999990) (hl : l.length ≤ 1000000) : NodeC l (.un 10 n x) := by
  intro w v i I hr ha hI
  subst hI
  obtain ⟨h1, hnd, hax⟩ := ha.un
  have hi := ha.lt.1
  have hj : ((i - 1 : Nat) : Int) = (i : Int) - 1 := by omega
  have HX := Lib.hid (fun W h => operand_any l x hx hg.2.2.2.2 (by omega) hl W v (i - 1) ((i - 1 : Nat) : Int) 5 h hax rfl)
  rw [hj, show ((5 : Nat) : Int) = 5 from rfl] at HX
  have hn1 : -64 ≤ n := hg.2.2.1
  have hn2 : n ≤ 64 := hg.2.2.2.1
  have HR := Lib.hid hr
  obtain ⟨A, c, rfl, hc⟩ := hr
  obtain ⟨b, o, rfl, hb, hc⟩ := hc (by omega)
  have hat := hc i hi
  rw [List.getElem?_eq_getElem hi] at hnd
  injection hnd with hnd
  rw [hnd] at hat
  obtain ⟨k0, k1, k2, k3, k4⟩ := hat
  simp only at k0 k1 k2 k3 k4
  have hst : str [] = .string ⟨#[]⟩ := rfl
  rw [hst] at k4
  have HT : Hid (nodeT fmtI (.un 10 n x) = parenT (decide (levelK x.kind < 5)) (nodeT fmtI x) ++ (94 :: fmtI n)) := Lib.hid rfl
  have hpl := parenT_len (decide (levelK x.kind < 5)) (nodeT fmtI x)
  have hlim : (limbs n.natAbs).length ≤ 67108864 := by have := limbs_small (n := n.natAbs) (by omega); omega
  have hfl : (fmtI n).length ≤ 1073741824 := by have := dec_len n.natAbs hlim; unfold fmtI; split <;> simp <;> omega
  have HOF := Lib.hid (fun W => r5of_any W n (by omega) (by omega))
  have HFM := Lib.hid (fun W v h => rformat_any W v n h hlim)
  rw [hj] at k1
  rw [show ((10 : Nat) : Int) = 10 from rfl] at k0
  generalize parenT (decide (levelK x.kind < 5)) (nodeT fmtI x) = s at *
  generalize fmtI n = f at *
  have hadd1 : ∀ W : World, (binOp .add 9 (str s) (.string ⟨#[94]⟩)).run Tryz.prog W = .ok (str (s ++ [94])) W := fun W => run_add_str s [94] (by simp; omega) W
  have hadd2 : ∀ W : World, (binOp .add 9 (str (s ++ [94])) (str f)).run Tryz.prog W = .ok (str ((s ++ [94]) ++ f)) W := fun W => run_add_str (s ++ [94]) f (by simp; omega) W
  clear hx hg hc hnd ha hax hst hj
  go_enter Tryz.func77, Tryz.ntmps77
  go_wp2_with fail
  have hb0 := ((Blk.new w 42 #[.int .i64 10, .int .i64 ((i : Int) - 1), .int .i64 0, .int .i64 n, .string ⟨#[]⟩]).alloc (.cells #[.string ⟨#[32, 43, 32]⟩, .string ⟨#[32, 45, 32]⟩, .string ⟨#[32, 42, 32]⟩, .string ⟨#[32, 47, 32]⟩] 9)).alloc (.cells #[.string ⟨#[115, 113, 114, 116]⟩, .string ⟨#[101, 120, 112]⟩, .string ⟨#[108, 110]⟩, .string ⟨#[115, 105, 110]⟩, .string ⟨#[99, 111, 115]⟩, .string ⟨#[97, 116, 97, 110]⟩] 9)
  have hb1 := Blk.new ((w.alloc (.cells #[.int .i64 10, .int .i64 ((i : Int) - 1), .int .i64 0, .int .i64 n, .string ⟨#[]⟩] 42)).alloc (.cells #[.string ⟨#[32, 43, 32]⟩, .string ⟨#[32, 45, 32]⟩, .string ⟨#[32, 42, 32]⟩, .string ⟨#[32, 47, 32]⟩] 9)) 9 #[.string ⟨#[115, 113, 114, 116]⟩, .string ⟨#[101, 120, 112]⟩, .string ⟨#[108, 110]⟩, .string ⟨#[115, 105, 110]⟩, .string ⟨#[99, 111, 115]⟩, .string ⟨#[97, 116, 97, 110]⟩]
  have hsz : ((w.alloc (.cells #[.int .i64 10, .int .i64 ((i : Int) - 1), .int .i64 0, .int .i64 n, .string ⟨#[]⟩] 42)).alloc (.cells #[.string ⟨#[32, 43, 32]⟩, .string ⟨#[32, 45, 32]⟩, .string ⟨#[32, 42, 32]⟩, .string ⟨#[32, 47, 32]⟩] 9)).heap.size = w.heap.size + 1 + 1 := by simp
  rw [hsz] at hb1
  have HX3 := Lib.hid ((((Ext.refl w).alloc (.cells #[.int .i64 10, .int .i64 ((i : Int) - 1), .int .i64 0, .int .i64 n, .string ⟨#[]⟩] 42)).alloc (.cells #[.string ⟨#[32, 43, 32]⟩, .string ⟨#[32, 45, 32]⟩, .string ⟨#[32, 42, 32]⟩, .string ⟨#[32, 47, 32]⟩] 9)).alloc (.cells #[.string ⟨#[115, 113, 114, 116]⟩, .string ⟨#[101, 120, 112]⟩, .string ⟨#[108, 110]⟩, .string ⟨#[115, 105, 110]⟩, .string ⟨#[99, 111, 115]⟩, .string ⟨#[97, 116, 97, 110]⟩] 9))
  generalize ((w.alloc (.cells #[.int .i64 10, .int .i64 ((i : Int) - 1), .int .i64 0, .int .i64 n, .string ⟨#[]⟩] 42)).alloc (.cells #[.string ⟨#[32, 43, 32]⟩, .string ⟨#[32, 45, 32]⟩, .string ⟨#[32, 42, 32]⟩, .string ⟨#[32, 47, 32]⟩] 9)).alloc (.cells #[.string ⟨#[115, 113, 114, 116]⟩, .string ⟨#[101, 120, 112]⟩, .string ⟨#[108, 110]⟩, .string ⟨#[115, 105, 110]⟩, .string ⟨#[99, 111, 115]⟩, .string ⟨#[97, 116, 97, 110]⟩] 9) = w3 at *
  have hc0 : w3.cell? ⟨w.heap.size, 0, none⟩ = some (.int .i64 10) := hb0.cell 0
  have hc1 : w3.cell? ⟨w.heap.size, 1, none⟩ = some (.int .i64 ((i : Int) - 1)) := hb0.cell 1
  have hc2 : w3.cell? ⟨w.heap.size, 3, none⟩ = some (.int .i64 n) := hb0.cell 3
  clear hb0 hb1 hsz k0 k1 k2 k3 k4
  go_region_held3 (fun w' => Ext w3 w' ∧ w'.cell? ⟨w.heap.size, 0, none⟩ = some (.int .i64 10) ∧ w'.cell? ⟨w.heap.size, 1, none⟩ = some (.int .i64 ((i : Int) - 1)) ∧ w'.cell? ⟨w.heap.size, 3, none⟩ = some (.int .i64 n))
    (first | (exact kept3_drew ⟨hc0, hc1, hc2⟩) | (exact kept3 (by assumption) (by assumption)))
    (first
      | (go_at_call 110; refine (HX.out _ ?_).mono ?_; (exact HR.out.ext (HX3.out.trans (And.left (by assumption)))); rintro r w5 ⟨rfl, hx5⟩; (try have HI := Lib.hid (HI.out.ext hx5)))
      | (go_at_call 112; refine (HOF.out _).mono ?_; rintro r w6 ⟨v6, rfl, hi6, hx6⟩; have HI := Lib.hid hi6; obtain ⟨bb, n6, A6, c6, rfl⟩ := hi6.shape; clear hi6)
      | (go_at_call 111; refine (HFM.out _ _ HI.out).mono ?_; rintro r w7 ⟨rfl, hx7⟩))
  all_goals
    go_wp2_with fail
    go_ret
    exact ⟨by rw [HT.out]; simp, HX3.out.trans (And.left (by assumption))⟩
end Big
end Go.Proofs.YtgopljllknbelaaGreatDoor
