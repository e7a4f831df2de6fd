import Derived.Test.YtgopljllknbelaaGreatDoorM25
import Derived.Test.YtgopljllknbelaaGreatDoorShelf2
import Derived.Test.YtgopljllknbelaaGreatDoorM18
import Derived.Test.YtgopljllknbelaaGreatDoorM5
import Derived.Test.YtgopljllknbelaaGreatDoorM3
/- The program's writer: node at leaves, functions, the sign, powers. Printed by a program. -/
namespace Go.Proofs.YtgopljllknbelaaGreatDoor
namespace Big
open Go.RowKit
set_option maxHeartbeats 1000000 in
set_option maxRecDepth 100000 in
theorem pnode_1 (l : List Nd) (t : List UInt8) (hl : l.length ≤ 1000000) (_ht : t.length ≤ 1000000) : NodeW l (.leaf 1 t) := by
  intro g w nv bs av bv i I hp ha hI hln
  subst hI
  have hnd := ha.leaf
  have hi := ha.lt.1
  have HP := Lib.hid hp
  obtain ⟨c0, _, _, _, _, _, hg⟩ := hp.blk.three'
  have hgne : w.heap.size ≠ g := by omega
  obtain ⟨A, c, rfl, hc⟩ := hp.nodes
  obtain ⟨b, o, rfl, _, hb, hc⟩ := hc (by omega)
  have hat := hc i hi
  rw [List.getElem?_eq_getElem hi] at hnd
  injection hnd with hnd
  rw [hnd] at hat
  obtain ⟨k0, k1, k2, k3, k4⟩ := hat
  simp only at k0 k1 k2 k3 k4
  rw [show ((1 : Nat) : Int) = 1 from rfl] at k0
  have hT : nodeT fmtI (.leaf 1 t) = t := rfl
  rw [hT] at hln ⊢
  have HW := Lib.hid (fun W bs' av' bv' h hl' => wstr_any g W (.slice (some ⟨b, o, none⟩) l.length c) l bs' t av' bv' h hl')
  have hst : str t = .string ⟨t.toArray⟩ := rfl
  rw [hst] at k4 HW
  generalize (⟨t.toArray⟩ : ByteArray) = tb at *
  have HLN := Lib.hid hln
  clear hp ha hc hnd hst hT hln
  have hi0 : (0 : Int) ≤ (i : Int) := by omega
  have hil : (i : Int) < (l.length : Int) := by omega
  obtain ⟨wA, hwA⟩ : ∃ wA, wA = w.alloc (.cells #[.int .i64 1, .int .i64 0, .int .i64 0, .int .i64 0, .string tb] 42) := ⟨_, rfl⟩
  have HXA : Hid (Ext w wA) := Lib.hid (by rw [hwA]; exact (Ext.refl w).alloc _)
  have hbA : Blk wA w.heap.size 42 #[.int .i64 1, .int .i64 0, .int .i64 0, .int .i64 0, .string tb] := by rw [hwA]; exact Blk.new w _ _
  have HBA := Lib.hid hbA
  have HPA := Lib.hid (HP.out.keep HXA.out)
  obtain ⟨q0, q1, q2, q3, q4⟩ := hbA.five
  clear hbA
  go_enter Tryz.func36, Tryz.ntmps36
  go_upto_region 2 with fail
  rw [← hwA]
  clear hwA k0 k1 k2 k3 k4 c0
  generalize hq : w.heap.size = q at *
  go_wp2_with fail
  refine (HW.out _ _ _ _ HPA.out (by have := HLN.out; omega)).mono ?_
  rintro r w1 ⟨rfl, av1, bv1, hp1, hkw1⟩
  have HP1 := Lib.hid hp1
  have HK1 := Lib.hid (hkw1)
  have HB1 := Lib.hid (HK1.out.blk HBA.out hgne (by decide))
  obtain ⟨q0, q1, q2, q3, q4⟩ := HB1.out.five
  clear hp1 hkw1
  have HE := Lib.hid (Wrote.mk (HP1.out.as (by first | rfl | (simp only [List.append_assoc]; done) | (simp only [List.append_assoc]; rfl))) ((KW.of_ext HXA.out).trans HK1.out) (show t = t from rfl))
  go_wp2_with fail
  go_end0
  exact ⟨rfl, HE.out⟩
set_option maxHeartbeats 1000000 in
set_option maxRecDepth 100000 in
theorem pnode_2 (l : List Nd) (t : List UInt8) (hl : l.length ≤ 1000000) (_ht : t.length ≤ 1000000) : NodeW l (.leaf 2 t) := by
  intro g w nv bs av bv i I hp ha hI hln
  subst hI
  have hnd := ha.leaf
  have hi := ha.lt.1
  have HP := Lib.hid hp
  obtain ⟨c0, _, _, _, _, _, hg⟩ := hp.blk.three'
  have hgne : w.heap.size ≠ g := by omega
  obtain ⟨A, c, rfl, hc⟩ := hp.nodes
  obtain ⟨b, o, rfl, _, hb, hc⟩ := hc (by omega)
  have hat := hc i hi
  rw [List.getElem?_eq_getElem hi] at hnd
  injection hnd with hnd
  rw [hnd] at hat
  obtain ⟨k0, k1, k2, k3, k4⟩ := hat
  simp only at k0 k1 k2 k3 k4
  rw [show ((2 : Nat) : Int) = 2 from rfl] at k0
  have hT : nodeT fmtI (.leaf 2 t) = t := rfl
  rw [hT] at hln ⊢
  have HW := Lib.hid (fun W bs' av' bv' h hl' => wstr_any g W (.slice (some ⟨b, o, none⟩) l.length c) l bs' t av' bv' h hl')
  have hst : str t = .string ⟨t.toArray⟩ := rfl
  rw [hst] at k4 HW
  generalize (⟨t.toArray⟩ : ByteArray) = tb at *
  have HLN := Lib.hid hln
  clear hp ha hc hnd hst hT hln
  have hi0 : (0 : Int) ≤ (i : Int) := by omega
  have hil : (i : Int) < (l.length : Int) := by omega
  obtain ⟨wA, hwA⟩ : ∃ wA, wA = w.alloc (.cells #[.int .i64 2, .int .i64 0, .int .i64 0, .int .i64 0, .string tb] 42) := ⟨_, rfl⟩
  have HXA : Hid (Ext w wA) := Lib.hid (by rw [hwA]; exact (Ext.refl w).alloc _)
  have hbA : Blk wA w.heap.size 42 #[.int .i64 2, .int .i64 0, .int .i64 0, .int .i64 0, .string tb] := by rw [hwA]; exact Blk.new w _ _
  have HBA := Lib.hid hbA
  have HPA := Lib.hid (HP.out.keep HXA.out)
  obtain ⟨q0, q1, q2, q3, q4⟩ := hbA.five
  clear hbA
  go_enter Tryz.func36, Tryz.ntmps36
  go_upto_region 2 with fail
  rw [← hwA]
  clear hwA k0 k1 k2 k3 k4 c0
  generalize hq : w.heap.size = q at *
  go_wp2_with fail
  refine (HW.out _ _ _ _ HPA.out (by have := HLN.out; omega)).mono ?_
  rintro r w1 ⟨rfl, av1, bv1, hp1, hkw1⟩
  have HP1 := Lib.hid hp1
  have HK1 := Lib.hid (hkw1)
  have HB1 := Lib.hid (HK1.out.blk HBA.out hgne (by decide))
  obtain ⟨q0, q1, q2, q3, q4⟩ := HB1.out.five
  clear hp1 hkw1
  have HE := Lib.hid (Wrote.mk (HP1.out.as (by first | rfl | (simp only [List.append_assoc]; done) | (simp only [List.append_assoc]; rfl))) ((KW.of_ext HXA.out).trans HK1.out) (show t = t from rfl))
  go_wp2_with fail
  go_end0
  exact ⟨rfl, HE.out⟩
set_option maxHeartbeats 1000000 in
set_option maxRecDepth 100000 in
theorem pnode_3 (l : List Nd) (hl : l.length ≤ 1000000) : NodeW l (.leaf 3 []) := by
  intro g w nv bs av bv i I hp ha hI hln
  subst hI
  have hnd := ha.leaf
  have hi := ha.lt.1
  have HP := Lib.hid hp
  have WC : Hid (∀ (W : World) (bs : List UInt8) (av bv : Value), PrAt g W nv l bs av bv → bs.length ≤ 2000000 → Calls Tryz.prog 56 #[.pointer (some ⟨g, 1, none⟩), .string ⟨#[112, 105]⟩] W fun e w' => e = .returned (.tuple #[.int .i64 2, .nilIface]) ∧ Wrote g nv l bs [112, 105] W w') := Lib.hid (fun W bs av bv h hl => wstr_any g W nv l bs [112, 105] av bv h (by simp; omega))
  obtain ⟨c0, _, _, _, _, _, hg⟩ := hp.blk.three'
  have hgne : w.heap.size ≠ g := by omega
  obtain ⟨A, c, rfl, hc⟩ := hp.nodes
  obtain ⟨b, o, rfl, _, hb, hc⟩ := hc (by omega)
  have hat := hc i hi
  rw [List.getElem?_eq_getElem hi] at hnd
  injection hnd with hnd
  rw [hnd] at hat
  obtain ⟨k0, k1, k2, k3, k4⟩ := hat
  simp only at k0 k1 k2 k3 k4
  rw [show ((3 : Nat) : Int) = 3 from rfl] at k0
  have hst : str [] = .string ⟨#[]⟩ := rfl
  rw [hst] at k4
  have hT : nodeT fmtI (.leaf 3 []) = [112, 105] := rfl
  rw [hT] at hln ⊢
  have HLN := Lib.hid hln
  clear hp ha hc hnd hst hT hln
  have hi0 : (0 : Int) ≤ (i : Int) := by omega
  have hil : (i : Int) < (l.length : Int) := by omega
  obtain ⟨wA, hwA⟩ : ∃ wA, wA = w.alloc (.cells #[.int .i64 3, .int .i64 0, .int .i64 0, .int .i64 0, .string ⟨#[]⟩] 42) := ⟨_, rfl⟩
  have HXA : Hid (Ext w wA) := Lib.hid (by rw [hwA]; exact (Ext.refl w).alloc _)
  have hbA : Blk wA w.heap.size 42 #[.int .i64 3, .int .i64 0, .int .i64 0, .int .i64 0, .string ⟨#[]⟩] := by rw [hwA]; exact Blk.new w _ _
  have HBA := Lib.hid hbA
  have HPA := Lib.hid (HP.out.keep HXA.out)
  obtain ⟨q0, q1, q2, q3, q4⟩ := hbA.five
  clear hbA
  go_enter Tryz.func36, Tryz.ntmps36
  go_upto_region 2 with fail
  rw [← hwA]
  clear hwA k0 k1 k2 k3 k4 c0
  generalize hq : w.heap.size = q at *
  go_wp2_with fail
  refine (word_3 _).mono ?_
  rintro r w9 ⟨rfl, rfl⟩
  go_wp2_with fail
  refine (WC.out _ _ _ _ HPA.out (by have := HLN.out; simp at this; omega)).mono ?_
  rintro r w1 ⟨rfl, av1, bv1, hp1, hkw1⟩
  have HP1 := Lib.hid hp1
  have HK1 := Lib.hid (hkw1)
  have HB1 := Lib.hid (HK1.out.blk HBA.out hgne (by decide))
  obtain ⟨q0, q1, q2, q3, q4⟩ := HB1.out.five
  clear hp1 hkw1
  have HE := Lib.hid (Wrote.mk (HP1.out.as (by first | rfl | (simp only [List.append_assoc]; done) | (simp only [List.append_assoc]; rfl))) ((KW.of_ext HXA.out).trans HK1.out) (show [112, 105] = [112, 105] from rfl))
  go_wp2_with fail
  go_end0
  exact ⟨rfl, HE.out⟩
set_option maxHeartbeats 1000000 in
set_option maxRecDepth 100000 in
theorem pnode_4 (l : List Nd) (hl : l.length ≤ 1000000) : NodeW l (.leaf 4 []) := by
  intro g w nv bs av bv i I hp ha hI hln
  subst hI
  have hnd := ha.leaf
  have hi := ha.lt.1
  have HP := Lib.hid hp
  have WC : Hid (∀ (W : World) (bs : List UInt8) (av bv : Value), PrAt g W nv l bs av bv → bs.length ≤ 2000000 → Calls Tryz.prog 56 #[.pointer (some ⟨g, 1, none⟩), .string ⟨#[101]⟩] W fun e w' => e = .returned (.tuple #[.int .i64 1, .nilIface]) ∧ Wrote g nv l bs [101] W w') := Lib.hid (fun W bs av bv h hl => wstr_any g W nv l bs [101] av bv h (by simp; omega))
  obtain ⟨c0, _, _, _, _, _, hg⟩ := hp.blk.three'
  have hgne : w.heap.size ≠ g := by omega
  obtain ⟨A, c, rfl, hc⟩ := hp.nodes
  obtain ⟨b, o, rfl, _, hb, hc⟩ := hc (by omega)
  have hat := hc i hi
  rw [List.getElem?_eq_getElem hi] at hnd
  injection hnd with hnd
  rw [hnd] at hat
  obtain ⟨k0, k1, k2, k3, k4⟩ := hat
  simp only at k0 k1 k2 k3 k4
  rw [show ((4 : Nat) : Int) = 4 from rfl] at k0
  have hst : str [] = .string ⟨#[]⟩ := rfl
  rw [hst] at k4
  have hT : nodeT fmtI (.leaf 4 []) = [101] := rfl
  rw [hT] at hln ⊢
  have HLN := Lib.hid hln
  clear hp ha hc hnd hst hT hln
  have hi0 : (0 : Int) ≤ (i : Int) := by omega
  have hil : (i : Int) < (l.length : Int) := by omega
  obtain ⟨wA, hwA⟩ : ∃ wA, wA = w.alloc (.cells #[.int .i64 4, .int .i64 0, .int .i64 0, .int .i64 0, .string ⟨#[]⟩] 42) := ⟨_, rfl⟩
  have HXA : Hid (Ext w wA) := Lib.hid (by rw [hwA]; exact (Ext.refl w).alloc _)
  have hbA : Blk wA w.heap.size 42 #[.int .i64 4, .int .i64 0, .int .i64 0, .int .i64 0, .string ⟨#[]⟩] := by rw [hwA]; exact Blk.new w _ _
  have HBA := Lib.hid hbA
  have HPA := Lib.hid (HP.out.keep HXA.out)
  obtain ⟨q0, q1, q2, q3, q4⟩ := hbA.five
  clear hbA
  go_enter Tryz.func36, Tryz.ntmps36
  go_upto_region 2 with fail
  rw [← hwA]
  clear hwA k0 k1 k2 k3 k4 c0
  generalize hq : w.heap.size = q at *
  go_wp2_with fail
  refine (word_4 _).mono ?_
  rintro r w9 ⟨rfl, rfl⟩
  go_wp2_with fail
  refine (WC.out _ _ _ _ HPA.out (by have := HLN.out; simp at this; omega)).mono ?_
  rintro r w1 ⟨rfl, av1, bv1, hp1, hkw1⟩
  have HP1 := Lib.hid hp1
  have HK1 := Lib.hid (hkw1)
  have HB1 := Lib.hid (HK1.out.blk HBA.out hgne (by decide))
  obtain ⟨q0, q1, q2, q3, q4⟩ := HB1.out.five
  clear hp1 hkw1
  have HE := Lib.hid (Wrote.mk (HP1.out.as (by first | rfl | (simp only [List.append_assoc]; done) | (simp only [List.append_assoc]; rfl))) ((KW.of_ext HXA.out).trans HK1.out) (show [101] = [101] from rfl))
  go_wp2_with fail
  go_end0
  exact ⟨rfl, HE.out⟩
set_option maxHeartbeats 1000000 in
set_option maxRecDepth 100000 in
theorem pnode_11 (l : List Nd) (n : Int) (x : Ex) (hx : NodeW l x) (hl : l.length ≤ 1000000) : NodeW l (.un 11 n x) := by
  intro g w nv bs av bv i I hp ha hI hln
  subst hI
  obtain ⟨h1, hnd, hax⟩ := ha.un
  have hi := ha.lt.1
  have hj : ((i - 1 : Nat) : Int) = (i : Int) - 1 := by omega
  have HP := Lib.hid hp
  have HX := Lib.hid (fun W bs' av' bv' h hl' => hx g W nv bs' av' bv' (i - 1) ((i : Int) - 1) h hax hj.symm hl')
  have WC : Hid (∀ (W : World) (bs : List UInt8) (av bv : Value), PrAt g W nv l bs av bv → bs.length ≤ 2000000 → Calls Tryz.prog 56 #[.pointer (some ⟨g, 1, none⟩), .string ⟨#[115, 113, 114, 116, 40]⟩] W fun e w' => e = .returned (.tuple #[.int .i64 5, .nilIface]) ∧ Wrote g nv l bs [115, 113, 114, 116, 40] W w') := Lib.hid (fun W bs av bv h hl => wstr_any g W nv l bs [115, 113, 114, 116, 40] av bv h (by simp; omega))
  have W41 := wc41 g nv l
  obtain ⟨c0, _, _, _, _, _, hg⟩ := hp.blk.three'
  have hgne : w.heap.size ≠ g := by omega
  obtain ⟨A, c, rfl, hc⟩ := hp.nodes
  obtain ⟨b, o, rfl, _, hb, hc⟩ := hc (by omega)
  have hat := hc i hi
  rw [List.getElem?_eq_getElem hi] at hnd
  injection hnd with hnd
  rw [hnd] at hat
  obtain ⟨k0, k1, k2, k3, k4⟩ := hat
  simp only at k0 k1 k2 k3 k4
  rw [hj] at k1
  rw [show ((11 : Nat) : Int) = 11 from rfl] at k0
  have hst : str [] = .string ⟨#[]⟩ := rfl
  rw [hst] at k4
  have hT : nodeT fmtI (.un 11 n x) = [115, 113, 114, 116] ++ (40 :: (nodeT fmtI x ++ [41])) := rfl
  rw [hT] at hln ⊢
  generalize nodeT fmtI x = s at *
  have happ : (⟨#[115, 113, 114, 116]⟩ : ByteArray) ++ (⟨#[40]⟩ : ByteArray) = ⟨#[115, 113, 114, 116, 40]⟩ := by first | rfl | (apply ByteArray.ext; simp) | decide +kernel
  have HLN : Hid (bs.length + s.length + 6 ≤ 2000000) := Lib.hid (by simp at hln; omega)
  clear hp ha hax hx hc hnd hst hT hln hj
  have hi0 : (0 : Int) ≤ (i : Int) := by omega
  have hil : (i : Int) < (l.length : Int) := by omega
  obtain ⟨wA, hwA⟩ : ∃ wA, wA = w.alloc (.cells #[.int .i64 11, .int .i64 ((i : Int) - 1), .int .i64 0, .int .i64 n, .string ⟨#[]⟩] 42) := ⟨_, rfl⟩
  have HXA : Hid (Ext w wA) := Lib.hid (by rw [hwA]; exact (Ext.refl w).alloc _)
  have hbA : Blk wA w.heap.size 42 #[.int .i64 11, .int .i64 ((i : Int) - 1), .int .i64 0, .int .i64 n, .string ⟨#[]⟩] := by rw [hwA]; exact Blk.new w _ _
  have HBA := Lib.hid hbA
  have HPA := Lib.hid (HP.out.keep HXA.out)
  obtain ⟨q0, q1, q2, q3, q4⟩ := hbA.five
  clear hbA
  go_enter Tryz.func36, Tryz.ntmps36
  go_upto_region 2 with fail
  rw [← hwA]
  clear hwA k0 k1 k2 k3 k4 c0
  generalize hq : w.heap.size = q at *
  go_wp2_with fail
  refine (word_11 _).mono ?_
  rintro r w9 ⟨rfl, rfl⟩
  go_wp2_with fail
  refine (WC.out _ _ _ _ HPA.out (by have := HLN.out; omega)).mono ?_
  rintro r w1 ⟨rfl, av1, bv1, hp1, hkw1⟩
  have HP1 := Lib.hid hp1
  have HK1 := Lib.hid (hkw1)
  have HB1 := Lib.hid (HK1.out.blk HBA.out hgne (by decide))
  obtain ⟨q0, q1, q2, q3, q4⟩ := HB1.out.five
  clear hp1 hkw1
  go_wp2_with fail
  refine (HX.out _ _ _ _ HP1.out (by have := HLN.out; simp; omega)).mono ?_
  rintro r w2 ⟨rfl, av2, bv2, hp2, hkw2⟩
  have HP2 := Lib.hid hp2
  have HK2 := Lib.hid (HK1.out.trans hkw2)
  have HB2 := Lib.hid (HK2.out.blk HBA.out hgne (by decide))
  obtain ⟨q0, q1, q2, q3, q4⟩ := HB2.out.five
  clear hp2 hkw2
  go_wp2_with fail
  refine (W41.out _ _ _ _ HP2.out (by have := HLN.out; simp; omega)).mono ?_
  rintro r w3 ⟨rfl, av3, bv3, hp3, hkw3⟩
  have HP3 := Lib.hid hp3
  have HK3 := Lib.hid (HK2.out.trans hkw3)
  have HB3 := Lib.hid (HK3.out.blk HBA.out hgne (by decide))
  obtain ⟨q0, q1, q2, q3, q4⟩ := HB3.out.five
  clear hp3 hkw3
  have HE := Lib.hid (Wrote.mk (HP3.out.as (by first | rfl | (simp only [List.append_assoc]; done) | (simp only [List.append_assoc]; rfl))) ((KW.of_ext HXA.out).trans HK3.out) (show [115, 113, 114, 116, 40] ++ (s ++ [41]) = [115, 113, 114, 116] ++ (40 :: (s ++ [41])) from rfl))
  go_wp2_with fail
  go_end0
  exact ⟨rfl, HE.out⟩
set_option maxHeartbeats 1000000 in
set_option maxRecDepth 100000 in
theorem pnode_12 (l : List Nd) (n : Int) (x : Ex) (hx : NodeW l x) (hl : l.length ≤ 1000000) : NodeW l (.un 12 n x) := by
  intro g w nv bs av bv i I hp ha hI hln
  subst hI
  obtain ⟨h1, hnd, hax⟩ := ha.un
  have hi := ha.lt.1
  have hj : ((i - 1 : Nat) : Int) = (i : Int) - 1 := by omega
  have HP := Lib.hid hp
  have HX := Lib.hid (fun W bs' av' bv' h hl' => hx g W nv bs' av' bv' (i - 1) ((i : Int) - 1) h hax hj.symm hl')
  have WC : Hid (∀ (W : World) (bs : List UInt8) (av bv : Value), PrAt g W nv l bs av bv → bs.length ≤ 2000000 → Calls Tryz.prog 56 #[.pointer (some ⟨g, 1, none⟩), .string ⟨#[101, 120, 112, 40]⟩] W fun e w' => e = .returned (.tuple #[.int .i64 4, .nilIface]) ∧ Wrote g nv l bs [101, 120, 112, 40] W w') := Lib.hid (fun W bs av bv h hl => wstr_any g W nv l bs [101, 120, 112, 40] av bv h (by simp; omega))
  have W41 := wc41 g nv l
  obtain ⟨c0, _, _, _, _, _, hg⟩ := hp.blk.three'
  have hgne : w.heap.size ≠ g := by omega
  obtain ⟨A, c, rfl, hc⟩ := hp.nodes
  obtain ⟨b, o, rfl, _, hb, hc⟩ := hc (by omega)
  have hat := hc i hi
  rw [List.getElem?_eq_getElem hi] at hnd
  injection hnd with hnd
  rw [hnd] at hat
  obtain ⟨k0, k1, k2, k3, k4⟩ := hat
  simp only at k0 k1 k2 k3 k4
  rw [hj] at k1
  rw [show ((12 : Nat) : Int) = 12 from rfl] at k0
  have hst : str [] = .string ⟨#[]⟩ := rfl
  rw [hst] at k4
  have hT : nodeT fmtI (.un 12 n x) = [101, 120, 112] ++ (40 :: (nodeT fmtI x ++ [41])) := rfl
  rw [hT] at hln ⊢
  generalize nodeT fmtI x = s at *
  have happ : (⟨#[101, 120, 112]⟩ : ByteArray) ++ (⟨#[40]⟩ : ByteArray) = ⟨#[101, 120, 112, 40]⟩ := by first | rfl | (apply ByteArray.ext; simp) | decide +kernel
  have HLN : Hid (bs.length + s.length + 5 ≤ 2000000) := Lib.hid (by simp at hln; omega)
  clear hp ha hax hx hc hnd hst hT hln hj
  have hi0 : (0 : Int) ≤ (i : Int) := by omega
  have hil : (i : Int) < (l.length : Int) := by omega
  obtain ⟨wA, hwA⟩ : ∃ wA, wA = w.alloc (.cells #[.int .i64 12, .int .i64 ((i : Int) - 1), .int .i64 0, .int .i64 n, .string ⟨#[]⟩] 42) := ⟨_, rfl⟩
  have HXA : Hid (Ext w wA) := Lib.hid (by rw [hwA]; exact (Ext.refl w).alloc _)
  have hbA : Blk wA w.heap.size 42 #[.int .i64 12, .int .i64 ((i : Int) - 1), .int .i64 0, .int .i64 n, .string ⟨#[]⟩] := by rw [hwA]; exact Blk.new w _ _
  have HBA := Lib.hid hbA
  have HPA := Lib.hid (HP.out.keep HXA.out)
  obtain ⟨q0, q1, q2, q3, q4⟩ := hbA.five
  clear hbA
  go_enter Tryz.func36, Tryz.ntmps36
  go_upto_region 2 with fail
  rw [← hwA]
  clear hwA k0 k1 k2 k3 k4 c0
  generalize hq : w.heap.size = q at *
  go_wp2_with fail
  refine (word_12 _).mono ?_
  rintro r w9 ⟨rfl, rfl⟩
  go_wp2_with fail
  refine (WC.out _ _ _ _ HPA.out (by have := HLN.out; omega)).mono ?_
  rintro r w1 ⟨rfl, av1, bv1, hp1, hkw1⟩
  have HP1 := Lib.hid hp1
  have HK1 := Lib.hid (hkw1)
  have HB1 := Lib.hid (HK1.out.blk HBA.out hgne (by decide))
  obtain ⟨q0, q1, q2, q3, q4⟩ := HB1.out.five
  clear hp1 hkw1
  go_wp2_with fail
  refine (HX.out _ _ _ _ HP1.out (by have := HLN.out; simp; omega)).mono ?_
  rintro r w2 ⟨rfl, av2, bv2, hp2, hkw2⟩
  have HP2 := Lib.hid hp2
  have HK2 := Lib.hid (HK1.out.trans hkw2)
  have HB2 := Lib.hid (HK2.out.blk HBA.out hgne (by decide))
  obtain ⟨q0, q1, q2, q3, q4⟩ := HB2.out.five
  clear hp2 hkw2
  go_wp2_with fail
  refine (W41.out _ _ _ _ HP2.out (by have := HLN.out; simp; omega)).mono ?_
  rintro r w3 ⟨rfl, av3, bv3, hp3, hkw3⟩
  have HP3 := Lib.hid hp3
  have HK3 := Lib.hid (HK2.out.trans hkw3)
  have HB3 := Lib.hid (HK3.out.blk HBA.out hgne (by decide))
  obtain ⟨q0, q1, q2, q3, q4⟩ := HB3.out.five
  clear hp3 hkw3
  have HE := Lib.hid (Wrote.mk (HP3.out.as (by first | rfl | (simp only [List.append_assoc]; done) | (simp only [List.append_assoc]; rfl))) ((KW.of_ext HXA.out).trans HK3.out) (show [101, 120, 112, 40] ++ (s ++ [41]) = [101, 120, 112] ++ (40 :: (s ++ [41])) from rfl))
  go_wp2_with fail
  go_end0
  exact ⟨rfl, HE.out⟩
set_option maxHeartbeats 1000000 in
set_option maxRecDepth 100000 in
theorem pnode_13 (l : List Nd) (n : Int) (x : Ex) (hx : NodeW l x) (hl : l.length ≤ 1000000) : NodeW l (.un 13 n x) := by
  intro g w nv bs av bv i I hp ha hI hln
  subst hI
  obtain ⟨h1, hnd, hax⟩ := ha.un
  have hi := ha.lt.1
  have hj : ((i - 1 : Nat) : Int) = (i : Int) - 1 := by omega
  have HP := Lib.hid hp
  have HX := Lib.hid (fun W bs' av' bv' h hl' => hx g W nv bs' av' bv' (i - 1) ((i : Int) - 1) h hax hj.symm hl')
  have WC : Hid (∀ (W : World) (bs : List UInt8) (av bv : Value), PrAt g W nv l bs av bv → bs.length ≤ 2000000 → Calls Tryz.prog 56 #[.pointer (some ⟨g, 1, none⟩), .string ⟨#[108, 110, 40]⟩] W fun e w' => e = .returned (.tuple #[.int .i64 3, .nilIface]) ∧ Wrote g nv l bs [108, 110, 40] W w') := Lib.hid (fun W bs av bv h hl => wstr_any g W nv l bs [108, 110, 40] av bv h (by simp; omega))
  have W41 := wc41 g nv l
  obtain ⟨c0, _, _, _, _, _, hg⟩ := hp.blk.three'
  have hgne : w.heap.size ≠ g := by omega
  obtain ⟨A, c, rfl, hc⟩ := hp.nodes
  obtain ⟨b, o, rfl, _, hb, hc⟩ := hc (by omega)
  have hat := hc i hi
  rw [List.getElem?_eq_getElem hi] at hnd
  injection hnd with hnd
  rw [hnd] at hat
  obtain ⟨k0, k1, k2, k3, k4⟩ := hat
  simp only at k0 k1 k2 k3 k4
  rw [hj] at k1
  rw [show ((13 : Nat) : Int) = 13 from rfl] at k0
  have hst : str [] = .string ⟨#[]⟩ := rfl
  rw [hst] at k4
  have hT : nodeT fmtI (.un 13 n x) = [108, 110] ++ (40 :: (nodeT fmtI x ++ [41])) := rfl
  rw [hT] at hln ⊢
  generalize nodeT fmtI x = s at *
  have happ : (⟨#[108, 110]⟩ : ByteArray) ++ (⟨#[40]⟩ : ByteArray) = ⟨#[108, 110, 40]⟩ := by first | rfl | (apply ByteArray.ext; simp) | decide +kernel
  have HLN : Hid (bs.length + s.length + 4 ≤ 2000000) := Lib.hid (by simp at hln; omega)
  clear hp ha hax hx hc hnd hst hT hln hj
  have hi0 : (0 : Int) ≤ (i : Int) := by omega
  have hil : (i : Int) < (l.length : Int) := by omega
  obtain ⟨wA, hwA⟩ : ∃ wA, wA = w.alloc (.cells #[.int .i64 13, .int .i64 ((i : Int) - 1), .int .i64 0, .int .i64 n, .string ⟨#[]⟩] 42) := ⟨_, rfl⟩
  have HXA : Hid (Ext w wA) := Lib.hid (by rw [hwA]; exact (Ext.refl w).alloc _)
  have hbA : Blk wA w.heap.size 42 #[.int .i64 13, .int .i64 ((i : Int) - 1), .int .i64 0, .int .i64 n, .string ⟨#[]⟩] := by rw [hwA]; exact Blk.new w _ _
  have HBA := Lib.hid hbA
  have HPA := Lib.hid (HP.out.keep HXA.out)
  obtain ⟨q0, q1, q2, q3, q4⟩ := hbA.five
  clear hbA
  go_enter Tryz.func36, Tryz.ntmps36
  go_upto_region 2 with fail
  rw [← hwA]
  clear hwA k0 k1 k2 k3 k4 c0
  generalize hq : w.heap.size = q at *
  go_wp2_with fail
  refine (word_13 _).mono ?_
  rintro r w9 ⟨rfl, rfl⟩
  go_wp2_with fail
  refine (WC.out _ _ _ _ HPA.out (by have := HLN.out; omega)).mono ?_
  rintro r w1 ⟨rfl, av1, bv1, hp1, hkw1⟩
  have HP1 := Lib.hid hp1
  have HK1 := Lib.hid (hkw1)
  have HB1 := Lib.hid (HK1.out.blk HBA.out hgne (by decide))
  obtain ⟨q0, q1, q2, q3, q4⟩ := HB1.out.five
  clear hp1 hkw1
  go_wp2_with fail
  refine (HX.out _ _ _ _ HP1.out (by have := HLN.out; simp; omega)).mono ?_
  rintro r w2 ⟨rfl, av2, bv2, hp2, hkw2⟩
  have HP2 := Lib.hid hp2
  have HK2 := Lib.hid (HK1.out.trans hkw2)
  have HB2 := Lib.hid (HK2.out.blk HBA.out hgne (by decide))
  obtain ⟨q0, q1, q2, q3, q4⟩ := HB2.out.five
  clear hp2 hkw2
  go_wp2_with fail
  refine (W41.out _ _ _ _ HP2.out (by have := HLN.out; simp; omega)).mono ?_
  rintro r w3 ⟨rfl, av3, bv3, hp3, hkw3⟩
  have HP3 := Lib.hid hp3
  have HK3 := Lib.hid (HK2.out.trans hkw3)
  have HB3 := Lib.hid (HK3.out.blk HBA.out hgne (by decide))
  obtain ⟨q0, q1, q2, q3, q4⟩ := HB3.out.five
  clear hp3 hkw3
  have HE := Lib.hid (Wrote.mk (HP3.out.as (by first | rfl | (simp only [List.append_assoc]; done) | (simp only [List.append_assoc]; rfl))) ((KW.of_ext HXA.out).trans HK3.out) (show [108, 110, 40] ++ (s ++ [41]) = [108, 110] ++ (40 :: (s ++ [41])) from rfl))
  go_wp2_with fail
  go_end0
  exact ⟨rfl, HE.out⟩
set_option maxHeartbeats 1000000 in
set_option maxRecDepth 100000 in
theorem pnode_14 (l : List Nd) (n : Int) (x : Ex) (hx : NodeW l x) (hl : l.length ≤ 1000000) : NodeW l (.un 14 n x) := by
  intro g w nv bs av bv i I hp ha hI hln
  subst hI
  obtain ⟨h1, hnd, hax⟩ := ha.un
  have hi := ha.lt.1
  have hj : ((i - 1 : Nat) : Int) = (i : Int) - 1 := by omega
  have HP := Lib.hid hp
  have HX := Lib.hid (fun W bs' av' bv' h hl' => hx g W nv bs' av' bv' (i - 1) ((i : Int) - 1) h hax hj.symm hl')
  have WC : Hid (∀ (W : World) (bs : List UInt8) (av bv : Value), PrAt g W nv l bs av bv → bs.length ≤ 2000000 → Calls Tryz.prog 56 #[.pointer (some ⟨g, 1, none⟩), .string ⟨#[115, 105, 110, 40]⟩] W fun e w' => e = .returned (.tuple #[.int .i64 4, .nilIface]) ∧ Wrote g nv l bs [115, 105, 110, 40] W w') := Lib.hid (fun W bs av bv h hl => wstr_any g W nv l bs [115, 105, 110, 40] av bv h (by simp; omega))
  have W41 := wc41 g nv l
  obtain ⟨c0, _, _, _, _, _, hg⟩ := hp.blk.three'
  have hgne : w.heap.size ≠ g := by omega
  obtain ⟨A, c, rfl, hc⟩ := hp.nodes
  obtain ⟨b, o, rfl, _, hb, hc⟩ := hc (by omega)
  have hat := hc i hi
  rw [List.getElem?_eq_getElem hi] at hnd
  injection hnd with hnd
  rw [hnd] at hat
  obtain ⟨k0, k1, k2, k3, k4⟩ := hat
  simp only at k0 k1 k2 k3 k4
  rw [hj] at k1
  rw [show ((14 : Nat) : Int) = 14 from rfl] at k0
  have hst : str [] = .string ⟨#[]⟩ := rfl
  rw [hst] at k4
  have hT : nodeT fmtI (.un 14 n x) = [115, 105, 110] ++ (40 :: (nodeT fmtI x ++ [41])) := rfl
  rw [hT] at hln ⊢
  generalize nodeT fmtI x = s at *
  have happ : (⟨#[115, 105, 110]⟩ : ByteArray) ++ (⟨#[40]⟩ : ByteArray) = ⟨#[115, 105, 110, 40]⟩ := by first | rfl | (apply ByteArray.ext; simp) | decide +kernel
  have HLN : Hid (bs.length + s.length + 5 ≤ 2000000) := Lib.hid (by simp at hln; omega)
  clear hp ha hax hx hc hnd hst hT hln hj
  have hi0 : (0 : Int) ≤ (i : Int) := by omega
  have hil : (i : Int) < (l.length : Int) := by omega
  obtain ⟨wA, hwA⟩ : ∃ wA, wA = w.alloc (.cells #[.int .i64 14, .int .i64 ((i : Int) - 1), .int .i64 0, .int .i64 n, .string ⟨#[]⟩] 42) := ⟨_, rfl⟩
  have HXA : Hid (Ext w wA) := Lib.hid (by rw [hwA]; exact (Ext.refl w).alloc _)
  have hbA : Blk wA w.heap.size 42 #[.int .i64 14, .int .i64 ((i : Int) - 1), .int .i64 0, .int .i64 n, .string ⟨#[]⟩] := by rw [hwA]; exact Blk.new w _ _
  have HBA := Lib.hid hbA
  have HPA := Lib.hid (HP.out.keep HXA.out)
  obtain ⟨q0, q1, q2, q3, q4⟩ := hbA.five
  clear hbA
  go_enter Tryz.func36, Tryz.ntmps36
  go_upto_region 2 with fail
  rw [← hwA]
  clear hwA k0 k1 k2 k3 k4 c0
  generalize hq : w.heap.size = q at *
  go_wp2_with fail
  refine (word_14 _).mono ?_
  rintro r w9 ⟨rfl, rfl⟩
  go_wp2_with fail
  refine (WC.out _ _ _ _ HPA.out (by have := HLN.out; omega)).mono ?_
  rintro r w1 ⟨rfl, av1, bv1, hp1, hkw1⟩
  have HP1 := Lib.hid hp1
  have HK1 := Lib.hid (hkw1)
  have HB1 := Lib.hid (HK1.out.blk HBA.out hgne (by decide))
  obtain ⟨q0, q1, q2, q3, q4⟩ := HB1.out.five
  clear hp1 hkw1
  go_wp2_with fail
  refine (HX.out _ _ _ _ HP1.out (by have := HLN.out; simp; omega)).mono ?_
  rintro r w2 ⟨rfl, av2, bv2, hp2, hkw2⟩
  have HP2 := Lib.hid hp2
  have HK2 := Lib.hid (HK1.out.trans hkw2)
  have HB2 := Lib.hid (HK2.out.blk HBA.out hgne (by decide))
  obtain ⟨q0, q1, q2, q3, q4⟩ := HB2.out.five
  clear hp2 hkw2
  go_wp2_with fail
  refine (W41.out _ _ _ _ HP2.out (by have := HLN.out; simp; omega)).mono ?_
  rintro r w3 ⟨rfl, av3, bv3, hp3, hkw3⟩
  have HP3 := Lib.hid hp3
  have HK3 := Lib.hid (HK2.out.trans hkw3)
  have HB3 := Lib.hid (HK3.out.blk HBA.out hgne (by decide))
  obtain ⟨q0, q1, q2, q3, q4⟩ := HB3.out.five
  clear hp3 hkw3
  have HE := Lib.hid (Wrote.mk (HP3.out.as (by first | rfl | (simp only [List.append_assoc]; done) | (simp only [List.append_assoc]; rfl))) ((KW.of_ext HXA.out).trans HK3.out) (show [115, 105, 110, 40] ++ (s ++ [41]) = [115, 105, 110] ++ (40 :: (s ++ [41])) from rfl))
  go_wp2_with fail
  go_end0
  exact ⟨rfl, HE.out⟩
set_option maxHeartbeats 1000000 in
set_option maxRecDepth 100000 in
theorem pnode_15 (l : List Nd) (n : Int) (x : Ex) (hx : NodeW l x) (hl : l.length ≤ 1000000) : NodeW l (.un 15 n x) := by
  intro g w nv bs av bv i I hp ha hI hln
  subst hI
  obtain ⟨h1, hnd, hax⟩ := ha.un
  have hi := ha.lt.1
  have hj : ((i - 1 : Nat) : Int) = (i : Int) - 1 := by omega
  have HP := Lib.hid hp
  have HX := Lib.hid (fun W bs' av' bv' h hl' => hx g W nv bs' av' bv' (i - 1) ((i : Int) - 1) h hax hj.symm hl')
  have WC : Hid (∀ (W : World) (bs : List UInt8) (av bv : Value), PrAt g W nv l bs av bv → bs.length ≤ 2000000 → Calls Tryz.prog 56 #[.pointer (some ⟨g, 1, none⟩), .string ⟨#[99, 111, 115, 40]⟩] W fun e w' => e = .returned (.tuple #[.int .i64 4, .nilIface]) ∧ Wrote g nv l bs [99, 111, 115, 40] W w') := Lib.hid (fun W bs av bv h hl => wstr_any g W nv l bs [99, 111, 115, 40] av bv h (by simp; omega))
  have W41 := wc41 g nv l
  obtain ⟨c0, _, _, _, _, _, hg⟩ := hp.blk.three'
  have hgne : w.heap.size ≠ g := by omega
  obtain ⟨A, c, rfl, hc⟩ := hp.nodes
  obtain ⟨b, o, rfl, _, hb, hc⟩ := hc (by omega)
  have hat := hc i hi
  rw [List.getElem?_eq_getElem hi] at hnd
  injection hnd with hnd
  rw [hnd] at hat
  obtain ⟨k0, k1, k2, k3, k4⟩ := hat
  simp only at k0 k1 k2 k3 k4
  rw [hj] at k1
  rw [show ((15 : Nat) : Int) = 15 from rfl] at k0
  have hst : str [] = .string ⟨#[]⟩ := rfl
  rw [hst] at k4
  have hT : nodeT fmtI (.un 15 n x) = [99, 111, 115] ++ (40 :: (nodeT fmtI x ++ [41])) := rfl
  rw [hT] at hln ⊢
  generalize nodeT fmtI x = s at *
  have happ : (⟨#[99, 111, 115]⟩ : ByteArray) ++ (⟨#[40]⟩ : ByteArray) = ⟨#[99, 111, 115, 40]⟩ := by first | rfl | (apply ByteArray.ext; simp) | decide +kernel
  have HLN : Hid (bs.length + s.length + 5 ≤ 2000000) := Lib.hid (by simp at hln; omega)
  clear hp ha hax hx hc hnd hst hT hln hj
  have hi0 : (0 : Int) ≤ (i : Int) := by omega
  have hil : (i : Int) < (l.length : Int) := by omega
  obtain ⟨wA, hwA⟩ : ∃ wA, wA = w.alloc (.cells #[.int .i64 15, .int .i64 ((i : Int) - 1), .int .i64 0, .int .i64 n, .string ⟨#[]⟩] 42) := ⟨_, rfl⟩
  have HXA : Hid (Ext w wA) := Lib.hid (by rw [hwA]; exact (Ext.refl w).alloc _)
  have hbA : Blk wA w.heap.size 42 #[.int .i64 15, .int .i64 ((i : Int) - 1), .int .i64 0, .int .i64 n, .string ⟨#[]⟩] := by rw [hwA]; exact Blk.new w _ _
  have HBA := Lib.hid hbA
  have HPA := Lib.hid (HP.out.keep HXA.out)
  obtain ⟨q0, q1, q2, q3, q4⟩ := hbA.five
  clear hbA
  go_enter Tryz.func36, Tryz.ntmps36
  go_upto_region 2 with fail
  rw [← hwA]
  clear hwA k0 k1 k2 k3 k4 c0
  generalize hq : w.heap.size = q at *
  go_wp2_with fail
  refine (word_15 _).mono ?_
  rintro r w9 ⟨rfl, rfl⟩
  go_wp2_with fail
  refine (WC.out _ _ _ _ HPA.out (by have := HLN.out; omega)).mono ?_
  rintro r w1 ⟨rfl, av1, bv1, hp1, hkw1⟩
  have HP1 := Lib.hid hp1
  have HK1 := Lib.hid (hkw1)
  have HB1 := Lib.hid (HK1.out.blk HBA.out hgne (by decide))
  obtain ⟨q0, q1, q2, q3, q4⟩ := HB1.out.five
  clear hp1 hkw1
  go_wp2_with fail
  refine (HX.out _ _ _ _ HP1.out (by have := HLN.out; simp; omega)).mono ?_
  rintro r w2 ⟨rfl, av2, bv2, hp2, hkw2⟩
  have HP2 := Lib.hid hp2
  have HK2 := Lib.hid (HK1.out.trans hkw2)
  have HB2 := Lib.hid (HK2.out.blk HBA.out hgne (by decide))
  obtain ⟨q0, q1, q2, q3, q4⟩ := HB2.out.five
  clear hp2 hkw2
  go_wp2_with fail
  refine (W41.out _ _ _ _ HP2.out (by have := HLN.out; simp; omega)).mono ?_
  rintro r w3 ⟨rfl, av3, bv3, hp3, hkw3⟩
  have HP3 := Lib.hid hp3
  have HK3 := Lib.hid (HK2.out.trans hkw3)
  have HB3 := Lib.hid (HK3.out.blk HBA.out hgne (by decide))
  obtain ⟨q0, q1, q2, q3, q4⟩ := HB3.out.five
  clear hp3 hkw3
  have HE := Lib.hid (Wrote.mk (HP3.out.as (by first | rfl | (simp only [List.append_assoc]; done) | (simp only [List.append_assoc]; rfl))) ((KW.of_ext HXA.out).trans HK3.out) (show [99, 111, 115, 40] ++ (s ++ [41]) = [99, 111, 115] ++ (40 :: (s ++ [41])) from rfl))
  go_wp2_with fail
  go_end0
  exact ⟨rfl, HE.out⟩
set_option maxHeartbeats 1000000 in
set_option maxRecDepth 100000 in
theorem pnode_16 (l : List Nd) (n : Int) (x : Ex) (hx : NodeW l x) (hl : l.length ≤ 1000000) : NodeW l (.un 16 n x) := by
  intro g w nv bs av bv i I hp ha hI hln
  subst hI
  obtain ⟨h1, hnd, hax⟩ := ha.un
  have hi := ha.lt.1
  have hj : ((i - 1 : Nat) : Int) = (i : Int) - 1 := by omega
  have HP := Lib.hid hp
  have HX := Lib.hid (fun W bs' av' bv' h hl' => hx g W nv bs' av' bv' (i - 1) ((i : Int) - 1) h hax hj.symm hl')
  have WC : Hid (∀ (W : World) (bs : List UInt8) (av bv : Value), PrAt g W nv l bs av bv → bs.length ≤ 2000000 → Calls Tryz.prog 56 #[.pointer (some ⟨g, 1, none⟩), .string ⟨#[97, 116, 97, 110, 40]⟩] W fun e w' => e = .returned (.tuple #[.int .i64 5, .nilIface]) ∧ Wrote g nv l bs [97, 116, 97, 110, 40] W w') := Lib.hid (fun W bs av bv h hl => wstr_any g W nv l bs [97, 116, 97, 110, 40] av bv h (by simp; omega))
  have W41 := wc41 g nv l
  obtain ⟨c0, _, _, _, _, _, hg⟩ := hp.blk.three'
  have hgne : w.heap.size ≠ g := by omega
  obtain ⟨A, c, rfl, hc⟩ := hp.nodes
  obtain ⟨b, o, rfl, _, hb, hc⟩ := hc (by omega)
  have hat := hc i hi
  rw [List.getElem?_eq_getElem hi] at hnd
  injection hnd with hnd
  rw [hnd] at hat
  obtain ⟨k0, k1, k2, k3, k4⟩ := hat
  simp only at k0 k1 k2 k3 k4
  rw [hj] at k1
  rw [show ((16 : Nat) : Int) = 16 from rfl] at k0
  have hst : str [] = .string ⟨#[]⟩ := rfl
  rw [hst] at k4
  have hT : nodeT fmtI (.un 16 n x) = [97, 116, 97, 110] ++ (40 :: (nodeT fmtI x ++ [41])) := rfl
  rw [hT] at hln ⊢
  generalize nodeT fmtI x = s at *
  have happ : (⟨#[97, 116, 97, 110]⟩ : ByteArray) ++ (⟨#[40]⟩ : ByteArray) = ⟨#[97, 116, 97, 110, 40]⟩ := by first | rfl | (apply ByteArray.ext; simp) | decide +kernel
  have HLN : Hid (bs.length + s.length + 6 ≤ 2000000) := Lib.hid (by simp at hln; omega)
  clear hp ha hax hx hc hnd hst hT hln hj
  have hi0 : (0 : Int) ≤ (i : Int) := by omega
  have hil : (i : Int) < (l.length : Int) := by omega
  obtain ⟨wA, hwA⟩ : ∃ wA, wA = w.alloc (.cells #[.int .i64 16, .int .i64 ((i : Int) - 1), .int .i64 0, .int .i64 n, .string ⟨#[]⟩] 42) := ⟨_, rfl⟩
  have HXA : Hid (Ext w wA) := Lib.hid (by rw [hwA]; exact (Ext.refl w).alloc _)
  have hbA : Blk wA w.heap.size 42 #[.int .i64 16, .int .i64 ((i : Int) - 1), .int .i64 0, .int .i64 n, .string ⟨#[]⟩] := by rw [hwA]; exact Blk.new w _ _
  have HBA := Lib.hid hbA
  have HPA := Lib.hid (HP.out.keep HXA.out)
  obtain ⟨q0, q1, q2, q3, q4⟩ := hbA.five
  clear hbA
  go_enter Tryz.func36, Tryz.ntmps36
  go_upto_region 2 with fail
  rw [← hwA]
  clear hwA k0 k1 k2 k3 k4 c0
  generalize hq : w.heap.size = q at *
  go_wp2_with fail
  refine (word_16 _).mono ?_
  rintro r w9 ⟨rfl, rfl⟩
  go_wp2_with fail
  refine (WC.out _ _ _ _ HPA.out (by have := HLN.out; omega)).mono ?_
  rintro r w1 ⟨rfl, av1, bv1, hp1, hkw1⟩
  have HP1 := Lib.hid hp1
  have HK1 := Lib.hid (hkw1)
  have HB1 := Lib.hid (HK1.out.blk HBA.out hgne (by decide))
  obtain ⟨q0, q1, q2, q3, q4⟩ := HB1.out.five
  clear hp1 hkw1
  go_wp2_with fail
  refine (HX.out _ _ _ _ HP1.out (by have := HLN.out; simp; omega)).mono ?_
  rintro r w2 ⟨rfl, av2, bv2, hp2, hkw2⟩
  have HP2 := Lib.hid hp2
  have HK2 := Lib.hid (HK1.out.trans hkw2)
  have HB2 := Lib.hid (HK2.out.blk HBA.out hgne (by decide))
  obtain ⟨q0, q1, q2, q3, q4⟩ := HB2.out.five
  clear hp2 hkw2
  go_wp2_with fail
  refine (W41.out _ _ _ _ HP2.out (by have := HLN.out; simp; omega)).mono ?_
  rintro r w3 ⟨rfl, av3, bv3, hp3, hkw3⟩
  have HP3 := Lib.hid hp3
  have HK3 := Lib.hid (HK2.out.trans hkw3)
  have HB3 := Lib.hid (HK3.out.blk HBA.out hgne (by decide))
  obtain ⟨q0, q1, q2, q3, q4⟩ := HB3.out.five
  clear hp3 hkw3
  have HE := Lib.hid (Wrote.mk (HP3.out.as (by first | rfl | (simp only [List.append_assoc]; done) | (simp only [List.append_assoc]; rfl))) ((KW.of_ext HXA.out).trans HK3.out) (show [97, 116, 97, 110, 40] ++ (s ++ [41]) = [97, 116, 97, 110] ++ (40 :: (s ++ [41])) from rfl))
  go_wp2_with fail
  go_end0
  exact ⟨rfl, HE.out⟩
set_option maxHeartbeats 1000000 in
set_option maxRecDepth 100000 in
theorem pnode_5 (l : List Nd) (n : Int) (x : Ex) (hx : NodeW l x) (hgx : x.Good) (hl : l.length ≤ 1000000) : NodeW l (.un 5 n x) := by
  intro g w nv bs av bv i I hp ha hI hln
  subst hI
  obtain ⟨h1, hnd, hax⟩ := ha.un
  have hi := ha.lt.1
  have hj : ((i - 1 : Nat) : Int) = (i : Int) - 1 := by omega
  have HP := Lib.hid hp
  have HX := Lib.hid (fun W bs' av' bv' h hl' => poperand_any l x hx hgx g W nv bs' av' bv' (i - 1) ((i : Int) - 1) 3 h hax hj.symm hl' (by decide))
  rw [show ((3 : Nat) : Int) = 3 from rfl] at HX
  have WC : Hid (∀ (W : World) (bs : List UInt8) (av bv : Value), PrAt g W nv l bs av bv → bs.length ≤ 2000000 → Calls Tryz.prog 56 #[.pointer (some ⟨g, 1, none⟩), .string ⟨#[45]⟩] W fun e w' => e = .returned (.tuple #[.int .i64 1, .nilIface]) ∧ Wrote g nv l bs [45] W w') := Lib.hid (fun W bs av bv h hl => wstr_any g W nv l bs [45] av bv h (by simp; omega))
  obtain ⟨c0, _, _, _, _, _, hg⟩ := hp.blk.three'
  have hgne : w.heap.size ≠ g := by omega
  obtain ⟨A, c, rfl, hc⟩ := hp.nodes
  obtain ⟨b, o, rfl, _, hb, hc⟩ := hc (by omega)
  have hat := hc i hi
  rw [List.getElem?_eq_getElem hi] at hnd
  injection hnd with hnd
  rw [hnd] at hat
  obtain ⟨k0, k1, k2, k3, k4⟩ := hat
  simp only at k0 k1 k2 k3 k4
  rw [hj] at k1
  rw [show ((5 : Nat) : Int) = 5 from rfl] at k0
  have hst : str [] = .string ⟨#[]⟩ := rfl
  rw [hst] at k4
  have hT : nodeT fmtI (.un 5 n x) = [45] ++ parenT (decide (levelK x.kind < 3)) (nodeT fmtI x) := rfl
  have HLN : Hid (bs.length + (parenT (decide (levelK x.kind < 3)) (nodeT fmtI x)).length + 1 ≤ 2000000) := Lib.hid (by rw [hT] at hln; simp at hln; omega)
  rw [hT]
  generalize parenT (decide (levelK x.kind < 3)) (nodeT fmtI x) = s at *
  clear hp ha hax hx hgx hc hnd hst hT hln hj
  have hi0 : (0 : Int) ≤ (i : Int) := by omega
  have hil : (i : Int) < (l.length : Int) := by omega
  obtain ⟨wA, hwA⟩ : ∃ wA, wA = w.alloc (.cells #[.int .i64 5, .int .i64 ((i : Int) - 1), .int .i64 0, .int .i64 n, .string ⟨#[]⟩] 42) := ⟨_, rfl⟩
  have HXA : Hid (Ext w wA) := Lib.hid (by rw [hwA]; exact (Ext.refl w).alloc _)
  have hbA : Blk wA w.heap.size 42 #[.int .i64 5, .int .i64 ((i : Int) - 1), .int .i64 0, .int .i64 n, .string ⟨#[]⟩] := by rw [hwA]; exact Blk.new w _ _
  have HBA := Lib.hid hbA
  have HPA := Lib.hid (HP.out.keep HXA.out)
  obtain ⟨q0, q1, q2, q3, q4⟩ := hbA.five
  clear hbA
  go_enter Tryz.func36, Tryz.ntmps36
  go_upto_region 2 with fail
  rw [← hwA]
  clear hwA k0 k1 k2 k3 k4 c0
  generalize hq : w.heap.size = q at *
  go_wp2_with fail
  refine (WC.out _ _ _ _ HPA.out (by have := HLN.out; omega)).mono ?_
  rintro r w1 ⟨rfl, av1, bv1, hp1, hkw1⟩
  have HP1 := Lib.hid hp1
  have HK1 := Lib.hid (hkw1)
  have HB1 := Lib.hid (HK1.out.blk HBA.out hgne (by decide))
  obtain ⟨q0, q1, q2, q3, q4⟩ := HB1.out.five
  clear hp1 hkw1
  go_wp2_with fail
  refine (HX.out _ _ _ _ HP1.out (by have := HLN.out; simp; omega)).mono ?_
  rintro r w2 ⟨rfl, av2, bv2, hp2, hkw2⟩
  have HP2 := Lib.hid hp2
  have HK2 := Lib.hid (HK1.out.trans hkw2)
  have HB2 := Lib.hid (HK2.out.blk HBA.out hgne (by decide))
  obtain ⟨q0, q1, q2, q3, q4⟩ := HB2.out.five
  clear hp2 hkw2
  have HE := Lib.hid (Wrote.mk (HP2.out.as (by first | rfl | (simp only [List.append_assoc]; done) | (simp only [List.append_assoc]; rfl))) ((KW.of_ext HXA.out).trans HK2.out) (show [45] ++ s = [45] ++ s from rfl))
  go_wp2_with fail
  go_end0
  exact ⟨rfl, HE.out⟩
theorem itoa_fmt (n : Int) (h1 : -64 ≤ n) (h2 : n ≤ 64) : Lib.itoa n = fmtI n := by
  have key : ∀ k : Fin 129, Lib.itoa ((k.val : Int) - 64) = fmtI ((k.val : Int) - 64) := by decide +kernel
  have := key ⟨(n + 64).toNat, by omega⟩
  rwa [show (((⟨(n + 64).toNat, by omega⟩ : Fin 129).val : Int) - 64) = n by simp; omega] at this
theorem ext_growP (w : World) (q : Nat) (os : Array Obj) : Ext w (Go.Sort.grow (w.drewN q) os) :=
  ⟨rfl, rfl, rfl, by simp [Go.Sort.grow, World.drewN], fun i hi => by
    show ((w.drewN q).heap ++ os)[i]? = _
    rw [Array.getElem?_append_left (by show i < w.heap.size; omega)]
    rfl⟩
theorem pitoa_any (w : World) (v : Int) (h0 : -9223372036854775808 ≤ v) (h1 : v ≤ 9223372036854775807) (hE : Pow10 w) : Calls Tryz.prog 59 #[.int .i64 v] w fun e w' => e = .returned (str (Lib.itoa v)) ∧ Ext w w' := by
  refine (Tryz.strconv_Itoa v h0 h1 w hE).mono ?_
  rintro e w' ⟨rfl, k, os, rfl⟩
  exact ⟨rfl, ext_growP w k os⟩
set_option maxHeartbeats 1000000 in
set_option maxRecDepth 100000 in
theorem pnode_10 (l : List Nd) (n : Int) (x : Ex) (hx : NodeW l x) (hgx : x.Good) (hl : l.length ≤ 1000000) (hn1 : -64 ≤ n) (hn2 : n ≤ 64) : NodeW l (.un 10 n x) := by
  intro g w nv bs av bv i I hp ha hI hln
  subst hI
  obtain ⟨h1, hnd, hax⟩ := ha.un
  have hi := ha.lt.1
  have hj : ((i - 1 : Nat) : Int) = (i : Int) - 1 := by omega
  have HP := Lib.hid hp
  have HX := Lib.hid (fun W bs' av' bv' h hl' => poperand_any l x hx hgx g W nv bs' av' bv' (i - 1) ((i : Int) - 1) 5 h hax hj.symm hl' (by decide))
  rw [show ((5 : Nat) : Int) = 5 from rfl] at HX
  have HI := Lib.hid (fun W h => pitoa_any W n (by omega) (by omega) h)
  rw [itoa_fmt n hn1 hn2] at HI
  have hfl := fmtI_len n hn1 hn2
  obtain ⟨c0, _, _, _, _, _, hg⟩ := hp.blk.three'
  have hgne : w.heap.size ≠ g := by omega
  obtain ⟨A, c, rfl, hc⟩ := hp.nodes
  obtain ⟨b, o, rfl, _, hb, hc⟩ := hc (by omega)
  have hat := hc i hi
  rw [List.getElem?_eq_getElem hi] at hnd
  injection hnd with hnd
  rw [hnd] at hat
  obtain ⟨k0, k1, k2, k3, k4⟩ := hat
  simp only at k0 k1 k2 k3 k4
  rw [hj] at k1
  rw [show ((10 : Nat) : Int) = 10 from rfl] at k0
  have hst : str [] = .string ⟨#[]⟩ := rfl
  rw [hst] at k4
  have hT : nodeT fmtI (.un 10 n x) = parenT (decide (levelK x.kind < 5)) (nodeT fmtI x) ++ (94 :: fmtI n) := rfl
  have HLN : Hid (bs.length + (parenT (decide (levelK x.kind < 5)) (nodeT fmtI x)).length + 1 + (fmtI n).length ≤ 2000000) := Lib.hid (by rw [hT] at hln; simp at hln; omega)
  rw [hT]
  have HW := Lib.hid (fun W bs' av' bv' h hl' => wstr_any g W (.slice (some ⟨b, o, none⟩) l.length c) l bs' (94 :: fmtI n) av' bv' h hl')
  generalize parenT (decide (levelK x.kind < 5)) (nodeT fmtI x) = s at *
  generalize fmtI n = f at *
  have hadd1 : ∀ W : World, (binOp .add 9 (.string ⟨#[94]⟩) (str f)).run Tryz.prog W = .ok (str (94 :: f)) W := fun W => run_add_str [94] f (by simp; omega) W
  clear hp ha hax hx hgx hc hnd hst hT hln hj hn1 hn2 hfl
  have hi0 : (0 : Int) ≤ (i : Int) := by omega
  have hil : (i : Int) < (l.length : Int) := by omega
  obtain ⟨wA, hwA⟩ : ∃ wA, wA = w.alloc (.cells #[.int .i64 10, .int .i64 ((i : Int) - 1), .int .i64 0, .int .i64 n, .string ⟨#[]⟩] 42) := ⟨_, rfl⟩
  have HXA : Hid (Ext w wA) := Lib.hid (by rw [hwA]; exact (Ext.refl w).alloc _)
  have hbA : Blk wA w.heap.size 42 #[.int .i64 10, .int .i64 ((i : Int) - 1), .int .i64 0, .int .i64 n, .string ⟨#[]⟩] := by rw [hwA]; exact Blk.new w _ _
  have HBA := Lib.hid hbA
  have HPA := Lib.hid (HP.out.keep HXA.out)
  obtain ⟨q0, q1, q2, q3, q4⟩ := hbA.five
  clear hbA
  go_enter Tryz.func36, Tryz.ntmps36
  go_upto_region 2 with fail
  rw [← hwA]
  clear hwA k0 k1 k2 k3 k4 c0
  generalize hq : w.heap.size = q at *
  go_wp2_with fail
  refine (HX.out _ _ _ _ HPA.out (by have := HLN.out; omega)).mono ?_
  rintro r w1 ⟨rfl, av1, bv1, hp1, hkw1⟩
  have HP1 := Lib.hid hp1
  have HK1 := Lib.hid (hkw1)
  have HB1 := Lib.hid (HK1.out.blk HBA.out hgne (by decide))
  obtain ⟨q0, q1, q2, q3, q4⟩ := HB1.out.five
  clear hp1 hkw1
  go_wp2_with fail
  refine (HI.out _ HP1.out.pow).mono ?_
  rintro r w9 ⟨rfl, hx9⟩
  have HP9 := Lib.hid (HP1.out.keep hx9)
  have HK9 := Lib.hid (HK1.out.trans (KW.of_ext hx9))
  clear hx9 q0 q1 q2 q3 q4
  go_wp2_with fail
  refine (HW.out _ _ _ _ HP9.out (by have := HLN.out; simp; omega)).mono ?_
  rintro r w2 ⟨rfl, av2, bv2, hp2, hkw2⟩
  have HP2 := Lib.hid hp2
  have HK2 := Lib.hid (HK9.out.trans hkw2)
  have HB2 := Lib.hid (HK2.out.blk HBA.out hgne (by decide))
  obtain ⟨q0, q1, q2, q3, q4⟩ := HB2.out.five
  clear hp2 hkw2
  have HE := Lib.hid (Wrote.mk (HP2.out.as (by first | rfl | (simp only [List.append_assoc]; done) | (simp only [List.append_assoc]; rfl))) ((KW.of_ext HXA.out).trans HK2.out) (show s ++ (94 :: f) = s ++ (94 :: f) from rfl))
  go_wp2_with fail
  go_end0
  exact ⟨rfl, HE.out⟩
end Big
end Go.Proofs.YtgopljllknbelaaGreatDoor
/- The program's writer: node at sums and products. Printed by a program. -/
namespace Go.Proofs.YtgopljllknbelaaGreatDoor
namespace Big
open Go.RowKit
theorem KW.five {g q : Nat} {w w' : World} {a b c d e : Value} (h : KW g w w') (hb : Blk w q 42 #[a, b, c, d, e]) (hq : q ≠ g) : w'.cell? ⟨q, 0, none⟩ = some a ∧ w'.cell? ⟨q, 1, none⟩ = some b ∧ w'.cell? ⟨q, 2, none⟩ = some c ∧ w'.cell? ⟨q, 3, none⟩ = some d ∧ w'.cell? ⟨q, 4, none⟩ = some e := by
  have h2 := h.blk hb hq (by decide)
  exact h2.five
theorem keptW {g q : Nat} {wo w1 w2 : World} {a b c d e : Value} (hb : Blk wo q 42 #[a, b, c, d, e]) (hq : q ≠ g) (h : KW g wo w1 ∧ w1.cell? ⟨q, 0, none⟩ = some a ∧ w1.cell? ⟨q, 1, none⟩ = some b ∧ w1.cell? ⟨q, 2, none⟩ = some c ∧ w1.cell? ⟨q, 3, none⟩ = some d ∧ w1.cell? ⟨q, 4, none⟩ = some e) (hx : KW g w1 w2) :
    KW g wo w2 ∧ w2.cell? ⟨q, 0, none⟩ = some a ∧ w2.cell? ⟨q, 1, none⟩ = some b ∧ w2.cell? ⟨q, 2, none⟩ = some c ∧ w2.cell? ⟨q, 3, none⟩ = some d ∧ w2.cell? ⟨q, 4, none⟩ = some e :=
  ⟨h.1.trans hx, (h.1.trans hx).five hb hq⟩
set_option maxHeartbeats 1000000 in
set_option maxRecDepth 100000 in
theorem pnode_6 (l : List Nd) (x y : Ex) (hx : NodeW l x) (hy : NodeW l y) (hgx : x.Good) (hgy : y.Good) (hl : l.length ≤ 1000000) : NodeW l (.bin 6 x y) := by
  intro g w nv bs av bv i I hp ha hI hln
  subst hI
  obtain ⟨j, hji, hnd, hax, hay⟩ := ha.bin
  have hi := ha.lt.1
  have hj : ((i - 1 : Nat) : Int) = (i : Int) - 1 := by omega
  have HP := Lib.hid hp
  have HOA := Lib.hid (fun W bs' av' bv' h hl' => poperand_any l x hx hgx g W nv bs' av' bv' j (j : Int) 1 h hax rfl hl' (by decide))
  have HOB := Lib.hid (fun W bs' av' bv' h hl' => poperand_any l y hy hgy g W nv bs' av' bv' (i - 1) ((i : Int) - 1) 2 h hay hj.symm hl' (by decide))
  rw [show ((1 : Nat) : Int) = 1 from rfl] at HOA
  rw [show ((2 : Nat) : Int) = 2 from rfl] at HOB
  have WC : Hid (∀ (W : World) (bs : List UInt8) (av bv : Value), PrAt g W nv l bs av bv → bs.length ≤ 2000000 → Calls Tryz.prog 56 #[.pointer (some ⟨g, 1, none⟩), .string ⟨#[32, 43, 32]⟩] W fun e w' => e = .returned (.tuple #[.int .i64 3, .nilIface]) ∧ Wrote g nv l bs [32, 43, 32] W w') := Lib.hid (fun W bs av bv h hl => wstr_any g W nv l bs [32, 43, 32] av bv h (by simp; omega))
  obtain ⟨c0, _, _, _, _, _, hg⟩ := hp.blk.three'
  have hgne : w.heap.size ≠ g := by omega
  obtain ⟨A, c, rfl, hc⟩ := hp.nodes
  obtain ⟨b, o, rfl, _, hb, hc⟩ := hc (by omega)
  have hat := hc i hi
  rw [List.getElem?_eq_getElem hi] at hnd
  injection hnd with hnd
  rw [hnd] at hat
  obtain ⟨k0, k1, k2, k3, k4⟩ := hat
  simp only at k0 k1 k2 k3 k4
  rw [hj] at k2
  rw [show ((6 : Nat) : Int) = 6 from rfl] at k0
  have hst : str [] = .string ⟨#[]⟩ := rfl
  rw [hst] at k4
  have hT : nodeT fmtI (.bin 6 x y) = parenT (decide (levelK x.kind < 1)) (nodeT fmtI x) ++ ([32, 43, 32] ++ parenT (decide (levelK y.kind < 2)) (nodeT fmtI y)) := rfl
  have HLN : Hid (bs.length + (parenT (decide (levelK x.kind < 1)) (nodeT fmtI x)).length + 3 + (parenT (decide (levelK y.kind < 2)) (nodeT fmtI y)).length ≤ 2000000) := Lib.hid (by rw [hT, List.length_append, List.length_append] at hln; simp only [List.length_cons, List.length_nil] at hln; omega)
  rw [hT]
  generalize parenT (decide (levelK x.kind < 1)) (nodeT fmtI x) = s at *
  generalize parenT (decide (levelK y.kind < 2)) (nodeT fmtI y) = f at *
  have HL := Lib.hid (fun W => plevel_6 W (j : Int) ((i : Int) - 1) 0 ⟨#[]⟩)
  have hi2 : IntKind.i64.wrap ((1 : Int) + 1) = 2 := by kernel_rfl
  clear hp ha hax hay hx hy hgx hgy hc hnd hst hT hln hj
  have hi0 : (0 : Int) ≤ (i : Int) := by omega
  have hil : (i : Int) < (l.length : Int) := by omega
  obtain ⟨wA, hwA⟩ : ∃ wA, wA = w.alloc (.cells #[.int .i64 6, .int .i64 (j : Int), .int .i64 ((i : Int) - 1), .int .i64 0, .string ⟨#[]⟩] 42) := ⟨_, rfl⟩
  have HXA : Hid (Ext w wA) := Lib.hid (by rw [hwA]; exact (Ext.refl w).alloc _)
  have hbA : Blk wA w.heap.size 42 #[.int .i64 6, .int .i64 (j : Int), .int .i64 ((i : Int) - 1), .int .i64 0, .string ⟨#[]⟩] := by rw [hwA]; exact Blk.new w _ _
  have HBA := Lib.hid hbA
  have HPA := Lib.hid (HP.out.keep HXA.out)
  obtain ⟨q0, q1, q2, q3, q4⟩ := hbA.five
  clear hbA
  go_enter Tryz.func36, Tryz.ntmps36
  go_upto_region 2 with fail
  rw [← hwA]
  clear hwA k0 k1 k2 k3 k4 c0
  generalize hq : w.heap.size = q at *
  go_wp2_with fail
  go_region_held3 (fun w' => KW g wA w' ∧ w'.cell? ⟨q, 0, none⟩ = some (.int .i64 6) ∧ w'.cell? ⟨q, 1, none⟩ = some (.int .i64 (j : Int)) ∧ w'.cell? ⟨q, 2, none⟩ = some (.int .i64 ((i : Int) - 1)) ∧ w'.cell? ⟨q, 3, none⟩ = some (.int .i64 0) ∧ w'.cell? ⟨q, 4, none⟩ = some (.string ⟨#[]⟩))
    (first | (exact ⟨KW.of_ext (Ext.refl wA).drew, q0, q1, q2, q3, q4⟩) | (exact keptW HBA.out hgne (by assumption) (by assumption)))
    (first
      | (go_at_call 24; (with_reducible refine (HL.out _).mono ?_); rintro r w5 ⟨rfl, hx5⟩; have HP5 := Lib.hid (HPA.out.keep (Ext.trans (by repeat (first | exact Ext.refl _ | (with_reducible apply Ext.drew) | (with_reducible apply Ext.alloc))) hx5)); have hkx5 := KW.of_ext (g := g) hx5; clear hx5)
      | (go_at_call 58; (refine (HOA.out _ _ _ _ HP5.out (by have := HLN.out; omega)).mono ?_); rintro r w1 ⟨rfl, av1, bv1, hp1, hkw1⟩; have HP1 := Lib.hid hp1; clear hp1))
  all_goals
    have HS1 : Hid (KW g wA w1 ∧ w1.cell? ⟨q, 0, none⟩ = some (.int .i64 6) ∧ w1.cell? ⟨q, 1, none⟩ = some (.int .i64 (j : Int)) ∧ w1.cell? ⟨q, 2, none⟩ = some (.int .i64 ((i : Int) - 1)) ∧ w1.cell? ⟨q, 3, none⟩ = some (.int .i64 0) ∧ w1.cell? ⟨q, 4, none⟩ = some (.string ⟨#[]⟩)) := Lib.hid (by assumption)
    have HK1 := Lib.hid HS1.out.1
    obtain ⟨q0, q1, q2, q3, q4⟩ := HS1.out.2
    go_wp2_with fail
    refine (word_6 _).mono ?_
    rintro r w9 ⟨rfl, rfl⟩
    go_wp2_with fail
    refine (WC.out _ _ _ _ HP1.out (by have := HLN.out; simp; omega)).mono ?_
    rintro r w2 ⟨rfl, av2, bv2, hp2, hkw2⟩
    have HP2 := Lib.hid hp2
    have HK2 := Lib.hid (HK1.out.trans hkw2)
    have HB2 := Lib.hid (HK2.out.blk HBA.out hgne (by decide))
    obtain ⟨q0, q1, q2, q3, q4⟩ := HB2.out.five
    clear hp2 hkw2
    go_wp2_with fail
    go_region_held3 (fun w' => KW g w2 w' ∧ w'.cell? ⟨q, 0, none⟩ = some (.int .i64 6) ∧ w'.cell? ⟨q, 1, none⟩ = some (.int .i64 (j : Int)) ∧ w'.cell? ⟨q, 2, none⟩ = some (.int .i64 ((i : Int) - 1)) ∧ w'.cell? ⟨q, 3, none⟩ = some (.int .i64 0) ∧ w'.cell? ⟨q, 4, none⟩ = some (.string ⟨#[]⟩))
      (first | (exact ⟨KW.of_ext (Ext.refl w2).drew, q0, q1, q2, q3, q4⟩) | (exact keptW HB2.out hgne (by assumption) (by assumption)))
      (first
        | (go_at_call 24; (with_reducible refine (HL.out _).mono ?_); rintro r w5 ⟨rfl, hx5⟩; have HP5 := Lib.hid (HP2.out.keep (Ext.trans (by repeat (first | exact Ext.refl _ | (with_reducible apply Ext.drew) | (with_reducible apply Ext.alloc))) hx5)); have hkx5 := KW.of_ext (g := g) hx5; clear hx5)
        | (go_at_call 58; (refine (HOB.out _ _ _ _ HP5.out (by have := HLN.out; simp; omega)).mono ?_); rintro r w3 ⟨rfl, av3, bv3, hp3, hkw3⟩; have HP3 := Lib.hid hp3; clear hp3))
    all_goals
      have HK3 : Hid (KW g w2 w3) := Lib.hid (And.left (by assumption))
      have HE := Lib.hid (Wrote.mk (HP3.out.as (by simp only [List.append_assoc]; rfl)) (((KW.of_ext HXA.out).trans HK2.out).trans HK3.out) (show s ++ ([32, 43, 32] ++ f) = s ++ ([32, 43, 32] ++ f) from rfl))
      go_wp2_with fail
      go_end0
      exact ⟨rfl, HE.out⟩
set_option maxHeartbeats 1000000 in
set_option maxRecDepth 100000 in
theorem pnode_7 (l : List Nd) (x y : Ex) (hx : NodeW l x) (hy : NodeW l y) (hgx : x.Good) (hgy : y.Good) (hl : l.length ≤ 1000000) : NodeW l (.bin 7 x y) := by
  intro g w nv bs av bv i I hp ha hI hln
  subst hI
  obtain ⟨j, hji, hnd, hax, hay⟩ := ha.bin
  have hi := ha.lt.1
  have hj : ((i - 1 : Nat) : Int) = (i : Int) - 1 := by omega
  have HP := Lib.hid hp
  have HOA := Lib.hid (fun W bs' av' bv' h hl' => poperand_any l x hx hgx g W nv bs' av' bv' j (j : Int) 1 h hax rfl hl' (by decide))
  have HOB := Lib.hid (fun W bs' av' bv' h hl' => poperand_any l y hy hgy g W nv bs' av' bv' (i - 1) ((i : Int) - 1) 2 h hay hj.symm hl' (by decide))
  rw [show ((1 : Nat) : Int) = 1 from rfl] at HOA
  rw [show ((2 : Nat) : Int) = 2 from rfl] at HOB
  have WC : Hid (∀ (W : World) (bs : List UInt8) (av bv : Value), PrAt g W nv l bs av bv → bs.length ≤ 2000000 → Calls Tryz.prog 56 #[.pointer (some ⟨g, 1, none⟩), .string ⟨#[32, 45, 32]⟩] W fun e w' => e = .returned (.tuple #[.int .i64 3, .nilIface]) ∧ Wrote g nv l bs [32, 45, 32] W w') := Lib.hid (fun W bs av bv h hl => wstr_any g W nv l bs [32, 45, 32] av bv h (by simp; omega))
  obtain ⟨c0, _, _, _, _, _, hg⟩ := hp.blk.three'
  have hgne : w.heap.size ≠ g := by omega
  obtain ⟨A, c, rfl, hc⟩ := hp.nodes
  obtain ⟨b, o, rfl, _, hb, hc⟩ := hc (by omega)
  have hat := hc i hi
  rw [List.getElem?_eq_getElem hi] at hnd
  injection hnd with hnd
  rw [hnd] at hat
  obtain ⟨k0, k1, k2, k3, k4⟩ := hat
  simp only at k0 k1 k2 k3 k4
  rw [hj] at k2
  rw [show ((7 : Nat) : Int) = 7 from rfl] at k0
  have hst : str [] = .string ⟨#[]⟩ := rfl
  rw [hst] at k4
  have hT : nodeT fmtI (.bin 7 x y) = parenT (decide (levelK x.kind < 1)) (nodeT fmtI x) ++ ([32, 45, 32] ++ parenT (decide (levelK y.kind < 2)) (nodeT fmtI y)) := rfl
  have HLN : Hid (bs.length + (parenT (decide (levelK x.kind < 1)) (nodeT fmtI x)).length + 3 + (parenT (decide (levelK y.kind < 2)) (nodeT fmtI y)).length ≤ 2000000) := Lib.hid (by rw [hT, List.length_append, List.length_append] at hln; simp only [List.length_cons, List.length_nil] at hln; omega)
  rw [hT]
  generalize parenT (decide (levelK x.kind < 1)) (nodeT fmtI x) = s at *
  generalize parenT (decide (levelK y.kind < 2)) (nodeT fmtI y) = f at *
  have HL := Lib.hid (fun W => plevel_7 W (j : Int) ((i : Int) - 1) 0 ⟨#[]⟩)
  have hi2 : IntKind.i64.wrap ((1 : Int) + 1) = 2 := by kernel_rfl
  clear hp ha hax hay hx hy hgx hgy hc hnd hst hT hln hj
  have hi0 : (0 : Int) ≤ (i : Int) := by omega
  have hil : (i : Int) < (l.length : Int) := by omega
  obtain ⟨wA, hwA⟩ : ∃ wA, wA = w.alloc (.cells #[.int .i64 7, .int .i64 (j : Int), .int .i64 ((i : Int) - 1), .int .i64 0, .string ⟨#[]⟩] 42) := ⟨_, rfl⟩
  have HXA : Hid (Ext w wA) := Lib.hid (by rw [hwA]; exact (Ext.refl w).alloc _)
  have hbA : Blk wA w.heap.size 42 #[.int .i64 7, .int .i64 (j : Int), .int .i64 ((i : Int) - 1), .int .i64 0, .string ⟨#[]⟩] := by rw [hwA]; exact Blk.new w _ _
  have HBA := Lib.hid hbA
  have HPA := Lib.hid (HP.out.keep HXA.out)
  obtain ⟨q0, q1, q2, q3, q4⟩ := hbA.five
  clear hbA
  go_enter Tryz.func36, Tryz.ntmps36
  go_upto_region 2 with fail
  rw [← hwA]
  clear hwA k0 k1 k2 k3 k4 c0
  generalize hq : w.heap.size = q at *
  go_wp2_with fail
  go_region_held3 (fun w' => KW g wA w' ∧ w'.cell? ⟨q, 0, none⟩ = some (.int .i64 7) ∧ w'.cell? ⟨q, 1, none⟩ = some (.int .i64 (j : Int)) ∧ w'.cell? ⟨q, 2, none⟩ = some (.int .i64 ((i : Int) - 1)) ∧ w'.cell? ⟨q, 3, none⟩ = some (.int .i64 0) ∧ w'.cell? ⟨q, 4, none⟩ = some (.string ⟨#[]⟩))
    (first | (exact ⟨KW.of_ext (Ext.refl wA).drew, q0, q1, q2, q3, q4⟩) | (exact keptW HBA.out hgne (by assumption) (by assumption)))
    (first
      | (go_at_call 24; (with_reducible refine (HL.out _).mono ?_); rintro r w5 ⟨rfl, hx5⟩; have HP5 := Lib.hid (HPA.out.keep (Ext.trans (by repeat (first | exact Ext.refl _ | (with_reducible apply Ext.drew) | (with_reducible apply Ext.alloc))) hx5)); have hkx5 := KW.of_ext (g := g) hx5; clear hx5)
      | (go_at_call 58; (refine (HOA.out _ _ _ _ HP5.out (by have := HLN.out; omega)).mono ?_); rintro r w1 ⟨rfl, av1, bv1, hp1, hkw1⟩; have HP1 := Lib.hid hp1; clear hp1))
  all_goals
    have HS1 : Hid (KW g wA w1 ∧ w1.cell? ⟨q, 0, none⟩ = some (.int .i64 7) ∧ w1.cell? ⟨q, 1, none⟩ = some (.int .i64 (j : Int)) ∧ w1.cell? ⟨q, 2, none⟩ = some (.int .i64 ((i : Int) - 1)) ∧ w1.cell? ⟨q, 3, none⟩ = some (.int .i64 0) ∧ w1.cell? ⟨q, 4, none⟩ = some (.string ⟨#[]⟩)) := Lib.hid (by assumption)
    have HK1 := Lib.hid HS1.out.1
    obtain ⟨q0, q1, q2, q3, q4⟩ := HS1.out.2
    go_wp2_with fail
    refine (word_7 _).mono ?_
    rintro r w9 ⟨rfl, rfl⟩
    go_wp2_with fail
    refine (WC.out _ _ _ _ HP1.out (by have := HLN.out; simp; omega)).mono ?_
    rintro r w2 ⟨rfl, av2, bv2, hp2, hkw2⟩
    have HP2 := Lib.hid hp2
    have HK2 := Lib.hid (HK1.out.trans hkw2)
    have HB2 := Lib.hid (HK2.out.blk HBA.out hgne (by decide))
    obtain ⟨q0, q1, q2, q3, q4⟩ := HB2.out.five
    clear hp2 hkw2
    go_wp2_with fail
    go_region_held3 (fun w' => KW g w2 w' ∧ w'.cell? ⟨q, 0, none⟩ = some (.int .i64 7) ∧ w'.cell? ⟨q, 1, none⟩ = some (.int .i64 (j : Int)) ∧ w'.cell? ⟨q, 2, none⟩ = some (.int .i64 ((i : Int) - 1)) ∧ w'.cell? ⟨q, 3, none⟩ = some (.int .i64 0) ∧ w'.cell? ⟨q, 4, none⟩ = some (.string ⟨#[]⟩))
      (first | (exact ⟨KW.of_ext (Ext.refl w2).drew, q0, q1, q2, q3, q4⟩) | (exact keptW HB2.out hgne (by assumption) (by assumption)))
      (first
        | (go_at_call 24; (with_reducible refine (HL.out _).mono ?_); rintro r w5 ⟨rfl, hx5⟩; have HP5 := Lib.hid (HP2.out.keep (Ext.trans (by repeat (first | exact Ext.refl _ | (with_reducible apply Ext.drew) | (with_reducible apply Ext.alloc))) hx5)); have hkx5 := KW.of_ext (g := g) hx5; clear hx5)
        | (go_at_call 58; (refine (HOB.out _ _ _ _ HP5.out (by have := HLN.out; simp; omega)).mono ?_); rintro r w3 ⟨rfl, av3, bv3, hp3, hkw3⟩; have HP3 := Lib.hid hp3; clear hp3))
    all_goals
      have HK3 : Hid (KW g w2 w3) := Lib.hid (And.left (by assumption))
      have HE := Lib.hid (Wrote.mk (HP3.out.as (by simp only [List.append_assoc]; rfl)) (((KW.of_ext HXA.out).trans HK2.out).trans HK3.out) (show s ++ ([32, 45, 32] ++ f) = s ++ ([32, 45, 32] ++ f) from rfl))
      go_wp2_with fail
      go_end0
      exact ⟨rfl, HE.out⟩
set_option maxHeartbeats 1000000 in
set_option maxRecDepth 100000 in
theorem pnode_8 (l : List Nd) (x y : Ex) (hx : NodeW l x) (hy : NodeW l y) (hgx : x.Good) (hgy : y.Good) (hl : l.length ≤ 1000000) : NodeW l (.bin 8 x y) := by
  intro g w nv bs av bv i I hp ha hI hln
  subst hI
  obtain ⟨j, hji, hnd, hax, hay⟩ := ha.bin
  have hi := ha.lt.1
  have hj : ((i - 1 : Nat) : Int) = (i : Int) - 1 := by omega
  have HP := Lib.hid hp
  have HOA := Lib.hid (fun W bs' av' bv' h hl' => poperand_any l x hx hgx g W nv bs' av' bv' j (j : Int) 2 h hax rfl hl' (by decide))
  have HOB := Lib.hid (fun W bs' av' bv' h hl' => poperand_any l y hy hgy g W nv bs' av' bv' (i - 1) ((i : Int) - 1) 3 h hay hj.symm hl' (by decide))
  rw [show ((2 : Nat) : Int) = 2 from rfl] at HOA
  rw [show ((3 : Nat) : Int) = 3 from rfl] at HOB
  have WC : Hid (∀ (W : World) (bs : List UInt8) (av bv : Value), PrAt g W nv l bs av bv → bs.length ≤ 2000000 → Calls Tryz.prog 56 #[.pointer (some ⟨g, 1, none⟩), .string ⟨#[32, 42, 32]⟩] W fun e w' => e = .returned (.tuple #[.int .i64 3, .nilIface]) ∧ Wrote g nv l bs [32, 42, 32] W w') := Lib.hid (fun W bs av bv h hl => wstr_any g W nv l bs [32, 42, 32] av bv h (by simp; omega))
  obtain ⟨c0, _, _, _, _, _, hg⟩ := hp.blk.three'
  have hgne : w.heap.size ≠ g := by omega
  obtain ⟨A, c, rfl, hc⟩ := hp.nodes
  obtain ⟨b, o, rfl, _, hb, hc⟩ := hc (by omega)
  have hat := hc i hi
  rw [List.getElem?_eq_getElem hi] at hnd
  injection hnd with hnd
  rw [hnd] at hat
  obtain ⟨k0, k1, k2, k3, k4⟩ := hat
  simp only at k0 k1 k2 k3 k4
  rw [hj] at k2
  rw [show ((8 : Nat) : Int) = 8 from rfl] at k0
  have hst : str [] = .string ⟨#[]⟩ := rfl
  rw [hst] at k4
  have hT : nodeT fmtI (.bin 8 x y) = parenT (decide (levelK x.kind < 2)) (nodeT fmtI x) ++ ([32, 42, 32] ++ parenT (decide (levelK y.kind < 3)) (nodeT fmtI y)) := rfl
  have HLN : Hid (bs.length + (parenT (decide (levelK x.kind < 2)) (nodeT fmtI x)).length + 3 + (parenT (decide (levelK y.kind < 3)) (nodeT fmtI y)).length ≤ 2000000) := Lib.hid (by rw [hT, List.length_append, List.length_append] at hln; simp only [List.length_cons, List.length_nil] at hln; omega)
  rw [hT]
  generalize parenT (decide (levelK x.kind < 2)) (nodeT fmtI x) = s at *
  generalize parenT (decide (levelK y.kind < 3)) (nodeT fmtI y) = f at *
  have HL := Lib.hid (fun W => plevel_8 W (j : Int) ((i : Int) - 1) 0 ⟨#[]⟩)
  have hi2 : IntKind.i64.wrap ((2 : Int) + 1) = 3 := by kernel_rfl
  clear hp ha hax hay hx hy hgx hgy hc hnd hst hT hln hj
  have hi0 : (0 : Int) ≤ (i : Int) := by omega
  have hil : (i : Int) < (l.length : Int) := by omega
  obtain ⟨wA, hwA⟩ : ∃ wA, wA = w.alloc (.cells #[.int .i64 8, .int .i64 (j : Int), .int .i64 ((i : Int) - 1), .int .i64 0, .string ⟨#[]⟩] 42) := ⟨_, rfl⟩
  have HXA : Hid (Ext w wA) := Lib.hid (by rw [hwA]; exact (Ext.refl w).alloc _)
  have hbA : Blk wA w.heap.size 42 #[.int .i64 8, .int .i64 (j : Int), .int .i64 ((i : Int) - 1), .int .i64 0, .string ⟨#[]⟩] := by rw [hwA]; exact Blk.new w _ _
  have HBA := Lib.hid hbA
  have HPA := Lib.hid (HP.out.keep HXA.out)
  obtain ⟨q0, q1, q2, q3, q4⟩ := hbA.five
  clear hbA
  go_enter Tryz.func36, Tryz.ntmps36
  go_upto_region 2 with fail
  rw [← hwA]
  clear hwA k0 k1 k2 k3 k4 c0
  generalize hq : w.heap.size = q at *
  go_wp2_with fail
  go_region_held3 (fun w' => KW g wA w' ∧ w'.cell? ⟨q, 0, none⟩ = some (.int .i64 8) ∧ w'.cell? ⟨q, 1, none⟩ = some (.int .i64 (j : Int)) ∧ w'.cell? ⟨q, 2, none⟩ = some (.int .i64 ((i : Int) - 1)) ∧ w'.cell? ⟨q, 3, none⟩ = some (.int .i64 0) ∧ w'.cell? ⟨q, 4, none⟩ = some (.string ⟨#[]⟩))
    (first | (exact ⟨KW.of_ext (Ext.refl wA).drew, q0, q1, q2, q3, q4⟩) | (exact keptW HBA.out hgne (by assumption) (by assumption)))
    (first
      | (go_at_call 24; (with_reducible refine (HL.out _).mono ?_); rintro r w5 ⟨rfl, hx5⟩; have HP5 := Lib.hid (HPA.out.keep (Ext.trans (by repeat (first | exact Ext.refl _ | (with_reducible apply Ext.drew) | (with_reducible apply Ext.alloc))) hx5)); have hkx5 := KW.of_ext (g := g) hx5; clear hx5)
      | (go_at_call 58; (refine (HOA.out _ _ _ _ HP5.out (by have := HLN.out; omega)).mono ?_); rintro r w1 ⟨rfl, av1, bv1, hp1, hkw1⟩; have HP1 := Lib.hid hp1; clear hp1))
  all_goals
    have HS1 : Hid (KW g wA w1 ∧ w1.cell? ⟨q, 0, none⟩ = some (.int .i64 8) ∧ w1.cell? ⟨q, 1, none⟩ = some (.int .i64 (j : Int)) ∧ w1.cell? ⟨q, 2, none⟩ = some (.int .i64 ((i : Int) - 1)) ∧ w1.cell? ⟨q, 3, none⟩ = some (.int .i64 0) ∧ w1.cell? ⟨q, 4, none⟩ = some (.string ⟨#[]⟩)) := Lib.hid (by assumption)
    have HK1 := Lib.hid HS1.out.1
    obtain ⟨q0, q1, q2, q3, q4⟩ := HS1.out.2
    go_wp2_with fail
    refine (word_8 _).mono ?_
    rintro r w9 ⟨rfl, rfl⟩
    go_wp2_with fail
    refine (WC.out _ _ _ _ HP1.out (by have := HLN.out; simp; omega)).mono ?_
    rintro r w2 ⟨rfl, av2, bv2, hp2, hkw2⟩
    have HP2 := Lib.hid hp2
    have HK2 := Lib.hid (HK1.out.trans hkw2)
    have HB2 := Lib.hid (HK2.out.blk HBA.out hgne (by decide))
    obtain ⟨q0, q1, q2, q3, q4⟩ := HB2.out.five
    clear hp2 hkw2
    go_wp2_with fail
    go_region_held3 (fun w' => KW g w2 w' ∧ w'.cell? ⟨q, 0, none⟩ = some (.int .i64 8) ∧ w'.cell? ⟨q, 1, none⟩ = some (.int .i64 (j : Int)) ∧ w'.cell? ⟨q, 2, none⟩ = some (.int .i64 ((i : Int) - 1)) ∧ w'.cell? ⟨q, 3, none⟩ = some (.int .i64 0) ∧ w'.cell? ⟨q, 4, none⟩ = some (.string ⟨#[]⟩))
      (first | (exact ⟨KW.of_ext (Ext.refl w2).drew, q0, q1, q2, q3, q4⟩) | (exact keptW HB2.out hgne (by assumption) (by assumption)))
      (first
        | (go_at_call 24; (with_reducible refine (HL.out _).mono ?_); rintro r w5 ⟨rfl, hx5⟩; have HP5 := Lib.hid (HP2.out.keep (Ext.trans (by repeat (first | exact Ext.refl _ | (with_reducible apply Ext.drew) | (with_reducible apply Ext.alloc))) hx5)); have hkx5 := KW.of_ext (g := g) hx5; clear hx5)
        | (go_at_call 58; (refine (HOB.out _ _ _ _ HP5.out (by have := HLN.out; simp; omega)).mono ?_); rintro r w3 ⟨rfl, av3, bv3, hp3, hkw3⟩; have HP3 := Lib.hid hp3; clear hp3))
    all_goals
      have HK3 : Hid (KW g w2 w3) := Lib.hid (And.left (by assumption))
      have HE := Lib.hid (Wrote.mk (HP3.out.as (by simp only [List.append_assoc]; rfl)) (((KW.of_ext HXA.out).trans HK2.out).trans HK3.out) (show s ++ ([32, 42, 32] ++ f) = s ++ ([32, 42, 32] ++ f) from rfl))
      go_wp2_with fail
      go_end0
      exact ⟨rfl, HE.out⟩
set_option maxHeartbeats 1000000 in
set_option maxRecDepth 100000 in
theorem pnode_9 (l : List Nd) (x y : Ex) (hx : NodeW l x) (hy : NodeW l y) (hgx : x.Good) (hgy : y.Good) (hl : l.length ≤ 1000000) : NodeW l (.bin 9 x y) := by
  intro g w nv bs av bv i I hp ha hI hln
  subst hI
  obtain ⟨j, hji, hnd, hax, hay⟩ := ha.bin
  have hi := ha.lt.1
  have hj : ((i - 1 : Nat) : Int) = (i : Int) - 1 := by omega
  have HP := Lib.hid hp
  have HOA := Lib.hid (fun W bs' av' bv' h hl' => poperand_any l x hx hgx g W nv bs' av' bv' j (j : Int) 2 h hax rfl hl' (by decide))
  have HOB := Lib.hid (fun W bs' av' bv' h hl' => poperand_any l y hy hgy g W nv bs' av' bv' (i - 1) ((i : Int) - 1) 3 h hay hj.symm hl' (by decide))
  rw [show ((2 : Nat) : Int) = 2 from rfl] at HOA
  rw [show ((3 : Nat) : Int) = 3 from rfl] at HOB
  have WC : Hid (∀ (W : World) (bs : List UInt8) (av bv : Value), PrAt g W nv l bs av bv → bs.length ≤ 2000000 → Calls Tryz.prog 56 #[.pointer (some ⟨g, 1, none⟩), .string ⟨#[32, 47, 32]⟩] W fun e w' => e = .returned (.tuple #[.int .i64 3, .nilIface]) ∧ Wrote g nv l bs [32, 47, 32] W w') := Lib.hid (fun W bs av bv h hl => wstr_any g W nv l bs [32, 47, 32] av bv h (by simp; omega))
  obtain ⟨c0, _, _, _, _, _, hg⟩ := hp.blk.three'
  have hgne : w.heap.size ≠ g := by omega
  obtain ⟨A, c, rfl, hc⟩ := hp.nodes
  obtain ⟨b, o, rfl, _, hb, hc⟩ := hc (by omega)
  have hat := hc i hi
  rw [List.getElem?_eq_getElem hi] at hnd
  injection hnd with hnd
  rw [hnd] at hat
  obtain ⟨k0, k1, k2, k3, k4⟩ := hat
  simp only at k0 k1 k2 k3 k4
  rw [hj] at k2
  rw [show ((9 : Nat) : Int) = 9 from rfl] at k0
  have hst : str [] = .string ⟨#[]⟩ := rfl
  rw [hst] at k4
  have hT : nodeT fmtI (.bin 9 x y) = parenT (decide (levelK x.kind < 2)) (nodeT fmtI x) ++ ([32, 47, 32] ++ parenT (decide (levelK y.kind < 3)) (nodeT fmtI y)) := rfl
  have HLN : Hid (bs.length + (parenT (decide (levelK x.kind < 2)) (nodeT fmtI x)).length + 3 + (parenT (decide (levelK y.kind < 3)) (nodeT fmtI y)).length ≤ 2000000) := Lib.hid (by rw [hT, List.length_append, List.length_append] at hln; simp only [List.length_cons, List.length_nil] at hln; omega)
  rw [hT]
  generalize parenT (decide (levelK x.kind < 2)) (nodeT fmtI x) = s at *
  generalize parenT (decide (levelK y.kind < 3)) (nodeT fmtI y) = f at *
  have HL := Lib.hid (fun W => plevel_9 W (j : Int) ((i : Int) - 1) 0 ⟨#[]⟩)
  have hi2 : IntKind.i64.wrap ((2 : Int) + 1) = 3 := by kernel_rfl
  clear hp ha hax hay hx hy hgx hgy hc hnd hst hT hln hj
  have hi0 : (0 : Int) ≤ (i : Int) := by omega
  have hil : (i : Int) < (l.length : Int) := by omega
  obtain ⟨wA, hwA⟩ : ∃ wA, wA = w.alloc (.cells #[.int .i64 9, .int .i64 (j : Int), .int .i64 ((i : Int) - 1), .int .i64 0, .string ⟨#[]⟩] 42) := ⟨_, rfl⟩
  have HXA : Hid (Ext w wA) := Lib.hid (by rw [hwA]; exact (Ext.refl w).alloc _)
  have hbA : Blk wA w.heap.size 42 #[.int .i64 9, .int .i64 (j : Int), .int .i64 ((i : Int) - 1), .int .i64 0, .string ⟨#[]⟩] := by rw [hwA]; exact Blk.new w _ _
  have HBA := Lib.hid hbA
  have HPA := Lib.hid (HP.out.keep HXA.out)
  obtain ⟨q0, q1, q2, q3, q4⟩ := hbA.five
  clear hbA
  go_enter Tryz.func36, Tryz.ntmps36
  go_upto_region 2 with fail
  rw [← hwA]
  clear hwA k0 k1 k2 k3 k4 c0
  generalize hq : w.heap.size = q at *
  go_wp2_with fail
  go_region_held3 (fun w' => KW g wA w' ∧ w'.cell? ⟨q, 0, none⟩ = some (.int .i64 9) ∧ w'.cell? ⟨q, 1, none⟩ = some (.int .i64 (j : Int)) ∧ w'.cell? ⟨q, 2, none⟩ = some (.int .i64 ((i : Int) - 1)) ∧ w'.cell? ⟨q, 3, none⟩ = some (.int .i64 0) ∧ w'.cell? ⟨q, 4, none⟩ = some (.string ⟨#[]⟩))
    (first | (exact ⟨KW.of_ext (Ext.refl wA).drew, q0, q1, q2, q3, q4⟩) | (exact keptW HBA.out hgne (by assumption) (by assumption)))
    (first
      | (go_at_call 24; (with_reducible refine (HL.out _).mono ?_); rintro r w5 ⟨rfl, hx5⟩; have HP5 := Lib.hid (HPA.out.keep (Ext.trans (by repeat (first | exact Ext.refl _ | (with_reducible apply Ext.drew) | (with_reducible apply Ext.alloc))) hx5)); have hkx5 := KW.of_ext (g := g) hx5; clear hx5)
      | (go_at_call 58; (refine (HOA.out _ _ _ _ HP5.out (by have := HLN.out; omega)).mono ?_); rintro r w1 ⟨rfl, av1, bv1, hp1, hkw1⟩; have HP1 := Lib.hid hp1; clear hp1))
  all_goals
    have HS1 : Hid (KW g wA w1 ∧ w1.cell? ⟨q, 0, none⟩ = some (.int .i64 9) ∧ w1.cell? ⟨q, 1, none⟩ = some (.int .i64 (j : Int)) ∧ w1.cell? ⟨q, 2, none⟩ = some (.int .i64 ((i : Int) - 1)) ∧ w1.cell? ⟨q, 3, none⟩ = some (.int .i64 0) ∧ w1.cell? ⟨q, 4, none⟩ = some (.string ⟨#[]⟩)) := Lib.hid (by assumption)
    have HK1 := Lib.hid HS1.out.1
    obtain ⟨q0, q1, q2, q3, q4⟩ := HS1.out.2
    go_wp2_with fail
    refine (word_9 _).mono ?_
    rintro r w9 ⟨rfl, rfl⟩
    go_wp2_with fail
    refine (WC.out _ _ _ _ HP1.out (by have := HLN.out; simp; omega)).mono ?_
    rintro r w2 ⟨rfl, av2, bv2, hp2, hkw2⟩
    have HP2 := Lib.hid hp2
    have HK2 := Lib.hid (HK1.out.trans hkw2)
    have HB2 := Lib.hid (HK2.out.blk HBA.out hgne (by decide))
    obtain ⟨q0, q1, q2, q3, q4⟩ := HB2.out.five
    clear hp2 hkw2
    go_wp2_with fail
    go_region_held3 (fun w' => KW g w2 w' ∧ w'.cell? ⟨q, 0, none⟩ = some (.int .i64 9) ∧ w'.cell? ⟨q, 1, none⟩ = some (.int .i64 (j : Int)) ∧ w'.cell? ⟨q, 2, none⟩ = some (.int .i64 ((i : Int) - 1)) ∧ w'.cell? ⟨q, 3, none⟩ = some (.int .i64 0) ∧ w'.cell? ⟨q, 4, none⟩ = some (.string ⟨#[]⟩))
      (first | (exact ⟨KW.of_ext (Ext.refl w2).drew, q0, q1, q2, q3, q4⟩) | (exact keptW HB2.out hgne (by assumption) (by assumption)))
      (first
        | (go_at_call 24; (with_reducible refine (HL.out _).mono ?_); rintro r w5 ⟨rfl, hx5⟩; have HP5 := Lib.hid (HP2.out.keep (Ext.trans (by repeat (first | exact Ext.refl _ | (with_reducible apply Ext.drew) | (with_reducible apply Ext.alloc))) hx5)); have hkx5 := KW.of_ext (g := g) hx5; clear hx5)
        | (go_at_call 58; (refine (HOB.out _ _ _ _ HP5.out (by have := HLN.out; simp; omega)).mono ?_); rintro r w3 ⟨rfl, av3, bv3, hp3, hkw3⟩; have HP3 := Lib.hid hp3; clear hp3))
    all_goals
      have HK3 : Hid (KW g w2 w3) := Lib.hid (And.left (by assumption))
      have HE := Lib.hid (Wrote.mk (HP3.out.as (by simp only [List.append_assoc]; rfl)) (((KW.of_ext HXA.out).trans HK2.out).trans HK3.out) (show s ++ ([32, 47, 32] ++ f) = s ++ ([32, 47, 32] ++ f) from rfl))
      go_wp2_with fail
      go_end0
      exact ⟨rfl, HE.out⟩
end Big
end Go.Proofs.YtgopljllknbelaaGreatDoor
/- Bytes of a text in memory, one of them set. -/
namespace Go.Proofs.YtgopljllknbelaaGreatDoor
namespace Big
open Go.RowKit
theorem RArr.set {w : World} {g o n c i : Nat} {vs : List Value} {u : Value} (h : RArr w (.slice (some ⟨g, o, none⟩) n c) vs) (hi : i < vs.length) :
    RArr (w.setCell ⟨g, o + i, none⟩ u) (.slice (some ⟨g, o, none⟩) n c) (vs.set i u) := by
  obtain ⟨A, c', he, h2, h3, h4⟩ := h
  injection he with he1 he2 he3
  subst he1
  subst he3
  subst he2
  refine ⟨_, c, by rw [List.length_set], by rw [List.length_set]; exact h2, h3, fun hp => ?_⟩
  obtain ⟨b, o', ha, hlt, hc⟩ := h4 (by omega)
  injection ha with ha
  injection ha with ha1 ha2 _
  subst ha1
  subst ha2
  refine ⟨g, o, rfl, by simpa [World.setCell] using hlt, fun j v hj => ?_⟩
  rw [List.getElem?_set] at hj
  by_cases hij : i = j
  · subst hij
    rw [if_pos rfl, if_pos hi] at hj
    injection hj with hj
    subst hj
    exact World.cell?_setCell_same _ _ _ (hc i _ (List.getElem?_eq_getElem hi))
  · rw [if_neg hij] at hj
    rw [World.cell?_setCell_other _ _ _ _ (fun e => hij (by injection e with _ e _; omega))]
    exact hc j v hj
theorem bytesAt_arr (w : World) (l : List UInt8) (c : Nat) (_hl : l.length ≤ 1073741824) (hc : l.length ≤ c) (hm : c ≤ maxLen) : Arr8 (bytesAt w l) (.slice (some ⟨w.heap.size, 0, none⟩) l.length c) l := by
  refine ⟨_, c, by rw [List.length_map], by rw [List.length_map]; exact hc, hm, fun _ => ⟨w.heap.size, 0, rfl, bytesAt_lt w l, fun j u hj => ?_⟩⟩
  have hjl : j < l.length := by
    rcases Nat.lt_or_ge j l.length with h | h
    · exact h
    · rw [List.getElem?_eq_none (by simpa using h)] at hj; cases hj
  rw [map_d8_get hjl] at hj
  injection hj with hj
  subst hj
  rw [Nat.zero_add, bytesAt_cell w l j hjl, byteAt_eq l j hjl]
  rfl
theorem run_bytesAt2 (w : World) (l : List UInt8) (hl : l.length ≤ 1073741824) : ∃ c, (convert 9 65 (str l)).run Tryz.prog w = .ok (.slice (some ⟨w.heap.size, 0, none⟩) l.length c) (bytesAt w l) ∧
    Arr8 (bytesAt w l) (.slice (some ⟨w.heap.size, 0, none⟩) l.length c) l := by
  have := Lib.run_convert_string_bytes (P := Tryz.prog) w 9 65 5 ⟨l.toArray⟩ Tryz.underlying9 Tryz.underlying65 Tryz.underlying5
  rw [size_str] at this
  exact ⟨_, this, bytesAt_arr w l _ hl (grownCap_ge w l.length 0 _) (grownCap_le_maxLen w l.length 0 _ (by unfold maxLen; omega))⟩
theorem Arr8.set {w : World} {g n c i : Nat} {l : List UInt8} {b : UInt8} (h : Arr8 w (.slice (some ⟨g, 0, none⟩) n c) l) (hi : i < l.length) :
    Arr8 (w.setCell ⟨g, i, none⟩ (d8 b)) (.slice (some ⟨g, 0, none⟩) n c) (l.set i b) := by
  have h1 := RArr.set (u := d8 b) h (i := i) (by simpa using hi)
  rw [Nat.zero_add] at h1
  unfold Arr8
  rw [List.map_set]
  exact h1
/-- A row that was there before these bytes was written: they stand. -/
theorem Arr8.kept {w w' wa : World} {g n c B : Nat} {l : List UInt8} {t : TypeId} {u : Value} {us : List Value} (h : Arr8 w (.slice (some ⟨g, 0, none⟩) n c) l) (k : ROwn t B wa u us) (hg : wa.heap.size ≤ g) (hgr : w.grownBy w' (rowOf u)) :
    Arr8 w' (.slice (some ⟨g, 0, none⟩) n c) l := by
  obtain ⟨A, c', he, h2, h3, h4⟩ := h
  injection he with he1 he2 he3
  subst he1
  subst he3
  subst he2
  refine ⟨_, c, rfl, h2, h3, fun hp => ?_⟩
  obtain ⟨b, o, hbo, hlt, hc⟩ := h4 hp
  injection hbo with hbo
  injection hbo with hb ho _
  subst hb
  subst ho
  have hne : some g ≠ rowOf u := by
    obtain ⟨A', c', rfl, k2, k3, k4⟩ := k
    rcases k4 with ⟨_, rfl⟩ | ⟨g', cur', rfl, _, kblk, _, _⟩
    · rcases A' with _ | a <;> simp [rowOf]
    · simp only [rowOf]
      split
      · simp
      · intro he
        injection he with he
        have := kblk.lt
        omega
  exact ⟨g, 0, rfl, Nat.lt_of_lt_of_le hlt hgr.size, fun j v hj => (World.cell?_of_block (w := w) (a := ⟨g, 0 + j, none⟩) (hgr.block g hlt hne)).trans (hc j v hj)⟩
end Big
end Go.Proofs.YtgopljllknbelaaGreatDoor
/- Tokens: they cover their text; joined with spaces they come again. Plain. -/
namespace Go.Proofs.YtgopljllknbelaaGreatDoor
namespace Big
/-- The tokens ts stand in the text x from a on, in order, and only spaces stand between them and behind. -/
def Cov (x : List UInt8) : Nat → List Tok → Prop
  | a, [] => a ≤ x.length ∧ ∀ i, a ≤ i → i < x.length → x[i]? = some 32
  | a, t :: ts => a ≤ t.at_ ∧ t.text ≠ [] ∧ t.at_ + t.text.length ≤ x.length ∧ (x.drop t.at_).take t.text.length = t.text ∧ (∀ i, a ≤ i → i < t.at_ → x[i]? = some 32) ∧ Cov x (t.at_ + t.text.length) ts
theorem Cov.space {x : List UInt8} {a : Nat} {ts : List Tok} (hc : x[a]? = some 32) (h : Cov x (a + 1) ts) : Cov x a ts := by
  cases ts with
  | nil =>
    refine ⟨by have := h.1; omega, fun i h1 h2 => ?_⟩
    rcases Nat.eq_or_lt_of_le h1 with h3 | h3
    · rw [← h3]; exact hc
    · exact h.2 i h3 h2
  | cons t ts =>
    obtain ⟨h1, h2, h3, h4, h5, h6⟩ := h
    refine ⟨by omega, h2, h3, h4, fun i q1 q2 => ?_, h6⟩
    rcases Nat.eq_or_lt_of_le q1 with q3 | q3
    · rw [← q3]; exact hc
    · exact h5 i q3 q2
/-- A token that stands for itself wherever a space or nothing follows. -/
def TokOk (t : Tok) : Prop := ∀ rest : List UInt8, (rest = [] ∨ ∃ r, rest = 32 :: r) → tokLen (t.text ++ rest) = some (t.kind, t.text.length)
theorem run_halt (p : Nat → Bool) (hp : p 32 = false) (m : List UInt8) (rest : List UInt8) (hr : rest = [] ∨ ∃ r, rest = 32 :: r) : runLen p (m.take (runLen p m) ++ rest) = runLen p m := by
  induction m with
  | nil =>
    rcases hr with rfl | ⟨r, rfl⟩
    · rfl
    · show runLen p (32 :: r) = 0
      rw [runLen, if_neg (by rw [show (32 : UInt8).toNat = 32 from rfl, hp]; simp)]
  | cons c t ih =>
    rw [runLen]
    by_cases hc : p c.toNat = true
    · rw [if_pos hc, List.take_succ_cons, List.cons_append, runLen, if_pos hc, ih]
    · rw [if_neg hc]
      rcases hr with rfl | ⟨r, rfl⟩
      · rfl
      · show runLen p (32 :: r) = 0
        rw [runLen, if_neg (by rw [show (32 : UInt8).toNat = 32 from rfl, hp]; simp)]
theorem tokLen_stop {m : List UInt8} {k n : Nat} (h : tokLen m = some (k, n)) : TokOk ⟨k, 0, m.take n⟩ := by
  intro rest hr
  have hn := tokLen_pos h
  have hlen : (m.take n).length = n := by rw [List.length_take]; omega
  simp only
  rw [hlen]
  unfold tokLen at h
  split at h
  · cases h
  · rename_i c t
    obtain ⟨n', rfl⟩ : ∃ n', n = n' + 1 := ⟨n - 1, by omega⟩
    split at h
    · rename_i hc
      split at h
      · rename_i h24
        injection h with h
        injection h with h1 h2
        have h3 := run_halt wordN (by decide) (c :: t) rest hr
        rw [h2] at h3
        rw [List.take_succ_cons, List.cons_append] at h3 ⊢
        unfold tokLen
        simp only
        rw [if_pos hc, h3, if_pos (by omega), h1]
      · cases h
    · rename_i hc
      split at h
      · rename_i hd
        split at h
        · rename_i h7
          injection h with h
          injection h with h1 h2
          have h3 := run_halt numN (by decide) (c :: t) rest hr
          rw [h2] at h3 h7
          have h4 : ((c :: t).take (n' + 1) ++ rest).take (n' + 1) = (c :: t).take (n' + 1) := by
            rw [List.take_append_of_le_length (by omega), List.take_of_length_le (by omega)]
          rw [List.take_succ_cons, List.cons_append] at h3 h4 ⊢
          rw [List.take_succ_cons] at h7
          unfold tokLen
          simp only
          rw [if_neg hc, if_pos hd, h3, h4, if_pos h7, h1]
        · cases h
      · rename_i hd
        split at h
        · rename_i hs
          injection h with h
          injection h with h1 h2
          rw [List.take_succ_cons, List.cons_append]
          unfold tokLen
          simp only
          rw [if_neg hc, if_neg hd, if_pos hs, h1]
          congr 2
        · cases h
theorem TokOk.at {t : Tok} {a : Nat} (h : TokOk t) : TokOk ⟨t.kind, a, t.text⟩ := h
/-- What a scan that ends well has found. -/
theorem scanF_cov (f : Nat) (l : List UInt8) : ∀ (a : Nat) (ts ts' : List Tok) (n : Nat), a ≤ l.length → scanF f l a ts = (ts', n, 0) → n = l.length ∧ ∃ new, ts' = ts ++ new ∧ Cov l a new ∧ ∀ t ∈ new, TokOk t := by
  induction f with
  | zero => intro a ts ts' n _ h; unfold scanF at h; injection h with _ h; injection h with _ h; cases h
  | succ f ih =>
    intro a ts ts' n ha h
    unfold scanF at h
    split at h
    · rename_i h0
      injection h with h1 h2
      injection h2 with h2 _
      exact ⟨h2.symm, [], by rw [List.append_nil, h1], ⟨ha, fun i _ _ => by omega⟩, fun t ht => by cases ht⟩
    · rename_i h0
      split at h
      · rename_i hc
        obtain ⟨h1, new, h2, h3, h4⟩ := ih _ _ _ _ (by omega) h
        exact ⟨h1, new, h2, h3.space hc, h4⟩
      · split at h
        · injection h with _ h; injection h with _ h; cases h
        · rename_i hc _ k n' ht
          have hn := tokLen_pos ht
          rw [List.length_drop] at hn
          obtain ⟨h1, new, h2, h3, h4⟩ := ih _ _ _ _ (by omega) h
          have hlen : ((l.drop a).take n').length = n' := by rw [List.length_take, List.length_drop]; omega
          refine ⟨h1, ⟨k, a, (l.drop a).take n'⟩ :: new, by rw [h2, List.append_assoc]; rfl, ⟨Nat.le_refl _, fun e => ?_, ?_, ?_, fun i h5 h6 => ?_, ?_⟩, fun t ht' => ?_⟩
          · simp only at e
            rw [e, List.length_nil] at hlen
            omega
          · simp only; omega
          · simp only; rw [hlen]
          · simp only at h6; omega
          · simp only; rw [hlen]; exact h3
          · rcases List.mem_cons.1 ht' with rfl | h5
            · exact (tokLen_stop ht).at
            · exact h4 t h5
theorem scanT_cov {l : List UInt8} {ts : List Tok} {n : Nat} (h : scanT l = (ts, n, 0)) : n = l.length ∧ Cov l 0 ts ∧ ∀ t ∈ ts, TokOk t := by
  unfold scanT at h
  split at h
  · injection h with _ h; injection h with _ h; cases h
  · obtain ⟨h1, new, h2, h3, h4⟩ := scanF_cov _ l 0 [] ts n (Nat.zero_le _) h
    rw [List.nil_append] at h2
    rw [h2]
    exact ⟨h1, h3, h4⟩
/-- Tokens joined, each behind the gap g. -/
def joinG (g : List UInt8) : List Tok → List UInt8
  | [] => []
  | t :: ts => g ++ (t.text ++ joinG g ts)
theorem scanGo_spaces (l : List UInt8) (ts : List Tok) (m : Nat) : ∀ (a : Nat) (r : List UInt8), l.drop a = List.replicate m 32 ++ r → scanGo l a ts = scanGo l (a + m) ts := by
  induction m with
  | zero => intro a r _; rfl
  | succ m ih =>
    intro a r h
    have hlt : a < l.length := by
      rcases Nat.lt_or_ge a l.length with h1 | h1
      · exact h1
      · rw [List.drop_eq_nil_of_le h1] at h; cases h
    have h0 : l[a]? = some 32 := by
      have h1 : (l.drop a)[0]? = some 32 := by rw [h]; rfl
      rw [List.getElem?_drop] at h1
      exact h1
    have h2 : l.drop (a + 1) = List.replicate m 32 ++ r := by
      rw [← List.drop_drop, h]; rfl
    rw [scanGo_space hlt h0, ih (a + 1) r h2]
    congr 1
    omega
end Big
end Go.Proofs.YtgopljllknbelaaGreatDoor
