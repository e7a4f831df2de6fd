import Derived.Test.YtoehdoghghpmjaaGreatDoorM16
import Derived.Test.YtoehdoghghpmjaaGreatDoorM17
import Derived.Test.YtoehdoghghpmjaaGreatDoorM7
import Derived.Test.YtoehdoghghpmjaaGreatDoorM15
/- command.read at shape 5. -/
namespace Go.Proofs.YtoehdoghghpmjaaGreatDoor
namespace Big
open Go.RowKit
set_option maxHeartbeats 16000000 in
set_option maxRecDepth 100000 in
theorem cread_5 (w : World) (op : Int) (r : List UInt8) (hl : r.length ≤ 1000000) (hm : MaxV w) (hE : CmdEnv w) (hko : shapeC op = 5) :
    Calls Tryz.prog 30 #[.int .i64 op, str r] w fun e w' => ∃ c' ok, e = .returned (.tuple #[cmdV c', .bool ok]) ∧ ReadRes op r c' ok ∧ Ext w w' := by
  have HOF := Lib.hid (fun W => of_any W op)
  have HWD := Lib.hid (fun W hx => cword_any W r (by omega) (hm.ext (w' := W) hx))
  have e1 := fw_le r
  have e2 := Nat.le_trans (sp_le (rw_ r)) (rw_le r)
  have HWD2 := Lib.hid (fun W hx => cword_any W (sp (rw_ r)) (by omega) (hm.ext (w' := W) hx))
  have e3 := fw_le (sp (rw_ r))
  have e4 := Nat.le_trans (sp_le (rw_ (sp (rw_ r)))) (rw_le (sp (rw_ r)))
  have HNU := Lib.hid (fun W hx => cnumber_any W r (by omega) (hE.ext (w' := W) hx))
  have HNU2 := Lib.hid (fun W hx => cnumber_any W (sp (rw_ r)) (by omega) (hE.ext (w' := W) hx))
  have HRP : Hid (readP op r = _) := Lib.hid (by unfold readP; rfl)
  have HK := Lib.hid (shapeC_le op)
  have HL : Hid (r.length ≤ 1000000 ∧ (fw r).length ≤ 1000000 ∧ (sp (rw_ r)).length ≤ 1000000 ∧ (fw (sp (rw_ r))).length ≤ 1000000 ∧ (sp (rw_ (sp (rw_ r)))).length ≤ 1000000) := Lib.hid (by omega)
  unfold formV at HOF
  simp only at HRP
  generalize nameC op = fn at *
  obtain ⟨k, hk⟩ : ∃ k, k = shapeC op := ⟨_, rfl⟩
  have HKE := Lib.hid hk
  have hk2 : k = 5 := hk.trans hko
  rw [← hk] at HOF HK HRP
  clear hk hko
  generalize writesC op = wr at *
  obtain ⟨f1, hf1⟩ : ∃ x, x = fw r := ⟨_, rfl⟩
  obtain ⟨s1, hs1⟩ : ∃ x, x = sp (rw_ r) := ⟨_, rfl⟩
  rw [← hs1] at HWD2 HNU2 HL HRP HWD
  rw [← hf1] at HWD HL HRP
  obtain ⟨f2, hf2⟩ : ∃ x, x = fw s1 := ⟨_, rfl⟩
  obtain ⟨s2, hs2⟩ : ∃ x, x = sp (rw_ s1) := ⟨_, rfl⟩
  rw [← hf2, ← hs2] at HWD2 HL
  have HF2 := Lib.hid hf2
  have HS2 := Lib.hid hs2
  clear hl hm hE e1 e2 e3 e4 hf1 hs1 hf2 hs2
  go_enter Tryz.func30, Tryz.ntmps30
  go_wp2_with fail
  refine (HOF.out _).mono ?_
  rintro e w2 ⟨rfl, hx⟩
  have ha := ((Blk.new w 31 #[Value.int .i64 0, Value.string ⟨#[]⟩, Value.string ⟨#[]⟩, Value.string ⟨#[]⟩, Value.int .i64 0]).ext ((Ext.refl _).alloc (.cells #[Value.int .i64 op, Value.string ⟨#[]⟩, Value.string ⟨#[]⟩, Value.string ⟨#[]⟩, Value.int .i64 0] 31))).ext hx
  have hc := (Blk.new (w.alloc (.cells #[Value.int .i64 0, Value.string ⟨#[]⟩, Value.string ⟨#[]⟩, Value.string ⟨#[]⟩, Value.int .i64 0] 31)) 31 #[Value.int .i64 op, Value.string ⟨#[]⟩, Value.string ⟨#[]⟩, Value.string ⟨#[]⟩, Value.int .i64 0]).ext hx
  have hgs : (w.alloc (.cells #[Value.int .i64 0, Value.string ⟨#[]⟩, Value.string ⟨#[]⟩, Value.string ⟨#[]⟩, Value.int .i64 0] 31)).heap.size = w.heap.size + 1 := by simp
  rw [hgs] at hc
  have HX : Hid (Ext w w2) := Lib.hid ((((Ext.refl w).alloc _).alloc _).trans hx)
  have HGA : Hid (w.heap.size ≤ w.heap.size) := Lib.hid (Nat.le_refl _)
  have HGC : Hid (w.heap.size ≤ w.heap.size + 1) := Lib.hid (Nat.le_succ _)
  have nac : w.heap.size ≠ w.heap.size + 1 := by omega
  obtain ⟨gc, hgc⟩ : ∃ gc, gc = w.heap.size + 1 := ⟨_, rfl⟩
  rw [← hgc] at HGC nac hc ⊢
  obtain ⟨ga, hga⟩ : ∃ ga, ga = w.heap.size := ⟨_, rfl⟩
  have HGA : Hid (w.heap.size ≤ ga) := Lib.hid (by omega)
  rw [← hga] at nac ha ⊢
  clear hga hgc hgs hx HOF
  have HA := Lib.hid ha
  have HC := Lib.hid hc
  clear ha hc
  clear HK
  subst hk2
  have hfd := form_1 fn 5 wr
  have a0 := HA.out.cell 0
  have e0 := HA.out.frozen 0
  have p0 := HC.out.cell 0
  have q0 := HC.out.frozen 0
  have a1 := HA.out.cell 1
  have e1 := HA.out.frozen 1
  have p1 := HC.out.cell 1
  have q1 := HC.out.frozen 1
  have a2 := HA.out.cell 2
  have e2 := HA.out.frozen 2
  have p2 := HC.out.cell 2
  have q2 := HC.out.frozen 2
  have a3 := HA.out.cell 3
  have e3 := HA.out.frozen 3
  have p3 := HC.out.cell 3
  have q3 := HC.out.frozen 3
  have a4 := HA.out.cell 4
  have e4 := HA.out.frozen 4
  have p4 := HC.out.cell 4
  have q4 := HC.out.frozen 4
  have az := HA.out.lt
  have pz := HC.out.lt
  go_wp2_with fail
  refine (HWD.out _ HX.out).mono ?_
  rintro e w3 ⟨rfl, hx3⟩
  clear a0 a1 a2 a3 a4 e0 e1 e2 e3 e4 p0 p1 p2 p3 p4 q0 q1 q2 q3 q4 az pz
  have HAb := Lib.hid (HA.out.ext hx3)
  have HCb := Lib.hid (HC.out.ext hx3)
  have HXb := Lib.hid (HX.out.trans hx3)
  clear hx3
  have HAc : Hid (Blk (w3.setCell ⟨gc, 1, none⟩ (str f1)) ga 31 #[Value.int .i64 0, Value.string ⟨#[]⟩, Value.string ⟨#[]⟩, Value.string ⟨#[]⟩, Value.int .i64 0]) := Lib.hid (HAb.out.far nac _)
  have HCc : Hid (Blk (w3.setCell ⟨gc, 1, none⟩ (str f1)) gc 31 #[Value.int .i64 op, str f1, Value.string ⟨#[]⟩, Value.string ⟨#[]⟩, Value.int .i64 0]) := Lib.hid (by have := HCb.out.set_ 1 (str f1); simpa using this)
  have HXc : Hid (Ext w (w3.setCell ⟨gc, 1, none⟩ (str f1))) := Lib.hid (HXb.out.setCell (p := ⟨gc, 1, none⟩) HGC.out (str f1))
  have a0 := HAb.out.cell 0
  have e0 := HAb.out.frozen 0
  have p0 := HCb.out.cell 0
  have q0 := HCb.out.frozen 0
  have a1 := HAb.out.cell 1
  have e1 := HAb.out.frozen 1
  have p1 := HCb.out.cell 1
  have q1 := HCb.out.frozen 1
  have a2 := HAb.out.cell 2
  have e2 := HAb.out.frozen 2
  have p2 := HCb.out.cell 2
  have q2 := HCb.out.frozen 2
  have a3 := HAb.out.cell 3
  have e3 := HAb.out.frozen 3
  have p3 := HCb.out.cell 3
  have q3 := HCb.out.frozen 3
  have a4 := HAb.out.cell 4
  have e4 := HAb.out.frozen 4
  have p4 := HCb.out.cell 4
  have q4 := HCb.out.frozen 4
  have az := HAb.out.lt
  have pz := HCb.out.lt
  go_upto_region 15 with fail
  clear a0 a1 a2 a3 a4 e0 e1 e2 e3 e4 p0 p1 p2 p3 p4 q0 q1 q2 q3 q4 az pz
  generalize w3.setCell ⟨gc, 1, none⟩ (str f1) = w4 at *
  have a0 := HAc.out.cell 0
  have e0 := HAc.out.frozen 0
  have p0 := HCc.out.cell 0
  have q0 := HCc.out.frozen 0
  have a1 := HAc.out.cell 1
  have e1 := HAc.out.frozen 1
  have p1 := HCc.out.cell 1
  have q1 := HCc.out.frozen 1
  have a2 := HAc.out.cell 2
  have e2 := HAc.out.frozen 2
  have p2 := HCc.out.cell 2
  have q2 := HCc.out.frozen 2
  have a3 := HAc.out.cell 3
  have e3 := HAc.out.frozen 3
  have p3 := HCc.out.cell 3
  have q3 := HCc.out.frozen 3
  have a4 := HAc.out.cell 4
  have e4 := HAc.out.frozen 4
  have p4 := HCc.out.cell 4
  have q4 := HCc.out.frozen 4
  have az := HAc.out.lt
  have pz := HCc.out.lt
  go_wp2_with fail
  refine (HWD2.out _ HXc.out).mono ?_
  rintro e w5 ⟨rfl, hx5⟩
  clear a0 a1 a2 a3 a4 e0 e1 e2 e3 e4 p0 p1 p2 p3 p4 q0 q1 q2 q3 q4 az pz
  have HAe := Lib.hid (HAc.out.ext hx5)
  have HCe := Lib.hid (HCc.out.ext hx5)
  have HXe := Lib.hid (HXc.out.trans hx5)
  clear hx5
  have HAf : Hid (Blk (w5.setCell ⟨gc, 3, none⟩ (str s2)) ga 31 #[Value.int .i64 0, Value.string ⟨#[]⟩, Value.string ⟨#[]⟩, Value.string ⟨#[]⟩, Value.int .i64 0]) := Lib.hid (HAe.out.far nac _)
  have HCf : Hid (Blk (w5.setCell ⟨gc, 3, none⟩ (str s2)) gc 31 #[Value.int .i64 op, str f1, Value.string ⟨#[]⟩, str s2, Value.int .i64 0]) := Lib.hid (by have := HCe.out.set_ 3 (str s2); simpa using this)
  have HXf : Hid (Ext w (w5.setCell ⟨gc, 3, none⟩ (str s2))) := Lib.hid (HXe.out.setCell (p := ⟨gc, 3, none⟩) HGC.out (str s2))
  by_cases hr : f2 = [61]
  · have hr' : (f2 == [61]) = true := by rw [hr]; rfl
    have HRE := Lib.hid hr
    clear hr
    have a0 := HAe.out.cell 0
    have e0 := HAe.out.frozen 0
    have p0 := HCe.out.cell 0
    have q0 := HCe.out.frozen 0
    have a1 := HAe.out.cell 1
    have e1 := HAe.out.frozen 1
    have p1 := HCe.out.cell 1
    have q1 := HCe.out.frozen 1
    have a2 := HAe.out.cell 2
    have e2 := HAe.out.frozen 2
    have p2 := HCe.out.cell 2
    have q2 := HCe.out.frozen 2
    have a3 := HAe.out.cell 3
    have e3 := HAe.out.frozen 3
    have p3 := HCe.out.cell 3
    have q3 := HCe.out.frozen 3
    have a4 := HAe.out.cell 4
    have e4 := HAe.out.frozen 4
    have p4 := HCe.out.cell 4
    have q4 := HCe.out.frozen 4
    have az := HAe.out.lt
    have pz := HCe.out.lt
    go_upto_region 17 with fail
    clear a0 a1 a2 a3 a4 e0 e1 e2 e3 e4 p0 p1 p2 p3 p4 q0 q1 q2 q3 q4 az pz
    generalize w5.setCell ⟨gc, 3, none⟩ (str s2) = w6 at *
    have HVK : Hid (∀ W : World, Calls Tryz.prog 15 #[.agg #[Value.int .i64 op, str f1, Value.string ⟨#[]⟩, str s2, Value.int .i64 0]] W fun e w' => e = .returned (.bool (validC ⟨op, f1, [], s2, 0⟩)) ∧ Ext W w') := Lib.hid (fun W => cvalid_any W ⟨op, f1, [], s2, 0⟩ (by have := HL.out; simp only; omega) (by have := HL.out; simp only [List.length_nil]; omega) (by have := HL.out; simp only; omega))
    obtain ⟨vb, hvb⟩ : ∃ vb, vb = validC ⟨op, f1, [], s2, 0⟩ := ⟨_, rfl⟩
    have HVB := Lib.hid hvb
    rw [← hvb] at HVK
    clear hvb
    have a0 := HAf.out.cell 0
    have e0 := HAf.out.frozen 0
    have p0 := HCf.out.cell 0
    have q0 := HCf.out.frozen 0
    have a1 := HAf.out.cell 1
    have e1 := HAf.out.frozen 1
    have p1 := HCf.out.cell 1
    have q1 := HCf.out.frozen 1
    have a2 := HAf.out.cell 2
    have e2 := HAf.out.frozen 2
    have p2 := HCf.out.cell 2
    have q2 := HCf.out.frozen 2
    have a3 := HAf.out.cell 3
    have e3 := HAf.out.frozen 3
    have p3 := HCf.out.cell 3
    have q3 := HCf.out.frozen 3
    have a4 := HAf.out.cell 4
    have e4 := HAf.out.frozen 4
    have p4 := HCf.out.cell 4
    have q4 := HCf.out.frozen 4
    have az := HAf.out.lt
    have pz := HCf.out.lt
    go_region_held3 (fun W => Ext w W ∧ W.cell? ⟨gc, 0, none⟩ = some (Value.int .i64 op) ∧ W.cell? ⟨gc, 1, none⟩ = some (str f1) ∧ W.cell? ⟨gc, 2, none⟩ = some (Value.string ⟨#[]⟩) ∧ W.cell? ⟨gc, 3, none⟩ = some (str s2) ∧ W.cell? ⟨gc, 4, none⟩ = some (Value.int .i64 0) ∧ W.cell? ⟨ga, 0, none⟩ = some (was W ga 0) ∧ W.cell? ⟨ga, 1, none⟩ = some (was W ga 1) ∧ W.cell? ⟨ga, 2, none⟩ = some (was W ga 2) ∧ W.cell? ⟨ga, 3, none⟩ = some (was W ga 3) ∧ W.cell? ⟨ga, 4, none⟩ = some (was W ga 4) ∧ W.frozen? ⟨ga, 0, none⟩ = false ∧ W.frozen? ⟨ga, 1, none⟩ = false ∧ W.frozen? ⟨ga, 2, none⟩ = false ∧ W.frozen? ⟨ga, 3, none⟩ = false ∧ W.frozen? ⟨ga, 4, none⟩ = false)
      (first | (exact ⟨HXf.out.drew, p0, p1, p2, p3, p4, was_some (w := w6.drew) a0, was_some (w := w6.drew) a1, was_some (w := w6.drew) a2, was_some (w := w6.drew) a3, was_some (w := w6.drew) a4, e0, e1, e2, e3, e4⟩) | (exact keptR (by assumption) (by assumption)) | (exact keptR_set (by assumption) HGA.out nac.symm))
      (first | (go_at_call 15; refine (HVK.out _).mono ?_; rintro e w9 ⟨rfl, hx9⟩))
    go_wp2_with fail
    rename_i hS
    obtain ⟨r0, r1, r2, r3, r4⟩ := final5 hS.2.2.2.2.2.2.1 hS.2.2.2.2.2.2.2.1 hS.2.2.2.2.2.2.2.2.1 hS.2.2.2.2.2.2.2.2.2.1 hS.2.2.2.2.2.2.2.2.2.2.1
    refine bodyPost_ret (v := .tuple #[.agg #[Value.int .i64 op, str f1, Value.string ⟨#[]⟩, str s2, Value.int .i64 0], .bool vb]) (by simp [results, Tryz.results30, go_sem, r0, r1, r2, r3, r4]) rfl ?_
    refine ⟨⟨op, f1, [], s2, 0⟩, vb, rfl, readRes_of ?_, hS.1⟩
    rw [HRP.out]
    simp [HVB.out, ← HF2.out, ← HS2.out, HRE.out]
  · have hr' : (f2 == [61]) = false := by rw [beq_eq_false_iff_ne]; exact hr
    have HRE := Lib.hid hr
    clear hr
    have a0 := HAe.out.cell 0
    have e0 := HAe.out.frozen 0
    have p0 := HCe.out.cell 0
    have q0 := HCe.out.frozen 0
    have a1 := HAe.out.cell 1
    have e1 := HAe.out.frozen 1
    have p1 := HCe.out.cell 1
    have q1 := HCe.out.frozen 1
    have a2 := HAe.out.cell 2
    have e2 := HAe.out.frozen 2
    have p2 := HCe.out.cell 2
    have q2 := HCe.out.frozen 2
    have a3 := HAe.out.cell 3
    have e3 := HAe.out.frozen 3
    have p3 := HCe.out.cell 3
    have q3 := HCe.out.frozen 3
    have a4 := HAe.out.cell 4
    have e4 := HAe.out.frozen 4
    have p4 := HCe.out.cell 4
    have q4 := HCe.out.frozen 4
    have az := HAe.out.lt
    have pz := HCe.out.lt
    go_upto_region 17 with fail
    clear a0 a1 a2 a3 a4 e0 e1 e2 e3 e4 p0 p1 p2 p3 p4 q0 q1 q2 q3 q4 az pz
    generalize w5.setCell ⟨gc, 3, none⟩ (str s2) = w6 at *
    have a0 := HAf.out.cell 0
    have e0 := HAf.out.frozen 0
    have p0 := HCf.out.cell 0
    have q0 := HCf.out.frozen 0
    have a1 := HAf.out.cell 1
    have e1 := HAf.out.frozen 1
    have p1 := HCf.out.cell 1
    have q1 := HCf.out.frozen 1
    have a2 := HAf.out.cell 2
    have e2 := HAf.out.frozen 2
    have p2 := HCf.out.cell 2
    have q2 := HCf.out.frozen 2
    have a3 := HAf.out.cell 3
    have e3 := HAf.out.frozen 3
    have p3 := HCf.out.cell 3
    have q3 := HCf.out.frozen 3
    have a4 := HAf.out.cell 4
    have e4 := HAf.out.frozen 4
    have p4 := HCf.out.cell 4
    have q4 := HCf.out.frozen 4
    have az := HAf.out.lt
    have pz := HCf.out.lt
    go_region
    go_wp2_with fail
    obtain ⟨r0, r1, r2, r3, r4⟩ := five_set HAf.out (Value.int .i64 op) (str f1) (Value.string ⟨#[]⟩) (str s2) (Value.int .i64 0)
    refine bodyPost_ret (v := .tuple #[.agg #[Value.int .i64 op, str f1, Value.string ⟨#[]⟩, str s2, Value.int .i64 0], .bool false]) (by simp [results, Tryz.results30, go_sem, r0, r1, r2, r3, r4]) rfl ?_
    refine ⟨⟨op, f1, [], s2, 0⟩, false, rfl, readRes_of ?_, ?_⟩
    rotate_left
    · first | exact (((((HXf.out.setCell (p := ⟨ga, 0, none⟩) HGA.out _).setCell (p := ⟨ga, 1, none⟩) HGA.out _).setCell (p := ⟨ga, 2, none⟩) HGA.out _).setCell (p := ⟨ga, 3, none⟩) HGA.out _).setCell (p := ⟨ga, 4, none⟩) HGA.out _).drew | exact (((((HXf.out.drew.setCell (p := ⟨ga, 0, none⟩) HGA.out _).setCell (p := ⟨ga, 1, none⟩) HGA.out _).setCell (p := ⟨ga, 2, none⟩) HGA.out _).setCell (p := ⟨ga, 3, none⟩) HGA.out _).setCell (p := ⟨ga, 4, none⟩) HGA.out _) | exact (((((HXf.out.setCell (p := ⟨ga, 0, none⟩) HGA.out _).setCell (p := ⟨ga, 1, none⟩) HGA.out _).setCell (p := ⟨ga, 2, none⟩) HGA.out _).setCell (p := ⟨ga, 3, none⟩) HGA.out _).setCell (p := ⟨ga, 4, none⟩) HGA.out _)
    rw [HRP.out]
    simp [← HF2.out, HRE.out]
end Big
end Go.Proofs.YtoehdoghghpmjaaGreatDoor
/- command.read. -/
namespace Go.Proofs.YtoehdoghghpmjaaGreatDoor
namespace Big
open Go.RowKit
theorem cread_any (w : World) (op : Int) (r : List UInt8) (hl : r.length ≤ 1000000) (hm : MaxV w) (hE : CmdEnv w) :
    Calls Tryz.prog 30 #[.int .i64 op, str r] w fun e w' => ∃ c' ok, e = .returned (.tuple #[cmdV c', .bool ok]) ∧ ReadRes op r c' ok ∧ Ext w w' := by
  have hk : shapeC op = 0 ∨ shapeC op = 1 ∨ shapeC op = 2 ∨ shapeC op = 3 ∨ shapeC op = 4 ∨ shapeC op = 5 := by have := shapeC_le op; omega
  rcases hk with h | h | h | h | h | h
  · exact cread_0 w op r hl hm hE h
  · exact cread_1 w op r hl hm hE h
  · exact cread_2 w op r hl hm hE h
  · exact cread_3 w op r hl hm hE h
  · exact cread_4 w op r hl hm hE h
  · exact cread_5 w op r hl hm hE h
end Big
end Go.Proofs.YtoehdoghghpmjaaGreatDoor
/- command.Parse. -/
namespace Go.Proofs.YtoehdoghghpmjaaGreatDoor
namespace Big
open Go.RowKit
theorem opOf_at {k : Nat} (hk : k < 22) (hne : cmdNames.getD k [] ≠ []) : opOf (cmdNames.getD k []) = k :=
  (show ∀ k : Fin 22, cmdNames.getD k.val [] ≠ [] → opOf (cmdNames.getD k.val []) = k.val by decide +kernel) ⟨k, hk⟩ hne
theorem opOf_spec {t : List UInt8} (h : opOf t ≠ 0) : opOf t < 22 ∧ cmdNames.getD (opOf t) [] = t := by
  unfold opOf at h ⊢
  split at h
  · exact absurd rfl h
  · rename_i h1
    split at h
    · rename_i h2
      rw [if_neg h1, if_pos h2]
      have h3 := List.idxOf_lt_length_of_mem h2
      refine ⟨h3, ?_⟩
      rw [List.getD_eq_getElem?_getD, List.getElem?_eq_getElem h3, Option.getD_some, List.getElem_idxOf]
    · exact absurd rfl h
theorem five_set_alloc {w : World} {g : Nat} {t : TypeId} {a b c d e : Value} (h : Blk w g t #[a, b, c, d, e]) (o : Obj) (a' b' c' d' e' : Value) :
    ((((((w.setCell ⟨g, 0, none⟩ a').setCell ⟨g, 1, none⟩ b').setCell ⟨g, 2, none⟩ c').setCell ⟨g, 3, none⟩ d').setCell ⟨g, 4, none⟩ e').alloc o).cell? ⟨g, 0, none⟩ = some a' ∧ ((((((w.setCell ⟨g, 0, none⟩ a').setCell ⟨g, 1, none⟩ b').setCell ⟨g, 2, none⟩ c').setCell ⟨g, 3, none⟩ d').setCell ⟨g, 4, none⟩ e').alloc o).cell? ⟨g, 1, none⟩ = some b' ∧ ((((((w.setCell ⟨g, 0, none⟩ a').setCell ⟨g, 1, none⟩ b').setCell ⟨g, 2, none⟩ c').setCell ⟨g, 3, none⟩ d').setCell ⟨g, 4, none⟩ e').alloc o).cell? ⟨g, 2, none⟩ = some c' ∧ ((((((w.setCell ⟨g, 0, none⟩ a').setCell ⟨g, 1, none⟩ b').setCell ⟨g, 2, none⟩ c').setCell ⟨g, 3, none⟩ d').setCell ⟨g, 4, none⟩ e').alloc o).cell? ⟨g, 3, none⟩ = some d' ∧ ((((((w.setCell ⟨g, 0, none⟩ a').setCell ⟨g, 1, none⟩ b').setCell ⟨g, 2, none⟩ c').setCell ⟨g, 3, none⟩ d').setCell ⟨g, 4, none⟩ e').alloc o).cell? ⟨g, 4, none⟩ = some e' := by
  have h5 := (((((h.set_ 0 a').set_ 1 b').set_ 2 c').set_ 3 d').set_ 4 e').alloc o
  exact ⟨h5.cell 0, h5.cell 1, h5.cell 2, h5.cell 3, h5.cell 4⟩
def cmdOf : Option Cmd → Cmd
  | none => ⟨0, [], [], [], 0⟩
  | some c => c
theorem lineC_long {s : List UInt8} (h : 500 < s.length) : lineC s = (none, 7) := by unfold lineC; rw [if_pos h]
theorem lineC_none {s : List UInt8} (h : ¬ 500 < s.length) (h2 : opOf (fw (bareT s)) = 0 ∨ readP (opOf (fw (bareT s))) (sp (rw_ (bareT s))) = none) : lineC s = (none, 6) := by
  unfold lineC
  rw [if_neg h]
  by_cases h0 : opOf (fw (bareT s)) = 0
  · rw [if_pos h0]
  · rw [if_neg h0, h2.resolve_left h0]
theorem lineC_some {s : List UInt8} {c : Cmd} (h : ¬ 500 < s.length) (h0 : opOf (fw (bareT s)) ≠ 0) (h2 : readP (opOf (fw (bareT s))) (sp (rw_ (bareT s))) = some c) : lineC s = (some c, 0) := by
  unfold lineC
  rw [if_neg h, if_neg h0, h2]
set_option maxHeartbeats 4000000 in
set_option maxRecDepth 100000 in
theorem cparse_any (w : World) (s : List UInt8) (hs : s.length ≤ 1000000) (hm : MaxV w) (hE : CmdEnv w) :
    Calls Tryz.prog 12 #[str s] w fun e w' => e = .returned (.tuple #[cmdV (cmdOf (lineC s).1), .int .i64 ((lineC s).2 : Int)]) ∧ Ext w w' := by
  unfold cmdV
  rcases Nat.lt_or_ge 500 s.length with h5 | h5
  · have HR : Hid (lineC s = (none, 7)) := Lib.hid (lineC_long h5)
    rw [HR.out]
    have h5' : (500 : Int) < (s.length : Int) := by omega
    simp only [cmdOf]
    clear h5 hs hm hE HR
    go_enter Tryz.func12, Tryz.ntmps12
    go_wp2_with fail
    refine bodyPost_ret (v := .tuple #[.agg #[.int .i64 0, .string ⟨#[]⟩, .string ⟨#[]⟩, .string ⟨#[]⟩, .int .i64 0], .int .i64 7]) (by simp [results, Tryz.results12, go_sem]) rfl ?_
    exact ⟨rfl, (Ext.refl w).alloc _⟩
  have h5' : ¬ (500 : Int) < (s.length : Int) := by omega
  have HNO := Lib.hid (fun h => lineC_none (s := s) (by omega) h)
  have HYE := Lib.hid (fun c h0 h => lineC_some (s := s) (c := c) (by omega) h0 h)
  have e0 := bareT_le s
  have e1 := fw_le (bareT s)
  have e2 := Nat.le_trans (sp_le (rw_ (bareT s))) (rw_le (bareT s))
  have HT := Lib.hid (fun W => trimS_any W s (by omega))
  have HWD := Lib.hid (fun W hx => cword_any W (bareT s) (by omega) (hm.ext (w' := W) hx))
  have HRD := Lib.hid (fun W hx op => cread_any W op (sp (rw_ (bareT s))) (by omega) (hm.ext (w' := W) hx) (hE.ext hx))
  generalize sp (rw_ (bareT s)) = rest at *
  generalize fw (bareT s) = nm at *
  generalize bareT s = bt at *
  generalize lineC s = R at *
  clear h5 hs hm hE e0 e1 e2
  go_enter Tryz.func12, Tryz.ntmps12
  go_wp2_with fail
  refine (HT.out _).mono ?_
  rintro e w1 ⟨rfl, hx1⟩
  have HA1 := Lib.hid ((Blk.new w 31 #[Value.int .i64 0, Value.string ⟨#[]⟩, Value.string ⟨#[]⟩, Value.string ⟨#[]⟩, Value.int .i64 0]).ext hx1)
  have HX1 : Hid (Ext w w1) := Lib.hid (((Ext.refl w).alloc _).trans hx1)
  have HGA : Hid (w.heap.size ≤ w.heap.size) := Lib.hid (Nat.le_refl _)
  obtain ⟨ga, hga⟩ : ∃ ga, ga = w.heap.size := ⟨_, rfl⟩
  have HGA : Hid (w.heap.size ≤ ga) := Lib.hid (by omega)
  rw [← hga] at HA1 ⊢
  clear hx1 hga
  go_wp2_with fail
  refine (HWD.out _ HX1.out).mono ?_
  rintro e w2 ⟨rfl, hx2⟩
  have HA2 := Lib.hid (HA1.out.ext hx2)
  have HX2 := Lib.hid (HX1.out.trans hx2)
  clear hx2 HA1 HX1
  go_wp2_with fail
  refine (forms_any _).mono ?_
  rintro e w3 ⟨g, rfl, hf, hx3, _⟩
  have HA3 := Lib.hid (HA2.out.ext hx3)
  have HX3 := Lib.hid (HX2.out.trans hx3)
  have HF3 := Lib.hid hf
  clear hx3 hf HA2 HX2
  go_wp2_with fail
  go_loopw [22] (fun s22 wr => ∃ k : Nat, k ≤ 22 ∧ s22 = .int .i64 (k : Int) ∧ Ext w3 wr ∧ Hid (opOf nm = 0 ∨ k ≤ opOf nm ∨ readP (opOf nm) rest = none)) (fun s22 _ => 22 - (intOf s22).toNat)
  case atStart => exact ⟨0, by omega, rfl, Ext.refl _, Lib.hid (.inr (.inl (Nat.zero_le _)))⟩
  case round =>
    obtain ⟨k, hk, rfl, hxr, HI⟩ := hrel
    have HAr := Lib.hid (HA3.out.ext hxr)
    have HXr := Lib.hid (HX3.out.trans hxr)
    have HR3 := Lib.hid hxr
    have HFr := Lib.hid (HF3.out.ext hxr)
    clear hxr
    by_cases hlt : k < 22
    · have hki : (k : Int) < 22 := by omega
      obtain ⟨q0, q1, q2⟩ := HFr.out.2 k hlt
      obtain ⟨fn, hfn⟩ : ∃ fn, cmdNames.getD k [] = fn := ⟨_, rfl⟩
      have HFN := Lib.hid hfn
      rw [hfn] at q0
      generalize cmdShapes.getD k 0 = sh at *
      generalize cmdWrites.getD k false = wt at *
      have hz := HFr.out.1
      clear hfn
      cases h1 : fn == nm
      · have HI2 : Hid (opOf nm = 0 ∨ k + 1 ≤ opOf nm ∨ readP (opOf nm) rest = none) := Lib.hid (by
          rcases HI.out with h | h | h
          · exact .inl h
          · by_cases h0 : opOf nm = 0
            · exact .inl h0
            · right; left
              have h2 := (opOf_spec h0).2
              have h3 : opOf nm ≠ k := fun he => by
                rw [he, HFN.out] at h2
                rw [h2] at h1
                simp at h1
              omega
          · exact .inr (.inr h))
        have HXS := Lib.hid (HR3.out.alloc (.cells #[str fn, .int .i64 (sh : Int), .bool wt] 61))
        go_wp2_with fail
        go_roundw
        case rel => exact ⟨k + 1, by omega, by go_num, HXS.out, HI2⟩
        case measure => simp [intOf]; omega
      cases h2 : nm == []
      · have hne : nm ≠ [] := by intro he; rw [he] at h2; simp at h2
        have hfe : fn = nm := by simpa using h1
        have HOP : Hid (opOf nm = k) := Lib.hid (by have := opOf_at hlt (by rw [HFN.out, hfe]; exact hne); rw [HFN.out, hfe] at this; exact this)
        have HXS := Lib.hid (HR3.out.alloc (.cells #[str fn, .int .i64 (sh : Int), .bool wt] 61))
        have hk0 : k ≠ 0 := by
          intro he
          have h3 := HFN.out
          rw [he] at h3
          exact hne (by rw [← hfe, ← h3]; rfl)
        have HK0 := Lib.hid hk0
        clear hne hfe hk0
        go_wp2_with fail
        refine (HRD.out _ (HX3.out.trans HXS.out) (k : Int)).mono ?_
        rintro e w5 ⟨c', ok, rfl, hrr, hx5⟩
        have HRR := Lib.hid hrr
        have HX5 := Lib.hid (HXS.out.trans hx5)
        have HA5 := Lib.hid (HA3.out.ext HX5.out)
        obtain ⟨co, cn, cot, ct, cnn⟩ := c'
        unfold cmdV
        clear hrr hx5
        cases ok
        · have HI2 : Hid (opOf nm = 0 ∨ k + 1 ≤ opOf nm ∨ readP (opOf nm) rest = none) := Lib.hid (by
            right; right
            rw [HOP.out]
            cases hp : readP (k : Int) rest with
            | none => rfl
            | some c => have := (HRR.out.1 c hp).1; cases this)
          have HXT := Lib.hid (HX5.out.alloc (.cells #[.int .i64 co, str cn, str cot, str ct, .int .i64 cnn] 31))
          go_wp2_with fail
          go_roundw
          case rel => exact ⟨k + 1, by omega, by go_num, HXT.out, HI2⟩
          case measure => simp [intOf]; omega
        · have HRS : Hid (R = (some ⟨co, cn, cot, ct, cnn⟩, 0)) := Lib.hid (by
            cases hp : readP (k : Int) rest with
            | none => have := HRR.out.2 hp; cases this
            | some c =>
              have := (HRR.out.1 c hp).2
              rw [this]
              exact HYE.out c (by rw [HOP.out]; exact HK0.out) (by rw [HOP.out]; exact hp))
          have HAT := Lib.hid (HA5.out.ext ((Ext.refl w5).alloc (.cells #[.int .i64 co, str cn, str cot, str ct, .int .i64 cnn] 31)))
          have HXT := Lib.hid ((HX3.out.trans HX5.out).alloc (.cells #[.int .i64 co, str cn, str cot, str ct, .int .i64 cnn] 31))
          have a0 := HA5.out.cell 0
          have a1 := HA5.out.cell 1
          have a2 := HA5.out.cell 2
          have a3 := HA5.out.cell 3
          have a4 := HA5.out.cell 4
          have b0 := HA5.out.frozen 0
          have b1 := HA5.out.frozen 1
          have b2 := HA5.out.frozen 2
          have b3 := HA5.out.frozen 3
          have b4 := HA5.out.frozen 4
          have az := HA5.out.lt
          go_wp2_with fail
          obtain ⟨r0, r1, r2, r3, r4⟩ := five_set_alloc HA5.out (.cells #[.int .i64 co, str cn, str cot, str ct, .int .i64 cnn] 31) (.int .i64 co) (str cn) (str cot) (str ct) (.int .i64 cnn)
          refine bodyPost_ret (v := .tuple #[.agg #[.int .i64 co, str cn, str cot, str ct, .int .i64 cnn], .int .i64 0]) (by simp [results, Tryz.results12, go_sem, r0, r1, r2, r3, r4]) rfl ?_
          rw [HRS.out]
          exact ⟨rfl, ((((((HX3.out.trans HX5.out).setCell (p := ⟨ga, 0, none⟩) HGA.out _).setCell (p := ⟨ga, 1, none⟩) HGA.out _).setCell (p := ⟨ga, 2, none⟩) HGA.out _).setCell (p := ⟨ga, 3, none⟩) HGA.out _).setCell (p := ⟨ga, 4, none⟩) HGA.out _).alloc _⟩
      · have HI2 : Hid (opOf nm = 0 ∨ k + 1 ≤ opOf nm ∨ readP (opOf nm) rest = none) := Lib.hid (by
          have : nm = [] := by simpa using h2
          rw [this]
          exact .inl rfl)
        have HXS := Lib.hid (HR3.out.alloc (.cells #[str fn, .int .i64 (sh : Int), .bool wt] 61))
        go_wp2_with fail
        go_roundw
        case rel => exact ⟨k + 1, by omega, by go_num, HXS.out, HI2⟩
        case measure => simp [intOf]; omega
    · obtain rfl : k = 22 := by omega
      have HRS : Hid (R = (none, 6)) := Lib.hid (HNO.out (by
        rcases HI.out with h | h | h
        · exact .inl h
        · by_cases h0 : opOf nm = 0
          · exact .inl h0
          · have := (opOf_spec h0).1; omega
        · exact .inr h))
      have a0 := HAr.out.cell 0
      have a1 := HAr.out.cell 1
      have a2 := HAr.out.cell 2
      have a3 := HAr.out.cell 3
      have a4 := HAr.out.cell 4
      have b0 := HAr.out.frozen 0
      have b1 := HAr.out.frozen 1
      have b2 := HAr.out.frozen 2
      have b3 := HAr.out.frozen 3
      have b4 := HAr.out.frozen 4
      have az := HAr.out.lt
      go_wp2_with fail
      obtain ⟨r0, r1, r2, r3, r4⟩ := five_set HAr.out (.int .i64 0) (.string ⟨#[]⟩) (.string ⟨#[]⟩) (.string ⟨#[]⟩) (.int .i64 0)
      refine bodyPost_ret (v := .tuple #[.agg #[.int .i64 0, .string ⟨#[]⟩, .string ⟨#[]⟩, .string ⟨#[]⟩, .int .i64 0], .int .i64 6]) (by simp [results, Tryz.results12, go_sem, r0, r1, r2, r3, r4]) rfl ?_
      rw [HRS.out]
      exact ⟨rfl, ((((HXr.out.setCell (p := ⟨ga, 0, none⟩) HGA.out _).setCell (p := ⟨ga, 1, none⟩) HGA.out _).setCell (p := ⟨ga, 2, none⟩) HGA.out _).setCell (p := ⟨ga, 3, none⟩) HGA.out _).setCell (p := ⟨ga, 4, none⟩) HGA.out _⟩
end Big
end Go.Proofs.YtoehdoghghpmjaaGreatDoor
/- command.Format. -/
namespace Go.Proofs.YtoehdoghghpmjaaGreatDoor
namespace Big
open Go.RowKit
theorem validC_n {c : Cmd} (h : validC c = true) (hk : shapeC c.op = 2 ∨ shapeC c.op = 4) : 0 ≤ c.n ∧ c.n ≤ 9999 := by
  unfold validC at h
  rw [if_pos hk] at h
  simp only [Bool.and_eq_true, decide_eq_true_eq] at h
  exact h.2
theorem nameC_le (op : Int) : (nameC op).length ≤ 10 := by
  unfold nameC
  split
  · rename_i h
    obtain ⟨k, rfl⟩ := Int.eq_ofNat_of_zero_le h.1
    rw [Int.toNat_natCast]
    exact (show ∀ k : Fin 22, (cmdNames.getD k.val []).length ≤ 10 by decide +kernel) ⟨k, by omega⟩
  · simp
set_option maxHeartbeats 8000000 in
set_option maxRecDepth 100000 in
theorem cformat_any (w : World) (c : Cmd) (h1 : c.name.length ≤ 1000000) (h2 : c.other.length ≤ 1000000) (h3 : c.text.length ≤ 1000000) (hE : CmdEnv w) :
    Calls Tryz.prog 17 #[cmdV c] w fun e w' => e = .returned (str (formatC c)) ∧ Ext w w' := by
  have HVL := Lib.hid (fun W => cvalid_any W c (by omega) (by omega) (by omega))
  have HO := Lib.hid (fun W => of_any W c.op)
  have HK := Lib.hid (shapeC_le c.op)
  have HF : Hid (formatC c = _) := Lib.hid (by unfold formatC; rfl)
  have hfl := nameC_le c.op
  have HNN := Lib.hid (fun h hk => validC_n (c := c) h hk)
  obtain ⟨op, nm, ot, tx, n⟩ := c
  unfold cmdV at HVL ⊢
  unfold formV at HO
  simp only at HVL HO HK HF HNN h1 h2 h3 hfl ⊢
  have HIT := Lib.hid (fun (hn : 0 ≤ n ∧ n ≤ 9999) W hx => itoa_any W n (by omega) (by omega) (hE.ext (w' := W) hx))
  have HDS := Lib.hid (fun (hn : 0 ≤ n ∧ n ≤ 9999) => dec_small (n := n.toNat) (by omega))
  generalize validC ⟨op, nm, ot, tx, n⟩ = vb at *
  generalize formatC ⟨op, nm, ot, tx, n⟩ = ft at *
  generalize nameC op = fn at *
  generalize shapeC op = k at *
  generalize writesC op = wr at *
  have HL : Hid (fn.length ≤ 10 ∧ nm.length ≤ 1000000 ∧ ot.length ≤ 1000000 ∧ tx.length ≤ 1000000) := Lib.hid ⟨hfl, h1, h2, h3⟩
  clear h1 h2 h3 hE hfl
  cases vb
  · have HF0 : Hid (ft = []) := Lib.hid (by rw [HF.out]; rfl)
    go_enter Tryz.func17, Tryz.ntmps17
    go_wp2_with fail
    refine (HVL.out _).mono ?_
    rintro e w1 ⟨rfl, hx⟩
    have HX := Lib.hid (((Ext.refl w).alloc (.cells #[Value.int .i64 op, str nm, str ot, str tx, Value.int .i64 n] 31)).trans hx)
    clear hx
    go_wp2_with fail
    go_ret
    rw [HF0.out]
    exact ⟨rfl, HX.out⟩
  go_enter Tryz.func17, Tryz.ntmps17
  go_wp2_with fail
  refine (HVL.out _).mono ?_
  rintro e w1 ⟨rfl, hx⟩
  have hbk := (Blk.new w 31 #[Value.int .i64 op, str nm, str ot, str tx, Value.int .i64 n]).ext hx
  have HX1 := Lib.hid (((Ext.refl w).alloc (.cells #[Value.int .i64 op, str nm, str ot, str tx, Value.int .i64 n] 31)).trans hx)
  have hc0 := hbk.cell 0
  have HBK := Lib.hid hbk
  clear hx hbk
  go_wp2_with fail
  refine (HO.out _).mono ?_
  rintro e w2 ⟨rfl, hx2⟩
  have HBB := Lib.hid ((HBK.out.ext hx2).alloc (.cells #[str fn, Value.int .i64 (k : Int), Value.bool wr] 61))
  have HBF := Lib.hid (Blk.new w2 61 #[str fn, Value.int .i64 (k : Int), Value.bool wr])
  have HX := Lib.hid ((HX1.out.trans hx2).alloc (.cells #[str fn, Value.int .i64 (k : Int), Value.bool wr] 61))
  clear hx2 hc0 HBK HX1 HO HVL
  generalize hgb : w.heap.size = gb at *
  clear hgb
  go_upto_region 4 with fail
  generalize w2.alloc (.cells #[str fn, Value.int .i64 (k : Int), Value.bool wr] 61) = w3 at *
  generalize w2.heap.size = gf at *
  have hk : k = 0 ∨ k = 1 ∨ k = 2 ∨ k = 3 ∨ k = 4 ∨ k = 5 := by have := HK.out; omega
  clear HK
  rcases hk with rfl | rfl | rfl | rfl | rfl | rfl
  · have HFK : Hid (ft = _) := Lib.hid HF.out
    clear HF
    have HFE : Hid (ft = fn) := Lib.hid (by rw [HFK.out] <;> simp)
    have b0 := HBB.out.cell 0
    have b1 := HBB.out.cell 1
    have b2 := HBB.out.cell 2
    have b3 := HBB.out.cell 3
    have b4 := HBB.out.cell 4
    have f0 := HBF.out.cell 0
    have f1 := HBF.out.cell 1
    have f2 := HBF.out.cell 2
    have bz := HBB.out.lt
    have fz := HBF.out.lt
    go_wp2_with fail
    go_ret
    rw [HFE.out]
    exact ⟨rfl, HX.out⟩
  · have HFK : Hid (ft = _) := Lib.hid HF.out
    clear HF
    obtain ⟨x0, hx0⟩ : ∃ x, fn ++ ([32] : List UInt8) = x := ⟨_, rfl⟩
    have l0 : x0.length = (fn).length + (([32] : List UInt8)).length := by rw [← hx0, List.length_append]
    have a0 : ∀ W : World, (binOp .add 9 (str fn) (.string ⟨#[32]⟩)).run Tryz.prog W = .ok (str x0) W := fun W => by rw [← hx0]; exact run_add_str _ _ (by have := HL.out; simp only [List.length_cons, List.length_nil] at *; omega) W
    obtain ⟨x1, hx1⟩ : ∃ x, x0 ++ nm = x := ⟨_, rfl⟩
    have l1 : x1.length = (x0).length + (nm).length := by rw [← hx1, List.length_append]
    have a1 : ∀ W : World, (binOp .add 9 (str x0) (str nm)).run Tryz.prog W = .ok (str x1) W := fun W => by rw [← hx1]; exact run_add_str _ _ (by have := HL.out; simp only [List.length_cons, List.length_nil] at *; omega) W
    have HFE : Hid (ft = x1) := Lib.hid (by rw [HFK.out, ← hx1, ← hx0] <;> simp)
    clear hx0 l0 hx1 l1
    have b0 := HBB.out.cell 0
    have b1 := HBB.out.cell 1
    have b2 := HBB.out.cell 2
    have b3 := HBB.out.cell 3
    have b4 := HBB.out.cell 4
    have f0 := HBF.out.cell 0
    have f1 := HBF.out.cell 1
    have f2 := HBF.out.cell 2
    have bz := HBB.out.lt
    have fz := HBF.out.lt
    go_wp2_with fail
    go_ret
    rw [HFE.out]
    exact ⟨rfl, HX.out⟩
  · have HFK : Hid (ft = _) := Lib.hid HF.out
    clear HF
    have hnn := HNN.out trivial (by simp)
    have HNZ := Lib.hid hnn
    obtain ⟨dd, hdd⟩ : ∃ dd, dd = dec n.toNat := ⟨_, rfl⟩
    have hdl := HDS.out hnn
    rw [← hdd] at hdl HFK
    have HDI : Hid (Lib.itoa n = dd) := Lib.hid (by rw [hdd]; exact itoa_dec hnn.1)
    clear hdd hnn
    obtain ⟨x0, hx0⟩ : ∃ x, fn ++ ([32] : List UInt8) = x := ⟨_, rfl⟩
    have l0 : x0.length = (fn).length + (([32] : List UInt8)).length := by rw [← hx0, List.length_append]
    have a0 : ∀ W : World, (binOp .add 9 (str fn) (.string ⟨#[32]⟩)).run Tryz.prog W = .ok (str x0) W := fun W => by rw [← hx0]; exact run_add_str _ _ (by have := HL.out; simp only [List.length_cons, List.length_nil] at *; omega) W
    obtain ⟨x1, hx1⟩ : ∃ x, x0 ++ nm = x := ⟨_, rfl⟩
    have l1 : x1.length = (x0).length + (nm).length := by rw [← hx1, List.length_append]
    have a1 : ∀ W : World, (binOp .add 9 (str x0) (str nm)).run Tryz.prog W = .ok (str x1) W := fun W => by rw [← hx1]; exact run_add_str _ _ (by have := HL.out; simp only [List.length_cons, List.length_nil] at *; omega) W
    obtain ⟨x2, hx2⟩ : ∃ x, x1 ++ ([32] : List UInt8) = x := ⟨_, rfl⟩
    have l2 : x2.length = (x1).length + (([32] : List UInt8)).length := by rw [← hx2, List.length_append]
    have a2 : ∀ W : World, (binOp .add 9 (str x1) (.string ⟨#[32]⟩)).run Tryz.prog W = .ok (str x2) W := fun W => by rw [← hx2]; exact run_add_str _ _ (by have := HL.out; simp only [List.length_cons, List.length_nil] at *; omega) W
    obtain ⟨x3, hx3⟩ : ∃ x, x2 ++ dd = x := ⟨_, rfl⟩
    have l3 : x3.length = (x2).length + (dd).length := by rw [← hx3, List.length_append]
    have a3 : ∀ W : World, (binOp .add 9 (str x2) (str dd)).run Tryz.prog W = .ok (str x3) W := fun W => by rw [← hx3]; exact run_add_str _ _ (by have := HL.out; simp only [List.length_cons, List.length_nil] at *; omega) W
    have HFE : Hid (ft = x3) := Lib.hid (by rw [HFK.out, ← hx3, ← hx2, ← hx1, ← hx0] <;> simp)
    clear hx0 l0 hx1 l1 hx2 l2 hx3 l3
    have b0 := HBB.out.cell 0
    have b1 := HBB.out.cell 1
    have b2 := HBB.out.cell 2
    have b3 := HBB.out.cell 3
    have b4 := HBB.out.cell 4
    have f0 := HBF.out.cell 0
    have f1 := HBF.out.cell 1
    have f2 := HBF.out.cell 2
    have bz := HBB.out.lt
    have fz := HBF.out.lt
    go_upto_region 8 with fail
    go_region_held3 (fun W => Ext w3 W ∧ W.cell? ⟨gf, 0, none⟩ = some (str fn) ∧ W.cell? ⟨gb, 1, none⟩ = some (str nm) ∧ W.cell? ⟨gb, 4, none⟩ = some (Value.int .i64 n))
      (first | (exact kept3_drew ⟨f0, b1, b4⟩) | (exact kept3 (by assumption) (by assumption)))
      (first | (go_at_call 41; refine (HIT.out HNZ.out _ (HX.out.trans (And.left (by assumption)))).mono ?_; rw [HDI.out]; rintro e w8 ⟨rfl, hx8⟩))
    all_goals
      go_wp2_with fail
      go_ret
      rw [HFE.out]
      exact ⟨rfl, HX.out.trans (And.left (by assumption))⟩
  · have HFK : Hid (ft = _) := Lib.hid HF.out
    clear HF
    obtain ⟨x0, hx0⟩ : ∃ x, fn ++ ([32] : List UInt8) = x := ⟨_, rfl⟩
    have l0 : x0.length = (fn).length + (([32] : List UInt8)).length := by rw [← hx0, List.length_append]
    have a0 : ∀ W : World, (binOp .add 9 (str fn) (.string ⟨#[32]⟩)).run Tryz.prog W = .ok (str x0) W := fun W => by rw [← hx0]; exact run_add_str _ _ (by have := HL.out; simp only [List.length_cons, List.length_nil] at *; omega) W
    obtain ⟨x1, hx1⟩ : ∃ x, x0 ++ nm = x := ⟨_, rfl⟩
    have l1 : x1.length = (x0).length + (nm).length := by rw [← hx1, List.length_append]
    have a1 : ∀ W : World, (binOp .add 9 (str x0) (str nm)).run Tryz.prog W = .ok (str x1) W := fun W => by rw [← hx1]; exact run_add_str _ _ (by have := HL.out; simp only [List.length_cons, List.length_nil] at *; omega) W
    obtain ⟨x2, hx2⟩ : ∃ x, x1 ++ ([32] : List UInt8) = x := ⟨_, rfl⟩
    have l2 : x2.length = (x1).length + (([32] : List UInt8)).length := by rw [← hx2, List.length_append]
    have a2 : ∀ W : World, (binOp .add 9 (str x1) (.string ⟨#[32]⟩)).run Tryz.prog W = .ok (str x2) W := fun W => by rw [← hx2]; exact run_add_str _ _ (by have := HL.out; simp only [List.length_cons, List.length_nil] at *; omega) W
    obtain ⟨x3, hx3⟩ : ∃ x, x2 ++ ot = x := ⟨_, rfl⟩
    have l3 : x3.length = (x2).length + (ot).length := by rw [← hx3, List.length_append]
    have a3 : ∀ W : World, (binOp .add 9 (str x2) (str ot)).run Tryz.prog W = .ok (str x3) W := fun W => by rw [← hx3]; exact run_add_str _ _ (by have := HL.out; simp only [List.length_cons, List.length_nil] at *; omega) W
    have HFE : Hid (ft = x3) := Lib.hid (by rw [HFK.out, ← hx3, ← hx2, ← hx1, ← hx0] <;> simp)
    clear hx0 l0 hx1 l1 hx2 l2 hx3 l3
    have b0 := HBB.out.cell 0
    have b1 := HBB.out.cell 1
    have b2 := HBB.out.cell 2
    have b3 := HBB.out.cell 3
    have b4 := HBB.out.cell 4
    have f0 := HBF.out.cell 0
    have f1 := HBF.out.cell 1
    have f2 := HBF.out.cell 2
    have bz := HBB.out.lt
    have fz := HBF.out.lt
    go_wp2_with fail
    go_ret
    rw [HFE.out]
    exact ⟨rfl, HX.out⟩
  · have HFK : Hid (ft = _) := Lib.hid HF.out
    clear HF
    have hnn := HNN.out trivial (by simp)
    have HNZ := Lib.hid hnn
    obtain ⟨dd, hdd⟩ : ∃ dd, dd = dec n.toNat := ⟨_, rfl⟩
    have hdl := HDS.out hnn
    rw [← hdd] at hdl HFK
    have HDI : Hid (Lib.itoa n = dd) := Lib.hid (by rw [hdd]; exact itoa_dec hnn.1)
    clear hdd hnn
    obtain ⟨x0, hx0⟩ : ∃ x, fn ++ ([32] : List UInt8) = x := ⟨_, rfl⟩
    have l0 : x0.length = (fn).length + (([32] : List UInt8)).length := by rw [← hx0, List.length_append]
    have a0 : ∀ W : World, (binOp .add 9 (str fn) (.string ⟨#[32]⟩)).run Tryz.prog W = .ok (str x0) W := fun W => by rw [← hx0]; exact run_add_str _ _ (by have := HL.out; simp only [List.length_cons, List.length_nil] at *; omega) W
    obtain ⟨x1, hx1⟩ : ∃ x, x0 ++ dd = x := ⟨_, rfl⟩
    have l1 : x1.length = (x0).length + (dd).length := by rw [← hx1, List.length_append]
    have a1 : ∀ W : World, (binOp .add 9 (str x0) (str dd)).run Tryz.prog W = .ok (str x1) W := fun W => by rw [← hx1]; exact run_add_str _ _ (by have := HL.out; simp only [List.length_cons, List.length_nil] at *; omega) W
    have HFE : Hid (ft = x1) := Lib.hid (by rw [HFK.out, ← hx1, ← hx0] <;> simp)
    clear hx0 l0 hx1 l1
    have b0 := HBB.out.cell 0
    have b1 := HBB.out.cell 1
    have b2 := HBB.out.cell 2
    have b3 := HBB.out.cell 3
    have b4 := HBB.out.cell 4
    have f0 := HBF.out.cell 0
    have f1 := HBF.out.cell 1
    have f2 := HBF.out.cell 2
    have bz := HBB.out.lt
    have fz := HBF.out.lt
    go_upto_region 12 with fail
    go_region_held3 (fun W => Ext w3 W ∧ W.cell? ⟨gf, 0, none⟩ = some (str fn) ∧ W.cell? ⟨gb, 1, none⟩ = some (str nm) ∧ W.cell? ⟨gb, 4, none⟩ = some (Value.int .i64 n))
      (first | (exact kept3_drew ⟨f0, b1, b4⟩) | (exact kept3 (by assumption) (by assumption)))
      (first | (go_at_call 41; refine (HIT.out HNZ.out _ (HX.out.trans (And.left (by assumption)))).mono ?_; rw [HDI.out]; rintro e w8 ⟨rfl, hx8⟩))
    all_goals
      go_wp2_with fail
      go_ret
      rw [HFE.out]
      exact ⟨rfl, HX.out.trans (And.left (by assumption))⟩
  · have HFK : Hid (ft = _) := Lib.hid HF.out
    clear HF
    obtain ⟨x0, hx0⟩ : ∃ x, fn ++ ([32] : List UInt8) = x := ⟨_, rfl⟩
    have l0 : x0.length = (fn).length + (([32] : List UInt8)).length := by rw [← hx0, List.length_append]
    have a0 : ∀ W : World, (binOp .add 9 (str fn) (.string ⟨#[32]⟩)).run Tryz.prog W = .ok (str x0) W := fun W => by rw [← hx0]; exact run_add_str _ _ (by have := HL.out; simp only [List.length_cons, List.length_nil] at *; omega) W
    obtain ⟨x1, hx1⟩ : ∃ x, x0 ++ nm = x := ⟨_, rfl⟩
    have l1 : x1.length = (x0).length + (nm).length := by rw [← hx1, List.length_append]
    have a1 : ∀ W : World, (binOp .add 9 (str x0) (str nm)).run Tryz.prog W = .ok (str x1) W := fun W => by rw [← hx1]; exact run_add_str _ _ (by have := HL.out; simp only [List.length_cons, List.length_nil] at *; omega) W
    obtain ⟨x2, hx2⟩ : ∃ x, x1 ++ ([32, 61, 32] : List UInt8) = x := ⟨_, rfl⟩
    have l2 : x2.length = (x1).length + (([32, 61, 32] : List UInt8)).length := by rw [← hx2, List.length_append]
    have a2 : ∀ W : World, (binOp .add 9 (str x1) (.string ⟨#[32, 61, 32]⟩)).run Tryz.prog W = .ok (str x2) W := fun W => by rw [← hx2]; exact run_add_str _ _ (by have := HL.out; simp only [List.length_cons, List.length_nil] at *; omega) W
    obtain ⟨x3, hx3⟩ : ∃ x, x2 ++ tx = x := ⟨_, rfl⟩
    have l3 : x3.length = (x2).length + (tx).length := by rw [← hx3, List.length_append]
    have a3 : ∀ W : World, (binOp .add 9 (str x2) (str tx)).run Tryz.prog W = .ok (str x3) W := fun W => by rw [← hx3]; exact run_add_str _ _ (by have := HL.out; simp only [List.length_cons, List.length_nil] at *; omega) W
    have HFE : Hid (ft = x3) := Lib.hid (by rw [HFK.out, ← hx3, ← hx2, ← hx1, ← hx0] <;> simp)
    clear hx0 l0 hx1 l1 hx2 l2 hx3 l3
    have b0 := HBB.out.cell 0
    have b1 := HBB.out.cell 1
    have b2 := HBB.out.cell 2
    have b3 := HBB.out.cell 3
    have b4 := HBB.out.cell 4
    have f0 := HBF.out.cell 0
    have f1 := HBF.out.cell 1
    have f2 := HBF.out.cell 2
    have bz := HBB.out.lt
    have fz := HBF.out.lt
    go_wp2_with fail
    go_ret
    rw [HFE.out]
    exact ⟨rfl, HX.out⟩
end Big
end Go.Proofs.YtoehdoghghpmjaaGreatDoor
