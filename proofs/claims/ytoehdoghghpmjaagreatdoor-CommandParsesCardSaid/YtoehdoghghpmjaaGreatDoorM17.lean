import Derived.Test.YtoehdoghghpmjaaGreatDoorM16
/- command.read at shape 1. -/
namespace Go.Proofs.YtoehdoghghpmjaaGreatDoor
namespace Big
open Go.RowKit
set_option maxHeartbeats 16000000 in
set_option maxRecDepth 100000 in
theorem cread_1 (w : World) (op : Int) (r : List UInt8) (hl : r.length ≤ 1000000) (hm : MaxV w) (hE : CmdEnv w) (hko : shapeC op = 1) :
    Calls Tryz.prog 30 #[.int .i64 op, str r] w fun e w' => ∃ c' ok, e = .returned (.tuple #[cmdV c', .bool ok]) ∧ ReadRes op r c' ok ∧ Ext w w' := by
  have HOF := Lib.hid (fun W => of_any W op)
  have HWD := Lib.hid (fun W hx => cword_any W r (by omega) (hm.ext (w' := W) hx))
  have e1 := fw_le r
  have e2 := Nat.le_trans (sp_le (rw_ r)) (rw_le r)
  have HWD2 := Lib.hid (fun W hx => cword_any W (sp (rw_ r)) (by omega) (hm.ext (w' := W) hx))
  have e3 := fw_le (sp (rw_ r))
  have e4 := Nat.le_trans (sp_le (rw_ (sp (rw_ r)))) (rw_le (sp (rw_ r)))
  have HNU := Lib.hid (fun W hx => cnumber_any W r (by omega) (hE.ext (w' := W) hx))
  have HNU2 := Lib.hid (fun W hx => cnumber_any W (sp (rw_ r)) (by omega) (hE.ext (w' := W) hx))
  have HRP : Hid (readP op r = _) := Lib.hid (by unfold readP; rfl)
  have HK := Lib.hid (shapeC_le op)
  have HL : Hid (r.length ≤ 1000000 ∧ (fw r).length ≤ 1000000 ∧ (sp (rw_ r)).length ≤ 1000000 ∧ (fw (sp (rw_ r))).length ≤ 1000000 ∧ (sp (rw_ (sp (rw_ r)))).length ≤ 1000000) := Lib.hid (by omega)
  unfold formV at HOF
  simp only at HRP
  generalize nameC op = fn at *
  obtain ⟨k, hk⟩ : ∃ k, k = shapeC op := ⟨_, rfl⟩
  have HKE := Lib.hid hk
  have hk2 : k = 1 := hk.trans hko
  rw [← hk] at HOF HK HRP
  clear hk hko
  generalize writesC op = wr at *
  obtain ⟨f1, hf1⟩ : ∃ x, x = fw r := ⟨_, rfl⟩
  obtain ⟨s1, hs1⟩ : ∃ x, x = sp (rw_ r) := ⟨_, rfl⟩
  rw [← hs1] at HWD2 HNU2 HL HRP HWD
  rw [← hf1] at HWD HL HRP
  obtain ⟨f2, hf2⟩ : ∃ x, x = fw s1 := ⟨_, rfl⟩
  obtain ⟨s2, hs2⟩ : ∃ x, x = sp (rw_ s1) := ⟨_, rfl⟩
  rw [← hf2, ← hs2] at HWD2 HL
  have HF2 := Lib.hid hf2
  have HS2 := Lib.hid hs2
  clear hl hm hE e1 e2 e3 e4 hf1 hs1 hf2 hs2
  go_enter Tryz.func30, Tryz.ntmps30
  go_wp2_with fail
  refine (HOF.out _).mono ?_
  rintro e w2 ⟨rfl, hx⟩
  have ha := ((Blk.new w 31 #[Value.int .i64 0, Value.string ⟨#[]⟩, Value.string ⟨#[]⟩, Value.string ⟨#[]⟩, Value.int .i64 0]).ext ((Ext.refl _).alloc (.cells #[Value.int .i64 op, Value.string ⟨#[]⟩, Value.string ⟨#[]⟩, Value.string ⟨#[]⟩, Value.int .i64 0] 31))).ext hx
  have hc := (Blk.new (w.alloc (.cells #[Value.int .i64 0, Value.string ⟨#[]⟩, Value.string ⟨#[]⟩, Value.string ⟨#[]⟩, Value.int .i64 0] 31)) 31 #[Value.int .i64 op, Value.string ⟨#[]⟩, Value.string ⟨#[]⟩, Value.string ⟨#[]⟩, Value.int .i64 0]).ext hx
  have hgs : (w.alloc (.cells #[Value.int .i64 0, Value.string ⟨#[]⟩, Value.string ⟨#[]⟩, Value.string ⟨#[]⟩, Value.int .i64 0] 31)).heap.size = w.heap.size + 1 := by simp
  rw [hgs] at hc
  have HX : Hid (Ext w w2) := Lib.hid ((((Ext.refl w).alloc _).alloc _).trans hx)
  have HGA : Hid (w.heap.size ≤ w.heap.size) := Lib.hid (Nat.le_refl _)
  have HGC : Hid (w.heap.size ≤ w.heap.size + 1) := Lib.hid (Nat.le_succ _)
  have nac : w.heap.size ≠ w.heap.size + 1 := by omega
  obtain ⟨gc, hgc⟩ : ∃ gc, gc = w.heap.size + 1 := ⟨_, rfl⟩
  rw [← hgc] at HGC nac hc ⊢
  obtain ⟨ga, hga⟩ : ∃ ga, ga = w.heap.size := ⟨_, rfl⟩
  have HGA : Hid (w.heap.size ≤ ga) := Lib.hid (by omega)
  rw [← hga] at nac ha ⊢
  clear hga hgc hgs hx HOF
  have HA := Lib.hid ha
  have HC := Lib.hid hc
  clear ha hc
  clear HK
  subst hk2
  have hfd := form_1 fn 1 wr
  have a0 := HA.out.cell 0
  have e0 := HA.out.frozen 0
  have p0 := HC.out.cell 0
  have q0 := HC.out.frozen 0
  have a1 := HA.out.cell 1
  have e1 := HA.out.frozen 1
  have p1 := HC.out.cell 1
  have q1 := HC.out.frozen 1
  have a2 := HA.out.cell 2
  have e2 := HA.out.frozen 2
  have p2 := HC.out.cell 2
  have q2 := HC.out.frozen 2
  have a3 := HA.out.cell 3
  have e3 := HA.out.frozen 3
  have p3 := HC.out.cell 3
  have q3 := HC.out.frozen 3
  have a4 := HA.out.cell 4
  have e4 := HA.out.frozen 4
  have p4 := HC.out.cell 4
  have q4 := HC.out.frozen 4
  have az := HA.out.lt
  have pz := HC.out.lt
  go_wp2_with fail
  refine (HWD.out _ HX.out).mono ?_
  rintro e w3 ⟨rfl, hx3⟩
  clear a0 a1 a2 a3 a4 e0 e1 e2 e3 e4 p0 p1 p2 p3 p4 q0 q1 q2 q3 q4 az pz
  have HAb := Lib.hid (HA.out.ext hx3)
  have HCb := Lib.hid (HC.out.ext hx3)
  have HXb := Lib.hid (HX.out.trans hx3)
  clear hx3
  have HAc : Hid (Blk (w3.setCell ⟨gc, 1, none⟩ (str f1)) ga 31 #[Value.int .i64 0, Value.string ⟨#[]⟩, Value.string ⟨#[]⟩, Value.string ⟨#[]⟩, Value.int .i64 0]) := Lib.hid (HAb.out.far nac _)
  have HCc : Hid (Blk (w3.setCell ⟨gc, 1, none⟩ (str f1)) gc 31 #[Value.int .i64 op, str f1, Value.string ⟨#[]⟩, Value.string ⟨#[]⟩, Value.int .i64 0]) := Lib.hid (by have := HCb.out.set_ 1 (str f1); simpa using this)
  have HXc : Hid (Ext w (w3.setCell ⟨gc, 1, none⟩ (str f1))) := Lib.hid (HXb.out.setCell (p := ⟨gc, 1, none⟩) HGC.out (str f1))
  by_cases hr : s1 = []
  · subst hr
    have a0 := HAb.out.cell 0
    have e0 := HAb.out.frozen 0
    have p0 := HCb.out.cell 0
    have q0 := HCb.out.frozen 0
    have a1 := HAb.out.cell 1
    have e1 := HAb.out.frozen 1
    have p1 := HCb.out.cell 1
    have q1 := HCb.out.frozen 1
    have a2 := HAb.out.cell 2
    have e2 := HAb.out.frozen 2
    have p2 := HCb.out.cell 2
    have q2 := HCb.out.frozen 2
    have a3 := HAb.out.cell 3
    have e3 := HAb.out.frozen 3
    have p3 := HCb.out.cell 3
    have q3 := HCb.out.frozen 3
    have a4 := HAb.out.cell 4
    have e4 := HAb.out.frozen 4
    have p4 := HCb.out.cell 4
    have q4 := HCb.out.frozen 4
    have az := HAb.out.lt
    have pz := HCb.out.lt
    go_upto_region 17 with fail
    clear a0 a1 a2 a3 a4 e0 e1 e2 e3 e4 p0 p1 p2 p3 p4 q0 q1 q2 q3 q4 az pz
    generalize w3.setCell ⟨gc, 1, none⟩ (str f1) = w4 at *
    have HVK : Hid (∀ W : World, Calls Tryz.prog 15 #[.agg #[Value.int .i64 op, str f1, Value.string ⟨#[]⟩, Value.string ⟨#[]⟩, Value.int .i64 0]] W fun e w' => e = .returned (.bool (validC ⟨op, f1, [], [], 0⟩)) ∧ Ext W w') := Lib.hid (fun W => cvalid_any W ⟨op, f1, [], [], 0⟩ (by have := HL.out; simp only; omega) (by have := HL.out; simp only [List.length_nil]; omega) (by have := HL.out; simp only [List.length_nil]; omega))
    obtain ⟨vb, hvb⟩ : ∃ vb, vb = validC ⟨op, f1, [], [], 0⟩ := ⟨_, rfl⟩
    have HVB := Lib.hid hvb
    rw [← hvb] at HVK
    clear hvb
    have a0 := HAc.out.cell 0
    have e0 := HAc.out.frozen 0
    have p0 := HCc.out.cell 0
    have q0 := HCc.out.frozen 0
    have a1 := HAc.out.cell 1
    have e1 := HAc.out.frozen 1
    have p1 := HCc.out.cell 1
    have q1 := HCc.out.frozen 1
    have a2 := HAc.out.cell 2
    have e2 := HAc.out.frozen 2
    have p2 := HCc.out.cell 2
    have q2 := HCc.out.frozen 2
    have a3 := HAc.out.cell 3
    have e3 := HAc.out.frozen 3
    have p3 := HCc.out.cell 3
    have q3 := HCc.out.frozen 3
    have a4 := HAc.out.cell 4
    have e4 := HAc.out.frozen 4
    have p4 := HCc.out.cell 4
    have q4 := HCc.out.frozen 4
    have az := HAc.out.lt
    have pz := HCc.out.lt
    go_region_held3 (fun W => Ext w W ∧ W.cell? ⟨gc, 0, none⟩ = some (Value.int .i64 op) ∧ W.cell? ⟨gc, 1, none⟩ = some (str f1) ∧ W.cell? ⟨gc, 2, none⟩ = some (Value.string ⟨#[]⟩) ∧ W.cell? ⟨gc, 3, none⟩ = some (Value.string ⟨#[]⟩) ∧ W.cell? ⟨gc, 4, none⟩ = some (Value.int .i64 0) ∧ W.cell? ⟨ga, 0, none⟩ = some (was W ga 0) ∧ W.cell? ⟨ga, 1, none⟩ = some (was W ga 1) ∧ W.cell? ⟨ga, 2, none⟩ = some (was W ga 2) ∧ W.cell? ⟨ga, 3, none⟩ = some (was W ga 3) ∧ W.cell? ⟨ga, 4, none⟩ = some (was W ga 4) ∧ W.frozen? ⟨ga, 0, none⟩ = false ∧ W.frozen? ⟨ga, 1, none⟩ = false ∧ W.frozen? ⟨ga, 2, none⟩ = false ∧ W.frozen? ⟨ga, 3, none⟩ = false ∧ W.frozen? ⟨ga, 4, none⟩ = false)
      (first | (exact ⟨HXc.out.drew, p0, p1, p2, p3, p4, was_some (w := w4.drew) a0, was_some (w := w4.drew) a1, was_some (w := w4.drew) a2, was_some (w := w4.drew) a3, was_some (w := w4.drew) a4, e0, e1, e2, e3, e4⟩) | (exact keptR (by assumption) (by assumption)) | (exact keptR_set (by assumption) HGA.out nac.symm))
      (first | (go_at_call 15; refine (HVK.out _).mono ?_; rintro e w9 ⟨rfl, hx9⟩))
    go_wp2_with fail
    rename_i hS
    obtain ⟨r0, r1, r2, r3, r4⟩ := final5 hS.2.2.2.2.2.2.1 hS.2.2.2.2.2.2.2.1 hS.2.2.2.2.2.2.2.2.1 hS.2.2.2.2.2.2.2.2.2.1 hS.2.2.2.2.2.2.2.2.2.2.1
    refine bodyPost_ret (v := .tuple #[.agg #[Value.int .i64 op, str f1, Value.string ⟨#[]⟩, Value.string ⟨#[]⟩, Value.int .i64 0], .bool vb]) (by simp [results, Tryz.results30, go_sem, r0, r1, r2, r3, r4]) rfl ?_
    refine ⟨⟨op, f1, [], [], 0⟩, vb, rfl, readRes_of ?_, hS.1⟩
    rw [HRP.out]
    simp [HVB.out]
  · have hr' : (s1 == []) = false := by cases s1 <;> simp_all
    have a0 := HAb.out.cell 0
    have e0 := HAb.out.frozen 0
    have p0 := HCb.out.cell 0
    have q0 := HCb.out.frozen 0
    have a1 := HAb.out.cell 1
    have e1 := HAb.out.frozen 1
    have p1 := HCb.out.cell 1
    have q1 := HCb.out.frozen 1
    have a2 := HAb.out.cell 2
    have e2 := HAb.out.frozen 2
    have p2 := HCb.out.cell 2
    have q2 := HCb.out.frozen 2
    have a3 := HAb.out.cell 3
    have e3 := HAb.out.frozen 3
    have p3 := HCb.out.cell 3
    have q3 := HCb.out.frozen 3
    have a4 := HAb.out.cell 4
    have e4 := HAb.out.frozen 4
    have p4 := HCb.out.cell 4
    have q4 := HCb.out.frozen 4
    have az := HAb.out.lt
    have pz := HCb.out.lt
    go_upto_region 17 with fail
    clear a0 a1 a2 a3 a4 e0 e1 e2 e3 e4 p0 p1 p2 p3 p4 q0 q1 q2 q3 q4 az pz
    generalize w3.setCell ⟨gc, 1, none⟩ (str f1) = w4 at *
    have a0 := HAc.out.cell 0
    have e0 := HAc.out.frozen 0
    have p0 := HCc.out.cell 0
    have q0 := HCc.out.frozen 0
    have a1 := HAc.out.cell 1
    have e1 := HAc.out.frozen 1
    have p1 := HCc.out.cell 1
    have q1 := HCc.out.frozen 1
    have a2 := HAc.out.cell 2
    have e2 := HAc.out.frozen 2
    have p2 := HCc.out.cell 2
    have q2 := HCc.out.frozen 2
    have a3 := HAc.out.cell 3
    have e3 := HAc.out.frozen 3
    have p3 := HCc.out.cell 3
    have q3 := HCc.out.frozen 3
    have a4 := HAc.out.cell 4
    have e4 := HAc.out.frozen 4
    have p4 := HCc.out.cell 4
    have q4 := HCc.out.frozen 4
    have az := HAc.out.lt
    have pz := HCc.out.lt
    go_region
    go_wp2_with fail
    obtain ⟨r0, r1, r2, r3, r4⟩ := five_set HAc.out (Value.int .i64 op) (str f1) (Value.string ⟨#[]⟩) (Value.string ⟨#[]⟩) (Value.int .i64 0)
    refine bodyPost_ret (v := .tuple #[.agg #[Value.int .i64 op, str f1, Value.string ⟨#[]⟩, Value.string ⟨#[]⟩, Value.int .i64 0], .bool false]) (by simp [results, Tryz.results30, go_sem, r0, r1, r2, r3, r4]) rfl ?_
    refine ⟨⟨op, f1, [], [], 0⟩, false, rfl, readRes_of ?_, ?_⟩
    rotate_left
    · first | exact (((((HXc.out.setCell (p := ⟨ga, 0, none⟩) HGA.out _).setCell (p := ⟨ga, 1, none⟩) HGA.out _).setCell (p := ⟨ga, 2, none⟩) HGA.out _).setCell (p := ⟨ga, 3, none⟩) HGA.out _).setCell (p := ⟨ga, 4, none⟩) HGA.out _).drew | exact (((((HXc.out.drew.setCell (p := ⟨ga, 0, none⟩) HGA.out _).setCell (p := ⟨ga, 1, none⟩) HGA.out _).setCell (p := ⟨ga, 2, none⟩) HGA.out _).setCell (p := ⟨ga, 3, none⟩) HGA.out _).setCell (p := ⟨ga, 4, none⟩) HGA.out _) | exact (((((HXc.out.setCell (p := ⟨ga, 0, none⟩) HGA.out _).setCell (p := ⟨ga, 1, none⟩) HGA.out _).setCell (p := ⟨ga, 2, none⟩) HGA.out _).setCell (p := ⟨ga, 3, none⟩) HGA.out _).setCell (p := ⟨ga, 4, none⟩) HGA.out _)
    rw [HRP.out]
    simp [hr]
end Big
end Go.Proofs.YtoehdoghghpmjaaGreatDoor
/- command.read at shape 2. -/
namespace Go.Proofs.YtoehdoghghpmjaaGreatDoor
namespace Big
open Go.RowKit
set_option maxHeartbeats 16000000 in
set_option maxRecDepth 100000 in
theorem cread_2 (w : World) (op : Int) (r : List UInt8) (hl : r.length ≤ 1000000) (hm : MaxV w) (hE : CmdEnv w) (hko : shapeC op = 2) :
    Calls Tryz.prog 30 #[.int .i64 op, str r] w fun e w' => ∃ c' ok, e = .returned (.tuple #[cmdV c', .bool ok]) ∧ ReadRes op r c' ok ∧ Ext w w' := by
  have HOF := Lib.hid (fun W => of_any W op)
  have HWD := Lib.hid (fun W hx => cword_any W r (by omega) (hm.ext (w' := W) hx))
  have e1 := fw_le r
  have e2 := Nat.le_trans (sp_le (rw_ r)) (rw_le r)
  have HWD2 := Lib.hid (fun W hx => cword_any W (sp (rw_ r)) (by omega) (hm.ext (w' := W) hx))
  have e3 := fw_le (sp (rw_ r))
  have e4 := Nat.le_trans (sp_le (rw_ (sp (rw_ r)))) (rw_le (sp (rw_ r)))
  have HNU := Lib.hid (fun W hx => cnumber_any W r (by omega) (hE.ext (w' := W) hx))
  have HNU2 := Lib.hid (fun W hx => cnumber_any W (sp (rw_ r)) (by omega) (hE.ext (w' := W) hx))
  have HRP : Hid (readP op r = _) := Lib.hid (by unfold readP; rfl)
  have HK := Lib.hid (shapeC_le op)
  have HL : Hid (r.length ≤ 1000000 ∧ (fw r).length ≤ 1000000 ∧ (sp (rw_ r)).length ≤ 1000000 ∧ (fw (sp (rw_ r))).length ≤ 1000000 ∧ (sp (rw_ (sp (rw_ r)))).length ≤ 1000000) := Lib.hid (by omega)
  unfold formV at HOF
  simp only at HRP
  generalize nameC op = fn at *
  obtain ⟨k, hk⟩ : ∃ k, k = shapeC op := ⟨_, rfl⟩
  have HKE := Lib.hid hk
  have hk2 : k = 2 := hk.trans hko
  rw [← hk] at HOF HK HRP
  clear hk hko
  generalize writesC op = wr at *
  obtain ⟨f1, hf1⟩ : ∃ x, x = fw r := ⟨_, rfl⟩
  obtain ⟨s1, hs1⟩ : ∃ x, x = sp (rw_ r) := ⟨_, rfl⟩
  rw [← hs1] at HWD2 HNU2 HL HRP HWD
  rw [← hf1] at HWD HL HRP
  obtain ⟨f2, hf2⟩ : ∃ x, x = fw s1 := ⟨_, rfl⟩
  obtain ⟨s2, hs2⟩ : ∃ x, x = sp (rw_ s1) := ⟨_, rfl⟩
  rw [← hf2, ← hs2] at HWD2 HL
  have HF2 := Lib.hid hf2
  have HS2 := Lib.hid hs2
  clear hl hm hE e1 e2 e3 e4 hf1 hs1 hf2 hs2
  go_enter Tryz.func30, Tryz.ntmps30
  go_wp2_with fail
  refine (HOF.out _).mono ?_
  rintro e w2 ⟨rfl, hx⟩
  have ha := ((Blk.new w 31 #[Value.int .i64 0, Value.string ⟨#[]⟩, Value.string ⟨#[]⟩, Value.string ⟨#[]⟩, Value.int .i64 0]).ext ((Ext.refl _).alloc (.cells #[Value.int .i64 op, Value.string ⟨#[]⟩, Value.string ⟨#[]⟩, Value.string ⟨#[]⟩, Value.int .i64 0] 31))).ext hx
  have hc := (Blk.new (w.alloc (.cells #[Value.int .i64 0, Value.string ⟨#[]⟩, Value.string ⟨#[]⟩, Value.string ⟨#[]⟩, Value.int .i64 0] 31)) 31 #[Value.int .i64 op, Value.string ⟨#[]⟩, Value.string ⟨#[]⟩, Value.string ⟨#[]⟩, Value.int .i64 0]).ext hx
  have hgs : (w.alloc (.cells #[Value.int .i64 0, Value.string ⟨#[]⟩, Value.string ⟨#[]⟩, Value.string ⟨#[]⟩, Value.int .i64 0] 31)).heap.size = w.heap.size + 1 := by simp
  rw [hgs] at hc
  have HX : Hid (Ext w w2) := Lib.hid ((((Ext.refl w).alloc _).alloc _).trans hx)
  have HGA : Hid (w.heap.size ≤ w.heap.size) := Lib.hid (Nat.le_refl _)
  have HGC : Hid (w.heap.size ≤ w.heap.size + 1) := Lib.hid (Nat.le_succ _)
  have nac : w.heap.size ≠ w.heap.size + 1 := by omega
  obtain ⟨gc, hgc⟩ : ∃ gc, gc = w.heap.size + 1 := ⟨_, rfl⟩
  rw [← hgc] at HGC nac hc ⊢
  obtain ⟨ga, hga⟩ : ∃ ga, ga = w.heap.size := ⟨_, rfl⟩
  have HGA : Hid (w.heap.size ≤ ga) := Lib.hid (by omega)
  rw [← hga] at nac ha ⊢
  clear hga hgc hgs hx HOF
  have HA := Lib.hid ha
  have HC := Lib.hid hc
  clear ha hc
  clear HK
  subst hk2
  have hfd := form_1 fn 2 wr
  have a0 := HA.out.cell 0
  have e0 := HA.out.frozen 0
  have p0 := HC.out.cell 0
  have q0 := HC.out.frozen 0
  have a1 := HA.out.cell 1
  have e1 := HA.out.frozen 1
  have p1 := HC.out.cell 1
  have q1 := HC.out.frozen 1
  have a2 := HA.out.cell 2
  have e2 := HA.out.frozen 2
  have p2 := HC.out.cell 2
  have q2 := HC.out.frozen 2
  have a3 := HA.out.cell 3
  have e3 := HA.out.frozen 3
  have p3 := HC.out.cell 3
  have q3 := HC.out.frozen 3
  have a4 := HA.out.cell 4
  have e4 := HA.out.frozen 4
  have p4 := HC.out.cell 4
  have q4 := HC.out.frozen 4
  have az := HA.out.lt
  have pz := HC.out.lt
  go_wp2_with fail
  refine (HWD.out _ HX.out).mono ?_
  rintro e w3 ⟨rfl, hx3⟩
  clear a0 a1 a2 a3 a4 e0 e1 e2 e3 e4 p0 p1 p2 p3 p4 q0 q1 q2 q3 q4 az pz
  have HAb := Lib.hid (HA.out.ext hx3)
  have HCb := Lib.hid (HC.out.ext hx3)
  have HXb := Lib.hid (HX.out.trans hx3)
  clear hx3
  have HAc : Hid (Blk (w3.setCell ⟨gc, 1, none⟩ (str f1)) ga 31 #[Value.int .i64 0, Value.string ⟨#[]⟩, Value.string ⟨#[]⟩, Value.string ⟨#[]⟩, Value.int .i64 0]) := Lib.hid (HAb.out.far nac _)
  have HCc : Hid (Blk (w3.setCell ⟨gc, 1, none⟩ (str f1)) gc 31 #[Value.int .i64 op, str f1, Value.string ⟨#[]⟩, Value.string ⟨#[]⟩, Value.int .i64 0]) := Lib.hid (by have := HCb.out.set_ 1 (str f1); simpa using this)
  have HXc : Hid (Ext w (w3.setCell ⟨gc, 1, none⟩ (str f1))) := Lib.hid (HXb.out.setCell (p := ⟨gc, 1, none⟩) HGC.out (str f1))
  have a0 := HAb.out.cell 0
  have e0 := HAb.out.frozen 0
  have p0 := HCb.out.cell 0
  have q0 := HCb.out.frozen 0
  have a1 := HAb.out.cell 1
  have e1 := HAb.out.frozen 1
  have p1 := HCb.out.cell 1
  have q1 := HCb.out.frozen 1
  have a2 := HAb.out.cell 2
  have e2 := HAb.out.frozen 2
  have p2 := HCb.out.cell 2
  have q2 := HCb.out.frozen 2
  have a3 := HAb.out.cell 3
  have e3 := HAb.out.frozen 3
  have p3 := HCb.out.cell 3
  have q3 := HCb.out.frozen 3
  have a4 := HAb.out.cell 4
  have e4 := HAb.out.frozen 4
  have p4 := HCb.out.cell 4
  have q4 := HCb.out.frozen 4
  have az := HAb.out.lt
  have pz := HCb.out.lt
  go_upto_region 9 with fail
  clear a0 a1 a2 a3 a4 e0 e1 e2 e3 e4 p0 p1 p2 p3 p4 q0 q1 q2 q3 q4 az pz
  generalize w3.setCell ⟨gc, 1, none⟩ (str f1) = w4 at *
  have a0 := HAc.out.cell 0
  have e0 := HAc.out.frozen 0
  have p0 := HCc.out.cell 0
  have q0 := HCc.out.frozen 0
  have a1 := HAc.out.cell 1
  have e1 := HAc.out.frozen 1
  have p1 := HCc.out.cell 1
  have q1 := HCc.out.frozen 1
  have a2 := HAc.out.cell 2
  have e2 := HAc.out.frozen 2
  have p2 := HCc.out.cell 2
  have q2 := HCc.out.frozen 2
  have a3 := HAc.out.cell 3
  have e3 := HAc.out.frozen 3
  have p3 := HCc.out.cell 3
  have q3 := HCc.out.frozen 3
  have a4 := HAc.out.cell 4
  have e4 := HAc.out.frozen 4
  have p4 := HCc.out.cell 4
  have q4 := HCc.out.frozen 4
  have az := HAc.out.lt
  have pz := HCc.out.lt
  go_wp2_with fail
  refine (HNU2.out _ HXc.out).mono ?_
  rintro e w5 ⟨v, ok, rfl, hnr, hx5⟩
  clear a0 a1 a2 a3 a4 e0 e1 e2 e3 e4 p0 p1 p2 p3 p4 q0 q1 q2 q3 q4 az pz
  have HAe := Lib.hid (HAc.out.ext hx5)
  have HCe := Lib.hid (HCc.out.ext hx5)
  have HXe := Lib.hid (HXc.out.trans hx5)
  have HNR := Lib.hid hnr
  clear hx5 hnr
  have HAf : Hid (Blk (w5.setCell ⟨gc, 4, none⟩ (Value.int .i64 v)) ga 31 #[Value.int .i64 0, Value.string ⟨#[]⟩, Value.string ⟨#[]⟩, Value.string ⟨#[]⟩, Value.int .i64 0]) := Lib.hid (HAe.out.far nac _)
  have HCf : Hid (Blk (w5.setCell ⟨gc, 4, none⟩ (Value.int .i64 v)) gc 31 #[Value.int .i64 op, str f1, Value.string ⟨#[]⟩, Value.string ⟨#[]⟩, Value.int .i64 v]) := Lib.hid (by have := HCe.out.set_ 4 (Value.int .i64 v); simpa using this)
  have HXf : Hid (Ext w (w5.setCell ⟨gc, 4, none⟩ (Value.int .i64 v))) := Lib.hid (HXe.out.setCell (p := ⟨gc, 4, none⟩) HGC.out (Value.int .i64 v))
  cases ok
  · skip
    have a0 := HAe.out.cell 0
    have e0 := HAe.out.frozen 0
    have p0 := HCe.out.cell 0
    have q0 := HCe.out.frozen 0
    have a1 := HAe.out.cell 1
    have e1 := HAe.out.frozen 1
    have p1 := HCe.out.cell 1
    have q1 := HCe.out.frozen 1
    have a2 := HAe.out.cell 2
    have e2 := HAe.out.frozen 2
    have p2 := HCe.out.cell 2
    have q2 := HCe.out.frozen 2
    have a3 := HAe.out.cell 3
    have e3 := HAe.out.frozen 3
    have p3 := HCe.out.cell 3
    have q3 := HCe.out.frozen 3
    have a4 := HAe.out.cell 4
    have e4 := HAe.out.frozen 4
    have p4 := HCe.out.cell 4
    have q4 := HCe.out.frozen 4
    have az := HAe.out.lt
    have pz := HCe.out.lt
    go_upto_region 17 with fail
    clear a0 a1 a2 a3 a4 e0 e1 e2 e3 e4 p0 p1 p2 p3 p4 q0 q1 q2 q3 q4 az pz
    generalize w5.setCell ⟨gc, 4, none⟩ (Value.int .i64 v) = w6 at *
    have a0 := HAf.out.cell 0
    have e0 := HAf.out.frozen 0
    have p0 := HCf.out.cell 0
    have q0 := HCf.out.frozen 0
    have a1 := HAf.out.cell 1
    have e1 := HAf.out.frozen 1
    have p1 := HCf.out.cell 1
    have q1 := HCf.out.frozen 1
    have a2 := HAf.out.cell 2
    have e2 := HAf.out.frozen 2
    have p2 := HCf.out.cell 2
    have q2 := HCf.out.frozen 2
    have a3 := HAf.out.cell 3
    have e3 := HAf.out.frozen 3
    have p3 := HCf.out.cell 3
    have q3 := HCf.out.frozen 3
    have a4 := HAf.out.cell 4
    have e4 := HAf.out.frozen 4
    have p4 := HCf.out.cell 4
    have q4 := HCf.out.frozen 4
    have az := HAf.out.lt
    have pz := HCf.out.lt
    go_region
    go_wp2_with fail
    obtain ⟨r0, r1, r2, r3, r4⟩ := five_set HAf.out (Value.int .i64 op) (str f1) (Value.string ⟨#[]⟩) (Value.string ⟨#[]⟩) (Value.int .i64 v)
    refine bodyPost_ret (v := .tuple #[.agg #[Value.int .i64 op, str f1, Value.string ⟨#[]⟩, Value.string ⟨#[]⟩, Value.int .i64 v], .bool false]) (by simp [results, Tryz.results30, go_sem, r0, r1, r2, r3, r4]) rfl ?_
    refine ⟨⟨op, f1, [], [], v⟩, false, rfl, readRes_of ?_, ?_⟩
    rotate_left
    · first | exact (((((HXf.out.setCell (p := ⟨ga, 0, none⟩) HGA.out _).setCell (p := ⟨ga, 1, none⟩) HGA.out _).setCell (p := ⟨ga, 2, none⟩) HGA.out _).setCell (p := ⟨ga, 3, none⟩) HGA.out _).setCell (p := ⟨ga, 4, none⟩) HGA.out _).drew | exact (((((HXf.out.drew.setCell (p := ⟨ga, 0, none⟩) HGA.out _).setCell (p := ⟨ga, 1, none⟩) HGA.out _).setCell (p := ⟨ga, 2, none⟩) HGA.out _).setCell (p := ⟨ga, 3, none⟩) HGA.out _).setCell (p := ⟨ga, 4, none⟩) HGA.out _) | exact (((((HXf.out.setCell (p := ⟨ga, 0, none⟩) HGA.out _).setCell (p := ⟨ga, 1, none⟩) HGA.out _).setCell (p := ⟨ga, 2, none⟩) HGA.out _).setCell (p := ⟨ga, 3, none⟩) HGA.out _).setCell (p := ⟨ga, 4, none⟩) HGA.out _)
    rw [HRP.out]
    simp [num_none HNR.out]
  · skip
    have a0 := HAe.out.cell 0
    have e0 := HAe.out.frozen 0
    have p0 := HCe.out.cell 0
    have q0 := HCe.out.frozen 0
    have a1 := HAe.out.cell 1
    have e1 := HAe.out.frozen 1
    have p1 := HCe.out.cell 1
    have q1 := HCe.out.frozen 1
    have a2 := HAe.out.cell 2
    have e2 := HAe.out.frozen 2
    have p2 := HCe.out.cell 2
    have q2 := HCe.out.frozen 2
    have a3 := HAe.out.cell 3
    have e3 := HAe.out.frozen 3
    have p3 := HCe.out.cell 3
    have q3 := HCe.out.frozen 3
    have a4 := HAe.out.cell 4
    have e4 := HAe.out.frozen 4
    have p4 := HCe.out.cell 4
    have q4 := HCe.out.frozen 4
    have az := HAe.out.lt
    have pz := HCe.out.lt
    go_upto_region 17 with fail
    clear a0 a1 a2 a3 a4 e0 e1 e2 e3 e4 p0 p1 p2 p3 p4 q0 q1 q2 q3 q4 az pz
    generalize w5.setCell ⟨gc, 4, none⟩ (Value.int .i64 v) = w6 at *
    have HVK : Hid (∀ W : World, Calls Tryz.prog 15 #[.agg #[Value.int .i64 op, str f1, Value.string ⟨#[]⟩, Value.string ⟨#[]⟩, Value.int .i64 v]] W fun e w' => e = .returned (.bool (validC ⟨op, f1, [], [], v⟩)) ∧ Ext W w') := Lib.hid (fun W => cvalid_any W ⟨op, f1, [], [], v⟩ (by have := HL.out; simp only; omega) (by have := HL.out; simp only [List.length_nil]; omega) (by have := HL.out; simp only [List.length_nil]; omega))
    obtain ⟨vb, hvb⟩ : ∃ vb, vb = validC ⟨op, f1, [], [], v⟩ := ⟨_, rfl⟩
    have HVB := Lib.hid hvb
    rw [← hvb] at HVK
    clear hvb
    have a0 := HAf.out.cell 0
    have e0 := HAf.out.frozen 0
    have p0 := HCf.out.cell 0
    have q0 := HCf.out.frozen 0
    have a1 := HAf.out.cell 1
    have e1 := HAf.out.frozen 1
    have p1 := HCf.out.cell 1
    have q1 := HCf.out.frozen 1
    have a2 := HAf.out.cell 2
    have e2 := HAf.out.frozen 2
    have p2 := HCf.out.cell 2
    have q2 := HCf.out.frozen 2
    have a3 := HAf.out.cell 3
    have e3 := HAf.out.frozen 3
    have p3 := HCf.out.cell 3
    have q3 := HCf.out.frozen 3
    have a4 := HAf.out.cell 4
    have e4 := HAf.out.frozen 4
    have p4 := HCf.out.cell 4
    have q4 := HCf.out.frozen 4
    have az := HAf.out.lt
    have pz := HCf.out.lt
    go_region_held3 (fun W => Ext w W ∧ W.cell? ⟨gc, 0, none⟩ = some (Value.int .i64 op) ∧ W.cell? ⟨gc, 1, none⟩ = some (str f1) ∧ W.cell? ⟨gc, 2, none⟩ = some (Value.string ⟨#[]⟩) ∧ W.cell? ⟨gc, 3, none⟩ = some (Value.string ⟨#[]⟩) ∧ W.cell? ⟨gc, 4, none⟩ = some (Value.int .i64 v) ∧ W.cell? ⟨ga, 0, none⟩ = some (was W ga 0) ∧ W.cell? ⟨ga, 1, none⟩ = some (was W ga 1) ∧ W.cell? ⟨ga, 2, none⟩ = some (was W ga 2) ∧ W.cell? ⟨ga, 3, none⟩ = some (was W ga 3) ∧ W.cell? ⟨ga, 4, none⟩ = some (was W ga 4) ∧ W.frozen? ⟨ga, 0, none⟩ = false ∧ W.frozen? ⟨ga, 1, none⟩ = false ∧ W.frozen? ⟨ga, 2, none⟩ = false ∧ W.frozen? ⟨ga, 3, none⟩ = false ∧ W.frozen? ⟨ga, 4, none⟩ = false)
      (first | (exact ⟨HXf.out.drew, p0, p1, p2, p3, p4, was_some (w := w6.drew) a0, was_some (w := w6.drew) a1, was_some (w := w6.drew) a2, was_some (w := w6.drew) a3, was_some (w := w6.drew) a4, e0, e1, e2, e3, e4⟩) | (exact keptR (by assumption) (by assumption)) | (exact keptR_set (by assumption) HGA.out nac.symm))
      (first | (go_at_call 15; refine (HVK.out _).mono ?_; rintro e w9 ⟨rfl, hx9⟩))
    go_wp2_with fail
    rename_i hS
    obtain ⟨r0, r1, r2, r3, r4⟩ := final5 hS.2.2.2.2.2.2.1 hS.2.2.2.2.2.2.2.1 hS.2.2.2.2.2.2.2.2.1 hS.2.2.2.2.2.2.2.2.2.1 hS.2.2.2.2.2.2.2.2.2.2.1
    refine bodyPost_ret (v := .tuple #[.agg #[Value.int .i64 op, str f1, Value.string ⟨#[]⟩, Value.string ⟨#[]⟩, Value.int .i64 v], .bool vb]) (by simp [results, Tryz.results30, go_sem, r0, r1, r2, r3, r4]) rfl ?_
    refine ⟨⟨op, f1, [], [], v⟩, vb, rfl, readRes_of ?_, hS.1⟩
    rw [HRP.out, HVB.out]
    simp only [ne_eq, reduceCtorEq, not_false_eq_true, true_and, true_or, if_true, OfNat.ofNat]; exact num_some (by rw [← HKE.out]; simp) HNR.out
end Big
end Go.Proofs.YtoehdoghghpmjaaGreatDoor
/- command.read at shape 3. -/
namespace Go.Proofs.YtoehdoghghpmjaaGreatDoor
namespace Big
open Go.RowKit
set_option maxHeartbeats 16000000 in
set_option maxRecDepth 100000 in
theorem cread_3 (w : World) (op : Int) (r : List UInt8) (hl : r.length ≤ 1000000) (hm : MaxV w) (hE : CmdEnv w) (hko : shapeC op = 3) :
    Calls Tryz.prog 30 #[.int .i64 op, str r] w fun e w' => ∃ c' ok, e = .returned (.tuple #[cmdV c', .bool ok]) ∧ ReadRes op r c' ok ∧ Ext w w' := by
  have HOF := Lib.hid (fun W => of_any W op)
  have HWD := Lib.hid (fun W hx => cword_any W r (by omega) (hm.ext (w' := W) hx))
  have e1 := fw_le r
  have e2 := Nat.le_trans (sp_le (rw_ r)) (rw_le r)
  have HWD2 := Lib.hid (fun W hx => cword_any W (sp (rw_ r)) (by omega) (hm.ext (w' := W) hx))
  have e3 := fw_le (sp (rw_ r))
  have e4 := Nat.le_trans (sp_le (rw_ (sp (rw_ r)))) (rw_le (sp (rw_ r)))
  have HNU := Lib.hid (fun W hx => cnumber_any W r (by omega) (hE.ext (w' := W) hx))
  have HNU2 := Lib.hid (fun W hx => cnumber_any W (sp (rw_ r)) (by omega) (hE.ext (w' := W) hx))
  have HRP : Hid (readP op r = _) := Lib.hid (by unfold readP; rfl)
  have HK := Lib.hid (shapeC_le op)
  have HL : Hid (r.length ≤ 1000000 ∧ (fw r).length ≤ 1000000 ∧ (sp (rw_ r)).length ≤ 1000000 ∧ (fw (sp (rw_ r))).length ≤ 1000000 ∧ (sp (rw_ (sp (rw_ r)))).length ≤ 1000000) := Lib.hid (by omega)
  unfold formV at HOF
  simp only at HRP
  generalize nameC op = fn at *
  obtain ⟨k, hk⟩ : ∃ k, k = shapeC op := ⟨_, rfl⟩
  have HKE := Lib.hid hk
  have hk2 : k = 3 := hk.trans hko
  rw [← hk] at HOF HK HRP
  clear hk hko
  generalize writesC op = wr at *
  obtain ⟨f1, hf1⟩ : ∃ x, x = fw r := ⟨_, rfl⟩
  obtain ⟨s1, hs1⟩ : ∃ x, x = sp (rw_ r) := ⟨_, rfl⟩
  rw [← hs1] at HWD2 HNU2 HL HRP HWD
  rw [← hf1] at HWD HL HRP
  obtain ⟨f2, hf2⟩ : ∃ x, x = fw s1 := ⟨_, rfl⟩
  obtain ⟨s2, hs2⟩ : ∃ x, x = sp (rw_ s1) := ⟨_, rfl⟩
  rw [← hf2, ← hs2] at HWD2 HL
  have HF2 := Lib.hid hf2
  have HS2 := Lib.hid hs2
  clear hl hm hE e1 e2 e3 e4 hf1 hs1 hf2 hs2
  go_enter Tryz.func30, Tryz.ntmps30
  go_wp2_with fail
  refine (HOF.out _).mono ?_
  rintro e w2 ⟨rfl, hx⟩
  have ha := ((Blk.new w 31 #[Value.int .i64 0, Value.string ⟨#[]⟩, Value.string ⟨#[]⟩, Value.string ⟨#[]⟩, Value.int .i64 0]).ext ((Ext.refl _).alloc (.cells #[Value.int .i64 op, Value.string ⟨#[]⟩, Value.string ⟨#[]⟩, Value.string ⟨#[]⟩, Value.int .i64 0] 31))).ext hx
  have hc := (Blk.new (w.alloc (.cells #[Value.int .i64 0, Value.string ⟨#[]⟩, Value.string ⟨#[]⟩, Value.string ⟨#[]⟩, Value.int .i64 0] 31)) 31 #[Value.int .i64 op, Value.string ⟨#[]⟩, Value.string ⟨#[]⟩, Value.string ⟨#[]⟩, Value.int .i64 0]).ext hx
  have hgs : (w.alloc (.cells #[Value.int .i64 0, Value.string ⟨#[]⟩, Value.string ⟨#[]⟩, Value.string ⟨#[]⟩, Value.int .i64 0] 31)).heap.size = w.heap.size + 1 := by simp
  rw [hgs] at hc
  have HX : Hid (Ext w w2) := Lib.hid ((((Ext.refl w).alloc _).alloc _).trans hx)
  have HGA : Hid (w.heap.size ≤ w.heap.size) := Lib.hid (Nat.le_refl _)
  have HGC : Hid (w.heap.size ≤ w.heap.size + 1) := Lib.hid (Nat.le_succ _)
  have nac : w.heap.size ≠ w.heap.size + 1 := by omega
  obtain ⟨gc, hgc⟩ : ∃ gc, gc = w.heap.size + 1 := ⟨_, rfl⟩
  rw [← hgc] at HGC nac hc ⊢
  obtain ⟨ga, hga⟩ : ∃ ga, ga = w.heap.size := ⟨_, rfl⟩
  have HGA : Hid (w.heap.size ≤ ga) := Lib.hid (by omega)
  rw [← hga] at nac ha ⊢
  clear hga hgc hgs hx HOF
  have HA := Lib.hid ha
  have HC := Lib.hid hc
  clear ha hc
  clear HK
  subst hk2
  have hfd := form_1 fn 3 wr
  have a0 := HA.out.cell 0
  have e0 := HA.out.frozen 0
  have p0 := HC.out.cell 0
  have q0 := HC.out.frozen 0
  have a1 := HA.out.cell 1
  have e1 := HA.out.frozen 1
  have p1 := HC.out.cell 1
  have q1 := HC.out.frozen 1
  have a2 := HA.out.cell 2
  have e2 := HA.out.frozen 2
  have p2 := HC.out.cell 2
  have q2 := HC.out.frozen 2
  have a3 := HA.out.cell 3
  have e3 := HA.out.frozen 3
  have p3 := HC.out.cell 3
  have q3 := HC.out.frozen 3
  have a4 := HA.out.cell 4
  have e4 := HA.out.frozen 4
  have p4 := HC.out.cell 4
  have q4 := HC.out.frozen 4
  have az := HA.out.lt
  have pz := HC.out.lt
  go_wp2_with fail
  refine (HWD.out _ HX.out).mono ?_
  rintro e w3 ⟨rfl, hx3⟩
  clear a0 a1 a2 a3 a4 e0 e1 e2 e3 e4 p0 p1 p2 p3 p4 q0 q1 q2 q3 q4 az pz
  have HAb := Lib.hid (HA.out.ext hx3)
  have HCb := Lib.hid (HC.out.ext hx3)
  have HXb := Lib.hid (HX.out.trans hx3)
  clear hx3
  have HAc : Hid (Blk (w3.setCell ⟨gc, 1, none⟩ (str f1)) ga 31 #[Value.int .i64 0, Value.string ⟨#[]⟩, Value.string ⟨#[]⟩, Value.string ⟨#[]⟩, Value.int .i64 0]) := Lib.hid (HAb.out.far nac _)
  have HCc : Hid (Blk (w3.setCell ⟨gc, 1, none⟩ (str f1)) gc 31 #[Value.int .i64 op, str f1, Value.string ⟨#[]⟩, Value.string ⟨#[]⟩, Value.int .i64 0]) := Lib.hid (by have := HCb.out.set_ 1 (str f1); simpa using this)
  have HXc : Hid (Ext w (w3.setCell ⟨gc, 1, none⟩ (str f1))) := Lib.hid (HXb.out.setCell (p := ⟨gc, 1, none⟩) HGC.out (str f1))
  have a0 := HAb.out.cell 0
  have e0 := HAb.out.frozen 0
  have p0 := HCb.out.cell 0
  have q0 := HCb.out.frozen 0
  have a1 := HAb.out.cell 1
  have e1 := HAb.out.frozen 1
  have p1 := HCb.out.cell 1
  have q1 := HCb.out.frozen 1
  have a2 := HAb.out.cell 2
  have e2 := HAb.out.frozen 2
  have p2 := HCb.out.cell 2
  have q2 := HCb.out.frozen 2
  have a3 := HAb.out.cell 3
  have e3 := HAb.out.frozen 3
  have p3 := HCb.out.cell 3
  have q3 := HCb.out.frozen 3
  have a4 := HAb.out.cell 4
  have e4 := HAb.out.frozen 4
  have p4 := HCb.out.cell 4
  have q4 := HCb.out.frozen 4
  have az := HAb.out.lt
  have pz := HCb.out.lt
  go_upto_region 12 with fail
  clear a0 a1 a2 a3 a4 e0 e1 e2 e3 e4 p0 p1 p2 p3 p4 q0 q1 q2 q3 q4 az pz
  generalize w3.setCell ⟨gc, 1, none⟩ (str f1) = w4 at *
  have HAd : Hid (Blk (w4.setCell ⟨gc, 2, none⟩ (str s1)) ga 31 #[Value.int .i64 0, Value.string ⟨#[]⟩, Value.string ⟨#[]⟩, Value.string ⟨#[]⟩, Value.int .i64 0]) := Lib.hid (HAc.out.far nac _)
  have HCd : Hid (Blk (w4.setCell ⟨gc, 2, none⟩ (str s1)) gc 31 #[Value.int .i64 op, str f1, str s1, Value.string ⟨#[]⟩, Value.int .i64 0]) := Lib.hid (by have := HCc.out.set_ 2 (str s1); simpa using this)
  have HXd : Hid (Ext w (w4.setCell ⟨gc, 2, none⟩ (str s1))) := Lib.hid (HXc.out.setCell (p := ⟨gc, 2, none⟩) HGC.out (str s1))
  have a0 := HAc.out.cell 0
  have e0 := HAc.out.frozen 0
  have p0 := HCc.out.cell 0
  have q0 := HCc.out.frozen 0
  have a1 := HAc.out.cell 1
  have e1 := HAc.out.frozen 1
  have p1 := HCc.out.cell 1
  have q1 := HCc.out.frozen 1
  have a2 := HAc.out.cell 2
  have e2 := HAc.out.frozen 2
  have p2 := HCc.out.cell 2
  have q2 := HCc.out.frozen 2
  have a3 := HAc.out.cell 3
  have e3 := HAc.out.frozen 3
  have p3 := HCc.out.cell 3
  have q3 := HCc.out.frozen 3
  have a4 := HAc.out.cell 4
  have e4 := HAc.out.frozen 4
  have p4 := HCc.out.cell 4
  have q4 := HCc.out.frozen 4
  have az := HAc.out.lt
  have pz := HCc.out.lt
  go_upto_region 17 with fail
  clear a0 a1 a2 a3 a4 e0 e1 e2 e3 e4 p0 p1 p2 p3 p4 q0 q1 q2 q3 q4 az pz
  generalize w4.setCell ⟨gc, 2, none⟩ (str s1) = w5 at *
  have HVK : Hid (∀ W : World, Calls Tryz.prog 15 #[.agg #[Value.int .i64 op, str f1, str s1, Value.string ⟨#[]⟩, Value.int .i64 0]] W fun e w' => e = .returned (.bool (validC ⟨op, f1, s1, [], 0⟩)) ∧ Ext W w') := Lib.hid (fun W => cvalid_any W ⟨op, f1, s1, [], 0⟩ (by have := HL.out; simp only; omega) (by have := HL.out; simp only; omega) (by have := HL.out; simp only [List.length_nil]; omega))
  obtain ⟨vb, hvb⟩ : ∃ vb, vb = validC ⟨op, f1, s1, [], 0⟩ := ⟨_, rfl⟩
  have HVB := Lib.hid hvb
  rw [← hvb] at HVK
  clear hvb
  have a0 := HAd.out.cell 0
  have e0 := HAd.out.frozen 0
  have p0 := HCd.out.cell 0
  have q0 := HCd.out.frozen 0
  have a1 := HAd.out.cell 1
  have e1 := HAd.out.frozen 1
  have p1 := HCd.out.cell 1
  have q1 := HCd.out.frozen 1
  have a2 := HAd.out.cell 2
  have e2 := HAd.out.frozen 2
  have p2 := HCd.out.cell 2
  have q2 := HCd.out.frozen 2
  have a3 := HAd.out.cell 3
  have e3 := HAd.out.frozen 3
  have p3 := HCd.out.cell 3
  have q3 := HCd.out.frozen 3
  have a4 := HAd.out.cell 4
  have e4 := HAd.out.frozen 4
  have p4 := HCd.out.cell 4
  have q4 := HCd.out.frozen 4
  have az := HAd.out.lt
  have pz := HCd.out.lt
  go_region_held3 (fun W => Ext w W ∧ W.cell? ⟨gc, 0, none⟩ = some (Value.int .i64 op) ∧ W.cell? ⟨gc, 1, none⟩ = some (str f1) ∧ W.cell? ⟨gc, 2, none⟩ = some (str s1) ∧ W.cell? ⟨gc, 3, none⟩ = some (Value.string ⟨#[]⟩) ∧ W.cell? ⟨gc, 4, none⟩ = some (Value.int .i64 0) ∧ W.cell? ⟨ga, 0, none⟩ = some (was W ga 0) ∧ W.cell? ⟨ga, 1, none⟩ = some (was W ga 1) ∧ W.cell? ⟨ga, 2, none⟩ = some (was W ga 2) ∧ W.cell? ⟨ga, 3, none⟩ = some (was W ga 3) ∧ W.cell? ⟨ga, 4, none⟩ = some (was W ga 4) ∧ W.frozen? ⟨ga, 0, none⟩ = false ∧ W.frozen? ⟨ga, 1, none⟩ = false ∧ W.frozen? ⟨ga, 2, none⟩ = false ∧ W.frozen? ⟨ga, 3, none⟩ = false ∧ W.frozen? ⟨ga, 4, none⟩ = false)
    (first | (exact ⟨HXd.out.drew, p0, p1, p2, p3, p4, was_some (w := w5.drew) a0, was_some (w := w5.drew) a1, was_some (w := w5.drew) a2, was_some (w := w5.drew) a3, was_some (w := w5.drew) a4, e0, e1, e2, e3, e4⟩) | (exact keptR (by assumption) (by assumption)) | (exact keptR_set (by assumption) HGA.out nac.symm))
    (first | (go_at_call 15; refine (HVK.out _).mono ?_; rintro e w9 ⟨rfl, hx9⟩))
  go_wp2_with fail
  rename_i hS
  obtain ⟨r0, r1, r2, r3, r4⟩ := final5 hS.2.2.2.2.2.2.1 hS.2.2.2.2.2.2.2.1 hS.2.2.2.2.2.2.2.2.1 hS.2.2.2.2.2.2.2.2.2.1 hS.2.2.2.2.2.2.2.2.2.2.1
  refine bodyPost_ret (v := .tuple #[.agg #[Value.int .i64 op, str f1, str s1, Value.string ⟨#[]⟩, Value.int .i64 0], .bool vb]) (by simp [results, Tryz.results30, go_sem, r0, r1, r2, r3, r4]) rfl ?_
  refine ⟨⟨op, f1, s1, [], 0⟩, vb, rfl, readRes_of ?_, hS.1⟩
  rw [HRP.out]
  simp [HVB.out]
end Big
end Go.Proofs.YtoehdoghghpmjaaGreatDoor
/- command.read at shape 4. -/
namespace Go.Proofs.YtoehdoghghpmjaaGreatDoor
namespace Big
open Go.RowKit
set_option maxHeartbeats 16000000 in
set_option maxRecDepth 100000 in
theorem cread_4 (w : World) (op : Int) (r : List UInt8) (hl : r.length ≤ 1000000) (hm : MaxV w) (hE : CmdEnv w) (hko : shapeC op = 4) :
    Calls Tryz.prog 30 #[.int .i64 op, str r] w fun e w' => ∃ c' ok, e = .returned (.tuple #[cmdV c', .bool ok]) ∧ ReadRes op r c' ok ∧ Ext w w' := by
  have HOF := Lib.hid (fun W => of_any W op)
  have HWD := Lib.hid (fun W hx => cword_any W r (by omega) (hm.ext (w' := W) hx))
  have e1 := fw_le r
  have e2 := Nat.le_trans (sp_le (rw_ r)) (rw_le r)
  have HWD2 := Lib.hid (fun W hx => cword_any W (sp (rw_ r)) (by omega) (hm.ext (w' := W) hx))
  have e3 := fw_le (sp (rw_ r))
  have e4 := Nat.le_trans (sp_le (rw_ (sp (rw_ r)))) (rw_le (sp (rw_ r)))
  have HNU := Lib.hid (fun W hx => cnumber_any W r (by omega) (hE.ext (w' := W) hx))
  have HNU2 := Lib.hid (fun W hx => cnumber_any W (sp (rw_ r)) (by omega) (hE.ext (w' := W) hx))
  have HRP : Hid (readP op r = _) := Lib.hid (by unfold readP; rfl)
  have HK := Lib.hid (shapeC_le op)
  have HL : Hid (r.length ≤ 1000000 ∧ (fw r).length ≤ 1000000 ∧ (sp (rw_ r)).length ≤ 1000000 ∧ (fw (sp (rw_ r))).length ≤ 1000000 ∧ (sp (rw_ (sp (rw_ r)))).length ≤ 1000000) := Lib.hid (by omega)
  unfold formV at HOF
  simp only at HRP
  generalize nameC op = fn at *
  obtain ⟨k, hk⟩ : ∃ k, k = shapeC op := ⟨_, rfl⟩
  have HKE := Lib.hid hk
  have hk2 : k = 4 := hk.trans hko
  rw [← hk] at HOF HK HRP
  clear hk hko
  generalize writesC op = wr at *
  obtain ⟨f1, hf1⟩ : ∃ x, x = fw r := ⟨_, rfl⟩
  obtain ⟨s1, hs1⟩ : ∃ x, x = sp (rw_ r) := ⟨_, rfl⟩
  rw [← hs1] at HWD2 HNU2 HL HRP HWD
  rw [← hf1] at HWD HL HRP
  obtain ⟨f2, hf2⟩ : ∃ x, x = fw s1 := ⟨_, rfl⟩
  obtain ⟨s2, hs2⟩ : ∃ x, x = sp (rw_ s1) := ⟨_, rfl⟩
  rw [← hf2, ← hs2] at HWD2 HL
  have HF2 := Lib.hid hf2
  have HS2 := Lib.hid hs2
  clear hl hm hE e1 e2 e3 e4 hf1 hs1 hf2 hs2
  go_enter Tryz.func30, Tryz.ntmps30
  go_wp2_with fail
  refine (HOF.out _).mono ?_
  rintro e w2 ⟨rfl, hx⟩
  have ha := ((Blk.new w 31 #[Value.int .i64 0, Value.string ⟨#[]⟩, Value.string ⟨#[]⟩, Value.string ⟨#[]⟩, Value.int .i64 0]).ext ((Ext.refl _).alloc (.cells #[Value.int .i64 op, Value.string ⟨#[]⟩, Value.string ⟨#[]⟩, Value.string ⟨#[]⟩, Value.int .i64 0] 31))).ext hx
  have hc := (Blk.new (w.alloc (.cells #[Value.int .i64 0, Value.string ⟨#[]⟩, Value.string ⟨#[]⟩, Value.string ⟨#[]⟩, Value.int .i64 0] 31)) 31 #[Value.int .i64 op, Value.string ⟨#[]⟩, Value.string ⟨#[]⟩, Value.string ⟨#[]⟩, Value.int .i64 0]).ext hx
  have hgs : (w.alloc (.cells #[Value.int .i64 0, Value.string ⟨#[]⟩, Value.string ⟨#[]⟩, Value.string ⟨#[]⟩, Value.int .i64 0] 31)).heap.size = w.heap.size + 1 := by simp
  rw [hgs] at hc
  have HX : Hid (Ext w w2) := Lib.hid ((((Ext.refl w).alloc _).alloc _).trans hx)
  have HGA : Hid (w.heap.size ≤ w.heap.size) := Lib.hid (Nat.le_refl _)
  have HGC : Hid (w.heap.size ≤ w.heap.size + 1) := Lib.hid (Nat.le_succ _)
  have nac : w.heap.size ≠ w.heap.size + 1 := by omega
  obtain ⟨gc, hgc⟩ : ∃ gc, gc = w.heap.size + 1 := ⟨_, rfl⟩
  rw [← hgc] at HGC nac hc ⊢
  obtain ⟨ga, hga⟩ : ∃ ga, ga = w.heap.size := ⟨_, rfl⟩
  have HGA : Hid (w.heap.size ≤ ga) := Lib.hid (by omega)
  rw [← hga] at nac ha ⊢
  clear hga hgc hgs hx HOF
  have HA := Lib.hid ha
  have HC := Lib.hid hc
  clear ha hc
  clear HK
  subst hk2
  have hfd := form_1 fn 4 wr
  have a0 := HA.out.cell 0
  have e0 := HA.out.frozen 0
  have p0 := HC.out.cell 0
  have q0 := HC.out.frozen 0
  have a1 := HA.out.cell 1
  have e1 := HA.out.frozen 1
  have p1 := HC.out.cell 1
  have q1 := HC.out.frozen 1
  have a2 := HA.out.cell 2
  have e2 := HA.out.frozen 2
  have p2 := HC.out.cell 2
  have q2 := HC.out.frozen 2
  have a3 := HA.out.cell 3
  have e3 := HA.out.frozen 3
  have p3 := HC.out.cell 3
  have q3 := HC.out.frozen 3
  have a4 := HA.out.cell 4
  have e4 := HA.out.frozen 4
  have p4 := HC.out.cell 4
  have q4 := HC.out.frozen 4
  have az := HA.out.lt
  have pz := HC.out.lt
  go_wp2_with fail
  refine (HNU.out _ HX.out).mono ?_
  rintro e w5 ⟨v, ok, rfl, hnr, hx5⟩
  clear a0 a1 a2 a3 a4 e0 e1 e2 e3 e4 p0 p1 p2 p3 p4 q0 q1 q2 q3 q4 az pz
  have HAe := Lib.hid (HA.out.ext hx5)
  have HCe := Lib.hid (HC.out.ext hx5)
  have HXe := Lib.hid (HX.out.trans hx5)
  have HNR := Lib.hid hnr
  clear hx5 hnr
  have HAf : Hid (Blk (w5.setCell ⟨gc, 4, none⟩ (Value.int .i64 v)) ga 31 #[Value.int .i64 0, Value.string ⟨#[]⟩, Value.string ⟨#[]⟩, Value.string ⟨#[]⟩, Value.int .i64 0]) := Lib.hid (HAe.out.far nac _)
  have HCf : Hid (Blk (w5.setCell ⟨gc, 4, none⟩ (Value.int .i64 v)) gc 31 #[Value.int .i64 op, Value.string ⟨#[]⟩, Value.string ⟨#[]⟩, Value.string ⟨#[]⟩, Value.int .i64 v]) := Lib.hid (by have := HCe.out.set_ 4 (Value.int .i64 v); simpa using this)
  have HXf : Hid (Ext w (w5.setCell ⟨gc, 4, none⟩ (Value.int .i64 v))) := Lib.hid (HXe.out.setCell (p := ⟨gc, 4, none⟩) HGC.out (Value.int .i64 v))
  cases ok
  · skip
    have a0 := HAe.out.cell 0
    have e0 := HAe.out.frozen 0
    have p0 := HCe.out.cell 0
    have q0 := HCe.out.frozen 0
    have a1 := HAe.out.cell 1
    have e1 := HAe.out.frozen 1
    have p1 := HCe.out.cell 1
    have q1 := HCe.out.frozen 1
    have a2 := HAe.out.cell 2
    have e2 := HAe.out.frozen 2
    have p2 := HCe.out.cell 2
    have q2 := HCe.out.frozen 2
    have a3 := HAe.out.cell 3
    have e3 := HAe.out.frozen 3
    have p3 := HCe.out.cell 3
    have q3 := HCe.out.frozen 3
    have a4 := HAe.out.cell 4
    have e4 := HAe.out.frozen 4
    have p4 := HCe.out.cell 4
    have q4 := HCe.out.frozen 4
    have az := HAe.out.lt
    have pz := HCe.out.lt
    go_upto_region 17 with fail
    clear a0 a1 a2 a3 a4 e0 e1 e2 e3 e4 p0 p1 p2 p3 p4 q0 q1 q2 q3 q4 az pz
    generalize w5.setCell ⟨gc, 4, none⟩ (Value.int .i64 v) = w6 at *
    have a0 := HAf.out.cell 0
    have e0 := HAf.out.frozen 0
    have p0 := HCf.out.cell 0
    have q0 := HCf.out.frozen 0
    have a1 := HAf.out.cell 1
    have e1 := HAf.out.frozen 1
    have p1 := HCf.out.cell 1
    have q1 := HCf.out.frozen 1
    have a2 := HAf.out.cell 2
    have e2 := HAf.out.frozen 2
    have p2 := HCf.out.cell 2
    have q2 := HCf.out.frozen 2
    have a3 := HAf.out.cell 3
    have e3 := HAf.out.frozen 3
    have p3 := HCf.out.cell 3
    have q3 := HCf.out.frozen 3
    have a4 := HAf.out.cell 4
    have e4 := HAf.out.frozen 4
    have p4 := HCf.out.cell 4
    have q4 := HCf.out.frozen 4
    have az := HAf.out.lt
    have pz := HCf.out.lt
    go_region
    go_wp2_with fail
    obtain ⟨r0, r1, r2, r3, r4⟩ := five_set HAf.out (Value.int .i64 op) (Value.string ⟨#[]⟩) (Value.string ⟨#[]⟩) (Value.string ⟨#[]⟩) (Value.int .i64 v)
    refine bodyPost_ret (v := .tuple #[.agg #[Value.int .i64 op, Value.string ⟨#[]⟩, Value.string ⟨#[]⟩, Value.string ⟨#[]⟩, Value.int .i64 v], .bool false]) (by simp [results, Tryz.results30, go_sem, r0, r1, r2, r3, r4]) rfl ?_
    refine ⟨⟨op, [], [], [], v⟩, false, rfl, readRes_of ?_, ?_⟩
    rotate_left
    · first | exact (((((HXf.out.setCell (p := ⟨ga, 0, none⟩) HGA.out _).setCell (p := ⟨ga, 1, none⟩) HGA.out _).setCell (p := ⟨ga, 2, none⟩) HGA.out _).setCell (p := ⟨ga, 3, none⟩) HGA.out _).setCell (p := ⟨ga, 4, none⟩) HGA.out _).drew | exact (((((HXf.out.drew.setCell (p := ⟨ga, 0, none⟩) HGA.out _).setCell (p := ⟨ga, 1, none⟩) HGA.out _).setCell (p := ⟨ga, 2, none⟩) HGA.out _).setCell (p := ⟨ga, 3, none⟩) HGA.out _).setCell (p := ⟨ga, 4, none⟩) HGA.out _) | exact (((((HXf.out.setCell (p := ⟨ga, 0, none⟩) HGA.out _).setCell (p := ⟨ga, 1, none⟩) HGA.out _).setCell (p := ⟨ga, 2, none⟩) HGA.out _).setCell (p := ⟨ga, 3, none⟩) HGA.out _).setCell (p := ⟨ga, 4, none⟩) HGA.out _)
    rw [HRP.out]
    simp [num_none HNR.out]
  · skip
    have a0 := HAe.out.cell 0
    have e0 := HAe.out.frozen 0
    have p0 := HCe.out.cell 0
    have q0 := HCe.out.frozen 0
    have a1 := HAe.out.cell 1
    have e1 := HAe.out.frozen 1
    have p1 := HCe.out.cell 1
    have q1 := HCe.out.frozen 1
    have a2 := HAe.out.cell 2
    have e2 := HAe.out.frozen 2
    have p2 := HCe.out.cell 2
    have q2 := HCe.out.frozen 2
    have a3 := HAe.out.cell 3
    have e3 := HAe.out.frozen 3
    have p3 := HCe.out.cell 3
    have q3 := HCe.out.frozen 3
    have a4 := HAe.out.cell 4
    have e4 := HAe.out.frozen 4
    have p4 := HCe.out.cell 4
    have q4 := HCe.out.frozen 4
    have az := HAe.out.lt
    have pz := HCe.out.lt
    go_upto_region 17 with fail
    clear a0 a1 a2 a3 a4 e0 e1 e2 e3 e4 p0 p1 p2 p3 p4 q0 q1 q2 q3 q4 az pz
    generalize w5.setCell ⟨gc, 4, none⟩ (Value.int .i64 v) = w6 at *
    have HVK : Hid (∀ W : World, Calls Tryz.prog 15 #[.agg #[Value.int .i64 op, Value.string ⟨#[]⟩, Value.string ⟨#[]⟩, Value.string ⟨#[]⟩, Value.int .i64 v]] W fun e w' => e = .returned (.bool (validC ⟨op, [], [], [], v⟩)) ∧ Ext W w') := Lib.hid (fun W => cvalid_any W ⟨op, [], [], [], v⟩ (by have := HL.out; simp only [List.length_nil]; omega) (by have := HL.out; simp only [List.length_nil]; omega) (by have := HL.out; simp only [List.length_nil]; omega))
    obtain ⟨vb, hvb⟩ : ∃ vb, vb = validC ⟨op, [], [], [], v⟩ := ⟨_, rfl⟩
    have HVB := Lib.hid hvb
    rw [← hvb] at HVK
    clear hvb
    have a0 := HAf.out.cell 0
    have e0 := HAf.out.frozen 0
    have p0 := HCf.out.cell 0
    have q0 := HCf.out.frozen 0
    have a1 := HAf.out.cell 1
    have e1 := HAf.out.frozen 1
    have p1 := HCf.out.cell 1
    have q1 := HCf.out.frozen 1
    have a2 := HAf.out.cell 2
    have e2 := HAf.out.frozen 2
    have p2 := HCf.out.cell 2
    have q2 := HCf.out.frozen 2
    have a3 := HAf.out.cell 3
    have e3 := HAf.out.frozen 3
    have p3 := HCf.out.cell 3
    have q3 := HCf.out.frozen 3
    have a4 := HAf.out.cell 4
    have e4 := HAf.out.frozen 4
    have p4 := HCf.out.cell 4
    have q4 := HCf.out.frozen 4
    have az := HAf.out.lt
    have pz := HCf.out.lt
    go_region_held3 (fun W => Ext w W ∧ W.cell? ⟨gc, 0, none⟩ = some (Value.int .i64 op) ∧ W.cell? ⟨gc, 1, none⟩ = some (Value.string ⟨#[]⟩) ∧ W.cell? ⟨gc, 2, none⟩ = some (Value.string ⟨#[]⟩) ∧ W.cell? ⟨gc, 3, none⟩ = some (Value.string ⟨#[]⟩) ∧ W.cell? ⟨gc, 4, none⟩ = some (Value.int .i64 v) ∧ W.cell? ⟨ga, 0, none⟩ = some (was W ga 0) ∧ W.cell? ⟨ga, 1, none⟩ = some (was W ga 1) ∧ W.cell? ⟨ga, 2, none⟩ = some (was W ga 2) ∧ W.cell? ⟨ga, 3, none⟩ = some (was W ga 3) ∧ W.cell? ⟨ga, 4, none⟩ = some (was W ga 4) ∧ W.frozen? ⟨ga, 0, none⟩ = false ∧ W.frozen? ⟨ga, 1, none⟩ = false ∧ W.frozen? ⟨ga, 2, none⟩ = false ∧ W.frozen? ⟨ga, 3, none⟩ = false ∧ W.frozen? ⟨ga, 4, none⟩ = false)
      (first | (exact ⟨HXf.out.drew, p0, p1, p2, p3, p4, was_some (w := w6.drew) a0, was_some (w := w6.drew) a1, was_some (w := w6.drew) a2, was_some (w := w6.drew) a3, was_some (w := w6.drew) a4, e0, e1, e2, e3, e4⟩) | (exact keptR (by assumption) (by assumption)) | (exact keptR_set (by assumption) HGA.out nac.symm))
      (first | (go_at_call 15; refine (HVK.out _).mono ?_; rintro e w9 ⟨rfl, hx9⟩))
    go_wp2_with fail
    rename_i hS
    obtain ⟨r0, r1, r2, r3, r4⟩ := final5 hS.2.2.2.2.2.2.1 hS.2.2.2.2.2.2.2.1 hS.2.2.2.2.2.2.2.2.1 hS.2.2.2.2.2.2.2.2.2.1 hS.2.2.2.2.2.2.2.2.2.2.1
    refine bodyPost_ret (v := .tuple #[.agg #[Value.int .i64 op, Value.string ⟨#[]⟩, Value.string ⟨#[]⟩, Value.string ⟨#[]⟩, Value.int .i64 v], .bool vb]) (by simp [results, Tryz.results30, go_sem, r0, r1, r2, r3, r4]) rfl ?_
    refine ⟨⟨op, [], [], [], v⟩, vb, rfl, readRes_of ?_, hS.1⟩
    rw [HRP.out, HVB.out]
    simp only [ne_eq, reduceCtorEq, not_false_eq_true, not_true_eq_false, and_false, or_true, if_true, if_false, Nat.succ_ne_self, OfNat.ofNat]; exact num_some (by rw [← HKE.out]; simp) HNR.out
end Big
end Go.Proofs.YtoehdoghghpmjaaGreatDoor
