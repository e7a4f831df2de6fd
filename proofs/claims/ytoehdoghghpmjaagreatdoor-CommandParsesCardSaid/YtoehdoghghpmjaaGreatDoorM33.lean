import Derived.Test.YtoehdoghghpmjaaGreatDoorM32
/- The document's Parse of commands: a class of operations. -/
namespace Go.Proofs.YtoehdoghghpmjaaGreatDoor
namespace Big
open Go.RowKit
set_option maxHeartbeats 2000000 in
set_option maxRecDepth 100000 in
theorem rparse31_1 (w : World) (s : List UInt8) (hs : s.length ≤ 500) (k : Nat) (hko : opOf (fw (sp s)) = k) (hk : k = 1) :
    Calls Tryz.prog 13 #[str s] w fun e w' => e = .returned (.tuple #[cmdV (cmdOf (lineR s).1), .int .i64 ((lineR s).2 : Int)]) ∧ Ext w w' := by
  unfold cmdV
  have h5' : ¬ (500 : Int) < (s.length : Int) := by omega
  have HRN := Lib.hid (fun h => lineR_none (s := s) (by omega) h)
  have HRS0 := Lib.hid (fun c h0 h => lineR_some (s := s) (c := c) (by omega) h0 h)
  have hk22 : k < 22 := by
    by_cases h : opOf (fw (sp s)) = 0
    · omega
    · have := (opOf_spec h).1; omega
  have HAT : Hid (∀ i, 1 ≤ i → i < 22 → (cmdNames.getD i [] = fw (sp s) ↔ i = k)) := Lib.hid (fun i h1 h2 => ⟨fun h => by
      have := opOf_at h2 (names_ne i h1 h2)
      rw [h] at this
      omega, fun h => by
      have h3 : opOf (fw (sp s)) ≠ 0 := by omega
      have := (opOf_spec h3).2
      rw [hko, ← h] at this
      exact this⟩)
  have e0 := sp_le s
  have e1 := fw_le (sp s)
  have e2 := rw_le (sp s)
  have HN1 := Lib.hid (fun W => next31_any W s (by omega))
  rw [hko] at HRN HRS0
  obtain ⟨first, hfi⟩ : ∃ x, x = fw (sp s) := ⟨_, rfl⟩
  obtain ⟨r1, hr1⟩ : ∃ x, x = rw_ (sp s) := ⟨_, rfl⟩
  rw [← hfi, ← hr1] at HN1
  rw [← hfi] at HAT
  rw [← hr1] at HRN HRS0 e2
  clear hko hfi hr1 e1
  generalize lineR s = R at *
  have e3 := sp_le r1
  have e4 := fw_le (sp r1)
  have e5 := rw_le (sp r1)
  have e6 := sp_le (rw_ (sp r1))
  have e7 := fw_le (sp (rw_ (sp r1)))
  have e8 := rw_le (sp (rw_ (sp r1)))
  have e9 := bareT_le (rw_ (sp (rw_ (sp r1))))
  have HL : Hid (r1.length ≤ 500 ∧ (fw (sp r1)).length ≤ 500 ∧ (rw_ (sp r1)).length ≤ 500 ∧ (fw (sp (rw_ (sp r1)))).length ≤ 500 ∧ (rw_ (sp (rw_ (sp r1)))).length ≤ 500 ∧ (bareT (rw_ (sp (rw_ (sp r1))))).length ≤ 500) := Lib.hid (by omega)
  have HN2 := Lib.hid (fun W => next31_any W r1 (by omega))
  have HN3 := Lib.hid (fun W => next31_any W (rw_ (sp r1)) (by omega))
  have HNM := Lib.hid (fun W op => rname31_any W op)
  have HND := Lib.hid (fun W => rnamed_any W (k : Int))
  subst hk
  have HRS := Lib.hid (fun c h => HRS0.out c (by omega) h)
  rw [show namedC ((1 : Nat) : Int) = true from rfl] at HND
  have HRD : Hid (readR (((1 : Nat) : Int) : Int) r1 = if fw (sp (rw_ (sp r1))) = [61] ∧ validC ⟨1, fw (sp r1), [], bareT (rw_ (sp (rw_ (sp r1)))), 0⟩ = true then some ⟨1, fw (sp r1), [], bareT (rw_ (sp (rw_ (sp r1)))), 0⟩ else none) := Lib.hid (by show readR 1 r1 = _; unfold readR; simp [show shapeC 1 = 5 from rfl])
  have HHD := Lib.hid (rw_head (sp (rw_ (sp r1))))
  have HVT : Hid (rw_ (sp (rw_ (sp r1))) = [] → validC ⟨1, fw (sp r1), [], bareT (rw_ (sp (rw_ (sp r1)))), 0⟩ = false) := Lib.hid (fun h => by rw [h]; unfold validC; simp [show shapeC 1 = 5 from rfl, show bareT [] = [] from rfl, show textB [] = false from rfl])
  clear hs e0 e2 e3 e4 e5 e6 e7 e8 e9
  go_enter Tryz.func13, Tryz.ntmps13
  go_wp2_with fail
  have ha := (Blk.new w 31 #[Value.int .i64 0, Value.string ⟨#[]⟩, Value.string ⟨#[]⟩, Value.string ⟨#[]⟩, Value.int .i64 0]).ext ((Ext.refl _).alloc (.cells #[Value.int .i64 0, Value.string ⟨#[]⟩, Value.string ⟨#[]⟩, Value.string ⟨#[]⟩, Value.int .i64 0] 31))
  have hc := Blk.new (w.alloc (.cells #[Value.int .i64 0, Value.string ⟨#[]⟩, Value.string ⟨#[]⟩, Value.string ⟨#[]⟩, Value.int .i64 0] 31)) 31 #[Value.int .i64 0, Value.string ⟨#[]⟩, Value.string ⟨#[]⟩, Value.string ⟨#[]⟩, Value.int .i64 0]
  have hgs : (w.alloc (.cells #[Value.int .i64 0, Value.string ⟨#[]⟩, Value.string ⟨#[]⟩, Value.string ⟨#[]⟩, Value.int .i64 0] 31)).heap.size = w.heap.size + 1 := by simp
  rw [hgs] at hc
  have HX0 : Hid (Ext w ((w.alloc (.cells #[Value.int .i64 0, Value.string ⟨#[]⟩, Value.string ⟨#[]⟩, Value.string ⟨#[]⟩, Value.int .i64 0] 31)).alloc (.cells #[Value.int .i64 0, Value.string ⟨#[]⟩, Value.string ⟨#[]⟩, Value.string ⟨#[]⟩, Value.int .i64 0] 31))) := Lib.hid (((Ext.refl w).alloc _).alloc _)
  obtain ⟨gc, hgc⟩ : ∃ gc, gc = w.heap.size + 1 := ⟨_, rfl⟩
  rw [← hgc] at hc ⊢
  obtain ⟨ga, hga⟩ : ∃ ga, ga = w.heap.size := ⟨_, rfl⟩
  have nac : ga ≠ gc := by omega
  have HGA : Hid (w.heap.size ≤ ga) := Lib.hid (by omega)
  have HGC : Hid (w.heap.size ≤ gc) := Lib.hid (by omega)
  rw [← hga] at ha ⊢
  have HA0 := Lib.hid ha
  have HC0 := Lib.hid hc
  clear ha hc hga hgc hgs
  generalize (w.alloc (.cells #[Value.int .i64 0, Value.string ⟨#[]⟩, Value.string ⟨#[]⟩, Value.string ⟨#[]⟩, Value.int .i64 0] 31)).alloc (.cells #[Value.int .i64 0, Value.string ⟨#[]⟩, Value.string ⟨#[]⟩, Value.string ⟨#[]⟩, Value.int .i64 0] 31) = w0 at *
  refine (HN1.out _).mono ?_
  rintro e w1 ⟨rfl, hx1⟩
  have HA1 := Lib.hid (HA0.out.ext hx1)
  have HC1 := Lib.hid (HC0.out.ext hx1)
  have HX1 := Lib.hid (HX0.out.trans hx1)
  clear hx1
  go_wp2_with fail
  go_loopw [7] (fun s7 wr => ∃ i : Nat, 1 ≤ i ∧ i ≤ 22 ∧ s7 = .int .i64 (i : Int) ∧ Ext w wr ∧ Blk wr ga 31 #[Value.int .i64 0, Value.string ⟨#[]⟩, Value.string ⟨#[]⟩, Value.string ⟨#[]⟩, Value.int .i64 0] ∧ ∃ v : Nat, Blk wr gc 31 #[Value.int .i64 (v : Int), Value.string ⟨#[]⟩, Value.string ⟨#[]⟩, Value.string ⟨#[]⟩, Value.int .i64 0] ∧ v = if 1 < i then 1 else 0) (fun s7 _ => 22 - (intOf s7).toNat)
  case atStart => exact ⟨1, by omega, by omega, rfl, HX1.out, HA1.out, 0, HC1.out, by split <;> omega⟩
  case round =>
    obtain ⟨i, hi1, hi2, rfl, hx, ha, v, hc, hv⟩ := hrel
    have HX2 := Lib.hid hx
    have HA2 := Lib.hid ha
    have HC2 := Lib.hid hc
    have HV := Lib.hid hv
    clear hx ha hc hv HX1 HA1 HC1 HX0 HA0 HC0
    by_cases hlt : i < 22
    · have hii : (i : Int) ≤ 21 := by omega
      have hat := HAT.out i hi1 hlt
      have hnm : nameC (i : Int) = cmdNames.getD i [] := by unfold nameC; rw [if_pos (by omega), Int.toNat_natCast]
      have HNI := Lib.hid (fun W => HNM.out W (i : Int))
      rw [hnm] at HNI
      generalize cmdNames.getD i [] = fn at *
      clear hnm
      go_wp2_with fail
      refine (HNI.out _).mono ?_
      rintro e w3 ⟨rfl, hx3⟩
      have HA3 := Lib.hid (HA2.out.ext hx3)
      have HC3 := Lib.hid (HC2.out.ext hx3)
      have HX3 := Lib.hid (HX2.out.trans hx3)
      clear hx3
      cases heq : fn == first
      · have hne : i ≠ 1 := fun h => by rw [hat.2 h] at heq; simp at heq
        have HV2 : Hid (v = if 1 < i + 1 then 1 else 0) := Lib.hid (by rw [HV.out]; (repeat' split) <;> omega)
        clear hat hne
        go_wp2_with fail
        go_roundw
        case rel => exact ⟨i + 1, by omega, by omega, by go_num, HX3.out, HA3.out, v, HC3.out, HV2.out⟩
        case measure => simp [intOf]; omega
      · have hik : i = 1 := hat.1 (by simpa using heq)
        have HV2 : Hid (i = if 1 < i + 1 then 1 else 0) := Lib.hid (by rw [if_pos (by omega)]; exact hik)
        clear hat hik
        have a0 := HA3.out.cell 0
        have e0 := HA3.out.frozen 0
        have p0 := HC3.out.cell 0
        have q0 := HC3.out.frozen 0
        have a1 := HA3.out.cell 1
        have e1 := HA3.out.frozen 1
        have p1 := HC3.out.cell 1
        have q1 := HC3.out.frozen 1
        have a2 := HA3.out.cell 2
        have e2 := HA3.out.frozen 2
        have p2 := HC3.out.cell 2
        have q2 := HC3.out.frozen 2
        have a3 := HA3.out.cell 3
        have e3 := HA3.out.frozen 3
        have p3 := HC3.out.cell 3
        have q3 := HC3.out.frozen 3
        have a4 := HA3.out.cell 4
        have e4 := HA3.out.frozen 4
        have p4 := HC3.out.cell 4
        have q4 := HC3.out.frozen 4
        have az := HA3.out.lt
        have pz := HC3.out.lt
        go_wp2_with fail
        go_roundw
        case rel => exact ⟨i + 1, by omega, by omega, by go_num, HX3.out.setCell (p := ⟨gc, 0, none⟩) HGC.out _, HA3.out.far nac _, i, (by have := HC3.out.set_ 0 (Value.int .i64 (i : Int)); simpa using this), HV2.out⟩
        case measure => simp [intOf]; omega
    · obtain rfl : i = 22 := by omega
      have hvk : v = 1 := by have := HV.out; rw [if_pos hk22] at this; exact this
      subst hvk
      clear HV hlt hi1 hi2 HAT
      have a0 := HA2.out.cell 0
      have e0 := HA2.out.frozen 0
      have p0 := HC2.out.cell 0
      have q0 := HC2.out.frozen 0
      have a1 := HA2.out.cell 1
      have e1 := HA2.out.frozen 1
      have p1 := HC2.out.cell 1
      have q1 := HC2.out.frozen 1
      have a2 := HA2.out.cell 2
      have e2 := HA2.out.frozen 2
      have p2 := HC2.out.cell 2
      have q2 := HC2.out.frozen 2
      have a3 := HA2.out.cell 3
      have e3 := HA2.out.frozen 3
      have p3 := HC2.out.cell 3
      have q3 := HC2.out.frozen 3
      have a4 := HA2.out.cell 4
      have e4 := HA2.out.frozen 4
      have p4 := HC2.out.cell 4
      have q4 := HC2.out.frozen 4
      have az := HA2.out.lt
      have pz := HC2.out.lt
      go_wp2_with fail
      refine (HND.out _).mono ?_
      rintro e w4 ⟨rfl, rfl⟩
      go_wp2_with fail
      refine (HN2.out _).mono ?_
      rintro e w4 ⟨rfl, hx4⟩
      clear a0 a1 a2 a3 a4 e0 e1 e2 e3 e4 p0 p1 p2 p3 p4 q0 q1 q2 q3 q4 az pz
      have HAd := Lib.hid (HA2.out.ext hx4)
      have HCd := Lib.hid (HC2.out.ext hx4)
      have HXd := Lib.hid (HX2.out.trans hx4)
      clear hx4
      have HAe : Hid (Blk (w4.setCell ⟨gc, 1, none⟩ (str (fw (sp r1)))) ga 31 #[Value.int .i64 0, Value.string ⟨#[]⟩, Value.string ⟨#[]⟩, Value.string ⟨#[]⟩, Value.int .i64 0]) := Lib.hid (HAd.out.far nac _)
      have HCe : Hid (Blk (w4.setCell ⟨gc, 1, none⟩ (str (fw (sp r1)))) gc 31 #[Value.int .i64 (1 : Int), str (fw (sp r1)), Value.string ⟨#[]⟩, Value.string ⟨#[]⟩, Value.int .i64 0]) := Lib.hid (by have := HCd.out.set_ 1 (str (fw (sp r1))); simpa using this)
      have HXe : Hid (Ext w (w4.setCell ⟨gc, 1, none⟩ (str (fw (sp r1))))) := Lib.hid (HXd.out.setCell (p := ⟨gc, 1, none⟩) HGC.out (str (fw (sp r1))))
      have a0 := HAd.out.cell 0
      have e0 := HAd.out.frozen 0
      have p0 := HCd.out.cell 0
      have q0 := HCd.out.frozen 0
      have a1 := HAd.out.cell 1
      have e1 := HAd.out.frozen 1
      have p1 := HCd.out.cell 1
      have q1 := HCd.out.frozen 1
      have a2 := HAd.out.cell 2
      have e2 := HAd.out.frozen 2
      have p2 := HCd.out.cell 2
      have q2 := HCd.out.frozen 2
      have a3 := HAd.out.cell 3
      have e3 := HAd.out.frozen 3
      have p3 := HCd.out.cell 3
      have q3 := HCd.out.frozen 3
      have a4 := HAd.out.cell 4
      have e4 := HAd.out.frozen 4
      have p4 := HCd.out.cell 4
      have q4 := HCd.out.frozen 4
      have az := HAd.out.lt
      have pz := HCd.out.lt
      go_wp2_with fail
      refine (HN3.out _).mono ?_
      rintro e w5 ⟨rfl, hx5⟩
      clear a0 a1 a2 a3 a4 e0 e1 e2 e3 e4 p0 p1 p2 p3 p4 q0 q1 q2 q3 q4 az pz
      generalize hgw : w4.setCell ⟨gc, 1, none⟩ (str (fw (sp r1))) = w4' at *
      clear hgw
      have HAf := Lib.hid (HAe.out.ext hx5)
      have HCf := Lib.hid (HCe.out.ext hx5)
      have HXf := Lib.hid (HXe.out.trans hx5)
      clear hx5
      obtain ⟨sg, hsg⟩ : ∃ x, x = fw (sp (rw_ (sp r1))) := ⟨_, rfl⟩
      obtain ⟨r3, hr3⟩ : ∃ x, x = rw_ (sp (rw_ (sp r1))) := ⟨_, rfl⟩
      rw [← hsg] at HRD HL ⊢
      rw [← hr3] at HRD HHD HVT HL ⊢
      clear hsg hr3
      have a0 := HAf.out.cell 0
      have e0 := HAf.out.frozen 0
      have p0 := HCf.out.cell 0
      have q0 := HCf.out.frozen 0
      have a1 := HAf.out.cell 1
      have e1 := HAf.out.frozen 1
      have p1 := HCf.out.cell 1
      have q1 := HCf.out.frozen 1
      have a2 := HAf.out.cell 2
      have e2 := HAf.out.frozen 2
      have p2 := HCf.out.cell 2
      have q2 := HCf.out.frozen 2
      have a3 := HAf.out.cell 3
      have e3 := HAf.out.frozen 3
      have p3 := HCf.out.cell 3
      have q3 := HCf.out.frozen 3
      have a4 := HAf.out.cell 4
      have e4 := HAf.out.frozen 4
      have p4 := HCf.out.cell 4
      have q4 := HCf.out.frozen 4
      have az := HAf.out.lt
      have pz := HCf.out.lt
      cases hse : sg == [61]
      · have HN6 : Hid (R = (none, 6)) := Lib.hid (HRN.out (.inr (by rw [HRD.out, if_neg (fun h => by rw [h.1] at hse; simp at hse)])))
        have hse' : (sg != [61]) = true := by simp [bne, hse]
        go_wp2_with fail
        obtain ⟨y0, y1, y2, y3, y4⟩ := five_set HAf.out (Value.int .i64 0) (Value.string ⟨#[]⟩) (Value.string ⟨#[]⟩) (Value.string ⟨#[]⟩) (Value.int .i64 0)
        refine bodyPost_ret (v := .tuple #[.agg #[Value.int .i64 0, Value.string ⟨#[]⟩, Value.string ⟨#[]⟩, Value.string ⟨#[]⟩, Value.int .i64 0], .int .i64 6]) (by simp [results, Tryz.results13, go_sem, y0, y1, y2, y3, y4]) rfl ?_
        rw [HN6.out]
        exact ⟨rfl, (((((HXf.out.setCell (p := ⟨ga, 0, none⟩) HGA.out _).setCell (p := ⟨ga, 1, none⟩) HGA.out _).setCell (p := ⟨ga, 2, none⟩) HGA.out _).setCell (p := ⟨ga, 3, none⟩) HGA.out _).setCell (p := ⟨ga, 4, none⟩) HGA.out _)⟩
      have hse' : (sg != [61]) = false := by simp [bne, hse]
      have HSE : Hid (sg = [61]) := Lib.hid (by simpa using hse)
      clear hse
      rcases HHD.out with hr0 | ⟨r4, hr4⟩
      · have HN6 : Hid (R = (none, 6)) := Lib.hid (HRN.out (.inr (by rw [HRD.out, if_neg (fun h => by have := HVT.out hr0; rw [this] at h; simp at h)])))
        have hr0' : (r3 == []) = true := by rw [hr0]; rfl
        clear hr0
        go_wp2_with fail
        obtain ⟨y0, y1, y2, y3, y4⟩ := five_set HAf.out (Value.int .i64 0) (Value.string ⟨#[]⟩) (Value.string ⟨#[]⟩) (Value.string ⟨#[]⟩) (Value.int .i64 0)
        refine bodyPost_ret (v := .tuple #[.agg #[Value.int .i64 0, Value.string ⟨#[]⟩, Value.string ⟨#[]⟩, Value.string ⟨#[]⟩, Value.int .i64 0], .int .i64 6]) (by simp [results, Tryz.results13, go_sem, y0, y1, y2, y3, y4]) rfl ?_
        rw [HN6.out]
        exact ⟨rfl, (((((HXf.out.setCell (p := ⟨ga, 0, none⟩) HGA.out _).setCell (p := ⟨ga, 1, none⟩) HGA.out _).setCell (p := ⟨ga, 2, none⟩) HGA.out _).setCell (p := ⟨ga, 3, none⟩) HGA.out _).setCell (p := ⟨ga, 4, none⟩) HGA.out _)⟩
      have hr0' : (r3 == []) = false := by rw [hr4]; rfl
      have hb3 : ((byteAt r3 0 : Int) != 32) = false := by rw [hr4]; rfl
      have hp3 : (0 : Int) < (r3.length : Int) := by rw [hr4, List.length_cons]; omega
      have HBT := Lib.hid (fun W => bare31_any W r3 (by have := HL.out; (try simp only [List.length_nil]); omega))
      clear hr4
      go_wp2_with fail
      refine (HBT.out _).mono ?_
      rintro e w6 ⟨rfl, rfl⟩
      clear a0 a1 a2 a3 a4 e0 e1 e2 e3 e4 p0 p1 p2 p3 p4 q0 q1 q2 q3 q4 az pz
      have HAg : Hid (Blk (w5.setCell ⟨gc, 3, none⟩ (str (bareT r3))) ga 31 #[Value.int .i64 0, Value.string ⟨#[]⟩, Value.string ⟨#[]⟩, Value.string ⟨#[]⟩, Value.int .i64 0]) := Lib.hid (HAf.out.far nac _)
      have HCg : Hid (Blk (w5.setCell ⟨gc, 3, none⟩ (str (bareT r3))) gc 31 #[Value.int .i64 (1 : Int), str (fw (sp r1)), Value.string ⟨#[]⟩, str (bareT r3), Value.int .i64 0]) := Lib.hid (by have := HCf.out.set_ 3 (str (bareT r3)); simpa using this)
      have HXg : Hid (Ext w (w5.setCell ⟨gc, 3, none⟩ (str (bareT r3)))) := Lib.hid (HXf.out.setCell (p := ⟨gc, 3, none⟩) HGC.out (str (bareT r3)))
      have a0 := HAf.out.cell 0
      have e0 := HAf.out.frozen 0
      have p0 := HCf.out.cell 0
      have q0 := HCf.out.frozen 0
      have a1 := HAf.out.cell 1
      have e1 := HAf.out.frozen 1
      have p1 := HCf.out.cell 1
      have q1 := HCf.out.frozen 1
      have a2 := HAf.out.cell 2
      have e2 := HAf.out.frozen 2
      have p2 := HCf.out.cell 2
      have q2 := HCf.out.frozen 2
      have a3 := HAf.out.cell 3
      have e3 := HAf.out.frozen 3
      have p3 := HCf.out.cell 3
      have q3 := HCf.out.frozen 3
      have a4 := HAf.out.cell 4
      have e4 := HAf.out.frozen 4
      have p4 := HCf.out.cell 4
      have q4 := HCf.out.frozen 4
      have az := HAf.out.lt
      have pz := HCf.out.lt
      go_upto_region 30 with fail
      clear a0 a1 a2 a3 a4 e0 e1 e2 e3 e4 p0 p1 p2 p3 p4 q0 q1 q2 q3 q4 az pz
      generalize hgw : w5.setCell ⟨gc, 3, none⟩ (str (bareT r3)) = w6 at *
      clear hgw
      have HRD2 : Hid (readR ((1 : Nat) : Int) r1 = if validC ⟨1, fw (sp r1), [], bareT r3, 0⟩ = true then some ⟨1, fw (sp r1), [], bareT r3, 0⟩ else none) := Lib.hid (by rw [HRD.out]; simp [HSE.out])
      clear HRD
      have HRD := HRD2
      clear HRD2
      have HBR := Lib.hid (fun W => bare31_any W [] (by have := HL.out; (try simp only [List.length_nil]); omega))
      have HVK : Hid (∀ W : World, Calls Tryz.prog 16 #[.agg #[Value.int .i64 (1 : Int), str (fw (sp r1)), Value.string ⟨#[]⟩, str (bareT r3), Value.int .i64 0]] W fun e w' => e = .returned (.bool (validC ⟨1, fw (sp r1), [], bareT r3, 0⟩)) ∧ Ext W w') := Lib.hid (fun W => rvalid31_any W ⟨1, fw (sp r1), [], bareT r3, 0⟩ (by have := HL.out; (try simp only [List.length_nil]); omega) (by have := HL.out; (try simp only [List.length_nil]); omega) (by have := HL.out; (try simp only [List.length_nil]); omega))
      obtain ⟨vb, hvb⟩ : ∃ vb, vb = validC ⟨1, fw (sp r1), [], bareT r3, 0⟩ := ⟨_, rfl⟩
      have HVB := Lib.hid hvb
      rw [← hvb] at HVK HRD
      clear hvb
      have hbe0 : (([] : List UInt8) == []) = true := rfl
      have a0 := HAg.out.cell 0
      have e0 := HAg.out.frozen 0
      have p0 := HCg.out.cell 0
      have q0 := HCg.out.frozen 0
      have a1 := HAg.out.cell 1
      have e1 := HAg.out.frozen 1
      have p1 := HCg.out.cell 1
      have q1 := HCg.out.frozen 1
      have a2 := HAg.out.cell 2
      have e2 := HAg.out.frozen 2
      have p2 := HCg.out.cell 2
      have q2 := HCg.out.frozen 2
      have a3 := HAg.out.cell 3
      have e3 := HAg.out.frozen 3
      have p3 := HCg.out.cell 3
      have q3 := HCg.out.frozen 3
      have a4 := HAg.out.cell 4
      have e4 := HAg.out.frozen 4
      have p4 := HCg.out.cell 4
      have q4 := HCg.out.frozen 4
      have az := HAg.out.lt
      have pz := HCg.out.lt
      go_wp2_with fail
      refine (HBR.out _).mono ?_
      rintro e w8 ⟨rfl, rfl⟩
      go_wp2_with fail
      refine (HVK.out _).mono ?_
      rintro e w9 ⟨rfl, hx9⟩
      clear a0 a1 a2 a3 a4 e0 e1 e2 e3 e4 p0 p1 p2 p3 p4 q0 q1 q2 q3 q4 az pz
      have HAz := Lib.hid (HAg.out.ext hx9)
      have HCz := Lib.hid (HCg.out.ext hx9)
      have HXz := Lib.hid (HXg.out.trans hx9)
      clear hx9
      have a0 := HAz.out.cell 0
      have e0 := HAz.out.frozen 0
      have p0 := HCz.out.cell 0
      have q0 := HCz.out.frozen 0
      have a1 := HAz.out.cell 1
      have e1 := HAz.out.frozen 1
      have p1 := HCz.out.cell 1
      have q1 := HCz.out.frozen 1
      have a2 := HAz.out.cell 2
      have e2 := HAz.out.frozen 2
      have p2 := HCz.out.cell 2
      have q2 := HCz.out.frozen 2
      have a3 := HAz.out.cell 3
      have e3 := HAz.out.frozen 3
      have p3 := HCz.out.cell 3
      have q3 := HCz.out.frozen 3
      have a4 := HAz.out.cell 4
      have e4 := HAz.out.frozen 4
      have p4 := HCz.out.cell 4
      have q4 := HCz.out.frozen 4
      have az := HAz.out.lt
      have pz := HCz.out.lt
      cases vb
      · have HN6 : Hid (R = (none, 6)) := Lib.hid (HRN.out (.inr (HRD.out.trans (by simp))))
        go_wp2_with fail
        obtain ⟨y0, y1, y2, y3, y4⟩ := five_set HAz.out (Value.int .i64 0) (Value.string ⟨#[]⟩) (Value.string ⟨#[]⟩) (Value.string ⟨#[]⟩) (Value.int .i64 0)
        refine bodyPost_ret (v := .tuple #[.agg #[Value.int .i64 0, Value.string ⟨#[]⟩, Value.string ⟨#[]⟩, Value.string ⟨#[]⟩, Value.int .i64 0], .int .i64 6]) (by simp [results, Tryz.results13, go_sem, y0, y1, y2, y3, y4]) rfl ?_
        rw [HN6.out]
        exact ⟨rfl, (((((HXz.out.setCell (p := ⟨ga, 0, none⟩) HGA.out _).setCell (p := ⟨ga, 1, none⟩) HGA.out _).setCell (p := ⟨ga, 2, none⟩) HGA.out _).setCell (p := ⟨ga, 3, none⟩) HGA.out _).setCell (p := ⟨ga, 4, none⟩) HGA.out _)⟩
      · have HN6 : Hid (R = (some ⟨1, fw (sp r1), [], bareT r3, 0⟩, 0)) := Lib.hid (HRS.out _ (HRD.out.trans (by simp)))
        go_wp2_with fail
        obtain ⟨y0, y1, y2, y3, y4⟩ := five_set HAz.out (Value.int .i64 (1 : Int)) (str (fw (sp r1))) (Value.string ⟨#[]⟩) (str (bareT r3)) (Value.int .i64 0)
        refine bodyPost_ret (v := .tuple #[.agg #[Value.int .i64 (1 : Int), str (fw (sp r1)), Value.string ⟨#[]⟩, str (bareT r3), Value.int .i64 0], .int .i64 0]) (by simp [results, Tryz.results13, go_sem, y0, y1, y2, y3, y4]) rfl ?_
        rw [HN6.out]
        exact ⟨rfl, (((((HXz.out.setCell (p := ⟨ga, 0, none⟩) HGA.out _).setCell (p := ⟨ga, 1, none⟩) HGA.out _).setCell (p := ⟨ga, 2, none⟩) HGA.out _).setCell (p := ⟨ga, 3, none⟩) HGA.out _).setCell (p := ⟨ga, 4, none⟩) HGA.out _)⟩
end Big
end Go.Proofs.YtoehdoghghpmjaaGreatDoor
/- The document's Parse of commands: a class of operations. -/
namespace Go.Proofs.YtoehdoghghpmjaaGreatDoor
namespace Big
open Go.RowKit
set_option maxHeartbeats 2000000 in
set_option maxRecDepth 100000 in
theorem rparse31_3 (w : World) (s : List UInt8) (hs : s.length ≤ 500) (k : Nat) (hko : opOf (fw (sp s)) = k) (hk : k = 3) :
    Calls Tryz.prog 13 #[str s] w fun e w' => e = .returned (.tuple #[cmdV (cmdOf (lineR s).1), .int .i64 ((lineR s).2 : Int)]) ∧ Ext w w' := by
  unfold cmdV
  have h5' : ¬ (500 : Int) < (s.length : Int) := by omega
  have HRN := Lib.hid (fun h => lineR_none (s := s) (by omega) h)
  have HRS0 := Lib.hid (fun c h0 h => lineR_some (s := s) (c := c) (by omega) h0 h)
  have hk22 : k < 22 := by
    by_cases h : opOf (fw (sp s)) = 0
    · omega
    · have := (opOf_spec h).1; omega
  have HAT : Hid (∀ i, 1 ≤ i → i < 22 → (cmdNames.getD i [] = fw (sp s) ↔ i = k)) := Lib.hid (fun i h1 h2 => ⟨fun h => by
      have := opOf_at h2 (names_ne i h1 h2)
      rw [h] at this
      omega, fun h => by
      have h3 : opOf (fw (sp s)) ≠ 0 := by omega
      have := (opOf_spec h3).2
      rw [hko, ← h] at this
      exact this⟩)
  have e0 := sp_le s
  have e1 := fw_le (sp s)
  have e2 := rw_le (sp s)
  have HN1 := Lib.hid (fun W => next31_any W s (by omega))
  rw [hko] at HRN HRS0
  obtain ⟨first, hfi⟩ : ∃ x, x = fw (sp s) := ⟨_, rfl⟩
  obtain ⟨r1, hr1⟩ : ∃ x, x = rw_ (sp s) := ⟨_, rfl⟩
  rw [← hfi, ← hr1] at HN1
  rw [← hfi] at HAT
  rw [← hr1] at HRN HRS0 e2
  clear hko hfi hr1 e1
  generalize lineR s = R at *
  have e3 := sp_le r1
  have e4 := fw_le (sp r1)
  have e5 := rw_le (sp r1)
  have e6 := sp_le (rw_ (sp r1))
  have e7 := fw_le (sp (rw_ (sp r1)))
  have e8 := rw_le (sp (rw_ (sp r1)))
  have e9 := bareT_le (rw_ (sp (rw_ (sp r1))))
  have HL : Hid (r1.length ≤ 500 ∧ (fw (sp r1)).length ≤ 500 ∧ (rw_ (sp r1)).length ≤ 500 ∧ (fw (sp (rw_ (sp r1)))).length ≤ 500 ∧ (rw_ (sp (rw_ (sp r1)))).length ≤ 500 ∧ (bareT (rw_ (sp (rw_ (sp r1))))).length ≤ 500) := Lib.hid (by omega)
  have HN2 := Lib.hid (fun W => next31_any W r1 (by omega))
  have HN3 := Lib.hid (fun W => next31_any W (rw_ (sp r1)) (by omega))
  have HNM := Lib.hid (fun W op => rname31_any W op)
  have HND := Lib.hid (fun W => rnamed_any W (k : Int))
  subst hk
  have HRS := Lib.hid (fun c h => HRS0.out c (by omega) h)
  rw [show namedC ((3 : Nat) : Int) = true from rfl] at HND
  have HRD0 : Hid (readR ((3 : Nat) : Int) r1 = (match numW (fw (sp (rw_ (sp r1)))) with | some n => if bareT (rw_ (sp (rw_ (sp r1)))) = [] ∧ validC ⟨3, fw (sp r1), [], [], (n : Int)⟩ = true then some ⟨3, fw (sp r1), [], [], (n : Int)⟩ else none | none => none)) := Lib.hid (by show readR 3 r1 = _; unfold readR; simp [show shapeC 3 = 2 from rfl] <;> rfl)
  have HPN := Lib.hid (parse_num (fw (sp (rw_ (sp r1)))))
  have HPI := Lib.hid (fun W => rparse_any W (fw (sp (rw_ (sp r1)))))
  clear hs e0 e2 e3 e4 e5 e6 e7 e8 e9
  go_enter Tryz.func13, Tryz.ntmps13
  go_wp2_with fail
  have ha := (Blk.new w 31 #[Value.int .i64 0, Value.string ⟨#[]⟩, Value.string ⟨#[]⟩, Value.string ⟨#[]⟩, Value.int .i64 0]).ext ((Ext.refl _).alloc (.cells #[Value.int .i64 0, Value.string ⟨#[]⟩, Value.string ⟨#[]⟩, Value.string ⟨#[]⟩, Value.int .i64 0] 31))
  have hc := Blk.new (w.alloc (.cells #[Value.int .i64 0, Value.string ⟨#[]⟩, Value.string ⟨#[]⟩, Value.string ⟨#[]⟩, Value.int .i64 0] 31)) 31 #[Value.int .i64 0, Value.string ⟨#[]⟩, Value.string ⟨#[]⟩, Value.string ⟨#[]⟩, Value.int .i64 0]
  have hgs : (w.alloc (.cells #[Value.int .i64 0, Value.string ⟨#[]⟩, Value.string ⟨#[]⟩, Value.string ⟨#[]⟩, Value.int .i64 0] 31)).heap.size = w.heap.size + 1 := by simp
  rw [hgs] at hc
  have HX0 : Hid (Ext w ((w.alloc (.cells #[Value.int .i64 0, Value.string ⟨#[]⟩, Value.string ⟨#[]⟩, Value.string ⟨#[]⟩, Value.int .i64 0] 31)).alloc (.cells #[Value.int .i64 0, Value.string ⟨#[]⟩, Value.string ⟨#[]⟩, Value.string ⟨#[]⟩, Value.int .i64 0] 31))) := Lib.hid (((Ext.refl w).alloc _).alloc _)
  obtain ⟨gc, hgc⟩ : ∃ gc, gc = w.heap.size + 1 := ⟨_, rfl⟩
  rw [← hgc] at hc ⊢
  obtain ⟨ga, hga⟩ : ∃ ga, ga = w.heap.size := ⟨_, rfl⟩
  have nac : ga ≠ gc := by omega
  have HGA : Hid (w.heap.size ≤ ga) := Lib.hid (by omega)
  have HGC : Hid (w.heap.size ≤ gc) := Lib.hid (by omega)
  rw [← hga] at ha ⊢
  have HA0 := Lib.hid ha
  have HC0 := Lib.hid hc
  clear ha hc hga hgc hgs
  generalize (w.alloc (.cells #[Value.int .i64 0, Value.string ⟨#[]⟩, Value.string ⟨#[]⟩, Value.string ⟨#[]⟩, Value.int .i64 0] 31)).alloc (.cells #[Value.int .i64 0, Value.string ⟨#[]⟩, Value.string ⟨#[]⟩, Value.string ⟨#[]⟩, Value.int .i64 0] 31) = w0 at *
  refine (HN1.out _).mono ?_
  rintro e w1 ⟨rfl, hx1⟩
  have HA1 := Lib.hid (HA0.out.ext hx1)
  have HC1 := Lib.hid (HC0.out.ext hx1)
  have HX1 := Lib.hid (HX0.out.trans hx1)
  clear hx1
  go_wp2_with fail
  go_loopw [7] (fun s7 wr => ∃ i : Nat, 1 ≤ i ∧ i ≤ 22 ∧ s7 = .int .i64 (i : Int) ∧ Ext w wr ∧ Blk wr ga 31 #[Value.int .i64 0, Value.string ⟨#[]⟩, Value.string ⟨#[]⟩, Value.string ⟨#[]⟩, Value.int .i64 0] ∧ ∃ v : Nat, Blk wr gc 31 #[Value.int .i64 (v : Int), Value.string ⟨#[]⟩, Value.string ⟨#[]⟩, Value.string ⟨#[]⟩, Value.int .i64 0] ∧ v = if 3 < i then 3 else 0) (fun s7 _ => 22 - (intOf s7).toNat)
  case atStart => exact ⟨1, by omega, by omega, rfl, HX1.out, HA1.out, 0, HC1.out, by split <;> omega⟩
  case round =>
    obtain ⟨i, hi1, hi2, rfl, hx, ha, v, hc, hv⟩ := hrel
    have HX2 := Lib.hid hx
    have HA2 := Lib.hid ha
    have HC2 := Lib.hid hc
    have HV := Lib.hid hv
    clear hx ha hc hv HX1 HA1 HC1 HX0 HA0 HC0
    by_cases hlt : i < 22
    · have hii : (i : Int) ≤ 21 := by omega
      have hat := HAT.out i hi1 hlt
      have hnm : nameC (i : Int) = cmdNames.getD i [] := by unfold nameC; rw [if_pos (by omega), Int.toNat_natCast]
      have HNI := Lib.hid (fun W => HNM.out W (i : Int))
      rw [hnm] at HNI
      generalize cmdNames.getD i [] = fn at *
      clear hnm
      go_wp2_with fail
      refine (HNI.out _).mono ?_
      rintro e w3 ⟨rfl, hx3⟩
      have HA3 := Lib.hid (HA2.out.ext hx3)
      have HC3 := Lib.hid (HC2.out.ext hx3)
      have HX3 := Lib.hid (HX2.out.trans hx3)
      clear hx3
      cases heq : fn == first
      · have hne : i ≠ 3 := fun h => by rw [hat.2 h] at heq; simp at heq
        have HV2 : Hid (v = if 3 < i + 1 then 3 else 0) := Lib.hid (by rw [HV.out]; (repeat' split) <;> omega)
        clear hat hne
        go_wp2_with fail
        go_roundw
        case rel => exact ⟨i + 1, by omega, by omega, by go_num, HX3.out, HA3.out, v, HC3.out, HV2.out⟩
        case measure => simp [intOf]; omega
      · have hik : i = 3 := hat.1 (by simpa using heq)
        have HV2 : Hid (i = if 3 < i + 1 then 3 else 0) := Lib.hid (by rw [if_pos (by omega)]; exact hik)
        clear hat hik
        have a0 := HA3.out.cell 0
        have e0 := HA3.out.frozen 0
        have p0 := HC3.out.cell 0
        have q0 := HC3.out.frozen 0
        have a1 := HA3.out.cell 1
        have e1 := HA3.out.frozen 1
        have p1 := HC3.out.cell 1
        have q1 := HC3.out.frozen 1
        have a2 := HA3.out.cell 2
        have e2 := HA3.out.frozen 2
        have p2 := HC3.out.cell 2
        have q2 := HC3.out.frozen 2
        have a3 := HA3.out.cell 3
        have e3 := HA3.out.frozen 3
        have p3 := HC3.out.cell 3
        have q3 := HC3.out.frozen 3
        have a4 := HA3.out.cell 4
        have e4 := HA3.out.frozen 4
        have p4 := HC3.out.cell 4
        have q4 := HC3.out.frozen 4
        have az := HA3.out.lt
        have pz := HC3.out.lt
        go_wp2_with fail
        go_roundw
        case rel => exact ⟨i + 1, by omega, by omega, by go_num, HX3.out.setCell (p := ⟨gc, 0, none⟩) HGC.out _, HA3.out.far nac _, i, (by have := HC3.out.set_ 0 (Value.int .i64 (i : Int)); simpa using this), HV2.out⟩
        case measure => simp [intOf]; omega
    · obtain rfl : i = 22 := by omega
      have hvk : v = 3 := by have := HV.out; rw [if_pos hk22] at this; exact this
      subst hvk
      clear HV hlt hi1 hi2 HAT
      have a0 := HA2.out.cell 0
      have e0 := HA2.out.frozen 0
      have p0 := HC2.out.cell 0
      have q0 := HC2.out.frozen 0
      have a1 := HA2.out.cell 1
      have e1 := HA2.out.frozen 1
      have p1 := HC2.out.cell 1
      have q1 := HC2.out.frozen 1
      have a2 := HA2.out.cell 2
      have e2 := HA2.out.frozen 2
      have p2 := HC2.out.cell 2
      have q2 := HC2.out.frozen 2
      have a3 := HA2.out.cell 3
      have e3 := HA2.out.frozen 3
      have p3 := HC2.out.cell 3
      have q3 := HC2.out.frozen 3
      have a4 := HA2.out.cell 4
      have e4 := HA2.out.frozen 4
      have p4 := HC2.out.cell 4
      have q4 := HC2.out.frozen 4
      have az := HA2.out.lt
      have pz := HC2.out.lt
      go_wp2_with fail
      refine (HND.out _).mono ?_
      rintro e w4 ⟨rfl, rfl⟩
      go_wp2_with fail
      refine (HN2.out _).mono ?_
      rintro e w4 ⟨rfl, hx4⟩
      clear a0 a1 a2 a3 a4 e0 e1 e2 e3 e4 p0 p1 p2 p3 p4 q0 q1 q2 q3 q4 az pz
      have HAd := Lib.hid (HA2.out.ext hx4)
      have HCd := Lib.hid (HC2.out.ext hx4)
      have HXd := Lib.hid (HX2.out.trans hx4)
      clear hx4
      have HAe : Hid (Blk (w4.setCell ⟨gc, 1, none⟩ (str (fw (sp r1)))) ga 31 #[Value.int .i64 0, Value.string ⟨#[]⟩, Value.string ⟨#[]⟩, Value.string ⟨#[]⟩, Value.int .i64 0]) := Lib.hid (HAd.out.far nac _)
      have HCe : Hid (Blk (w4.setCell ⟨gc, 1, none⟩ (str (fw (sp r1)))) gc 31 #[Value.int .i64 (3 : Int), str (fw (sp r1)), Value.string ⟨#[]⟩, Value.string ⟨#[]⟩, Value.int .i64 0]) := Lib.hid (by have := HCd.out.set_ 1 (str (fw (sp r1))); simpa using this)
      have HXe : Hid (Ext w (w4.setCell ⟨gc, 1, none⟩ (str (fw (sp r1))))) := Lib.hid (HXd.out.setCell (p := ⟨gc, 1, none⟩) HGC.out (str (fw (sp r1))))
      have a0 := HAd.out.cell 0
      have e0 := HAd.out.frozen 0
      have p0 := HCd.out.cell 0
      have q0 := HCd.out.frozen 0
      have a1 := HAd.out.cell 1
      have e1 := HAd.out.frozen 1
      have p1 := HCd.out.cell 1
      have q1 := HCd.out.frozen 1
      have a2 := HAd.out.cell 2
      have e2 := HAd.out.frozen 2
      have p2 := HCd.out.cell 2
      have q2 := HCd.out.frozen 2
      have a3 := HAd.out.cell 3
      have e3 := HAd.out.frozen 3
      have p3 := HCd.out.cell 3
      have q3 := HCd.out.frozen 3
      have a4 := HAd.out.cell 4
      have e4 := HAd.out.frozen 4
      have p4 := HCd.out.cell 4
      have q4 := HCd.out.frozen 4
      have az := HAd.out.lt
      have pz := HCd.out.lt
      go_wp2_with fail
      refine (HN3.out _).mono ?_
      rintro e w5 ⟨rfl, hx5⟩
      clear a0 a1 a2 a3 a4 e0 e1 e2 e3 e4 p0 p1 p2 p3 p4 q0 q1 q2 q3 q4 az pz
      generalize hgw : w4.setCell ⟨gc, 1, none⟩ (str (fw (sp r1))) = w4' at *
      clear hgw
      have HAf := Lib.hid (HAe.out.ext hx5)
      have HCf := Lib.hid (HCe.out.ext hx5)
      have HXf := Lib.hid (HXe.out.trans hx5)
      clear hx5
      obtain ⟨wd, hwd⟩ : ∃ x, x = fw (sp (rw_ (sp r1))) := ⟨_, rfl⟩
      obtain ⟨rs, hrs⟩ : ∃ x, x = rw_ (sp (rw_ (sp r1))) := ⟨_, rfl⟩
      rw [← hwd] at HRD0 HPN HPI HL ⊢
      rw [← hrs] at HRD0 HL ⊢
      clear hwd hrs
      have a0 := HAf.out.cell 0
      have e0 := HAf.out.frozen 0
      have p0 := HCf.out.cell 0
      have q0 := HCf.out.frozen 0
      have a1 := HAf.out.cell 1
      have e1 := HAf.out.frozen 1
      have p1 := HCf.out.cell 1
      have q1 := HCf.out.frozen 1
      have a2 := HAf.out.cell 2
      have e2 := HAf.out.frozen 2
      have p2 := HCf.out.cell 2
      have q2 := HCf.out.frozen 2
      have a3 := HAf.out.cell 3
      have e3 := HAf.out.frozen 3
      have p3 := HCf.out.cell 3
      have q3 := HCf.out.frozen 3
      have a4 := HAf.out.cell 4
      have e4 := HAf.out.frozen 4
      have p4 := HCf.out.cell 4
      have q4 := HCf.out.frozen 4
      have az := HAf.out.lt
      have pz := HCf.out.lt
      go_wp2_with fail
      refine (HPI.out _).mono ?_
      rintro e w6 ⟨xv, rfl, hxi, hx6⟩
      have HIX := Lib.hid hxi.arr
      obtain ⟨xb, xn, xA, xc, rfl⟩ := hxi.shape
      clear a0 a1 a2 a3 a4 e0 e1 e2 e3 e4 p0 p1 p2 p3 p4 q0 q1 q2 q3 q4 az pz
      have HAg := Lib.hid (HAf.out.ext hx6)
      have HCg := Lib.hid (HCf.out.ext hx6)
      have HXg := Lib.hid (HXf.out.trans hx6)
      clear hx6
      clear hxi
      have hln := HPN.out.1
      have HIN := Lib.hid (fun W hx => rint_any W _ _ (HIX.out.ext (w' := W) hx) (by have := HL.out; omega))
      clear hln
      obtain ⟨cd, hcd⟩ : ∃ cd, cd = (parseI wd).2 := ⟨_, rfl⟩
      have HCD := Lib.hid hcd
      rw [← hcd]
      clear hcd
      have HAh := Lib.hid (HAg.out.ext ((Ext.refl w6).alloc (.cells #[Value.bool xb, Value.slice xA xn xc] 48)))
      have HCh := Lib.hid (HCg.out.ext ((Ext.refl w6).alloc (.cells #[Value.bool xb, Value.slice xA xn xc] 48)))
      have HXh := Lib.hid (HXg.out.alloc (.cells #[Value.bool xb, Value.slice xA xn xc] 48))
      have a0 := HAg.out.cell 0
      have e0 := HAg.out.frozen 0
      have p0 := HCg.out.cell 0
      have q0 := HCg.out.frozen 0
      have a1 := HAg.out.cell 1
      have e1 := HAg.out.frozen 1
      have p1 := HCg.out.cell 1
      have q1 := HCg.out.frozen 1
      have a2 := HAg.out.cell 2
      have e2 := HAg.out.frozen 2
      have p2 := HCg.out.cell 2
      have q2 := HCg.out.frozen 2
      have a3 := HAg.out.cell 3
      have e3 := HAg.out.frozen 3
      have p3 := HCg.out.cell 3
      have q3 := HCg.out.frozen 3
      have a4 := HAg.out.cell 4
      have e4 := HAg.out.frozen 4
      have p4 := HCg.out.cell 4
      have q4 := HCg.out.frozen 4
      have az := HAg.out.lt
      have pz := HCg.out.lt
      go_wp2_with fail
      refine (HIN.out _ ((Ext.refl w6).alloc _)).mono ?_
      rintro e w7 ⟨u, ok, rfl, hri, hx7⟩
      have HRI := Lib.hid hri
      clear hri
      clear a0 a1 a2 a3 a4 e0 e1 e2 e3 e4 p0 p1 p2 p3 p4 q0 q1 q2 q3 q4 az pz
      have HAi := Lib.hid (HAh.out.ext hx7)
      have HCi := Lib.hid (HCh.out.ext hx7)
      have HXi := Lib.hid (HXh.out.trans hx7)
      clear hx7
      have a0 := HAi.out.cell 0
      have e0 := HAi.out.frozen 0
      have p0 := HCi.out.cell 0
      have q0 := HCi.out.frozen 0
      have a1 := HAi.out.cell 1
      have e1 := HAi.out.frozen 1
      have p1 := HCi.out.cell 1
      have q1 := HCi.out.frozen 1
      have a2 := HAi.out.cell 2
      have e2 := HAi.out.frozen 2
      have p2 := HCi.out.cell 2
      have q2 := HCi.out.frozen 2
      have a3 := HAi.out.cell 3
      have e3 := HAi.out.frozen 3
      have p3 := HCi.out.cell 3
      have q3 := HCi.out.frozen 3
      have a4 := HAi.out.cell 4
      have e4 := HAi.out.frozen 4
      have p4 := HCi.out.cell 4
      have q4 := HCi.out.frozen 4
      have az := HAi.out.lt
      have pz := HCi.out.lt
      have hway : (cd ≠ 0 ∨ (cd = 0 ∧ ok = false) ∨ (cd = 0 ∧ ok = true ∧ u < 0)) ∧ R = (none, 6) ∨ (cd = 0 ∧ ok = true ∧ 0 ≤ u ∧ ∃ z : Nat, u = (z : Int) ∧ natural wd = (z, 0)) := by
        rcases HPN.out.2 with ⟨z, hz, hnz⟩ | ⟨hnw, hbad⟩
        · have hri := HRI.out
          have hc0 : cd = 0 := by rw [HCD.out, hz]
          rw [hz] at hri
          by_cases hz2 : (z : Int) ≤ 9223372036854775807
          · obtain ⟨h1, h2⟩ := hri.1 (by omega) hz2
            right
            exact ⟨hc0, h1, by rw [h2]; omega, z, h2, hnz⟩
          · have h1 := hri.2.1 (by simp only; omega)
            left
            refine ⟨.inr (.inl ⟨hc0, h1⟩), HRN.out (.inr ?_)⟩
            rw [HRD0.out]
            have : numW wd = none := by unfold numW; rw [hnz, if_neg (fun h => by have := h.2; simp only at this; omega)]
            rw [this]
        · left
          refine ⟨?_, HRN.out (.inr ?_)⟩
          · by_cases hc0 : cd = 0
            · right
              have h3 : (parseI wd).1 < 0 := by
                rcases hbad with h | h
                · exact absurd (HCD.out ▸ hc0) h
                · exact h
              cases ok
              · exact .inl ⟨hc0, rfl⟩
              · exact .inr ⟨hc0, rfl, HRI.out.2.2 h3 rfl⟩
            · exact .inl hc0
          · rw [HRD0.out, hnw]
      rcases hway with ⟨hbad, hR⟩ | ⟨hc0, hok, hu0, z, hz, hnz⟩
      · have HN6 := Lib.hid hR
        clear hR
        rcases hbad with h | ⟨h1, h2⟩ | ⟨h1, h2, h3⟩
        · have hcn : ((cd : Int) != 0) = true := by rw [bne_iff_ne]; omega
          clear h
          go_wp2_with fail
          obtain ⟨y0, y1, y2, y3, y4⟩ := five_set HAi.out (Value.int .i64 0) (Value.string ⟨#[]⟩) (Value.string ⟨#[]⟩) (Value.string ⟨#[]⟩) (Value.int .i64 0)
          refine bodyPost_ret (v := .tuple #[.agg #[Value.int .i64 0, Value.string ⟨#[]⟩, Value.string ⟨#[]⟩, Value.string ⟨#[]⟩, Value.int .i64 0], .int .i64 6]) (by simp [results, Tryz.results13, go_sem, y0, y1, y2, y3, y4]) rfl ?_
          rw [HN6.out]
          exact ⟨rfl, (((((HXi.out.setCell (p := ⟨ga, 0, none⟩) HGA.out _).setCell (p := ⟨ga, 1, none⟩) HGA.out _).setCell (p := ⟨ga, 2, none⟩) HGA.out _).setCell (p := ⟨ga, 3, none⟩) HGA.out _).setCell (p := ⟨ga, 4, none⟩) HGA.out _)⟩
        · subst h1
          subst h2
          go_wp2_with fail
          obtain ⟨y0, y1, y2, y3, y4⟩ := five_set HAi.out (Value.int .i64 0) (Value.string ⟨#[]⟩) (Value.string ⟨#[]⟩) (Value.string ⟨#[]⟩) (Value.int .i64 0)
          refine bodyPost_ret (v := .tuple #[.agg #[Value.int .i64 0, Value.string ⟨#[]⟩, Value.string ⟨#[]⟩, Value.string ⟨#[]⟩, Value.int .i64 0], .int .i64 6]) (by simp [results, Tryz.results13, go_sem, y0, y1, y2, y3, y4]) rfl ?_
          rw [HN6.out]
          exact ⟨rfl, (((((HXi.out.setCell (p := ⟨ga, 0, none⟩) HGA.out _).setCell (p := ⟨ga, 1, none⟩) HGA.out _).setCell (p := ⟨ga, 2, none⟩) HGA.out _).setCell (p := ⟨ga, 3, none⟩) HGA.out _).setCell (p := ⟨ga, 4, none⟩) HGA.out _)⟩
        · subst h1
          subst h2
          go_wp2_with fail
          obtain ⟨y0, y1, y2, y3, y4⟩ := five_set HAi.out (Value.int .i64 0) (Value.string ⟨#[]⟩) (Value.string ⟨#[]⟩) (Value.string ⟨#[]⟩) (Value.int .i64 0)
          refine bodyPost_ret (v := .tuple #[.agg #[Value.int .i64 0, Value.string ⟨#[]⟩, Value.string ⟨#[]⟩, Value.string ⟨#[]⟩, Value.int .i64 0], .int .i64 6]) (by simp [results, Tryz.results13, go_sem, y0, y1, y2, y3, y4]) rfl ?_
          rw [HN6.out]
          exact ⟨rfl, (((((HXi.out.setCell (p := ⟨ga, 0, none⟩) HGA.out _).setCell (p := ⟨ga, 1, none⟩) HGA.out _).setCell (p := ⟨ga, 2, none⟩) HGA.out _).setCell (p := ⟨ga, 3, none⟩) HGA.out _).setCell (p := ⟨ga, 4, none⟩) HGA.out _)⟩
      subst hc0
      subst hok
      subst hz
      have hu1 : ¬ ((z : Int) < 0) := by omega
      clear hu0
      have HRD : Hid (readR ((3 : Nat) : Int) r1 = if bareT rs = [] ∧ validC ⟨3, fw (sp r1), [], [], (z : Int)⟩ = true then some ⟨3, fw (sp r1), [], [], (z : Int)⟩ else none) := Lib.hid (by
        rw [HRD0.out]
        by_cases hz9 : z ≤ 9999
        · have : numW wd = some z := by unfold numW; rw [hnz, if_pos ⟨rfl, hz9⟩]
          rw [this]
        · have : numW wd = none := by unfold numW; rw [hnz, if_neg (fun h => hz9 h.2)]
          rw [this, validC_num (by simp [show shapeC 3 = 2 from rfl]) (by omega)]
          simp)
      clear hnz
      have HAj : Hid (Blk (w7.setCell ⟨gc, 4, none⟩ (Value.int .i64 (z : Int))) ga 31 #[Value.int .i64 0, Value.string ⟨#[]⟩, Value.string ⟨#[]⟩, Value.string ⟨#[]⟩, Value.int .i64 0]) := Lib.hid (HAi.out.far nac _)
      have HCj : Hid (Blk (w7.setCell ⟨gc, 4, none⟩ (Value.int .i64 (z : Int))) gc 31 #[Value.int .i64 (3 : Int), str (fw (sp r1)), Value.string ⟨#[]⟩, Value.string ⟨#[]⟩, Value.int .i64 (z : Int)]) := Lib.hid (by have := HCi.out.set_ 4 (Value.int .i64 (z : Int)); simpa using this)
      have HXj : Hid (Ext w (w7.setCell ⟨gc, 4, none⟩ (Value.int .i64 (z : Int)))) := Lib.hid (HXi.out.setCell (p := ⟨gc, 4, none⟩) HGC.out (Value.int .i64 (z : Int)))
      go_upto_region 30 with fail
      clear a0 a1 a2 a3 a4 e0 e1 e2 e3 e4 p0 p1 p2 p3 p4 q0 q1 q2 q3 q4 az pz
      generalize hgw : w7.setCell ⟨gc, 4, none⟩ (Value.int .i64 (z : Int)) = w8' at *
      clear hgw
      have HBR := Lib.hid (fun W => bare31_any W rs (by have := HL.out; (try simp only [List.length_nil]); omega))
      have HVK : Hid (∀ W : World, Calls Tryz.prog 16 #[.agg #[Value.int .i64 (3 : Int), str (fw (sp r1)), Value.string ⟨#[]⟩, Value.string ⟨#[]⟩, Value.int .i64 (z : Int)]] W fun e w' => e = .returned (.bool (validC ⟨3, fw (sp r1), [], [], (z : Int)⟩)) ∧ Ext W w') := Lib.hid (fun W => rvalid31_any W ⟨3, fw (sp r1), [], [], (z : Int)⟩ (by have := HL.out; (try simp only [List.length_nil]); omega) (by have := HL.out; (try simp only [List.length_nil]); omega) (by have := HL.out; (try simp only [List.length_nil]); omega))
      obtain ⟨vb, hvb⟩ : ∃ vb, vb = validC ⟨3, fw (sp r1), [], [], (z : Int)⟩ := ⟨_, rfl⟩
      have HVB := Lib.hid hvb
      rw [← hvb] at HVK HRD
      clear hvb
      obtain ⟨bt, hbt⟩ : ∃ bt, bt = bareT rs := ⟨_, rfl⟩
      rw [← hbt] at HBR HRD
      clear hbt
      have a0 := HAj.out.cell 0
      have e0 := HAj.out.frozen 0
      have p0 := HCj.out.cell 0
      have q0 := HCj.out.frozen 0
      have a1 := HAj.out.cell 1
      have e1 := HAj.out.frozen 1
      have p1 := HCj.out.cell 1
      have q1 := HCj.out.frozen 1
      have a2 := HAj.out.cell 2
      have e2 := HAj.out.frozen 2
      have p2 := HCj.out.cell 2
      have q2 := HCj.out.frozen 2
      have a3 := HAj.out.cell 3
      have e3 := HAj.out.frozen 3
      have p3 := HCj.out.cell 3
      have q3 := HCj.out.frozen 3
      have a4 := HAj.out.cell 4
      have e4 := HAj.out.frozen 4
      have p4 := HCj.out.cell 4
      have q4 := HCj.out.frozen 4
      have az := HAj.out.lt
      have pz := HCj.out.lt
      go_wp2_with fail
      refine (HBR.out _).mono ?_
      rintro e w8 ⟨rfl, rfl⟩
      cases hbe : bt == []
      · have HN6 : Hid (R = (none, 6)) := Lib.hid (HRN.out (.inr (by rw [HRD.out, if_neg (fun h => by rw [h.1] at hbe; simp at hbe)])))
        go_wp2_with fail
        obtain ⟨y0, y1, y2, y3, y4⟩ := five_set HAj.out (Value.int .i64 0) (Value.string ⟨#[]⟩) (Value.string ⟨#[]⟩) (Value.string ⟨#[]⟩) (Value.int .i64 0)
        refine bodyPost_ret (v := .tuple #[.agg #[Value.int .i64 0, Value.string ⟨#[]⟩, Value.string ⟨#[]⟩, Value.string ⟨#[]⟩, Value.int .i64 0], .int .i64 6]) (by simp [results, Tryz.results13, go_sem, y0, y1, y2, y3, y4]) rfl ?_
        rw [HN6.out]
        exact ⟨rfl, (((((HXj.out.setCell (p := ⟨ga, 0, none⟩) HGA.out _).setCell (p := ⟨ga, 1, none⟩) HGA.out _).setCell (p := ⟨ga, 2, none⟩) HGA.out _).setCell (p := ⟨ga, 3, none⟩) HGA.out _).setCell (p := ⟨ga, 4, none⟩) HGA.out _)⟩
      have HBE : Hid (bt = []) := Lib.hid (by simpa using hbe)
      go_wp2_with fail
      refine (HVK.out _).mono ?_
      rintro e w9 ⟨rfl, hx9⟩
      clear a0 a1 a2 a3 a4 e0 e1 e2 e3 e4 p0 p1 p2 p3 p4 q0 q1 q2 q3 q4 az pz
      have HAz := Lib.hid (HAj.out.ext hx9)
      have HCz := Lib.hid (HCj.out.ext hx9)
      have HXz := Lib.hid (HXj.out.trans hx9)
      clear hx9
      have a0 := HAz.out.cell 0
      have e0 := HAz.out.frozen 0
      have p0 := HCz.out.cell 0
      have q0 := HCz.out.frozen 0
      have a1 := HAz.out.cell 1
      have e1 := HAz.out.frozen 1
      have p1 := HCz.out.cell 1
      have q1 := HCz.out.frozen 1
      have a2 := HAz.out.cell 2
      have e2 := HAz.out.frozen 2
      have p2 := HCz.out.cell 2
      have q2 := HCz.out.frozen 2
      have a3 := HAz.out.cell 3
      have e3 := HAz.out.frozen 3
      have p3 := HCz.out.cell 3
      have q3 := HCz.out.frozen 3
      have a4 := HAz.out.cell 4
      have e4 := HAz.out.frozen 4
      have p4 := HCz.out.cell 4
      have q4 := HCz.out.frozen 4
      have az := HAz.out.lt
      have pz := HCz.out.lt
      cases vb
      · have HN6 : Hid (R = (none, 6)) := Lib.hid (HRN.out (.inr (HRD.out.trans (by simp))))
        go_wp2_with fail
        obtain ⟨y0, y1, y2, y3, y4⟩ := five_set HAz.out (Value.int .i64 0) (Value.string ⟨#[]⟩) (Value.string ⟨#[]⟩) (Value.string ⟨#[]⟩) (Value.int .i64 0)
        refine bodyPost_ret (v := .tuple #[.agg #[Value.int .i64 0, Value.string ⟨#[]⟩, Value.string ⟨#[]⟩, Value.string ⟨#[]⟩, Value.int .i64 0], .int .i64 6]) (by simp [results, Tryz.results13, go_sem, y0, y1, y2, y3, y4]) rfl ?_
        rw [HN6.out]
        exact ⟨rfl, (((((HXz.out.setCell (p := ⟨ga, 0, none⟩) HGA.out _).setCell (p := ⟨ga, 1, none⟩) HGA.out _).setCell (p := ⟨ga, 2, none⟩) HGA.out _).setCell (p := ⟨ga, 3, none⟩) HGA.out _).setCell (p := ⟨ga, 4, none⟩) HGA.out _)⟩
      · have HN6 : Hid (R = (some ⟨3, fw (sp r1), [], [], (z : Int)⟩, 0)) := Lib.hid (HRS.out _ (HRD.out.trans (by simp [HBE.out])))
        go_wp2_with fail
        obtain ⟨y0, y1, y2, y3, y4⟩ := five_set HAz.out (Value.int .i64 (3 : Int)) (str (fw (sp r1))) (Value.string ⟨#[]⟩) (Value.string ⟨#[]⟩) (Value.int .i64 (z : Int))
        refine bodyPost_ret (v := .tuple #[.agg #[Value.int .i64 (3 : Int), str (fw (sp r1)), Value.string ⟨#[]⟩, Value.string ⟨#[]⟩, Value.int .i64 (z : Int)], .int .i64 0]) (by simp [results, Tryz.results13, go_sem, y0, y1, y2, y3, y4]) rfl ?_
        rw [HN6.out]
        exact ⟨rfl, (((((HXz.out.setCell (p := ⟨ga, 0, none⟩) HGA.out _).setCell (p := ⟨ga, 1, none⟩) HGA.out _).setCell (p := ⟨ga, 2, none⟩) HGA.out _).setCell (p := ⟨ga, 3, none⟩) HGA.out _).setCell (p := ⟨ga, 4, none⟩) HGA.out _)⟩
end Big
end Go.Proofs.YtoehdoghghpmjaaGreatDoor
/- The document's Parse of commands: a class of operations. -/
namespace Go.Proofs.YtoehdoghghpmjaaGreatDoor
namespace Big
open Go.RowKit
set_option maxHeartbeats 2000000 in
set_option maxRecDepth 100000 in
theorem rparse31_21 (w : World) (s : List UInt8) (hs : s.length ≤ 500) (k : Nat) (hko : opOf (fw (sp s)) = k) (hk : k = 21) :
    Calls Tryz.prog 13 #[str s] w fun e w' => e = .returned (.tuple #[cmdV (cmdOf (lineR s).1), .int .i64 ((lineR s).2 : Int)]) ∧ Ext w w' := by
  unfold cmdV
  have h5' : ¬ (500 : Int) < (s.length : Int) := by omega
  have HRN := Lib.hid (fun h => lineR_none (s := s) (by omega) h)
  have HRS0 := Lib.hid (fun c h0 h => lineR_some (s := s) (c := c) (by omega) h0 h)
  have hk22 : k < 22 := by
    by_cases h : opOf (fw (sp s)) = 0
    · omega
    · have := (opOf_spec h).1; omega
  have HAT : Hid (∀ i, 1 ≤ i → i < 22 → (cmdNames.getD i [] = fw (sp s) ↔ i = k)) := Lib.hid (fun i h1 h2 => ⟨fun h => by
      have := opOf_at h2 (names_ne i h1 h2)
      rw [h] at this
      omega, fun h => by
      have h3 : opOf (fw (sp s)) ≠ 0 := by omega
      have := (opOf_spec h3).2
      rw [hko, ← h] at this
      exact this⟩)
  have e0 := sp_le s
  have e1 := fw_le (sp s)
  have e2 := rw_le (sp s)
  have HN1 := Lib.hid (fun W => next31_any W s (by omega))
  rw [hko] at HRN HRS0
  obtain ⟨first, hfi⟩ : ∃ x, x = fw (sp s) := ⟨_, rfl⟩
  obtain ⟨r1, hr1⟩ : ∃ x, x = rw_ (sp s) := ⟨_, rfl⟩
  rw [← hfi, ← hr1] at HN1
  rw [← hfi] at HAT
  rw [← hr1] at HRN HRS0 e2
  clear hko hfi hr1 e1
  generalize lineR s = R at *
  have e3 := sp_le r1
  have e4 := fw_le (sp r1)
  have e5 := rw_le (sp r1)
  have e6 := sp_le (rw_ (sp r1))
  have e7 := fw_le (sp (rw_ (sp r1)))
  have e8 := rw_le (sp (rw_ (sp r1)))
  have e9 := bareT_le (rw_ (sp (rw_ (sp r1))))
  have HL : Hid (r1.length ≤ 500 ∧ (fw (sp r1)).length ≤ 500 ∧ (rw_ (sp r1)).length ≤ 500 ∧ (fw (sp (rw_ (sp r1)))).length ≤ 500 ∧ (rw_ (sp (rw_ (sp r1)))).length ≤ 500 ∧ (bareT (rw_ (sp (rw_ (sp r1))))).length ≤ 500) := Lib.hid (by omega)
  have HN2 := Lib.hid (fun W => next31_any W r1 (by omega))
  have HN3 := Lib.hid (fun W => next31_any W (rw_ (sp r1)) (by omega))
  have HNM := Lib.hid (fun W op => rname31_any W op)
  have HND := Lib.hid (fun W => rnamed_any W (k : Int))
  subst hk
  have HRS := Lib.hid (fun c h => HRS0.out c (by omega) h)
  rw [show namedC ((21 : Nat) : Int) = false from rfl] at HND
  have HRD0 : Hid (readR ((21 : Nat) : Int) r1 = (match numW (fw (sp r1)) with | some n => if bareT (rw_ (sp r1)) = [] ∧ validC ⟨21, [], [], [], (n : Int)⟩ = true then some ⟨21, [], [], [], (n : Int)⟩ else none | none => none)) := Lib.hid (by show readR 21 r1 = _; unfold readR; simp [show shapeC 21 = 4 from rfl] <;> rfl)
  have HPN := Lib.hid (parse_num (fw (sp r1)))
  have HPI := Lib.hid (fun W => rparse_any W (fw (sp r1)))
  clear hs e0 e2 e3 e4 e5 e6 e7 e8 e9
  go_enter Tryz.func13, Tryz.ntmps13
  go_wp2_with fail
  have ha := (Blk.new w 31 #[Value.int .i64 0, Value.string ⟨#[]⟩, Value.string ⟨#[]⟩, Value.string ⟨#[]⟩, Value.int .i64 0]).ext ((Ext.refl _).alloc (.cells #[Value.int .i64 0, Value.string ⟨#[]⟩, Value.string ⟨#[]⟩, Value.string ⟨#[]⟩, Value.int .i64 0] 31))
  have hc := Blk.new (w.alloc (.cells #[Value.int .i64 0, Value.string ⟨#[]⟩, Value.string ⟨#[]⟩, Value.string ⟨#[]⟩, Value.int .i64 0] 31)) 31 #[Value.int .i64 0, Value.string ⟨#[]⟩, Value.string ⟨#[]⟩, Value.string ⟨#[]⟩, Value.int .i64 0]
  have hgs : (w.alloc (.cells #[Value.int .i64 0, Value.string ⟨#[]⟩, Value.string ⟨#[]⟩, Value.string ⟨#[]⟩, Value.int .i64 0] 31)).heap.size = w.heap.size + 1 := by simp
  rw [hgs] at hc
  have HX0 : Hid (Ext w ((w.alloc (.cells #[Value.int .i64 0, Value.string ⟨#[]⟩, Value.string ⟨#[]⟩, Value.string ⟨#[]⟩, Value.int .i64 0] 31)).alloc (.cells #[Value.int .i64 0, Value.string ⟨#[]⟩, Value.string ⟨#[]⟩, Value.string ⟨#[]⟩, Value.int .i64 0] 31))) := Lib.hid (((Ext.refl w).alloc _).alloc _)
  obtain ⟨gc, hgc⟩ : ∃ gc, gc = w.heap.size + 1 := ⟨_, rfl⟩
  rw [← hgc] at hc ⊢
  obtain ⟨ga, hga⟩ : ∃ ga, ga = w.heap.size := ⟨_, rfl⟩
  have nac : ga ≠ gc := by omega
  have HGA : Hid (w.heap.size ≤ ga) := Lib.hid (by omega)
  have HGC : Hid (w.heap.size ≤ gc) := Lib.hid (by omega)
  rw [← hga] at ha ⊢
  have HA0 := Lib.hid ha
  have HC0 := Lib.hid hc
  clear ha hc hga hgc hgs
  generalize (w.alloc (.cells #[Value.int .i64 0, Value.string ⟨#[]⟩, Value.string ⟨#[]⟩, Value.string ⟨#[]⟩, Value.int .i64 0] 31)).alloc (.cells #[Value.int .i64 0, Value.string ⟨#[]⟩, Value.string ⟨#[]⟩, Value.string ⟨#[]⟩, Value.int .i64 0] 31) = w0 at *
  refine (HN1.out _).mono ?_
  rintro e w1 ⟨rfl, hx1⟩
  have HA1 := Lib.hid (HA0.out.ext hx1)
  have HC1 := Lib.hid (HC0.out.ext hx1)
  have HX1 := Lib.hid (HX0.out.trans hx1)
  clear hx1
  go_wp2_with fail
  go_loopw [7] (fun s7 wr => ∃ i : Nat, 1 ≤ i ∧ i ≤ 22 ∧ s7 = .int .i64 (i : Int) ∧ Ext w wr ∧ Blk wr ga 31 #[Value.int .i64 0, Value.string ⟨#[]⟩, Value.string ⟨#[]⟩, Value.string ⟨#[]⟩, Value.int .i64 0] ∧ ∃ v : Nat, Blk wr gc 31 #[Value.int .i64 (v : Int), Value.string ⟨#[]⟩, Value.string ⟨#[]⟩, Value.string ⟨#[]⟩, Value.int .i64 0] ∧ v = if 21 < i then 21 else 0) (fun s7 _ => 22 - (intOf s7).toNat)
  case atStart => exact ⟨1, by omega, by omega, rfl, HX1.out, HA1.out, 0, HC1.out, by split <;> omega⟩
  case round =>
    obtain ⟨i, hi1, hi2, rfl, hx, ha, v, hc, hv⟩ := hrel
    have HX2 := Lib.hid hx
    have HA2 := Lib.hid ha
    have HC2 := Lib.hid hc
    have HV := Lib.hid hv
    clear hx ha hc hv HX1 HA1 HC1 HX0 HA0 HC0
    by_cases hlt : i < 22
    · have hii : (i : Int) ≤ 21 := by omega
      have hat := HAT.out i hi1 hlt
      have hnm : nameC (i : Int) = cmdNames.getD i [] := by unfold nameC; rw [if_pos (by omega), Int.toNat_natCast]
      have HNI := Lib.hid (fun W => HNM.out W (i : Int))
      rw [hnm] at HNI
      generalize cmdNames.getD i [] = fn at *
      clear hnm
      go_wp2_with fail
      refine (HNI.out _).mono ?_
      rintro e w3 ⟨rfl, hx3⟩
      have HA3 := Lib.hid (HA2.out.ext hx3)
      have HC3 := Lib.hid (HC2.out.ext hx3)
      have HX3 := Lib.hid (HX2.out.trans hx3)
      clear hx3
      cases heq : fn == first
      · have hne : i ≠ 21 := fun h => by rw [hat.2 h] at heq; simp at heq
        have HV2 : Hid (v = if 21 < i + 1 then 21 else 0) := Lib.hid (by rw [HV.out]; (repeat' split) <;> omega)
        clear hat hne
        go_wp2_with fail
        go_roundw
        case rel => exact ⟨i + 1, by omega, by omega, by go_num, HX3.out, HA3.out, v, HC3.out, HV2.out⟩
        case measure => simp [intOf]; omega
      · have hik : i = 21 := hat.1 (by simpa using heq)
        have HV2 : Hid (i = if 21 < i + 1 then 21 else 0) := Lib.hid (by rw [if_pos (by omega)]; exact hik)
        clear hat hik
        have a0 := HA3.out.cell 0
        have e0 := HA3.out.frozen 0
        have p0 := HC3.out.cell 0
        have q0 := HC3.out.frozen 0
        have a1 := HA3.out.cell 1
        have e1 := HA3.out.frozen 1
        have p1 := HC3.out.cell 1
        have q1 := HC3.out.frozen 1
        have a2 := HA3.out.cell 2
        have e2 := HA3.out.frozen 2
        have p2 := HC3.out.cell 2
        have q2 := HC3.out.frozen 2
        have a3 := HA3.out.cell 3
        have e3 := HA3.out.frozen 3
        have p3 := HC3.out.cell 3
        have q3 := HC3.out.frozen 3
        have a4 := HA3.out.cell 4
        have e4 := HA3.out.frozen 4
        have p4 := HC3.out.cell 4
        have q4 := HC3.out.frozen 4
        have az := HA3.out.lt
        have pz := HC3.out.lt
        go_wp2_with fail
        go_roundw
        case rel => exact ⟨i + 1, by omega, by omega, by go_num, HX3.out.setCell (p := ⟨gc, 0, none⟩) HGC.out _, HA3.out.far nac _, i, (by have := HC3.out.set_ 0 (Value.int .i64 (i : Int)); simpa using this), HV2.out⟩
        case measure => simp [intOf]; omega
    · obtain rfl : i = 22 := by omega
      have hvk : v = 21 := by have := HV.out; rw [if_pos hk22] at this; exact this
      subst hvk
      clear HV hlt hi1 hi2 HAT
      have a0 := HA2.out.cell 0
      have e0 := HA2.out.frozen 0
      have p0 := HC2.out.cell 0
      have q0 := HC2.out.frozen 0
      have a1 := HA2.out.cell 1
      have e1 := HA2.out.frozen 1
      have p1 := HC2.out.cell 1
      have q1 := HC2.out.frozen 1
      have a2 := HA2.out.cell 2
      have e2 := HA2.out.frozen 2
      have p2 := HC2.out.cell 2
      have q2 := HC2.out.frozen 2
      have a3 := HA2.out.cell 3
      have e3 := HA2.out.frozen 3
      have p3 := HC2.out.cell 3
      have q3 := HC2.out.frozen 3
      have a4 := HA2.out.cell 4
      have e4 := HA2.out.frozen 4
      have p4 := HC2.out.cell 4
      have q4 := HC2.out.frozen 4
      have az := HA2.out.lt
      have pz := HC2.out.lt
      go_wp2_with fail
      refine (HND.out _).mono ?_
      rintro e w4 ⟨rfl, rfl⟩
      clear a0 a1 a2 a3 a4 e0 e1 e2 e3 e4 p0 p1 p2 p3 p4 q0 q1 q2 q3 q4 az pz
      have a0 := HA2.out.cell 0
      have e0 := HA2.out.frozen 0
      have p0 := HC2.out.cell 0
      have q0 := HC2.out.frozen 0
      have a1 := HA2.out.cell 1
      have e1 := HA2.out.frozen 1
      have p1 := HC2.out.cell 1
      have q1 := HC2.out.frozen 1
      have a2 := HA2.out.cell 2
      have e2 := HA2.out.frozen 2
      have p2 := HC2.out.cell 2
      have q2 := HC2.out.frozen 2
      have a3 := HA2.out.cell 3
      have e3 := HA2.out.frozen 3
      have p3 := HC2.out.cell 3
      have q3 := HC2.out.frozen 3
      have a4 := HA2.out.cell 4
      have e4 := HA2.out.frozen 4
      have p4 := HC2.out.cell 4
      have q4 := HC2.out.frozen 4
      have az := HA2.out.lt
      have pz := HC2.out.lt
      go_wp2_with fail
      refine (HN2.out _).mono ?_
      rintro e w5 ⟨rfl, hx5⟩
      clear a0 a1 a2 a3 a4 e0 e1 e2 e3 e4 p0 p1 p2 p3 p4 q0 q1 q2 q3 q4 az pz
      have HAf := Lib.hid (HA2.out.ext hx5)
      have HCf := Lib.hid (HC2.out.ext hx5)
      have HXf := Lib.hid (HX2.out.trans hx5)
      clear hx5
      obtain ⟨wd, hwd⟩ : ∃ x, x = fw (sp r1) := ⟨_, rfl⟩
      obtain ⟨rs, hrs⟩ : ∃ x, x = rw_ (sp r1) := ⟨_, rfl⟩
      rw [← hwd] at HRD0 HPN HPI HL ⊢
      rw [← hrs] at HRD0 HL ⊢
      clear hwd hrs
      have a0 := HAf.out.cell 0
      have e0 := HAf.out.frozen 0
      have p0 := HCf.out.cell 0
      have q0 := HCf.out.frozen 0
      have a1 := HAf.out.cell 1
      have e1 := HAf.out.frozen 1
      have p1 := HCf.out.cell 1
      have q1 := HCf.out.frozen 1
      have a2 := HAf.out.cell 2
      have e2 := HAf.out.frozen 2
      have p2 := HCf.out.cell 2
      have q2 := HCf.out.frozen 2
      have a3 := HAf.out.cell 3
      have e3 := HAf.out.frozen 3
      have p3 := HCf.out.cell 3
      have q3 := HCf.out.frozen 3
      have a4 := HAf.out.cell 4
      have e4 := HAf.out.frozen 4
      have p4 := HCf.out.cell 4
      have q4 := HCf.out.frozen 4
      have az := HAf.out.lt
      have pz := HCf.out.lt
      go_wp2_with fail
      refine (HPI.out _).mono ?_
      rintro e w6 ⟨xv, rfl, hxi, hx6⟩
      have HIX := Lib.hid hxi.arr
      obtain ⟨xb, xn, xA, xc, rfl⟩ := hxi.shape
      clear a0 a1 a2 a3 a4 e0 e1 e2 e3 e4 p0 p1 p2 p3 p4 q0 q1 q2 q3 q4 az pz
      have HAg := Lib.hid (HAf.out.ext hx6)
      have HCg := Lib.hid (HCf.out.ext hx6)
      have HXg := Lib.hid (HXf.out.trans hx6)
      clear hx6
      clear hxi
      have hln := HPN.out.1
      have HIN := Lib.hid (fun W hx => rint_any W _ _ (HIX.out.ext (w' := W) hx) (by have := HL.out; omega))
      clear hln
      obtain ⟨cd, hcd⟩ : ∃ cd, cd = (parseI wd).2 := ⟨_, rfl⟩
      have HCD := Lib.hid hcd
      rw [← hcd]
      clear hcd
      have HAh := Lib.hid (HAg.out.ext ((Ext.refl w6).alloc (.cells #[Value.bool xb, Value.slice xA xn xc] 48)))
      have HCh := Lib.hid (HCg.out.ext ((Ext.refl w6).alloc (.cells #[Value.bool xb, Value.slice xA xn xc] 48)))
      have HXh := Lib.hid (HXg.out.alloc (.cells #[Value.bool xb, Value.slice xA xn xc] 48))
      have a0 := HAg.out.cell 0
      have e0 := HAg.out.frozen 0
      have p0 := HCg.out.cell 0
      have q0 := HCg.out.frozen 0
      have a1 := HAg.out.cell 1
      have e1 := HAg.out.frozen 1
      have p1 := HCg.out.cell 1
      have q1 := HCg.out.frozen 1
      have a2 := HAg.out.cell 2
      have e2 := HAg.out.frozen 2
      have p2 := HCg.out.cell 2
      have q2 := HCg.out.frozen 2
      have a3 := HAg.out.cell 3
      have e3 := HAg.out.frozen 3
      have p3 := HCg.out.cell 3
      have q3 := HCg.out.frozen 3
      have a4 := HAg.out.cell 4
      have e4 := HAg.out.frozen 4
      have p4 := HCg.out.cell 4
      have q4 := HCg.out.frozen 4
      have az := HAg.out.lt
      have pz := HCg.out.lt
      go_wp2_with fail
      refine (HIN.out _ ((Ext.refl w6).alloc _)).mono ?_
      rintro e w7 ⟨u, ok, rfl, hri, hx7⟩
      have HRI := Lib.hid hri
      clear hri
      clear a0 a1 a2 a3 a4 e0 e1 e2 e3 e4 p0 p1 p2 p3 p4 q0 q1 q2 q3 q4 az pz
      have HAi := Lib.hid (HAh.out.ext hx7)
      have HCi := Lib.hid (HCh.out.ext hx7)
      have HXi := Lib.hid (HXh.out.trans hx7)
      clear hx7
      have a0 := HAi.out.cell 0
      have e0 := HAi.out.frozen 0
      have p0 := HCi.out.cell 0
      have q0 := HCi.out.frozen 0
      have a1 := HAi.out.cell 1
      have e1 := HAi.out.frozen 1
      have p1 := HCi.out.cell 1
      have q1 := HCi.out.frozen 1
      have a2 := HAi.out.cell 2
      have e2 := HAi.out.frozen 2
      have p2 := HCi.out.cell 2
      have q2 := HCi.out.frozen 2
      have a3 := HAi.out.cell 3
      have e3 := HAi.out.frozen 3
      have p3 := HCi.out.cell 3
      have q3 := HCi.out.frozen 3
      have a4 := HAi.out.cell 4
      have e4 := HAi.out.frozen 4
      have p4 := HCi.out.cell 4
      have q4 := HCi.out.frozen 4
      have az := HAi.out.lt
      have pz := HCi.out.lt
      have hway : (cd ≠ 0 ∨ (cd = 0 ∧ ok = false) ∨ (cd = 0 ∧ ok = true ∧ u < 0)) ∧ R = (none, 6) ∨ (cd = 0 ∧ ok = true ∧ 0 ≤ u ∧ ∃ z : Nat, u = (z : Int) ∧ natural wd = (z, 0)) := by
        rcases HPN.out.2 with ⟨z, hz, hnz⟩ | ⟨hnw, hbad⟩
        · have hri := HRI.out
          have hc0 : cd = 0 := by rw [HCD.out, hz]
          rw [hz] at hri
          by_cases hz2 : (z : Int) ≤ 9223372036854775807
          · obtain ⟨h1, h2⟩ := hri.1 (by omega) hz2
            right
            exact ⟨hc0, h1, by rw [h2]; omega, z, h2, hnz⟩
          · have h1 := hri.2.1 (by simp only; omega)
            left
            refine ⟨.inr (.inl ⟨hc0, h1⟩), HRN.out (.inr ?_)⟩
            rw [HRD0.out]
            have : numW wd = none := by unfold numW; rw [hnz, if_neg (fun h => by have := h.2; simp only at this; omega)]
            rw [this]
        · left
          refine ⟨?_, HRN.out (.inr ?_)⟩
          · by_cases hc0 : cd = 0
            · right
              have h3 : (parseI wd).1 < 0 := by
                rcases hbad with h | h
                · exact absurd (HCD.out ▸ hc0) h
                · exact h
              cases ok
              · exact .inl ⟨hc0, rfl⟩
              · exact .inr ⟨hc0, rfl, HRI.out.2.2 h3 rfl⟩
            · exact .inl hc0
          · rw [HRD0.out, hnw]
      rcases hway with ⟨hbad, hR⟩ | ⟨hc0, hok, hu0, z, hz, hnz⟩
      · have HN6 := Lib.hid hR
        clear hR
        rcases hbad with h | ⟨h1, h2⟩ | ⟨h1, h2, h3⟩
        · have hcn : ((cd : Int) != 0) = true := by rw [bne_iff_ne]; omega
          clear h
          go_wp2_with fail
          obtain ⟨y0, y1, y2, y3, y4⟩ := five_set HAi.out (Value.int .i64 0) (Value.string ⟨#[]⟩) (Value.string ⟨#[]⟩) (Value.string ⟨#[]⟩) (Value.int .i64 0)
          refine bodyPost_ret (v := .tuple #[.agg #[Value.int .i64 0, Value.string ⟨#[]⟩, Value.string ⟨#[]⟩, Value.string ⟨#[]⟩, Value.int .i64 0], .int .i64 6]) (by simp [results, Tryz.results13, go_sem, y0, y1, y2, y3, y4]) rfl ?_
          rw [HN6.out]
          exact ⟨rfl, (((((HXi.out.setCell (p := ⟨ga, 0, none⟩) HGA.out _).setCell (p := ⟨ga, 1, none⟩) HGA.out _).setCell (p := ⟨ga, 2, none⟩) HGA.out _).setCell (p := ⟨ga, 3, none⟩) HGA.out _).setCell (p := ⟨ga, 4, none⟩) HGA.out _)⟩
        · subst h1
          subst h2
          go_wp2_with fail
          obtain ⟨y0, y1, y2, y3, y4⟩ := five_set HAi.out (Value.int .i64 0) (Value.string ⟨#[]⟩) (Value.string ⟨#[]⟩) (Value.string ⟨#[]⟩) (Value.int .i64 0)
          refine bodyPost_ret (v := .tuple #[.agg #[Value.int .i64 0, Value.string ⟨#[]⟩, Value.string ⟨#[]⟩, Value.string ⟨#[]⟩, Value.int .i64 0], .int .i64 6]) (by simp [results, Tryz.results13, go_sem, y0, y1, y2, y3, y4]) rfl ?_
          rw [HN6.out]
          exact ⟨rfl, (((((HXi.out.setCell (p := ⟨ga, 0, none⟩) HGA.out _).setCell (p := ⟨ga, 1, none⟩) HGA.out _).setCell (p := ⟨ga, 2, none⟩) HGA.out _).setCell (p := ⟨ga, 3, none⟩) HGA.out _).setCell (p := ⟨ga, 4, none⟩) HGA.out _)⟩
        · subst h1
          subst h2
          go_wp2_with fail
          obtain ⟨y0, y1, y2, y3, y4⟩ := five_set HAi.out (Value.int .i64 0) (Value.string ⟨#[]⟩) (Value.string ⟨#[]⟩) (Value.string ⟨#[]⟩) (Value.int .i64 0)
          refine bodyPost_ret (v := .tuple #[.agg #[Value.int .i64 0, Value.string ⟨#[]⟩, Value.string ⟨#[]⟩, Value.string ⟨#[]⟩, Value.int .i64 0], .int .i64 6]) (by simp [results, Tryz.results13, go_sem, y0, y1, y2, y3, y4]) rfl ?_
          rw [HN6.out]
          exact ⟨rfl, (((((HXi.out.setCell (p := ⟨ga, 0, none⟩) HGA.out _).setCell (p := ⟨ga, 1, none⟩) HGA.out _).setCell (p := ⟨ga, 2, none⟩) HGA.out _).setCell (p := ⟨ga, 3, none⟩) HGA.out _).setCell (p := ⟨ga, 4, none⟩) HGA.out _)⟩
      subst hc0
      subst hok
      subst hz
      have hu1 : ¬ ((z : Int) < 0) := by omega
      clear hu0
      have HRD : Hid (readR ((21 : Nat) : Int) r1 = if bareT rs = [] ∧ validC ⟨21, [], [], [], (z : Int)⟩ = true then some ⟨21, [], [], [], (z : Int)⟩ else none) := Lib.hid (by
        rw [HRD0.out]
        by_cases hz9 : z ≤ 9999
        · have : numW wd = some z := by unfold numW; rw [hnz, if_pos ⟨rfl, hz9⟩]
          rw [this]
        · have : numW wd = none := by unfold numW; rw [hnz, if_neg (fun h => hz9 h.2)]
          rw [this, validC_num (by simp [show shapeC 21 = 4 from rfl]) (by omega)]
          simp)
      clear hnz
      have HAj : Hid (Blk (w7.setCell ⟨gc, 4, none⟩ (Value.int .i64 (z : Int))) ga 31 #[Value.int .i64 0, Value.string ⟨#[]⟩, Value.string ⟨#[]⟩, Value.string ⟨#[]⟩, Value.int .i64 0]) := Lib.hid (HAi.out.far nac _)
      have HCj : Hid (Blk (w7.setCell ⟨gc, 4, none⟩ (Value.int .i64 (z : Int))) gc 31 #[Value.int .i64 (21 : Int), Value.string ⟨#[]⟩, Value.string ⟨#[]⟩, Value.string ⟨#[]⟩, Value.int .i64 (z : Int)]) := Lib.hid (by have := HCi.out.set_ 4 (Value.int .i64 (z : Int)); simpa using this)
      have HXj : Hid (Ext w (w7.setCell ⟨gc, 4, none⟩ (Value.int .i64 (z : Int)))) := Lib.hid (HXi.out.setCell (p := ⟨gc, 4, none⟩) HGC.out (Value.int .i64 (z : Int)))
      go_upto_region 30 with fail
      clear a0 a1 a2 a3 a4 e0 e1 e2 e3 e4 p0 p1 p2 p3 p4 q0 q1 q2 q3 q4 az pz
      generalize hgw : w7.setCell ⟨gc, 4, none⟩ (Value.int .i64 (z : Int)) = w8' at *
      clear hgw
      have HBR := Lib.hid (fun W => bare31_any W rs (by have := HL.out; (try simp only [List.length_nil]); omega))
      have HVK : Hid (∀ W : World, Calls Tryz.prog 16 #[.agg #[Value.int .i64 (21 : Int), Value.string ⟨#[]⟩, Value.string ⟨#[]⟩, Value.string ⟨#[]⟩, Value.int .i64 (z : Int)]] W fun e w' => e = .returned (.bool (validC ⟨21, [], [], [], (z : Int)⟩)) ∧ Ext W w') := Lib.hid (fun W => rvalid31_any W ⟨21, [], [], [], (z : Int)⟩ (by have := HL.out; (try simp only [List.length_nil]); omega) (by have := HL.out; (try simp only [List.length_nil]); omega) (by have := HL.out; (try simp only [List.length_nil]); omega))
      obtain ⟨vb, hvb⟩ : ∃ vb, vb = validC ⟨21, [], [], [], (z : Int)⟩ := ⟨_, rfl⟩
      have HVB := Lib.hid hvb
      rw [← hvb] at HVK HRD
      clear hvb
      obtain ⟨bt, hbt⟩ : ∃ bt, bt = bareT rs := ⟨_, rfl⟩
      rw [← hbt] at HBR HRD
      clear hbt
      have a0 := HAj.out.cell 0
      have e0 := HAj.out.frozen 0
      have p0 := HCj.out.cell 0
      have q0 := HCj.out.frozen 0
      have a1 := HAj.out.cell 1
      have e1 := HAj.out.frozen 1
      have p1 := HCj.out.cell 1
      have q1 := HCj.out.frozen 1
      have a2 := HAj.out.cell 2
      have e2 := HAj.out.frozen 2
      have p2 := HCj.out.cell 2
      have q2 := HCj.out.frozen 2
      have a3 := HAj.out.cell 3
      have e3 := HAj.out.frozen 3
      have p3 := HCj.out.cell 3
      have q3 := HCj.out.frozen 3
      have a4 := HAj.out.cell 4
      have e4 := HAj.out.frozen 4
      have p4 := HCj.out.cell 4
      have q4 := HCj.out.frozen 4
      have az := HAj.out.lt
      have pz := HCj.out.lt
      go_wp2_with fail
      refine (HBR.out _).mono ?_
      rintro e w8 ⟨rfl, rfl⟩
      cases hbe : bt == []
      · have HN6 : Hid (R = (none, 6)) := Lib.hid (HRN.out (.inr (by rw [HRD.out, if_neg (fun h => by rw [h.1] at hbe; simp at hbe)])))
        go_wp2_with fail
        obtain ⟨y0, y1, y2, y3, y4⟩ := five_set HAj.out (Value.int .i64 0) (Value.string ⟨#[]⟩) (Value.string ⟨#[]⟩) (Value.string ⟨#[]⟩) (Value.int .i64 0)
        refine bodyPost_ret (v := .tuple #[.agg #[Value.int .i64 0, Value.string ⟨#[]⟩, Value.string ⟨#[]⟩, Value.string ⟨#[]⟩, Value.int .i64 0], .int .i64 6]) (by simp [results, Tryz.results13, go_sem, y0, y1, y2, y3, y4]) rfl ?_
        rw [HN6.out]
        exact ⟨rfl, (((((HXj.out.setCell (p := ⟨ga, 0, none⟩) HGA.out _).setCell (p := ⟨ga, 1, none⟩) HGA.out _).setCell (p := ⟨ga, 2, none⟩) HGA.out _).setCell (p := ⟨ga, 3, none⟩) HGA.out _).setCell (p := ⟨ga, 4, none⟩) HGA.out _)⟩
      have HBE : Hid (bt = []) := Lib.hid (by simpa using hbe)
      go_wp2_with fail
      refine (HVK.out _).mono ?_
      rintro e w9 ⟨rfl, hx9⟩
      clear a0 a1 a2 a3 a4 e0 e1 e2 e3 e4 p0 p1 p2 p3 p4 q0 q1 q2 q3 q4 az pz
      have HAz := Lib.hid (HAj.out.ext hx9)
      have HCz := Lib.hid (HCj.out.ext hx9)
      have HXz := Lib.hid (HXj.out.trans hx9)
      clear hx9
      have a0 := HAz.out.cell 0
      have e0 := HAz.out.frozen 0
      have p0 := HCz.out.cell 0
      have q0 := HCz.out.frozen 0
      have a1 := HAz.out.cell 1
      have e1 := HAz.out.frozen 1
      have p1 := HCz.out.cell 1
      have q1 := HCz.out.frozen 1
      have a2 := HAz.out.cell 2
      have e2 := HAz.out.frozen 2
      have p2 := HCz.out.cell 2
      have q2 := HCz.out.frozen 2
      have a3 := HAz.out.cell 3
      have e3 := HAz.out.frozen 3
      have p3 := HCz.out.cell 3
      have q3 := HCz.out.frozen 3
      have a4 := HAz.out.cell 4
      have e4 := HAz.out.frozen 4
      have p4 := HCz.out.cell 4
      have q4 := HCz.out.frozen 4
      have az := HAz.out.lt
      have pz := HCz.out.lt
      cases vb
      · have HN6 : Hid (R = (none, 6)) := Lib.hid (HRN.out (.inr (HRD.out.trans (by simp))))
        go_wp2_with fail
        obtain ⟨y0, y1, y2, y3, y4⟩ := five_set HAz.out (Value.int .i64 0) (Value.string ⟨#[]⟩) (Value.string ⟨#[]⟩) (Value.string ⟨#[]⟩) (Value.int .i64 0)
        refine bodyPost_ret (v := .tuple #[.agg #[Value.int .i64 0, Value.string ⟨#[]⟩, Value.string ⟨#[]⟩, Value.string ⟨#[]⟩, Value.int .i64 0], .int .i64 6]) (by simp [results, Tryz.results13, go_sem, y0, y1, y2, y3, y4]) rfl ?_
        rw [HN6.out]
        exact ⟨rfl, (((((HXz.out.setCell (p := ⟨ga, 0, none⟩) HGA.out _).setCell (p := ⟨ga, 1, none⟩) HGA.out _).setCell (p := ⟨ga, 2, none⟩) HGA.out _).setCell (p := ⟨ga, 3, none⟩) HGA.out _).setCell (p := ⟨ga, 4, none⟩) HGA.out _)⟩
      · have HN6 : Hid (R = (some ⟨21, [], [], [], (z : Int)⟩, 0)) := Lib.hid (HRS.out _ (HRD.out.trans (by simp [HBE.out])))
        go_wp2_with fail
        obtain ⟨y0, y1, y2, y3, y4⟩ := five_set HAz.out (Value.int .i64 (21 : Int)) (Value.string ⟨#[]⟩) (Value.string ⟨#[]⟩) (Value.string ⟨#[]⟩) (Value.int .i64 (z : Int))
        refine bodyPost_ret (v := .tuple #[.agg #[Value.int .i64 (21 : Int), Value.string ⟨#[]⟩, Value.string ⟨#[]⟩, Value.string ⟨#[]⟩, Value.int .i64 (z : Int)], .int .i64 0]) (by simp [results, Tryz.results13, go_sem, y0, y1, y2, y3, y4]) rfl ?_
        rw [HN6.out]
        exact ⟨rfl, (((((HXz.out.setCell (p := ⟨ga, 0, none⟩) HGA.out _).setCell (p := ⟨ga, 1, none⟩) HGA.out _).setCell (p := ⟨ga, 2, none⟩) HGA.out _).setCell (p := ⟨ga, 3, none⟩) HGA.out _).setCell (p := ⟨ga, 4, none⟩) HGA.out _)⟩
end Big
end Go.Proofs.YtoehdoghghpmjaaGreatDoor
/- The document's Parse of commands: a class of operations. -/
namespace Go.Proofs.YtoehdoghghpmjaaGreatDoor
namespace Big
open Go.RowKit
set_option maxHeartbeats 2000000 in
set_option maxRecDepth 100000 in
theorem rparse31_t (w : World) (s : List UInt8) (hs : s.length ≤ 500) (k : Nat) (hko : opOf (fw (sp s)) = k) (q3 : k ≠ 3) (q21 : k ≠ 21) (q6 : k ≠ 6) (q1 : k ≠ 1) (hnd : namedC (k : Int) = true) :
    Calls Tryz.prog 13 #[str s] w fun e w' => e = .returned (.tuple #[cmdV (cmdOf (lineR s).1), .int .i64 ((lineR s).2 : Int)]) ∧ Ext w w' := by
  unfold cmdV
  have h5' : ¬ (500 : Int) < (s.length : Int) := by omega
  have HRN := Lib.hid (fun h => lineR_none (s := s) (by omega) h)
  have HRS0 := Lib.hid (fun c h0 h => lineR_some (s := s) (c := c) (by omega) h0 h)
  have hk22 : k < 22 := by
    by_cases h : opOf (fw (sp s)) = 0
    · omega
    · have := (opOf_spec h).1; omega
  have HAT : Hid (∀ i, 1 ≤ i → i < 22 → (cmdNames.getD i [] = fw (sp s) ↔ i = k)) := Lib.hid (fun i h1 h2 => ⟨fun h => by
      have := opOf_at h2 (names_ne i h1 h2)
      rw [h] at this
      omega, fun h => by
      have h3 : opOf (fw (sp s)) ≠ 0 := by omega
      have := (opOf_spec h3).2
      rw [hko, ← h] at this
      exact this⟩)
  have e0 := sp_le s
  have e1 := fw_le (sp s)
  have e2 := rw_le (sp s)
  have HN1 := Lib.hid (fun W => next31_any W s (by omega))
  rw [hko] at HRN HRS0
  obtain ⟨first, hfi⟩ : ∃ x, x = fw (sp s) := ⟨_, rfl⟩
  obtain ⟨r1, hr1⟩ : ∃ x, x = rw_ (sp s) := ⟨_, rfl⟩
  rw [← hfi, ← hr1] at HN1
  rw [← hfi] at HAT
  rw [← hr1] at HRN HRS0 e2
  clear hko hfi hr1 e1
  generalize lineR s = R at *
  have e3 := sp_le r1
  have e4 := fw_le (sp r1)
  have e5 := rw_le (sp r1)
  have e6 := sp_le (rw_ (sp r1))
  have e7 := fw_le (sp (rw_ (sp r1)))
  have e8 := rw_le (sp (rw_ (sp r1)))
  have e9 := bareT_le (rw_ (sp (rw_ (sp r1))))
  have HL : Hid (r1.length ≤ 500 ∧ (fw (sp r1)).length ≤ 500 ∧ (rw_ (sp r1)).length ≤ 500 ∧ (fw (sp (rw_ (sp r1)))).length ≤ 500 ∧ (rw_ (sp (rw_ (sp r1)))).length ≤ 500 ∧ (bareT (rw_ (sp (rw_ (sp r1))))).length ≤ 500) := Lib.hid (by omega)
  have HN2 := Lib.hid (fun W => next31_any W r1 (by omega))
  have HN3 := Lib.hid (fun W => next31_any W (rw_ (sp r1)) (by omega))
  have HNM := Lib.hid (fun W op => rname31_any W op)
  have HND := Lib.hid (fun W => rnamed_any W (k : Int))
  have hshape : shapeC (k : Int) = 1 := by rw [shape_else k hk22 q3 q21 q6 q1, hnd]; rfl
  rw [hnd] at HND
  have HRS : Hid (∀ c, readR (k : Int) r1 = some c → R = (some c, 0)) := Lib.hid (fun c h => HRS0.out c (fun h0 => by subst h0; have h1 : readR ((0 : Nat) : Int) r1 = none := readR_zero r1; rw [h1] at h; cases h) h)
  have HRD : Hid (readR (k : Int) r1 = if bareT (rw_ (sp r1)) = [] ∧ validC ⟨(k : Int), fw (sp r1), [], [], 0⟩ = true then some ⟨(k : Int), fw (sp r1), [], [], 0⟩ else none) := Lib.hid (by unfold readR; simp [show shapeC (k : Int) = 1 from by first | rfl | exact hshape])
  have g3 : ¬ ((k : Int) = 3) := by omega
  have g21 : ¬ ((k : Int) = 21) := by omega
  have g6 : ¬ ((k : Int) = 6) := by omega
  have g1 : ¬ ((k : Int) = 1) := by omega
  clear q3 q21 q6 q1 hnd hshape
  clear hs e0 e2 e3 e4 e5 e6 e7 e8 e9
  go_enter Tryz.func13, Tryz.ntmps13
  go_wp2_with fail
  have ha := (Blk.new w 31 #[Value.int .i64 0, Value.string ⟨#[]⟩, Value.string ⟨#[]⟩, Value.string ⟨#[]⟩, Value.int .i64 0]).ext ((Ext.refl _).alloc (.cells #[Value.int .i64 0, Value.string ⟨#[]⟩, Value.string ⟨#[]⟩, Value.string ⟨#[]⟩, Value.int .i64 0] 31))
  have hc := Blk.new (w.alloc (.cells #[Value.int .i64 0, Value.string ⟨#[]⟩, Value.string ⟨#[]⟩, Value.string ⟨#[]⟩, Value.int .i64 0] 31)) 31 #[Value.int .i64 0, Value.string ⟨#[]⟩, Value.string ⟨#[]⟩, Value.string ⟨#[]⟩, Value.int .i64 0]
  have hgs : (w.alloc (.cells #[Value.int .i64 0, Value.string ⟨#[]⟩, Value.string ⟨#[]⟩, Value.string ⟨#[]⟩, Value.int .i64 0] 31)).heap.size = w.heap.size + 1 := by simp
  rw [hgs] at hc
  have HX0 : Hid (Ext w ((w.alloc (.cells #[Value.int .i64 0, Value.string ⟨#[]⟩, Value.string ⟨#[]⟩, Value.string ⟨#[]⟩, Value.int .i64 0] 31)).alloc (.cells #[Value.int .i64 0, Value.string ⟨#[]⟩, Value.string ⟨#[]⟩, Value.string ⟨#[]⟩, Value.int .i64 0] 31))) := Lib.hid (((Ext.refl w).alloc _).alloc _)
  obtain ⟨gc, hgc⟩ : ∃ gc, gc = w.heap.size + 1 := ⟨_, rfl⟩
  rw [← hgc] at hc ⊢
  obtain ⟨ga, hga⟩ : ∃ ga, ga = w.heap.size := ⟨_, rfl⟩
  have nac : ga ≠ gc := by omega
  have HGA : Hid (w.heap.size ≤ ga) := Lib.hid (by omega)
  have HGC : Hid (w.heap.size ≤ gc) := Lib.hid (by omega)
  rw [← hga] at ha ⊢
  have HA0 := Lib.hid ha
  have HC0 := Lib.hid hc
  clear ha hc hga hgc hgs
  generalize (w.alloc (.cells #[Value.int .i64 0, Value.string ⟨#[]⟩, Value.string ⟨#[]⟩, Value.string ⟨#[]⟩, Value.int .i64 0] 31)).alloc (.cells #[Value.int .i64 0, Value.string ⟨#[]⟩, Value.string ⟨#[]⟩, Value.string ⟨#[]⟩, Value.int .i64 0] 31) = w0 at *
  refine (HN1.out _).mono ?_
  rintro e w1 ⟨rfl, hx1⟩
  have HA1 := Lib.hid (HA0.out.ext hx1)
  have HC1 := Lib.hid (HC0.out.ext hx1)
  have HX1 := Lib.hid (HX0.out.trans hx1)
  clear hx1
  go_wp2_with fail
  go_loopw [7] (fun s7 wr => ∃ i : Nat, 1 ≤ i ∧ i ≤ 22 ∧ s7 = .int .i64 (i : Int) ∧ Ext w wr ∧ Blk wr ga 31 #[Value.int .i64 0, Value.string ⟨#[]⟩, Value.string ⟨#[]⟩, Value.string ⟨#[]⟩, Value.int .i64 0] ∧ ∃ v : Nat, Blk wr gc 31 #[Value.int .i64 (v : Int), Value.string ⟨#[]⟩, Value.string ⟨#[]⟩, Value.string ⟨#[]⟩, Value.int .i64 0] ∧ v = if k < i then k else 0) (fun s7 _ => 22 - (intOf s7).toNat)
  case atStart => exact ⟨1, by omega, by omega, rfl, HX1.out, HA1.out, 0, HC1.out, by split <;> omega⟩
  case round =>
    obtain ⟨i, hi1, hi2, rfl, hx, ha, v, hc, hv⟩ := hrel
    have HX2 := Lib.hid hx
    have HA2 := Lib.hid ha
    have HC2 := Lib.hid hc
    have HV := Lib.hid hv
    clear hx ha hc hv HX1 HA1 HC1 HX0 HA0 HC0
    by_cases hlt : i < 22
    · have hii : (i : Int) ≤ 21 := by omega
      have hat := HAT.out i hi1 hlt
      have hnm : nameC (i : Int) = cmdNames.getD i [] := by unfold nameC; rw [if_pos (by omega), Int.toNat_natCast]
      have HNI := Lib.hid (fun W => HNM.out W (i : Int))
      rw [hnm] at HNI
      generalize cmdNames.getD i [] = fn at *
      clear hnm
      go_wp2_with fail
      refine (HNI.out _).mono ?_
      rintro e w3 ⟨rfl, hx3⟩
      have HA3 := Lib.hid (HA2.out.ext hx3)
      have HC3 := Lib.hid (HC2.out.ext hx3)
      have HX3 := Lib.hid (HX2.out.trans hx3)
      clear hx3
      cases heq : fn == first
      · have hne : i ≠ k := fun h => by rw [hat.2 h] at heq; simp at heq
        have HV2 : Hid (v = if k < i + 1 then k else 0) := Lib.hid (by rw [HV.out]; (repeat' split) <;> omega)
        clear hat hne
        go_wp2_with fail
        go_roundw
        case rel => exact ⟨i + 1, by omega, by omega, by go_num, HX3.out, HA3.out, v, HC3.out, HV2.out⟩
        case measure => simp [intOf]; omega
      · have hik : i = k := hat.1 (by simpa using heq)
        have HV2 : Hid (i = if k < i + 1 then k else 0) := Lib.hid (by rw [if_pos (by omega)]; exact hik)
        clear hat hik
        have a0 := HA3.out.cell 0
        have e0 := HA3.out.frozen 0
        have p0 := HC3.out.cell 0
        have q0 := HC3.out.frozen 0
        have a1 := HA3.out.cell 1
        have e1 := HA3.out.frozen 1
        have p1 := HC3.out.cell 1
        have q1 := HC3.out.frozen 1
        have a2 := HA3.out.cell 2
        have e2 := HA3.out.frozen 2
        have p2 := HC3.out.cell 2
        have q2 := HC3.out.frozen 2
        have a3 := HA3.out.cell 3
        have e3 := HA3.out.frozen 3
        have p3 := HC3.out.cell 3
        have q3 := HC3.out.frozen 3
        have a4 := HA3.out.cell 4
        have e4 := HA3.out.frozen 4
        have p4 := HC3.out.cell 4
        have q4 := HC3.out.frozen 4
        have az := HA3.out.lt
        have pz := HC3.out.lt
        go_wp2_with fail
        go_roundw
        case rel => exact ⟨i + 1, by omega, by omega, by go_num, HX3.out.setCell (p := ⟨gc, 0, none⟩) HGC.out _, HA3.out.far nac _, i, (by have := HC3.out.set_ 0 (Value.int .i64 (i : Int)); simpa using this), HV2.out⟩
        case measure => simp [intOf]; omega
    · obtain rfl : i = 22 := by omega
      have hvk : v = k := by have := HV.out; rw [if_pos hk22] at this; exact this
      subst hvk
      clear HV hlt hi1 hi2 HAT
      have a0 := HA2.out.cell 0
      have e0 := HA2.out.frozen 0
      have p0 := HC2.out.cell 0
      have q0 := HC2.out.frozen 0
      have a1 := HA2.out.cell 1
      have e1 := HA2.out.frozen 1
      have p1 := HC2.out.cell 1
      have q1 := HC2.out.frozen 1
      have a2 := HA2.out.cell 2
      have e2 := HA2.out.frozen 2
      have p2 := HC2.out.cell 2
      have q2 := HC2.out.frozen 2
      have a3 := HA2.out.cell 3
      have e3 := HA2.out.frozen 3
      have p3 := HC2.out.cell 3
      have q3 := HC2.out.frozen 3
      have a4 := HA2.out.cell 4
      have e4 := HA2.out.frozen 4
      have p4 := HC2.out.cell 4
      have q4 := HC2.out.frozen 4
      have az := HA2.out.lt
      have pz := HC2.out.lt
      go_wp2_with fail
      refine (HND.out _).mono ?_
      rintro e w4 ⟨rfl, rfl⟩
      go_wp2_with fail
      refine (HN2.out _).mono ?_
      rintro e w4 ⟨rfl, hx4⟩
      clear a0 a1 a2 a3 a4 e0 e1 e2 e3 e4 p0 p1 p2 p3 p4 q0 q1 q2 q3 q4 az pz
      have HAd := Lib.hid (HA2.out.ext hx4)
      have HCd := Lib.hid (HC2.out.ext hx4)
      have HXd := Lib.hid (HX2.out.trans hx4)
      clear hx4
      have HAe : Hid (Blk (w4.setCell ⟨gc, 1, none⟩ (str (fw (sp r1)))) ga 31 #[Value.int .i64 0, Value.string ⟨#[]⟩, Value.string ⟨#[]⟩, Value.string ⟨#[]⟩, Value.int .i64 0]) := Lib.hid (HAd.out.far nac _)
      have HCe : Hid (Blk (w4.setCell ⟨gc, 1, none⟩ (str (fw (sp r1)))) gc 31 #[Value.int .i64 (v : Int), str (fw (sp r1)), Value.string ⟨#[]⟩, Value.string ⟨#[]⟩, Value.int .i64 0]) := Lib.hid (by have := HCd.out.set_ 1 (str (fw (sp r1))); simpa using this)
      have HXe : Hid (Ext w (w4.setCell ⟨gc, 1, none⟩ (str (fw (sp r1))))) := Lib.hid (HXd.out.setCell (p := ⟨gc, 1, none⟩) HGC.out (str (fw (sp r1))))
      have a0 := HAd.out.cell 0
      have e0 := HAd.out.frozen 0
      have p0 := HCd.out.cell 0
      have q0 := HCd.out.frozen 0
      have a1 := HAd.out.cell 1
      have e1 := HAd.out.frozen 1
      have p1 := HCd.out.cell 1
      have q1 := HCd.out.frozen 1
      have a2 := HAd.out.cell 2
      have e2 := HAd.out.frozen 2
      have p2 := HCd.out.cell 2
      have q2 := HCd.out.frozen 2
      have a3 := HAd.out.cell 3
      have e3 := HAd.out.frozen 3
      have p3 := HCd.out.cell 3
      have q3 := HCd.out.frozen 3
      have a4 := HAd.out.cell 4
      have e4 := HAd.out.frozen 4
      have p4 := HCd.out.cell 4
      have q4 := HCd.out.frozen 4
      have az := HAd.out.lt
      have pz := HCd.out.lt
      go_upto_region 30 with fail
      clear a0 a1 a2 a3 a4 e0 e1 e2 e3 e4 p0 p1 p2 p3 p4 q0 q1 q2 q3 q4 az pz
      generalize hgw : w4.setCell ⟨gc, 1, none⟩ (str (fw (sp r1))) = w5 at *
      clear hgw
      have HBR := Lib.hid (fun W => bare31_any W (rw_ (sp r1)) (by have := HL.out; (try simp only [List.length_nil]); omega))
      have HVK : Hid (∀ W : World, Calls Tryz.prog 16 #[.agg #[Value.int .i64 (v : Int), str (fw (sp r1)), Value.string ⟨#[]⟩, Value.string ⟨#[]⟩, Value.int .i64 0]] W fun e w' => e = .returned (.bool (validC ⟨(v : Int), fw (sp r1), [], [], 0⟩)) ∧ Ext W w') := Lib.hid (fun W => rvalid31_any W ⟨(v : Int), fw (sp r1), [], [], 0⟩ (by have := HL.out; (try simp only [List.length_nil]); omega) (by have := HL.out; (try simp only [List.length_nil]); omega) (by have := HL.out; (try simp only [List.length_nil]); omega))
      obtain ⟨vb, hvb⟩ : ∃ vb, vb = validC ⟨(v : Int), fw (sp r1), [], [], 0⟩ := ⟨_, rfl⟩
      have HVB := Lib.hid hvb
      rw [← hvb] at HVK HRD
      clear hvb
      obtain ⟨bt, hbt⟩ : ∃ bt, bt = bareT (rw_ (sp r1)) := ⟨_, rfl⟩
      rw [← hbt] at HBR HRD
      clear hbt
      have a0 := HAe.out.cell 0
      have e0 := HAe.out.frozen 0
      have p0 := HCe.out.cell 0
      have q0 := HCe.out.frozen 0
      have a1 := HAe.out.cell 1
      have e1 := HAe.out.frozen 1
      have p1 := HCe.out.cell 1
      have q1 := HCe.out.frozen 1
      have a2 := HAe.out.cell 2
      have e2 := HAe.out.frozen 2
      have p2 := HCe.out.cell 2
      have q2 := HCe.out.frozen 2
      have a3 := HAe.out.cell 3
      have e3 := HAe.out.frozen 3
      have p3 := HCe.out.cell 3
      have q3 := HCe.out.frozen 3
      have a4 := HAe.out.cell 4
      have e4 := HAe.out.frozen 4
      have p4 := HCe.out.cell 4
      have q4 := HCe.out.frozen 4
      have az := HAe.out.lt
      have pz := HCe.out.lt
      go_wp2_with fail
      refine (HBR.out _).mono ?_
      rintro e w8 ⟨rfl, rfl⟩
      cases hbe : bt == []
      · have HN6 : Hid (R = (none, 6)) := Lib.hid (HRN.out (.inr (by rw [HRD.out, if_neg (fun h => by rw [h.1] at hbe; simp at hbe)])))
        go_wp2_with fail
        obtain ⟨y0, y1, y2, y3, y4⟩ := five_set HAe.out (Value.int .i64 0) (Value.string ⟨#[]⟩) (Value.string ⟨#[]⟩) (Value.string ⟨#[]⟩) (Value.int .i64 0)
        refine bodyPost_ret (v := .tuple #[.agg #[Value.int .i64 0, Value.string ⟨#[]⟩, Value.string ⟨#[]⟩, Value.string ⟨#[]⟩, Value.int .i64 0], .int .i64 6]) (by simp [results, Tryz.results13, go_sem, y0, y1, y2, y3, y4]) rfl ?_
        rw [HN6.out]
        exact ⟨rfl, (((((HXe.out.setCell (p := ⟨ga, 0, none⟩) HGA.out _).setCell (p := ⟨ga, 1, none⟩) HGA.out _).setCell (p := ⟨ga, 2, none⟩) HGA.out _).setCell (p := ⟨ga, 3, none⟩) HGA.out _).setCell (p := ⟨ga, 4, none⟩) HGA.out _)⟩
      have HBE : Hid (bt = []) := Lib.hid (by simpa using hbe)
      go_wp2_with fail
      refine (HVK.out _).mono ?_
      rintro e w9 ⟨rfl, hx9⟩
      clear a0 a1 a2 a3 a4 e0 e1 e2 e3 e4 p0 p1 p2 p3 p4 q0 q1 q2 q3 q4 az pz
      have HAz := Lib.hid (HAe.out.ext hx9)
      have HCz := Lib.hid (HCe.out.ext hx9)
      have HXz := Lib.hid (HXe.out.trans hx9)
      clear hx9
      have a0 := HAz.out.cell 0
      have e0 := HAz.out.frozen 0
      have p0 := HCz.out.cell 0
      have q0 := HCz.out.frozen 0
      have a1 := HAz.out.cell 1
      have e1 := HAz.out.frozen 1
      have p1 := HCz.out.cell 1
      have q1 := HCz.out.frozen 1
      have a2 := HAz.out.cell 2
      have e2 := HAz.out.frozen 2
      have p2 := HCz.out.cell 2
      have q2 := HCz.out.frozen 2
      have a3 := HAz.out.cell 3
      have e3 := HAz.out.frozen 3
      have p3 := HCz.out.cell 3
      have q3 := HCz.out.frozen 3
      have a4 := HAz.out.cell 4
      have e4 := HAz.out.frozen 4
      have p4 := HCz.out.cell 4
      have q4 := HCz.out.frozen 4
      have az := HAz.out.lt
      have pz := HCz.out.lt
      cases vb
      · have HN6 : Hid (R = (none, 6)) := Lib.hid (HRN.out (.inr (HRD.out.trans (by simp))))
        go_wp2_with fail
        obtain ⟨y0, y1, y2, y3, y4⟩ := five_set HAz.out (Value.int .i64 0) (Value.string ⟨#[]⟩) (Value.string ⟨#[]⟩) (Value.string ⟨#[]⟩) (Value.int .i64 0)
        refine bodyPost_ret (v := .tuple #[.agg #[Value.int .i64 0, Value.string ⟨#[]⟩, Value.string ⟨#[]⟩, Value.string ⟨#[]⟩, Value.int .i64 0], .int .i64 6]) (by simp [results, Tryz.results13, go_sem, y0, y1, y2, y3, y4]) rfl ?_
        rw [HN6.out]
        exact ⟨rfl, (((((HXz.out.setCell (p := ⟨ga, 0, none⟩) HGA.out _).setCell (p := ⟨ga, 1, none⟩) HGA.out _).setCell (p := ⟨ga, 2, none⟩) HGA.out _).setCell (p := ⟨ga, 3, none⟩) HGA.out _).setCell (p := ⟨ga, 4, none⟩) HGA.out _)⟩
      · have HN6 : Hid (R = (some ⟨(v : Int), fw (sp r1), [], [], 0⟩, 0)) := Lib.hid (HRS.out _ (HRD.out.trans (by simp [HBE.out])))
        go_wp2_with fail
        obtain ⟨y0, y1, y2, y3, y4⟩ := five_set HAz.out (Value.int .i64 (v : Int)) (str (fw (sp r1))) (Value.string ⟨#[]⟩) (Value.string ⟨#[]⟩) (Value.int .i64 0)
        refine bodyPost_ret (v := .tuple #[.agg #[Value.int .i64 (v : Int), str (fw (sp r1)), Value.string ⟨#[]⟩, Value.string ⟨#[]⟩, Value.int .i64 0], .int .i64 0]) (by simp [results, Tryz.results13, go_sem, y0, y1, y2, y3, y4]) rfl ?_
        rw [HN6.out]
        exact ⟨rfl, (((((HXz.out.setCell (p := ⟨ga, 0, none⟩) HGA.out _).setCell (p := ⟨ga, 1, none⟩) HGA.out _).setCell (p := ⟨ga, 2, none⟩) HGA.out _).setCell (p := ⟨ga, 3, none⟩) HGA.out _).setCell (p := ⟨ga, 4, none⟩) HGA.out _)⟩
end Big
end Go.Proofs.YtoehdoghghpmjaaGreatDoor
