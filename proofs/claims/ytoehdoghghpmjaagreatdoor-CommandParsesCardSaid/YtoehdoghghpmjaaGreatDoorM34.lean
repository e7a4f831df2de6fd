import Derived.Test.YtoehdoghghpmjaaGreatDoorM32
import Derived.Test.YtoehdoghghpmjaaGreatDoorM33
import Derived.Test.YtoehdoghghpmjaaGreatDoorM26
import Derived.Test.YtoehdoghghpmjaaGreatDoorM5
import Derived.Deep.RegionLaw
/- The document's Parse of commands: a class of operations. -/
namespace Go.Proofs.YtoehdoghghpmjaaGreatDoor
namespace Big
open Go.RowKit
set_option maxHeartbeats 2000000 in
set_option maxRecDepth 100000 in
theorem rparse31_f (w : World) (s : List UInt8) (hs : s.length ≤ 500) (k : Nat) (hko : opOf (fw (sp s)) = k) (q3 : k ≠ 3) (q21 : k ≠ 21) (q6 : k ≠ 6) (q1 : k ≠ 1) (hnd : namedC (k : Int) = false) :
    Calls Tryz.prog 13 #[str s] w fun e w' => e = .returned (.tuple #[cmdV (cmdOf (lineR s).1), .int .i64 ((lineR s).2 : Int)]) ∧ Ext w w' := by
  unfold cmdV
  have h5' : ¬ (500 : Int) < (s.length : Int) := by omega
  have HRN := Lib.hid (fun h => lineR_none (s := s) (by omega) h)
  have HRS0 := Lib.hid (fun c h0 h => lineR_some (s := s) (c := c) (by omega) h0 h)
  have hk22 : k < 22 := by
    by_cases h : opOf (fw (sp s)) = 0
    · omega
    · have := (opOf_spec h).1; omega
  have HAT : Hid (∀ i, 1 ≤ i → i < 22 → (cmdNames.getD i [] = fw (sp s) ↔ i = k)) := Lib.hid (fun i h1 h2 => ⟨fun h => by
      have := opOf_at h2 (names_ne i h1 h2)
      rw [h] at this
      omega, fun h => by
      have h3 : opOf (fw (sp s)) ≠ 0 := by omega
      have := (opOf_spec h3).2
      rw [hko, ← h] at this
      exact this⟩)
  have e0 := sp_le s
  have e1 := fw_le (sp s)
  have e2 := rw_le (sp s)
  have HN1 := Lib.hid (fun W => next31_any W s (by omega))
  rw [hko] at HRN HRS0
  obtain ⟨first, hfi⟩ : ∃ x, x = fw (sp s) := ⟨_, rfl⟩
  obtain ⟨r1, hr1⟩ : ∃ x, x = rw_ (sp s) := ⟨_, rfl⟩
  rw [← hfi, ← hr1] at HN1
  rw [← hfi] at HAT
  rw [← hr1] at HRN HRS0 e2
  clear hko hfi hr1 e1
  generalize lineR s = R at *
  have e3 := sp_le r1
  have e4 := fw_le (sp r1)
  have e5 := rw_le (sp r1)
  have e6 := sp_le (rw_ (sp r1))
  have e7 := fw_le (sp (rw_ (sp r1)))
  have e8 := rw_le (sp (rw_ (sp r1)))
  have e9 := bareT_le (rw_ (sp (rw_ (sp r1))))
  have HL : Hid (r1.length ≤ 500 ∧ (fw (sp r1)).length ≤ 500 ∧ (rw_ (sp r1)).length ≤ 500 ∧ (fw (sp (rw_ (sp r1)))).length ≤ 500 ∧ (rw_ (sp (rw_ (sp r1)))).length ≤ 500 ∧ (bareT (rw_ (sp (rw_ (sp r1))))).length ≤ 500) := Lib.hid (by omega)
  have HN2 := Lib.hid (fun W => next31_any W r1 (by omega))
  have HN3 := Lib.hid (fun W => next31_any W (rw_ (sp r1)) (by omega))
  have HNM := Lib.hid (fun W op => rname31_any W op)
  have HND := Lib.hid (fun W => rnamed_any W (k : Int))
  have hshape : shapeC (k : Int) = 0 := by rw [shape_else k hk22 q3 q21 q6 q1, hnd]; rfl
  rw [hnd] at HND
  have HRS : Hid (∀ c, readR (k : Int) r1 = some c → R = (some c, 0)) := Lib.hid (fun c h => HRS0.out c (fun h0 => by subst h0; have h1 : readR ((0 : Nat) : Int) r1 = none := readR_zero r1; rw [h1] at h; cases h) h)
  have HRD : Hid (readR (k : Int) r1 = if bareT r1 = [] ∧ validC ⟨(k : Int), [], [], [], 0⟩ = true then some ⟨(k : Int), [], [], [], 0⟩ else none) := Lib.hid (by unfold readR; simp [show shapeC (k : Int) = 0 from by first | rfl | exact hshape])
  have g3 : ¬ ((k : Int) = 3) := by omega
  have g21 : ¬ ((k : Int) = 21) := by omega
  have g6 : ¬ ((k : Int) = 6) := by omega
  have g1 : ¬ ((k : Int) = 1) := by omega
  clear q3 q21 q6 q1 hnd hshape
  clear hs e0 e2 e3 e4 e5 e6 e7 e8 e9
  go_enter Tryz.func13, Tryz.ntmps13
  go_wp2_with fail
  have ha := (Blk.new w 31 #[Value.int .i64 0, Value.string ⟨#[]⟩, Value.string ⟨#[]⟩, Value.string ⟨#[]⟩, Value.int .i64 0]).ext ((Ext.refl _).alloc (.cells #[Value.int .i64 0, Value.string ⟨#[]⟩, Value.string ⟨#[]⟩, Value.string ⟨#[]⟩, Value.int .i64 0] 31))
  have hc := Blk.new (w.alloc (.cells #[Value.int .i64 0, Value.string ⟨#[]⟩, Value.string ⟨#[]⟩, Value.string ⟨#[]⟩, Value.int .i64 0] 31)) 31 #[Value.int .i64 0, Value.string ⟨#[]⟩, Value.string ⟨#[]⟩, Value.string ⟨#[]⟩, Value.int .i64 0]
  have hgs : (w.alloc (.cells #[Value.int .i64 0, Value.string ⟨#[]⟩, Value.string ⟨#[]⟩, Value.string ⟨#[]⟩, Value.int .i64 0] 31)).heap.size = w.heap.size + 1 := by simp
  rw [hgs] at hc
  have HX0 : Hid (Ext w ((w.alloc (.cells #[Value.int .i64 0, Value.string ⟨#[]⟩, Value.string ⟨#[]⟩, Value.string ⟨#[]⟩, Value.int .i64 0] 31)).alloc (.cells #[Value.int .i64 0, Value.string ⟨#[]⟩, Value.string ⟨#[]⟩, Value.string ⟨#[]⟩, Value.int .i64 0] 31))) := Lib.hid (((Ext.refl w).alloc _).alloc _)
  obtain ⟨gc, hgc⟩ : ∃ gc, gc = w.heap.size + 1 := ⟨_, rfl⟩
  rw [← hgc] at hc ⊢
  obtain ⟨ga, hga⟩ : ∃ ga, ga = w.heap.size := ⟨_, rfl⟩
  have nac : ga ≠ gc := by omega
  have HGA : Hid (w.heap.size ≤ ga) := Lib.hid (by omega)
  have HGC : Hid (w.heap.size ≤ gc) := Lib.hid (by omega)
  rw [← hga] at ha ⊢
  have HA0 := Lib.hid ha
  have HC0 := Lib.hid hc
  clear ha hc hga hgc hgs
  generalize (w.alloc (.cells #[Value.int .i64 0, Value.string ⟨#[]⟩, Value.string ⟨#[]⟩, Value.string ⟨#[]⟩, Value.int .i64 0] 31)).alloc (.cells #[Value.int .i64 0, Value.string ⟨#[]⟩, Value.string ⟨#[]⟩, Value.string ⟨#[]⟩, Value.int .i64 0] 31) = w0 at *
  refine (HN1.out _).mono ?_
  rintro e w1 ⟨rfl, hx1⟩
  have HA1 := Lib.hid (HA0.out.ext hx1)
  have HC1 := Lib.hid (HC0.out.ext hx1)
  have HX1 := Lib.hid (HX0.out.trans hx1)
  clear hx1
  go_wp2_with fail
  go_loopw [7] (fun s7 wr => ∃ i : Nat, 1 ≤ i ∧ i ≤ 22 ∧ s7 = .int .i64 (i : Int) ∧ Ext w wr ∧ Blk wr ga 31 #[Value.int .i64 0, Value.string ⟨#[]⟩, Value.string ⟨#[]⟩, Value.string ⟨#[]⟩, Value.int .i64 0] ∧ ∃ v : Nat, Blk wr gc 31 #[Value.int .i64 (v : Int), Value.string ⟨#[]⟩, Value.string ⟨#[]⟩, Value.string ⟨#[]⟩, Value.int .i64 0] ∧ v = if k < i then k else 0) (fun s7 _ => 22 - (intOf s7).toNat)
  case atStart => exact ⟨1, by omega, by omega, rfl, HX1.out, HA1.out, 0, HC1.out, by split <;> omega⟩
  case round =>
    obtain ⟨i, hi1, hi2, rfl, hx, ha, v, hc, hv⟩ := hrel
    have HX2 := Lib.hid hx
    have HA2 := Lib.hid ha
    have HC2 := Lib.hid hc
    have HV := Lib.hid hv
    clear hx ha hc hv HX1 HA1 HC1 HX0 HA0 HC0
    by_cases hlt : i < 22
    · have hii : (i : Int) ≤ 21 := by omega
      have hat := HAT.out i hi1 hlt
      have hnm : nameC (i : Int) = cmdNames.getD i [] := by unfold nameC; rw [if_pos (by omega), Int.toNat_natCast]
      have HNI := Lib.hid (fun W => HNM.out W (i : Int))
      rw [hnm] at HNI
      generalize cmdNames.getD i [] = fn at *
      clear hnm
      go_wp2_with fail
      refine (HNI.out _).mono ?_
      rintro e w3 ⟨rfl, hx3⟩
      have HA3 := Lib.hid (HA2.out.ext hx3)
      have HC3 := Lib.hid (HC2.out.ext hx3)
      have HX3 := Lib.hid (HX2.out.trans hx3)
      clear hx3
      cases heq : fn == first
      · have hne : i ≠ k := fun h => by rw [hat.2 h] at heq; simp at heq
        have HV2 : Hid (v = if k < i + 1 then k else 0) := Lib.hid (by rw [HV.out]; (repeat' split) <;> omega)
        clear hat hne
        go_wp2_with fail
        go_roundw
        case rel => exact ⟨i + 1, by omega, by omega, by go_num, HX3.out, HA3.out, v, HC3.out, HV2.out⟩
        case measure => simp [intOf]; omega
      · have hik : i = k := hat.1 (by simpa using heq)
        have HV2 : Hid (i = if k < i + 1 then k else 0) := Lib.hid (by rw [if_pos (by omega)]; exact hik)
        clear hat hik
        have a0 := HA3.out.cell 0
        have e0 := HA3.out.frozen 0
        have p0 := HC3.out.cell 0
        have q0 := HC3.out.frozen 0
        have a1 := HA3.out.cell 1
        have e1 := HA3.out.frozen 1
        have p1 := HC3.out.cell 1
        have q1 := HC3.out.frozen 1
        have a2 := HA3.out.cell 2
        have e2 := HA3.out.frozen 2
        have p2 := HC3.out.cell 2
        have q2 := HC3.out.frozen 2
        have a3 := HA3.out.cell 3
        have e3 := HA3.out.frozen 3
        have p3 := HC3.out.cell 3
        have q3 := HC3.out.frozen 3
        have a4 := HA3.out.cell 4
        have e4 := HA3.out.frozen 4
        have p4 := HC3.out.cell 4
        have q4 := HC3.out.frozen 4
        have az := HA3.out.lt
        have pz := HC3.out.lt
        go_wp2_with fail
        go_roundw
        case rel => exact ⟨i + 1, by omega, by omega, by go_num, HX3.out.setCell (p := ⟨gc, 0, none⟩) HGC.out _, HA3.out.far nac _, i, (by have := HC3.out.set_ 0 (Value.int .i64 (i : Int)); simpa using this), HV2.out⟩
        case measure => simp [intOf]; omega
    · obtain rfl : i = 22 := by omega
      have hvk : v = k := by have := HV.out; rw [if_pos hk22] at this; exact this
      subst hvk
      clear HV hlt hi1 hi2 HAT
      have a0 := HA2.out.cell 0
      have e0 := HA2.out.frozen 0
      have p0 := HC2.out.cell 0
      have q0 := HC2.out.frozen 0
      have a1 := HA2.out.cell 1
      have e1 := HA2.out.frozen 1
      have p1 := HC2.out.cell 1
      have q1 := HC2.out.frozen 1
      have a2 := HA2.out.cell 2
      have e2 := HA2.out.frozen 2
      have p2 := HC2.out.cell 2
      have q2 := HC2.out.frozen 2
      have a3 := HA2.out.cell 3
      have e3 := HA2.out.frozen 3
      have p3 := HC2.out.cell 3
      have q3 := HC2.out.frozen 3
      have a4 := HA2.out.cell 4
      have e4 := HA2.out.frozen 4
      have p4 := HC2.out.cell 4
      have q4 := HC2.out.frozen 4
      have az := HA2.out.lt
      have pz := HC2.out.lt
      go_wp2_with fail
      refine (HND.out _).mono ?_
      rintro e w4 ⟨rfl, rfl⟩
      clear a0 a1 a2 a3 a4 e0 e1 e2 e3 e4 p0 p1 p2 p3 p4 q0 q1 q2 q3 q4 az pz
      have a0 := HA2.out.cell 0
      have e0 := HA2.out.frozen 0
      have p0 := HC2.out.cell 0
      have q0 := HC2.out.frozen 0
      have a1 := HA2.out.cell 1
      have e1 := HA2.out.frozen 1
      have p1 := HC2.out.cell 1
      have q1 := HC2.out.frozen 1
      have a2 := HA2.out.cell 2
      have e2 := HA2.out.frozen 2
      have p2 := HC2.out.cell 2
      have q2 := HC2.out.frozen 2
      have a3 := HA2.out.cell 3
      have e3 := HA2.out.frozen 3
      have p3 := HC2.out.cell 3
      have q3 := HC2.out.frozen 3
      have a4 := HA2.out.cell 4
      have e4 := HA2.out.frozen 4
      have p4 := HC2.out.cell 4
      have q4 := HC2.out.frozen 4
      have az := HA2.out.lt
      have pz := HC2.out.lt
      go_upto_region 30 with fail
      clear a0 a1 a2 a3 a4 e0 e1 e2 e3 e4 p0 p1 p2 p3 p4 q0 q1 q2 q3 q4 az pz
      have HBR := Lib.hid (fun W => bare31_any W r1 (by have := HL.out; (try simp only [List.length_nil]); omega))
      have HVK : Hid (∀ W : World, Calls Tryz.prog 16 #[.agg #[Value.int .i64 (v : Int), Value.string ⟨#[]⟩, Value.string ⟨#[]⟩, Value.string ⟨#[]⟩, Value.int .i64 0]] W fun e w' => e = .returned (.bool (validC ⟨(v : Int), [], [], [], 0⟩)) ∧ Ext W w') := Lib.hid (fun W => rvalid31_any W ⟨(v : Int), [], [], [], 0⟩ (by have := HL.out; (try simp only [List.length_nil]); omega) (by have := HL.out; (try simp only [List.length_nil]); omega) (by have := HL.out; (try simp only [List.length_nil]); omega))
      obtain ⟨vb, hvb⟩ : ∃ vb, vb = validC ⟨(v : Int), [], [], [], 0⟩ := ⟨_, rfl⟩
      have HVB := Lib.hid hvb
      rw [← hvb] at HVK HRD
      clear hvb
      obtain ⟨bt, hbt⟩ : ∃ bt, bt = bareT r1 := ⟨_, rfl⟩
      rw [← hbt] at HBR HRD
      clear hbt
      have a0 := HA2.out.cell 0
      have e0 := HA2.out.frozen 0
      have p0 := HC2.out.cell 0
      have q0 := HC2.out.frozen 0
      have a1 := HA2.out.cell 1
      have e1 := HA2.out.frozen 1
      have p1 := HC2.out.cell 1
      have q1 := HC2.out.frozen 1
      have a2 := HA2.out.cell 2
      have e2 := HA2.out.frozen 2
      have p2 := HC2.out.cell 2
      have q2 := HC2.out.frozen 2
      have a3 := HA2.out.cell 3
      have e3 := HA2.out.frozen 3
      have p3 := HC2.out.cell 3
      have q3 := HC2.out.frozen 3
      have a4 := HA2.out.cell 4
      have e4 := HA2.out.frozen 4
      have p4 := HC2.out.cell 4
      have q4 := HC2.out.frozen 4
      have az := HA2.out.lt
      have pz := HC2.out.lt
      go_wp2_with fail
      refine (HBR.out _).mono ?_
      rintro e w8 ⟨rfl, rfl⟩
      cases hbe : bt == []
      · have HN6 : Hid (R = (none, 6)) := Lib.hid (HRN.out (.inr (by rw [HRD.out, if_neg (fun h => by rw [h.1] at hbe; simp at hbe)])))
        go_wp2_with fail
        obtain ⟨y0, y1, y2, y3, y4⟩ := five_set HA2.out (Value.int .i64 0) (Value.string ⟨#[]⟩) (Value.string ⟨#[]⟩) (Value.string ⟨#[]⟩) (Value.int .i64 0)
        refine bodyPost_ret (v := .tuple #[.agg #[Value.int .i64 0, Value.string ⟨#[]⟩, Value.string ⟨#[]⟩, Value.string ⟨#[]⟩, Value.int .i64 0], .int .i64 6]) (by simp [results, Tryz.results13, go_sem, y0, y1, y2, y3, y4]) rfl ?_
        rw [HN6.out]
        exact ⟨rfl, (((((HX2.out.setCell (p := ⟨ga, 0, none⟩) HGA.out _).setCell (p := ⟨ga, 1, none⟩) HGA.out _).setCell (p := ⟨ga, 2, none⟩) HGA.out _).setCell (p := ⟨ga, 3, none⟩) HGA.out _).setCell (p := ⟨ga, 4, none⟩) HGA.out _)⟩
      have HBE : Hid (bt = []) := Lib.hid (by simpa using hbe)
      go_wp2_with fail
      refine (HVK.out _).mono ?_
      rintro e w9 ⟨rfl, hx9⟩
      clear a0 a1 a2 a3 a4 e0 e1 e2 e3 e4 p0 p1 p2 p3 p4 q0 q1 q2 q3 q4 az pz
      have HAz := Lib.hid (HA2.out.ext hx9)
      have HCz := Lib.hid (HC2.out.ext hx9)
      have HXz := Lib.hid (HX2.out.trans hx9)
      clear hx9
      have a0 := HAz.out.cell 0
      have e0 := HAz.out.frozen 0
      have p0 := HCz.out.cell 0
      have q0 := HCz.out.frozen 0
      have a1 := HAz.out.cell 1
      have e1 := HAz.out.frozen 1
      have p1 := HCz.out.cell 1
      have q1 := HCz.out.frozen 1
      have a2 := HAz.out.cell 2
      have e2 := HAz.out.frozen 2
      have p2 := HCz.out.cell 2
      have q2 := HCz.out.frozen 2
      have a3 := HAz.out.cell 3
      have e3 := HAz.out.frozen 3
      have p3 := HCz.out.cell 3
      have q3 := HCz.out.frozen 3
      have a4 := HAz.out.cell 4
      have e4 := HAz.out.frozen 4
      have p4 := HCz.out.cell 4
      have q4 := HCz.out.frozen 4
      have az := HAz.out.lt
      have pz := HCz.out.lt
      cases vb
      · have HN6 : Hid (R = (none, 6)) := Lib.hid (HRN.out (.inr (HRD.out.trans (by simp))))
        go_wp2_with fail
        obtain ⟨y0, y1, y2, y3, y4⟩ := five_set HAz.out (Value.int .i64 0) (Value.string ⟨#[]⟩) (Value.string ⟨#[]⟩) (Value.string ⟨#[]⟩) (Value.int .i64 0)
        refine bodyPost_ret (v := .tuple #[.agg #[Value.int .i64 0, Value.string ⟨#[]⟩, Value.string ⟨#[]⟩, Value.string ⟨#[]⟩, Value.int .i64 0], .int .i64 6]) (by simp [results, Tryz.results13, go_sem, y0, y1, y2, y3, y4]) rfl ?_
        rw [HN6.out]
        exact ⟨rfl, (((((HXz.out.setCell (p := ⟨ga, 0, none⟩) HGA.out _).setCell (p := ⟨ga, 1, none⟩) HGA.out _).setCell (p := ⟨ga, 2, none⟩) HGA.out _).setCell (p := ⟨ga, 3, none⟩) HGA.out _).setCell (p := ⟨ga, 4, none⟩) HGA.out _)⟩
      · have HN6 : Hid (R = (some ⟨(v : Int), [], [], [], 0⟩, 0)) := Lib.hid (HRS.out _ (HRD.out.trans (by simp [HBE.out])))
        go_wp2_with fail
        obtain ⟨y0, y1, y2, y3, y4⟩ := five_set HAz.out (Value.int .i64 (v : Int)) (Value.string ⟨#[]⟩) (Value.string ⟨#[]⟩) (Value.string ⟨#[]⟩) (Value.int .i64 0)
        refine bodyPost_ret (v := .tuple #[.agg #[Value.int .i64 (v : Int), Value.string ⟨#[]⟩, Value.string ⟨#[]⟩, Value.string ⟨#[]⟩, Value.int .i64 0], .int .i64 0]) (by simp [results, Tryz.results13, go_sem, y0, y1, y2, y3, y4]) rfl ?_
        rw [HN6.out]
        exact ⟨rfl, (((((HXz.out.setCell (p := ⟨ga, 0, none⟩) HGA.out _).setCell (p := ⟨ga, 1, none⟩) HGA.out _).setCell (p := ⟨ga, 2, none⟩) HGA.out _).setCell (p := ⟨ga, 3, none⟩) HGA.out _).setCell (p := ⟨ga, 4, none⟩) HGA.out _)⟩
end Big
end Go.Proofs.YtoehdoghghpmjaaGreatDoor
/- The document's Parse of commands. -/
namespace Go.Proofs.YtoehdoghghpmjaaGreatDoor
namespace Big
open Go.RowKit
set_option maxHeartbeats 1000000 in
set_option maxRecDepth 100000 in
theorem rparse31_any (w : World) (s : List UInt8) (hs : s.length ≤ 1000000) :
    Calls Tryz.prog 13 #[str s] w fun e w' => e = .returned (.tuple #[cmdV (cmdOf (lineR s).1), .int .i64 ((lineR s).2 : Int)]) ∧ Ext w w' := by
  rcases Nat.lt_or_ge 500 s.length with h5 | h5
  · have HR : Hid (lineR s = (none, 7)) := Lib.hid (by unfold lineR; rw [if_pos h5])
    rw [HR.out]
    have h5' : (500 : Int) < (s.length : Int) := by omega
    unfold cmdV
    simp only [cmdOf]
    clear h5 hs HR
    go_enter Tryz.func13, Tryz.ntmps13
    go_wp2_with fail
    refine bodyPost_ret (v := .tuple #[.agg #[.int .i64 0, .string ⟨#[]⟩, .string ⟨#[]⟩, .string ⟨#[]⟩, .int .i64 0], .int .i64 7]) (by simp [results, Tryz.results13, go_sem]) rfl ?_
    exact ⟨rfl, (Ext.refl w).alloc _⟩
  by_cases q6 : opOf (fw (sp s)) = 6
  · exact rparse31_6 w s h5 _ rfl q6
  by_cases q1 : opOf (fw (sp s)) = 1
  · exact rparse31_1 w s h5 _ rfl q1
  by_cases q3 : opOf (fw (sp s)) = 3
  · exact rparse31_3 w s h5 _ rfl q3
  by_cases q21 : opOf (fw (sp s)) = 21
  · exact rparse31_21 w s h5 _ rfl q21
  cases hnd : namedC ((opOf (fw (sp s)) : Nat) : Int)
  · exact rparse31_f w s h5 _ rfl q3 q21 q6 q1 hnd
  · exact rparse31_t w s h5 _ rfl q3 q21 q6 q1 hnd
end Big
end Go.Proofs.YtoehdoghghpmjaaGreatDoor
/- Bytes of a text in memory, one of them set. -/
namespace Go.Proofs.YtoehdoghghpmjaaGreatDoor
namespace Big
open Go.RowKit
theorem bytesAt_frozen (w : World) (l : List UInt8) (j : Nat) (h : j < l.length) : (bytesAt w l).frozen? ⟨w.heap.size, j, none⟩ = false := by
  have hs : l.length ≤ (Lib.bytesCells w 5 ⟨l.toArray⟩).size := by
    unfold Lib.bytesCells
    simp
  unfold bytesAt World.frozen?
  rw [Lib.bytesWorld_at_new]
  simp
  omega
theorem RArr.set {w : World} {g o n c i : Nat} {vs : List Value} {u : Value} (h : RArr w (.slice (some ⟨g, o, none⟩) n c) vs) (hi : i < vs.length) :
    RArr (w.setCell ⟨g, o + i, none⟩ u) (.slice (some ⟨g, o, none⟩) n c) (vs.set i u) := by
  obtain ⟨A, c', he, h2, h3, h4⟩ := h
  injection he with he1 he2 he3
  subst he1
  subst he3
  subst he2
  refine ⟨_, c, by rw [List.length_set], by rw [List.length_set]; exact h2, h3, fun hp => ?_⟩
  obtain ⟨b, o', ha, hlt, hc⟩ := h4 (by omega)
  injection ha with ha
  injection ha with ha1 ha2 _
  subst ha1
  subst ha2
  refine ⟨g, o, rfl, by simpa [World.setCell] using hlt, fun j v hj => ?_⟩
  rw [List.getElem?_set] at hj
  by_cases hij : i = j
  · subst hij
    rw [if_pos rfl, if_pos hi] at hj
    injection hj with hj
    subst hj
    exact World.cell?_setCell_same _ _ _ (hc i _ (List.getElem?_eq_getElem hi))
  · rw [if_neg hij] at hj
    rw [World.cell?_setCell_other _ _ _ _ (fun e => hij (by injection e with _ e _; omega))]
    exact hc j v hj
theorem bytesAt_arr (w : World) (l : List UInt8) (c : Nat) (_hl : l.length ≤ 1073741824) (hc : l.length ≤ c) (hm : c ≤ maxLen) : Arr8 (bytesAt w l) (.slice (some ⟨w.heap.size, 0, none⟩) l.length c) l := by
  refine ⟨_, c, by rw [List.length_map], by rw [List.length_map]; exact hc, hm, fun _ => ⟨w.heap.size, 0, rfl, bytesAt_lt w l, fun j u hj => ?_⟩⟩
  have hjl : j < l.length := by
    rcases Nat.lt_or_ge j l.length with h | h
    · exact h
    · rw [List.getElem?_eq_none (by simpa using h)] at hj; cases hj
  rw [map_d8_get hjl] at hj
  injection hj with hj
  subst hj
  rw [Nat.zero_add, bytesAt_cell w l j hjl, byteAt_eq l j hjl]
  rfl
theorem run_bytesAt2 (w : World) (l : List UInt8) (hl : l.length ≤ 1073741824) : ∃ c, (convert 9 28 (str l)).run Tryz.prog w = .ok (.slice (some ⟨w.heap.size, 0, none⟩) l.length c) (bytesAt w l) ∧
    Arr8 (bytesAt w l) (.slice (some ⟨w.heap.size, 0, none⟩) l.length c) l := by
  have := Lib.run_convert_string_bytes (P := Tryz.prog) w 9 28 5 ⟨l.toArray⟩ Tryz.underlying9 Tryz.underlying28 Tryz.underlying5
  rw [size_str] at this
  exact ⟨_, this, bytesAt_arr w l _ hl (grownCap_ge w l.length 0 _) (grownCap_le_maxLen w l.length 0 _ (by unfold maxLen; omega))⟩
theorem Arr8.set {w : World} {g n c i : Nat} {l : List UInt8} {b : UInt8} (h : Arr8 w (.slice (some ⟨g, 0, none⟩) n c) l) (hi : i < l.length) :
    Arr8 (w.setCell ⟨g, i, none⟩ (d8 b)) (.slice (some ⟨g, 0, none⟩) n c) (l.set i b) := by
  have h1 := RArr.set (u := d8 b) h (i := i) (by simpa using hi)
  rw [Nat.zero_add] at h1
  unfold Arr8
  rw [List.map_set]
  exact h1
/-- A row that was there before these bytes was written: they stand. -/
theorem Arr8.kept {w w' wa : World} {g n c B : Nat} {l : List UInt8} {t : TypeId} {u : Value} {us : List Value} (h : Arr8 w (.slice (some ⟨g, 0, none⟩) n c) l) (k : ROwn t B wa u us) (hg : wa.heap.size ≤ g) (hgr : w.grownBy w' (rowOf u)) :
    Arr8 w' (.slice (some ⟨g, 0, none⟩) n c) l := by
  obtain ⟨A, c', he, h2, h3, h4⟩ := h
  injection he with he1 he2 he3
  subst he1
  subst he3
  subst he2
  refine ⟨_, c, rfl, h2, h3, fun hp => ?_⟩
  obtain ⟨b, o, hbo, hlt, hc⟩ := h4 hp
  injection hbo with hbo
  injection hbo with hb ho _
  subst hb
  subst ho
  have hne : some g ≠ rowOf u := by
    obtain ⟨A', c', rfl, k2, k3, k4⟩ := k
    rcases k4 with ⟨_, rfl⟩ | ⟨g', cur', rfl, _, kblk, _, _⟩
    · rcases A' with _ | a <;> simp [rowOf]
    · simp only [rowOf]
      split
      · simp
      · intro he
        injection he with he
        have := kblk.lt
        omega
  exact ⟨g, 0, rfl, Nat.lt_of_lt_of_le hlt hgr.size, fun j v hj => (World.cell?_of_block (w := w) (a := ⟨g, 0 + j, none⟩) (hgr.block g hlt hne)).trans (hc j v hj)⟩
end Big
end Go.Proofs.YtoehdoghghpmjaaGreatDoor
/- CommandParses. -/
namespace Go.Proofs.YtoehdoghghpmjaaGreatDoor
namespace Big
open Go.RowKit
theorem tape_row {w : World} {gt g : Nat} {L : Value} {a : Int} {cur : Array Value} (ht : Blk w gt 44 #[L, .int .i64 a]) (hb : Blk w g 9 cur) : g ≠ gt := by
  rintro rfl
  have h := hb.symm.trans ht
  injection h with h
  injection h with _ h _
  exact absurd h (by decide)
theorem OwnS.kbt {w w' : World} {B gt : Nat} {L v : Value} {a : Int} {ls : List (List UInt8)} (h : OwnS B w v ls) (ht : Blk w gt 44 #[L, .int .i64 a]) (hk : KB w.heap.size gt w w') : OwnS B w' v ls := by
  obtain ⟨A, c, rfl, h2, h3, h4⟩ := h
  refine ⟨A, c, rfl, h2, h3, ?_⟩
  rcases h4 with h4 | ⟨g0, cur, rfl, hg, hb, hs, htk⟩
  · exact .inl h4
  · exact .inr ⟨g0, cur, rfl, hg, hk.blk hb hb.lt (tape_row ht hb), hs, htk⟩
theorem tape_grown {w w' : World} {B gt : Nat} {L v : Value} {a : Int} {ls : List (List UInt8)} (ht : Blk w gt 44 #[L, .int .i64 a]) (h : OwnS B w v ls) (hg : w.grownBy w' (rowOf v)) : Blk w' gt 44 #[L, .int .i64 a] := by
  refine (hg.block gt ht.lt ?_).trans ht
  obtain ⟨A, c, rfl, h2, h3, h4⟩ := h
  rcases h4 with ⟨_, rfl⟩ | ⟨g0, cur, rfl, _, hb, _, _⟩
  · rcases A with _ | a <;> simp [rowOf]
  · simp only [rowOf]
    split
    · simp
    · intro e
      injection e with e
      exact tape_row ht hb e.symm
theorem TapeAt.again {B g : Nat} {w w' : World} {L : Value} {l : List Int} {a a' : Nat} (h : TapeAt B g w L l a) (hb : Blk w' g 44 #[L, .int .i64 (a' : Int)]) (harr : ArrI w' L l) (ha : a' ≤ l.length) : TapeAt B g w' L l a' := ⟨hb, harr, h.off, h.lt, ha, h.few⟩
theorem ArrS.fresh3 (w : World) (a b c : List UInt8) : ArrS (w.alloc (.cells #[str a, str b, str c] 9)) (.slice (some ⟨w.heap.size, 0, none⟩) 3 3) [a, b, c] :=
  (OwnS.block (B := 0) (ls := [a, b, c]) (Blk.new w 9 #[str a, str b, str c]) (Nat.zero_le _) (by simp)).arr
theorem step_appendS {w : World} {v src : Value} {xs ys : List (List UInt8)} {B : Nat} {ops : Array Oper} {o : Oper} {a : Act} {K : Act → World → Prop} {Q : Exit → Act → World → Prop} {E : Prop} (hw : Region.wanted o (yielded ops a.tmps) = true) (s x : Operand)
    (ho : o.op = .call { callee := .builtin .append, args := #[s, x], argTypes := #[25, 25] })
    (hs : a.eval s = v) (hown : OwnS B w v xs) (hx : a.eval x = src) (hsrc : ArrS w src ys) (hn : xs.length + ys.length ≤ 2147483648) (hbase : B ≤ w.heap.size)
    (h : ∀ v' w', OwnS B w' v' (xs ++ ys) → w.grownBy w' (rowOf v) → Below B w w' → K (a.put o.dst v') w') : if Region.wanted o (yielded ops a.tmps) = true then Oper.wp Tryz.prog o a w K Q else E := by
  rw [if_pos hw]
  obtain ⟨i0, hi, hz0, hz1, hz2⟩ := info_parts info_str
  refine wp_append_any s x 25 ho 9 i0 _ 16 Tryz.underlying25 hi hz0 hz1 hz2 rfl hs hown hx hsrc ones_str (by simp only [List.length_map]; unfold maxLen; omega) (by simp only [List.length_map]; omega) hbase (fun v' w' h1 h2 h3 => h v' w' ?_ h2 h3)
  unfold OwnS
  rw [List.map_append]
  exact h1
theorem blk_ne {w : World} {g gb : Nat} {t t' : TypeId} {cs cs' : Array Value} {f : Nat × Nat} (h : Blk w g t cs) (h' : w.heap[gb]? = some (.cells cs' t' f)) (ht : t ≠ t') : g ≠ gb := by
  rintro rfl
  have e := h.symm.trans h'
  injection e with e
  injection e with _ e _
  exact ht e
theorem OwnS.set8 {w : World} {v : Value} {ls : List (List UInt8)} {B gb : Nat} {cs' : Array Value} {f : Nat × Nat} (h : OwnS B w v ls) (h' : w.heap[gb]? = some (.cells cs' 5 f)) (k : Nat) (u : Value) : OwnS B (w.setCell ⟨gb, k, none⟩ u) v ls := by
  obtain ⟨A, c, rfl, h2, h3, h4⟩ := h
  refine ⟨A, c, rfl, h2, h3, ?_⟩
  rcases h4 with h4 | ⟨g0, cur, rfl, hg, hb, hs, htk⟩
  · exact .inl h4
  · exact .inr ⟨g0, cur, rfl, hg, hb.far (blk_ne hb h' (by decide)) u, hs, htk⟩
theorem row_ne {t : TypeId} {B gb : Nat} {wa : World} {u : Value} {us : List Value} (k : ROwn t B wa u us) (hg : wa.heap.size ≤ gb) : some gb ≠ rowOf u := by
  obtain ⟨A', c', rfl, k2, k3, k4⟩ := k
  rcases k4 with ⟨_, rfl⟩ | ⟨g', cur', rfl, _, kblk, _, _⟩
  · rcases A' with _ | a <;> simp [rowOf]
  · simp only [rowOf]
    split
    · simp
    · intro he
      injection he with he
      have := kblk.lt
      omega
theorem Arr8.front {w : World} {g n c : Nat} {l : List UInt8} (h : Arr8 w (.slice (some ⟨g, 0, none⟩) n c) l) (m : Nat) (hm : m ≤ l.length) : Arr8 w (.slice (some ⟨g, 0, none⟩) m c) (l.take m) := by
  obtain ⟨A, c', he, h2, h3, h4⟩ := h.open
  injection he with he1 he2 he3
  subst he1
  subst he3
  have hlen : (l.take m).length = m := by rw [List.length_take]; omega
  refine ⟨_, c, by rw [List.length_map, hlen], by rw [List.length_map, hlen]; omega, h3, fun hp => ?_⟩
  rw [List.length_map, hlen] at hp
  obtain ⟨b, o, ha, hlt, hc⟩ := h4 (by omega)
  injection ha with ha
  injection ha with ha1 ha2 _
  subst ha1
  subst ha2
  refine ⟨g, 0, rfl, hlt, fun j u hj => ?_⟩
  have hjm : j < m := by
    rcases Nat.lt_or_ge j m with h | h
    · exact h
    · rw [List.getElem?_eq_none (by simp; omega)] at hj; cases hj
  rw [map_d8_get (by rw [hlen]; exact hjm)] at hj
  injection hj with hj
  subst hj
  have h5 := hc j (by omega)
  rw [h5, List.getElem_take]
theorem bytesAt_type (w : World) (l : List UInt8) : ∃ cs f, (bytesAt w l).heap[w.heap.size]? = some (.cells cs 5 f) := by
  unfold bytesAt
  exact ⟨_, _, Lib.bytesWorld_at_new w _ _⟩
theorem format_le (c : Cmd) : (formatC c).length ≤ 440 := by
  cases h : validC c
  · unfold formatC; rw [h]; simp
  · exact format_short h
set_option maxHeartbeats 8000000 in
set_option maxRecDepth 100000 in
theorem commandParses_any (w : World) (s : List UInt8) (v : Value) (l : List Int) (at_ : Int) (d : UInt8) (h : ArrI w v l) (ha : -9223372036854775808 ≤ at_ ∧ at_ ≤ 9223372036854775807) (hm : MaxV w) (hE : CmdEnv w) :
    Calls Tryz.prog 3 #[str s, v, .int .i64 at_, .int .u8 (d.toNat : Int)] w fun e w' => e = .returned (.bool true) ∧ Ext w w' := by
  have HAW := Lib.hid (awake31_any w hm hE)
  have HE := Lib.hid hE
  have HM := Lib.hid hm
  have HL := Lib.hid h
  have HLT := Lib.hid (fun W hx => light_any W v l (HL.out.ext hx))
  obtain ⟨A0, c0, rfl, _⟩ := h.open
  clear h hm hE
  rcases Nat.lt_or_ge 600 s.length with hs | hs
  · have h' : (600 : Int) < (s.length : Int) := by omega
    clear hs HL HLT
    go_enter Tryz.func3, Tryz.ntmps3
    go_wp2_with fail
    refine HAW.out.mono ?_
    rintro e w1 ⟨rfl, hx1⟩
    have HX1 := Lib.hid hx1
    clear hx1
    go_wp2_with fail
    go_ret
    exact ⟨rfl, HX1.out⟩
  have h' : ¬ (600 : Int) < (s.length : Int) := by omega
  by_cases hlt : 120 < l.length
  · have hd : decide (l.length ≤ 120) = false := decide_eq_false (by omega)
    rw [hd] at HLT
    clear HL hlt hd
    go_enter Tryz.func3, Tryz.ntmps3
    go_wp2_with fail
    refine HAW.out.mono ?_
    rintro e w1 ⟨rfl, hx1⟩
    have HX1 := Lib.hid hx1
    clear hx1
    go_wp2_with fail
    refine (HLT.out _ HX1.out).mono ?_
    rintro e w2 ⟨rfl, rfl⟩
    go_wp2_with fail
    go_ret
    exact ⟨rfl, HX1.out⟩
  have hd : decide (l.length ≤ 120) = true := decide_eq_true (by omega)
  rw [hd] at HLT
  have HLL : Hid (l.length ≤ 1000000) := Lib.hid (by omega)
  have HSL := Lib.hid hs
  clear hlt hd hs
  go_enter Tryz.func3, Tryz.ntmps3
  go_wp2_with fail
  refine HAW.out.mono ?_
  rintro e w1 ⟨rfl, hx1⟩
  have HX1 := Lib.hid hx1
  clear hx1
  go_wp2_with fail
  refine (HLT.out _ HX1.out).mono ?_
  rintro e w2 ⟨rfl, rfl⟩
  have HOS := Lib.hid (OwnS.block (B := w.heap.size) (ls := [s]) (Blk.new w1 9 #[str s]) HX1.out.size (by simp))
  have HXS := Lib.hid (HX1.out.alloc (.cells #[str s] 9))
  clear HAW HLT
  obtain ⟨sb, hsb⟩ : ∃ t, str s = .string t := ⟨_, rfl⟩
  rw [hsb] at HOS HXS
  go_upto_region 6 with fail
  generalize w1.alloc (.cells #[str s] 9) = w2 at *
  generalize w1.heap.size = gl at *
  go_wp2_with fail
  refine (newX_any _ _ l (HL.out.ext HXS.out) HLL.out).mono ?_
  rintro e w3 ⟨gt, rfl, ht3, hx3, hg3⟩
  have HX3 := Lib.hid (HXS.out.trans hx3)
  have HO3 := Lib.hid (HOS.out.ext hx3)
  have HT3 := Lib.hid ht3
  have HG3 : Hid (w.heap.size ≤ gt) := Lib.hid (Nat.le_trans HXS.out.size hg3)
  clear ht3 hx3 hg3 HOS HXS HX1
  generalize w2.heap.size = Bt at *
  go_wp2_with fail
  go_loopw [9, 32] (fun s9 s32 wr => ∃ (i a : Nat) (ls : List (List UInt8)), i ≤ 3 ∧ s32 = .int .i64 (i : Int) ∧ OwnS w.heap.size wr s9 ls ∧ ls.length ≤ 1 + 4 * i ∧ (∀ x ∈ ls, x.length ≤ 2000) ∧ Blk wr gt 44 #[.slice A0 l.length c0, .int .i64 (a : Int)] ∧ a ≤ l.length ∧ w3.heap.size ≤ wr.heap.size ∧ Ext w wr) (fun _ s32 _ => 3 - (intOf s32).toNat)
  case atStart => exact ⟨0, 0, [s], by omega, rfl, HO3.out, by simp, by intro x hx; simp at hx; subst hx; have := HSL.out; omega, HT3.out.blk, HT3.out.pos, Nat.le_refl _, HX3.out⟩
  case round =>
    obtain ⟨i, a, ls, hi, rfl, ho, hll, hxl, hbk, ha', hsz, hext⟩ := hrel
    have HX := Lib.hid hext
    have HO := Lib.hid ho
    have HXL := Lib.hid hxl
    have HBK := Lib.hid hbk
    have HA' := Lib.hid ha'
    obtain ⟨n9, A9, c9, rfl⟩ := ho.arr.shape
    have hn9 := ho.arr.len
    subst hn9
    have HSZ := Lib.hid hsz
    clear ho hxl hbk ha' hsz hext
    by_cases hlt : i < 3
    · have hki : (i : Int) < 3 := by omega
      have HT := Lib.hid ((HT3.out.again HBK.out (HL.out.ext HX.out) HA'.out).mono HSZ.out)
      have HCM := Lib.hid (command_any wr gt _ l a 600 HT.out (by decide) (by decide))
      go_wp2_with fail
      refine HCM.out.mono ?_
      rintro e w4 ⟨cc, a4, rfl, l1, l2, l3, ht4, hk4⟩
      have HX4 := Lib.hid (hk4.to_ext HX.out HX.out.size HG3.out)
      have HO4 := Lib.hid (HO.out.kbt HBK.out hk4)
      have HK4 := Lib.hid ht4.blk
      have HA4 := Lib.hid ht4.pos
      have HS4 := Lib.hid (Nat.le_trans HSZ.out hk4.size)
      have HF := Lib.hid (fun W => rformat31_any W cc (by omega) (by omega) (by omega))
      have hfl := format_le cc
      clear l1 l2 l3 ht4 hk4 HT HCM HX HO HBK HA' HSZ
      generalize formatC cc = fs at *
      go_wp2_with fail
      refine (HF.out _).mono ?_
      rintro e w5 ⟨rfl, hx5⟩
      have HX5 := Lib.hid (HX4.out.trans hx5)
      have HO5 := Lib.hid (HO4.out.ext hx5)
      have HK5 := Lib.hid (HK4.out.ext hx5)
      have HS5 := Lib.hid (Nat.le_trans HS4.out hx5.size)
      clear hx5 HX4 HO4 HK4 HS4 HF
      obtain ⟨cb, hcv, harr⟩ := run_bytesAt2 w5 fs (by omega)
      have hcb : fs.length ≤ cb ∧ cb ≤ maxLen := by
        obtain ⟨A, c, he, h1, h2, _⟩ := harr.open
        injection he with _ _ he3
        subst he3
        exact ⟨h1, h2⟩
      have hxb := bytesAt_ext w5 fs
      have HLB := Lib.hid (bytesAt_lt w5 fs)
      have HCI := Lib.hid (fun j hj => bytesAt_cell w5 fs j hj)
      have HFI := Lib.hid (fun j hj => bytesAt_frozen w5 fs j hj)
      have HTY := Lib.hid (bytesAt_type w5 fs)
      generalize bytesAt w5 fs = wb at *
      have hst := run_string8 harr
      have HAR := Lib.hid harr
      have HXB := Lib.hid (HX5.out.trans hxb)
      have HOB := Lib.hid (HO5.out.ext hxb)
      have HKB := Lib.hid (HK5.out.ext hxb)
      have HSB5 := Lib.hid (Nat.le_trans HS5.out hxb.size)
      have HGE : Hid (w5.heap.size ≤ w5.heap.size) := Lib.hid (Nat.le_refl _)
      have HLIM := Lib.hid (show ls.length + [fs].length ≤ 2147483648 by rw [List.length_singleton]; omega)
      have HFL := Lib.hid hfl
      have HCB := Lib.hid hcb
      have HSZ0 := Lib.hid HXB.out.size
      clear harr hxb hfl hcb
      have hfc : fs.length = 0 ∨ 0 < fs.length := by omega
      rcases hfc with hf0 | hf0
      · have hb0 : ¬ (0 : Int) < (fs.length : Int) := by omega
        clear hf0
        go_wp2_with (at_builtin; go_must (refine wpList_appendS (B := w.heap.size) rfl _ _ rfl rfl (HOB.out.ext ((Ext.refl _).alloc _)) rfl (ArrS.fresh1 wb fs) HLIM.out (by simp; have := HSZ0.out; omega) ?_; intro v' w' hown' hgr hb1))
        have hne := row_ne HO5.out HGE.out
        have HEQ6 := Lib.hid ((hgr.block _ (by have := HLB.out; simp; omega) hne).trans (Below.heap_alloc wb (.cells #[str fs] 9) _ HLB.out))
        have HAR6 := Lib.hid (Arr8.kept (HAR.out.ext ((Ext.refl _).alloc _)) HO5.out HGE.out hgr)
        have HO6 := Lib.hid hown'
        have HX6 := Lib.hid ((HXB.out.alloc (.cells #[str fs] 9)).more hb1)
        have HK6 := Lib.hid (tape_grown (HKB.out.alloc (.cells #[str fs] 9)) (HOB.out.ext ((Ext.refl _).alloc _)) hgr)
        have HS6 := Lib.hid (Nat.le_trans HSB5.out (Nat.le_trans (Ext.size ((Ext.refl wb).alloc (.cells #[str fs] 9))) hgr.size))
        have HXL6 : Hid (∀ x ∈ ls ++ [fs], x.length ≤ 2000) := Lib.hid (by
          intro x hx
          rcases List.mem_append.1 hx with hx | hx
          · exact HXL.out x hx
          · rw [List.mem_singleton] at hx; subst hx; have := HFL.out; omega)
        obtain ⟨n6, A6, c6, rfl⟩ := hown'.arr.shape
        have HGW : Hid (w.heap.size ≤ w5.heap.size) := Lib.hid HX5.out.size
        generalize w5.heap.size = gb at *
        have HLB6 : Hid (gb < w'.heap.size) := Lib.hid (by have h1 := HLB.out; have h2 := hgr.size; simp at h2; omega)
        clear hown' hgr hb1 hne hst hcv HXB HOB HKB HSB5 HAR HX5 HO5 HK5 HS5 HGE HLIM HSZ0 HLB
        generalize w' = w6 at *
        go_roundw
        case rel => exact ⟨i + 1, a4, ls ++ [fs], by omega, by go_num, HO6.out, by simp; omega, HXL6.out, HK6.out, HA4.out, HS6.out, HX6.out⟩
        case measure => simp [intOf]; omega
      · have hb0 : (0 : Int) < (fs.length : Int) := by omega
        go_wp2_with (at_builtin; go_must (refine wpList_appendS (B := w.heap.size) rfl _ _ rfl rfl (HOB.out.ext ((Ext.refl _).alloc _)) rfl (ArrS.fresh1 wb fs) HLIM.out (by simp; have := HSZ0.out; omega) ?_; intro v' w' hown' hgr hb1))
        have hne := row_ne HO5.out HGE.out
        have HEQ6 := Lib.hid ((hgr.block _ (by have := HLB.out; simp; omega) hne).trans (Below.heap_alloc wb (.cells #[str fs] 9) _ HLB.out))
        have HAR6 := Lib.hid (Arr8.kept (HAR.out.ext ((Ext.refl _).alloc _)) HO5.out HGE.out hgr)
        have HO6 := Lib.hid hown'
        have HX6 := Lib.hid ((HXB.out.alloc (.cells #[str fs] 9)).more hb1)
        have HK6 := Lib.hid (tape_grown (HKB.out.alloc (.cells #[str fs] 9)) (HOB.out.ext ((Ext.refl _).alloc _)) hgr)
        have HS6 := Lib.hid (Nat.le_trans HSB5.out (Nat.le_trans (Ext.size ((Ext.refl wb).alloc (.cells #[str fs] 9))) hgr.size))
        have HXL6 : Hid (∀ x ∈ ls ++ [fs], x.length ≤ 2000) := Lib.hid (by
          intro x hx
          rcases List.mem_append.1 hx with hx | hx
          · exact HXL.out x hx
          · rw [List.mem_singleton] at hx; subst hx; have := HFL.out; omega)
        obtain ⟨n6, A6, c6, rfl⟩ := hown'.arr.shape
        have HGW : Hid (w.heap.size ≤ w5.heap.size) := Lib.hid HX5.out.size
        generalize w5.heap.size = gb at *
        have HLB6 : Hid (gb < w'.heap.size) := Lib.hid (by have h1 := HLB.out; have h2 := hgr.size; simp at h2; omega)
        clear hown' hgr hb1 hne hst hcv HXB HOB HKB HSB5 HAR HX5 HO5 HK5 HS5 HGE HLIM HSZ0 HLB
        generalize w' = w6 at *
        have hmz := Int.emod_nonneg at_ (show (fs.length : Int) ≠ 0 by omega)
        have hmt := Int.emod_lt_of_pos at_ (show (0 : Int) < (fs.length : Int) by omega)
        have HMD := Lib.hid (fun W => mod_any W at_ fs.length ha.1 ha.2 (by omega) (by have := HFL.out; omega))
        generalize at_ % (fs.length : Int) = ai at *
        obtain ⟨k, rfl⟩ := Int.eq_ofNat_of_zero_le hmz
        have hk2 : k < fs.length := by omega
        have hci := (World.cell?_of_block (w := wb) (a := ⟨gb, k, none⟩) HEQ6.out).trans (HCI.out k hk2)
        have hfi := (World.frozen?_of_block (w := wb) (a := ⟨gb, k, none⟩) HEQ6.out).trans (HFI.out k hk2)
        obtain ⟨tcs, tf, hty⟩ := HTY.out
        have hty6 := HEQ6.out.trans hty
        have HO7 := Lib.hid (HO6.out.set8 hty6 k (.int .u8 (d.toNat : Int)))
        have HK7 := Lib.hid (HK6.out.far (p := ⟨gb, k, none⟩) (blk_ne HK6.out hty6 (by decide)) (.int .u8 (d.toNat : Int)))
        have HX7 := Lib.hid (HX6.out.setCell (p := ⟨gb, k, none⟩) HGW.out (.int .u8 (d.toNat : Int)))
        have hset := Arr8.set (b := d) HAR6.out hk2
        simp only [d8] at hset
        have HAR7 := Lib.hid hset
        have HS7 : Hid (w3.heap.size ≤ (w6.setCell ⟨gb, k, none⟩ (.int .u8 (d.toNat : Int))).heap.size) := Lib.hid (by have := HS6.out; simp [World.setCell]; omega)
        obtain ⟨f2, hf2⟩ : ∃ f2, f2 = fs.set k d := ⟨_, rfl⟩
        have hf2l : f2.length = fs.length := by rw [hf2, List.length_set]
        rw [← hf2] at HAR7
        clear hset hmz hmt hty hty6 hf2
        refine (HMD.out _).mono ?_
        rintro e w7 ⟨rfl, rfl⟩
        go_upto_region 13 with fail
        generalize w6.setCell ⟨gb, k, none⟩ (.int .u8 (d.toNat : Int)) = w7 at *
        have harr := HAR7.out.ext (Ext.refl w7).drew
        have hcv1 := run_string8 harr
        have hcv2 := run_string8 (Arr8.front harr k (by omega))
        have hadd1 : ∀ W : World, (binOp .add 9 (str f2) (.string ⟨#[32]⟩)).run Tryz.prog W = .ok (str (f2 ++ [32])) W := fun W => run_add_str f2 [32] (by have := HFL.out; simp; omega) W
        have hadd2 : ∀ W : World, (binOp .add 9 (str (f2 ++ [32])) (str s)).run Tryz.prog W = .ok (str (f2 ++ [32] ++ s)) W := fun W => run_add_str (f2 ++ [32]) s (by have := HFL.out; have := HSL.out; simp; omega) W
        rw [hsb] at hadd2
        have hlf : (f2.take k).length ≤ 440 := by have := HFL.out; rw [List.length_take]; omega
        have HXL7 : Hid (∀ x ∈ (ls ++ [fs]) ++ [f2, f2.take k, f2 ++ [32] ++ s], x.length ≤ 2000) := Lib.hid (by
          intro x hx
          rcases List.mem_append.1 hx with hx | hx
          · exact HXL6.out x hx
          · have := HFL.out
            have := HSL.out
            simp only [List.mem_cons, List.not_mem_nil, or_false] at hx
            rcases hx with rfl | rfl | rfl
            · omega
            · omega
            · simp; omega)
        have hq0 : (0 : Int) ≤ (k : Int) := by omega
        have hq1 : (k : Int) ≤ (fs.length : Int) := by omega
        have hcb := HCB.out
        have hq2 : (k : Int) ≤ (cb : Int) := by omega
        have HLIM := Lib.hid (show (ls ++ [fs]).length + [f2, f2.take k, f2 ++ [32] ++ s].length ≤ 2147483648 by simp; omega)
        have HLL7 : Hid (((ls ++ [fs]) ++ [f2, f2.take k, f2 ++ [32] ++ s]).length ≤ 1 + 4 * (i + 1)) := Lib.hid (by simp; omega)
        have HB7 := Lib.hid HX7.out.size
        generalize f2.take k = f3 at *
        generalize f2 ++ [32] ++ s = f5 at *
        generalize f2 ++ [32] = f4 at *
        clear harr hci hfi hlf hcb hf2l hk2
        go_region_law (first
          | (refine step_appendS rfl (.tmp 53) (.tmp 68) rfl rfl (HO7.out.ext ((Ext.refl w7).drew.alloc _)) rfl (ArrS.fresh3 w7.drew f2 f3 f5) HLIM.out (by have := HB7.out; simp; omega) ?_; intro v8 w8 ho8 hg8 hb8; have HO8 := Lib.hid ho8; have HX8 := Lib.hid ((HX7.out.trans ((Ext.refl w7).drew.alloc _)).more hb8); have HK8 := Lib.hid (tape_grown (HK7.out.ext ((Ext.refl w7).drew.alloc _)) (HO7.out.ext ((Ext.refl w7).drew.alloc _)) hg8); have HS8 := Lib.hid (Nat.le_trans HS7.out (Nat.le_trans (Ext.size ((Ext.refl w7).drew.alloc (.cells #[str f2, str f3, str f5] 9))) hg8.size)); clear ho8 hg8 hb8)
          | (go_simp; go_at_call 11; refine (HMD.out _).mono ?_; rintro e w9 ⟨rfl, rfl⟩))
        all_goals go_wp2_with fail
        all_goals
          go_roundw
          case rel => exact ⟨i + 1, a4, _, by omega, by go_num, HO8.out, HLL7.out, HXL7.out, HK8.out, HA4.out, HS8.out, HX8.out⟩
          case measure => simp [intOf]; omega
    · obtain rfl : i = 3 := by omega
      have hki : ¬ (3 : Int) < 3 := by omega
      generalize wr = wa at *
      go_wp2_with fail
      go_loopw [73] (fun s73 wq => ∃ k : Nat, k ≤ ls.length ∧ s73 = .int .i64 (k : Int) ∧ Ext wa wq) (fun s73 _ => ls.length - (intOf s73).toNat)
      case atStart => exact ⟨0, Nat.zero_le _, rfl, Ext.refl _⟩
      case round =>
        obtain ⟨k, hk, rfl, hext⟩ := hrel
        have HEX := Lib.hid hext
        have HX7 := Lib.hid (HX.out.trans hext)
        by_cases hlt : k < ls.length
        · obtain ⟨A', c', hv, _, _, hcell⟩ := (HO.out.arr.ext hext).open
          injection hv with hv hv1 hv2
          clear hv1 hv2
          obtain ⟨b, o, hbo, _, hcells⟩ := hcell (by omega)
          clear hcell
          rw [hbo] at hv
          subst hv
          have hx := hcells k hlt
          clear hcells hext
          have hyl := HXL.out _ (List.getElem_mem hlt)
          generalize ls[k] = y at *
          have hki : (k : Int) < (ls.length : Int) := by omega
          have K1 := Lib.hid (fun W hx => cparse_any W y (by omega) (HM.out.ext (w' := W) hx) (HE.out.ext hx))
          have K2 := Lib.hid (fun W => rparse31_any W y (by omega))
          rw [← line_same] at K2
          generalize (lineC y).2 = cd at *
          generalize cmdOf (lineC y).1 = cm at *
          obtain ⟨co, cn, cot, ct, cnn⟩ := cm
          unfold cmdV at K1 K2
          simp only at K1 K2
          obtain ⟨nb, hnb⟩ : ∃ nb, str cn = .string nb := ⟨_, rfl⟩
          obtain ⟨ob, hob⟩ : ∃ nb, str cot = .string nb := ⟨_, rfl⟩
          obtain ⟨tb, htb⟩ : ∃ nb, str ct = .string nb := ⟨_, rfl⟩
          rw [hnb, hob, htb] at K1 K2
          clear hnb hob htb hyl
          have q2 : ((cd : Int) != (cd : Int)) = false := by simp
          go_wp2_with fail
          refine (K1.out _ HX7.out).mono ?_
          rintro e w5 ⟨rfl, hx5⟩
          have HE5 := Lib.hid (HEX.out.trans hx5)
          clear hx5
          have HB5 := Lib.hid (Blk.new w5 31 #[.int .i64 co, .string nb, .string ob, .string tb, .int .i64 cnn])
          have HE6 := Lib.hid (HE5.out.alloc (.cells #[.int .i64 co, .string nb, .string ob, .string tb, .int .i64 cnn] 31))
          go_wp2_with fail
          generalize w5.alloc (.cells #[.int .i64 co, .string nb, .string ob, .string tb, .int .i64 cnn] 31) = w6 at *
          generalize w5.heap.size = g5 at *
          refine (K2.out _).mono ?_
          rintro e w7 ⟨rfl, hx7⟩
          have HE7 := Lib.hid (HE6.out.trans hx7)
          have hb7 := HB5.out.ext hx7
          have b0 := hb7.cell 0
          have b1 := hb7.cell 1
          have b2 := hb7.cell 2
          have b3 := hb7.cell 3
          have b4 := hb7.cell 4
          have bz := hb7.lt
          have HE8 := Lib.hid (HE7.out.alloc (.cells #[.int .i64 co, .string nb, .string ob, .string tb, .int .i64 cnn] 31))
          clear hx7 hb7
          go_wp2_with fail
          go_roundw
          case rel => exact ⟨k + 1, by omega, by go_num, HE8.out⟩
          case measure => simp [intOf]; omega
        · obtain rfl : k = ls.length := by omega
          have hki2 : ¬ (ls.length : Int) < (ls.length : Int) := by omega
          clear hext
          go_wp2_with fail
          go_ret
          exact ⟨rfl, HX7.out⟩
end Big
end Go.Proofs.YtoehdoghghpmjaaGreatDoor
