import Derived.Test.YtoehdoghghpmjaaDoorM20
import Derived.Test.YtoehdoghghpmjaaDoorM21
import Derived.Test.YtoehdoghghpmjaaDoorM4
/- The document's Parse of commands: a class of operations. -/
namespace Go.Proofs.YtoehdoghghpmjaaDoor
namespace Big
open Go.RowKit
set_option maxHeartbeats 2000000 in
set_option maxRecDepth 100000 in
theorem rparse31_t (w : World) (s : List UInt8) (hs : s.length ≤ 500) (k : Nat) (hko : opOf (fw (sp s)) = k) (q3 : k ≠ 3) (q21 : k ≠ 21) (q6 : k ≠ 6) (q1 : k ≠ 1) (hnd : namedC (k : Int) = true) :
    Calls Tryd.prog 8 #[str s] w fun e w' => e = .returned (.tuple #[cmdV (cmdOf (lineR s).1), .int .i64 ((lineR s).2 : Int)]) ∧ Ext w w' := by
  unfold cmdV
  have h5' : ¬ (500 : Int) < (s.length : Int) := by omega
  have HRN := Lib.hid (fun h => lineR_none (s := s) (by omega) h)
  have HRS0 := Lib.hid (fun c h0 h => lineR_some (s := s) (c := c) (by omega) h0 h)
  have hk22 : k < 22 := by
    by_cases h : opOf (fw (sp s)) = 0
    · omega
    · have := (opOf_spec h).1; omega
  have HAT : Hid (∀ i, 1 ≤ i → i < 22 → (cmdNames.getD i [] = fw (sp s) ↔ i = k)) := Lib.hid (fun i h1 h2 => ⟨fun h => by
      have := opOf_at h2 (names_ne i h1 h2)
      rw [h] at this
      omega, fun h => by
      have h3 : opOf (fw (sp s)) ≠ 0 := by omega
      have := (opOf_spec h3).2
      rw [hko, ← h] at this
      exact this⟩)
  have e0 := sp_le s
  have e1 := fw_le (sp s)
  have e2 := rw_le (sp s)
  have HN1 := Lib.hid (fun W => next31_any W s (by omega))
  rw [hko] at HRN HRS0
  obtain ⟨first, hfi⟩ : ∃ x, x = fw (sp s) := ⟨_, rfl⟩
  obtain ⟨r1, hr1⟩ : ∃ x, x = rw_ (sp s) := ⟨_, rfl⟩
  rw [← hfi, ← hr1] at HN1
  rw [← hfi] at HAT
  rw [← hr1] at HRN HRS0 e2
  clear hko hfi hr1 e1
  generalize lineR s = R at *
  have e3 := sp_le r1
  have e4 := fw_le (sp r1)
  have e5 := rw_le (sp r1)
  have e6 := sp_le (rw_ (sp r1))
  have e7 := fw_le (sp (rw_ (sp r1)))
  have e8 := rw_le (sp (rw_ (sp r1)))
  have e9 := bareT_le (rw_ (sp (rw_ (sp r1))))
  have HL : Hid (r1.length ≤ 500 ∧ (fw (sp r1)).length ≤ 500 ∧ (rw_ (sp r1)).length ≤ 500 ∧ (fw (sp (rw_ (sp r1)))).length ≤ 500 ∧ (rw_ (sp (rw_ (sp r1)))).length ≤ 500 ∧ (bareT (rw_ (sp (rw_ (sp r1))))).length ≤ 500) := Lib.hid (by omega)
  have HN2 := Lib.hid (fun W => next31_any W r1 (by omega))
  have HN3 := Lib.hid (fun W => next31_any W (rw_ (sp r1)) (by omega))
  have HNM := Lib.hid (fun W op => rname31_any W op)
  have HND := Lib.hid (fun W => rnamed_any W (k : Int))
  have hshape : shapeC (k : Int) = 1 := by rw [shape_else k hk22 q3 q21 q6 q1, hnd]; rfl
  rw [hnd] at HND
  have HRS : Hid (∀ c, readR (k : Int) r1 = some c → R = (some c, 0)) := Lib.hid (fun c h => HRS0.out c (fun h0 => by subst h0; have h1 : readR ((0 : Nat) : Int) r1 = none := readR_zero r1; rw [h1] at h; cases h) h)
  have HRD : Hid (readR (k : Int) r1 = if bareT (rw_ (sp r1)) = [] ∧ validC ⟨(k : Int), fw (sp r1), [], [], 0⟩ = true then some ⟨(k : Int), fw (sp r1), [], [], 0⟩ else none) := Lib.hid (by unfold readR; simp [show shapeC (k : Int) = 1 from by first | rfl | exact hshape])
  have g3 : ¬ ((k : Int) = 3) := by omega
  have g21 : ¬ ((k : Int) = 21) := by omega
  have g6 : ¬ ((k : Int) = 6) := by omega
  have g1 : ¬ ((k : Int) = 1) := by omega
  clear q3 q21 q6 q1 hnd hshape
  clear hs e0 e2 e3 e4 e5 e6 e7 e8 e9
  go_enter Tryd.func8, Tryd.ntmps8
  go_wp2_with fail
  have ha := (Blk.new w 27 #[Value.int .i64 0, Value.string ⟨#[]⟩, Value.string ⟨#[]⟩, Value.string ⟨#[]⟩, Value.int .i64 0]).ext ((Ext.refl _).alloc (.cells #[Value.int .i64 0, Value.string ⟨#[]⟩, Value.string ⟨#[]⟩, Value.string ⟨#[]⟩, Value.int .i64 0] 27))
  have hc := Blk.new (w.alloc (.cells #[Value.int .i64 0, Value.string ⟨#[]⟩, Value.string ⟨#[]⟩, Value.string ⟨#[]⟩, Value.int .i64 0] 27)) 27 #[Value.int .i64 0, Value.string ⟨#[]⟩, Value.string ⟨#[]⟩, Value.string ⟨#[]⟩, Value.int .i64 0]
  have hgs : (w.alloc (.cells #[Value.int .i64 0, Value.string ⟨#[]⟩, Value.string ⟨#[]⟩, Value.string ⟨#[]⟩, Value.int .i64 0] 27)).heap.size = w.heap.size + 1 := by simp
  rw [hgs] at hc
  have HX0 : Hid (Ext w ((w.alloc (.cells #[Value.int .i64 0, Value.string ⟨#[]⟩, Value.string ⟨#[]⟩, Value.string ⟨#[]⟩, Value.int .i64 0] 27)).alloc (.cells #[Value.int .i64 0, Value.string ⟨#[]⟩, Value.string ⟨#[]⟩, Value.string ⟨#[]⟩, Value.int .i64 0] 27))) := Lib.hid (((Ext.refl w).alloc _).alloc _)
  obtain ⟨gc, hgc⟩ : ∃ gc, gc = w.heap.size + 1 := ⟨_, rfl⟩
  rw [← hgc] at hc ⊢
  obtain ⟨ga, hga⟩ : ∃ ga, ga = w.heap.size := ⟨_, rfl⟩
  have nac : ga ≠ gc := by omega
  have HGA : Hid (w.heap.size ≤ ga) := Lib.hid (by omega)
  have HGC : Hid (w.heap.size ≤ gc) := Lib.hid (by omega)
  rw [← hga] at ha ⊢
  have HA0 := Lib.hid ha
  have HC0 := Lib.hid hc
  clear ha hc hga hgc hgs
  generalize (w.alloc (.cells #[Value.int .i64 0, Value.string ⟨#[]⟩, Value.string ⟨#[]⟩, Value.string ⟨#[]⟩, Value.int .i64 0] 27)).alloc (.cells #[Value.int .i64 0, Value.string ⟨#[]⟩, Value.string ⟨#[]⟩, Value.string ⟨#[]⟩, Value.int .i64 0] 27) = w0 at *
  refine (HN1.out _).mono ?_
  rintro e w1 ⟨rfl, hx1⟩
  have HA1 := Lib.hid (HA0.out.ext hx1)
  have HC1 := Lib.hid (HC0.out.ext hx1)
  have HX1 := Lib.hid (HX0.out.trans hx1)
  clear hx1
  go_wp2_with fail
  go_loopw [7] (fun s7 wr => ∃ i : Nat, 1 ≤ i ∧ i ≤ 22 ∧ s7 = .int .i64 (i : Int) ∧ Ext w wr ∧ Blk wr ga 27 #[Value.int .i64 0, Value.string ⟨#[]⟩, Value.string ⟨#[]⟩, Value.string ⟨#[]⟩, Value.int .i64 0] ∧ ∃ v : Nat, Blk wr gc 27 #[Value.int .i64 (v : Int), Value.string ⟨#[]⟩, Value.string ⟨#[]⟩, Value.string ⟨#[]⟩, Value.int .i64 0] ∧ v = if k < i then k else 0) (fun s7 _ => 22 - (intOf s7).toNat)
  case atStart => exact ⟨1, by omega, by omega, rfl, HX1.out, HA1.out, 0, HC1.out, by split <;> omega⟩
  case round =>
    obtain ⟨i, hi1, hi2, rfl, hx, ha, v, hc, hv⟩ := hrel
    have HX2 := Lib.hid hx
    have HA2 := Lib.hid ha
    have HC2 := Lib.hid hc
    have HV := Lib.hid hv
    clear hx ha hc hv HX1 HA1 HC1 HX0 HA0 HC0
    by_cases hlt : i < 22
    · have hii : (i : Int) ≤ 21 := by omega
      have hat := HAT.out i hi1 hlt
      have hnm : nameC (i : Int) = cmdNames.getD i [] := by unfold nameC; rw [if_pos (by omega), Int.toNat_natCast]
      have HNI := Lib.hid (fun W => HNM.out W (i : Int))
      rw [hnm] at HNI
      generalize cmdNames.getD i [] = fn at *
      clear hnm
      go_wp2_with fail
      refine (HNI.out _).mono ?_
      rintro e w3 ⟨rfl, hx3⟩
      have HA3 := Lib.hid (HA2.out.ext hx3)
      have HC3 := Lib.hid (HC2.out.ext hx3)
      have HX3 := Lib.hid (HX2.out.trans hx3)
      clear hx3
      cases heq : fn == first
      · have hne : i ≠ k := fun h => by rw [hat.2 h] at heq; simp at heq
        have HV2 : Hid (v = if k < i + 1 then k else 0) := Lib.hid (by rw [HV.out]; (repeat' split) <;> omega)
        clear hat hne
        go_wp2_with fail
        go_roundw
        case rel => exact ⟨i + 1, by omega, by omega, by go_num, HX3.out, HA3.out, v, HC3.out, HV2.out⟩
        case measure => simp [intOf]; omega
      · have hik : i = k := hat.1 (by simpa using heq)
        have HV2 : Hid (i = if k < i + 1 then k else 0) := Lib.hid (by rw [if_pos (by omega)]; exact hik)
        clear hat hik
        have a0 := HA3.out.cell 0
        have e0 := HA3.out.frozen 0
        have p0 := HC3.out.cell 0
        have q0 := HC3.out.frozen 0
        have a1 := HA3.out.cell 1
        have e1 := HA3.out.frozen 1
        have p1 := HC3.out.cell 1
        have q1 := HC3.out.frozen 1
        have a2 := HA3.out.cell 2
        have e2 := HA3.out.frozen 2
        have p2 := HC3.out.cell 2
        have q2 := HC3.out.frozen 2
        have a3 := HA3.out.cell 3
        have e3 := HA3.out.frozen 3
        have p3 := HC3.out.cell 3
        have q3 := HC3.out.frozen 3
        have a4 := HA3.out.cell 4
        have e4 := HA3.out.frozen 4
        have p4 := HC3.out.cell 4
        have q4 := HC3.out.frozen 4
        have az := HA3.out.lt
        have pz := HC3.out.lt
        go_wp2_with fail
        go_roundw
        case rel => exact ⟨i + 1, by omega, by omega, by go_num, HX3.out.setCell (p := ⟨gc, 0, none⟩) HGC.out _, HA3.out.far nac _, i, (by have := HC3.out.set_ 0 (Value.int .i64 (i : Int)); simpa using this), HV2.out⟩
        case measure => simp [intOf]; omega
    · obtain rfl : i = 22 := by omega
      have hvk : v = k := by have := HV.out; rw [if_pos hk22] at this; exact this
      subst hvk
      clear HV hlt hi1 hi2 HAT
      have a0 := HA2.out.cell 0
      have e0 := HA2.out.frozen 0
      have p0 := HC2.out.cell 0
      have q0 := HC2.out.frozen 0
      have a1 := HA2.out.cell 1
      have e1 := HA2.out.frozen 1
      have p1 := HC2.out.cell 1
      have q1 := HC2.out.frozen 1
      have a2 := HA2.out.cell 2
      have e2 := HA2.out.frozen 2
      have p2 := HC2.out.cell 2
      have q2 := HC2.out.frozen 2
      have a3 := HA2.out.cell 3
      have e3 := HA2.out.frozen 3
      have p3 := HC2.out.cell 3
      have q3 := HC2.out.frozen 3
      have a4 := HA2.out.cell 4
      have e4 := HA2.out.frozen 4
      have p4 := HC2.out.cell 4
      have q4 := HC2.out.frozen 4
      have az := HA2.out.lt
      have pz := HC2.out.lt
      go_wp2_with fail
      refine (HND.out _).mono ?_
      rintro e w4 ⟨rfl, rfl⟩
      go_wp2_with fail
      refine (HN2.out _).mono ?_
      rintro e w4 ⟨rfl, hx4⟩
      clear a0 a1 a2 a3 a4 e0 e1 e2 e3 e4 p0 p1 p2 p3 p4 q0 q1 q2 q3 q4 az pz
      have HAd := Lib.hid (HA2.out.ext hx4)
      have HCd := Lib.hid (HC2.out.ext hx4)
      have HXd := Lib.hid (HX2.out.trans hx4)
      clear hx4
      have HAe : Hid (Blk (w4.setCell ⟨gc, 1, none⟩ (str (fw (sp r1)))) ga 27 #[Value.int .i64 0, Value.string ⟨#[]⟩, Value.string ⟨#[]⟩, Value.string ⟨#[]⟩, Value.int .i64 0]) := Lib.hid (HAd.out.far nac _)
      have HCe : Hid (Blk (w4.setCell ⟨gc, 1, none⟩ (str (fw (sp r1)))) gc 27 #[Value.int .i64 (v : Int), str (fw (sp r1)), Value.string ⟨#[]⟩, Value.string ⟨#[]⟩, Value.int .i64 0]) := Lib.hid (by have := HCd.out.set_ 1 (str (fw (sp r1))); simpa using this)
      have HXe : Hid (Ext w (w4.setCell ⟨gc, 1, none⟩ (str (fw (sp r1))))) := Lib.hid (HXd.out.setCell (p := ⟨gc, 1, none⟩) HGC.out (str (fw (sp r1))))
      have a0 := HAd.out.cell 0
      have e0 := HAd.out.frozen 0
      have p0 := HCd.out.cell 0
      have q0 := HCd.out.frozen 0
      have a1 := HAd.out.cell 1
      have e1 := HAd.out.frozen 1
      have p1 := HCd.out.cell 1
      have q1 := HCd.out.frozen 1
      have a2 := HAd.out.cell 2
      have e2 := HAd.out.frozen 2
      have p2 := HCd.out.cell 2
      have q2 := HCd.out.frozen 2
      have a3 := HAd.out.cell 3
      have e3 := HAd.out.frozen 3
      have p3 := HCd.out.cell 3
      have q3 := HCd.out.frozen 3
      have a4 := HAd.out.cell 4
      have e4 := HAd.out.frozen 4
      have p4 := HCd.out.cell 4
      have q4 := HCd.out.frozen 4
      have az := HAd.out.lt
      have pz := HCd.out.lt
      go_upto_region 30 with fail
      clear a0 a1 a2 a3 a4 e0 e1 e2 e3 e4 p0 p1 p2 p3 p4 q0 q1 q2 q3 q4 az pz
      generalize hgw : w4.setCell ⟨gc, 1, none⟩ (str (fw (sp r1))) = w5 at *
      clear hgw
      have HBR := Lib.hid (fun W => bare31_any W (rw_ (sp r1)) (by have := HL.out; (try simp only [List.length_nil]); omega))
      have HVK : Hid (∀ W : World, Calls Tryd.prog 10 #[.agg #[Value.int .i64 (v : Int), str (fw (sp r1)), Value.string ⟨#[]⟩, Value.string ⟨#[]⟩, Value.int .i64 0]] W fun e w' => e = .returned (.bool (validC ⟨(v : Int), fw (sp r1), [], [], 0⟩)) ∧ Ext W w') := Lib.hid (fun W => rvalid31_any W ⟨(v : Int), fw (sp r1), [], [], 0⟩ (by have := HL.out; (try simp only [List.length_nil]); omega) (by have := HL.out; (try simp only [List.length_nil]); omega) (by have := HL.out; (try simp only [List.length_nil]); omega))
      obtain ⟨vb, hvb⟩ : ∃ vb, vb = validC ⟨(v : Int), fw (sp r1), [], [], 0⟩ := ⟨_, rfl⟩
      have HVB := Lib.hid hvb
      rw [← hvb] at HVK HRD
      clear hvb
      obtain ⟨bt, hbt⟩ : ∃ bt, bt = bareT (rw_ (sp r1)) := ⟨_, rfl⟩
      rw [← hbt] at HBR HRD
      clear hbt
      have a0 := HAe.out.cell 0
      have e0 := HAe.out.frozen 0
      have p0 := HCe.out.cell 0
      have q0 := HCe.out.frozen 0
      have a1 := HAe.out.cell 1
      have e1 := HAe.out.frozen 1
      have p1 := HCe.out.cell 1
      have q1 := HCe.out.frozen 1
      have a2 := HAe.out.cell 2
      have e2 := HAe.out.frozen 2
      have p2 := HCe.out.cell 2
      have q2 := HCe.out.frozen 2
      have a3 := HAe.out.cell 3
      have e3 := HAe.out.frozen 3
      have p3 := HCe.out.cell 3
      have q3 := HCe.out.frozen 3
      have a4 := HAe.out.cell 4
      have e4 := HAe.out.frozen 4
      have p4 := HCe.out.cell 4
      have q4 := HCe.out.frozen 4
      have az := HAe.out.lt
      have pz := HCe.out.lt
      go_wp2_with fail
      refine (HBR.out _).mono ?_
      rintro e w8 ⟨rfl, rfl⟩
      cases hbe : bt == []
      · have HN6 : Hid (R = (none, 6)) := Lib.hid (HRN.out (.inr (by rw [HRD.out, if_neg (fun h => by rw [h.1] at hbe; simp at hbe)])))
        go_wp2_with fail
        obtain ⟨y0, y1, y2, y3, y4⟩ := five_set HAe.out (Value.int .i64 0) (Value.string ⟨#[]⟩) (Value.string ⟨#[]⟩) (Value.string ⟨#[]⟩) (Value.int .i64 0)
        refine bodyPost_ret (v := .tuple #[.agg #[Value.int .i64 0, Value.string ⟨#[]⟩, Value.string ⟨#[]⟩, Value.string ⟨#[]⟩, Value.int .i64 0], .int .i64 6]) (by simp [results, Tryd.results8, go_sem, y0, y1, y2, y3, y4]) rfl ?_
        rw [HN6.out]
        exact ⟨rfl, (((((HXe.out.setCell (p := ⟨ga, 0, none⟩) HGA.out _).setCell (p := ⟨ga, 1, none⟩) HGA.out _).setCell (p := ⟨ga, 2, none⟩) HGA.out _).setCell (p := ⟨ga, 3, none⟩) HGA.out _).setCell (p := ⟨ga, 4, none⟩) HGA.out _)⟩
      have HBE : Hid (bt = []) := Lib.hid (by simpa using hbe)
      go_wp2_with fail
      refine (HVK.out _).mono ?_
      rintro e w9 ⟨rfl, hx9⟩
      clear a0 a1 a2 a3 a4 e0 e1 e2 e3 e4 p0 p1 p2 p3 p4 q0 q1 q2 q3 q4 az pz
      have HAz := Lib.hid (HAe.out.ext hx9)
      have HCz := Lib.hid (HCe.out.ext hx9)
      have HXz := Lib.hid (HXe.out.trans hx9)
      clear hx9
      have a0 := HAz.out.cell 0
      have e0 := HAz.out.frozen 0
      have p0 := HCz.out.cell 0
      have q0 := HCz.out.frozen 0
      have a1 := HAz.out.cell 1
      have e1 := HAz.out.frozen 1
      have p1 := HCz.out.cell 1
      have q1 := HCz.out.frozen 1
      have a2 := HAz.out.cell 2
      have e2 := HAz.out.frozen 2
      have p2 := HCz.out.cell 2
      have q2 := HCz.out.frozen 2
      have a3 := HAz.out.cell 3
      have e3 := HAz.out.frozen 3
      have p3 := HCz.out.cell 3
      have q3 := HCz.out.frozen 3
      have a4 := HAz.out.cell 4
      have e4 := HAz.out.frozen 4
      have p4 := HCz.out.cell 4
      have q4 := HCz.out.frozen 4
      have az := HAz.out.lt
      have pz := HCz.out.lt
      cases vb
      · have HN6 : Hid (R = (none, 6)) := Lib.hid (HRN.out (.inr (HRD.out.trans (by simp))))
        go_wp2_with fail
        obtain ⟨y0, y1, y2, y3, y4⟩ := five_set HAz.out (Value.int .i64 0) (Value.string ⟨#[]⟩) (Value.string ⟨#[]⟩) (Value.string ⟨#[]⟩) (Value.int .i64 0)
        refine bodyPost_ret (v := .tuple #[.agg #[Value.int .i64 0, Value.string ⟨#[]⟩, Value.string ⟨#[]⟩, Value.string ⟨#[]⟩, Value.int .i64 0], .int .i64 6]) (by simp [results, Tryd.results8, go_sem, y0, y1, y2, y3, y4]) rfl ?_
        rw [HN6.out]
        exact ⟨rfl, (((((HXz.out.setCell (p := ⟨ga, 0, none⟩) HGA.out _).setCell (p := ⟨ga, 1, none⟩) HGA.out _).setCell (p := ⟨ga, 2, none⟩) HGA.out _).setCell (p := ⟨ga, 3, none⟩) HGA.out _).setCell (p := ⟨ga, 4, none⟩) HGA.out _)⟩
      · have HN6 : Hid (R = (some ⟨(v : Int), fw (sp r1), [], [], 0⟩, 0)) := Lib.hid (HRS.out _ (HRD.out.trans (by simp [HBE.out])))
        go_wp2_with fail
        obtain ⟨y0, y1, y2, y3, y4⟩ := five_set HAz.out (Value.int .i64 (v : Int)) (str (fw (sp r1))) (Value.string ⟨#[]⟩) (Value.string ⟨#[]⟩) (Value.int .i64 0)
        refine bodyPost_ret (v := .tuple #[.agg #[Value.int .i64 (v : Int), str (fw (sp r1)), Value.string ⟨#[]⟩, Value.string ⟨#[]⟩, Value.int .i64 0], .int .i64 0]) (by simp [results, Tryd.results8, go_sem, y0, y1, y2, y3, y4]) rfl ?_
        rw [HN6.out]
        exact ⟨rfl, (((((HXz.out.setCell (p := ⟨ga, 0, none⟩) HGA.out _).setCell (p := ⟨ga, 1, none⟩) HGA.out _).setCell (p := ⟨ga, 2, none⟩) HGA.out _).setCell (p := ⟨ga, 3, none⟩) HGA.out _).setCell (p := ⟨ga, 4, none⟩) HGA.out _)⟩
end Big
end Go.Proofs.YtoehdoghghpmjaaDoor
/- The document's Parse of commands: a class of operations. -/
namespace Go.Proofs.YtoehdoghghpmjaaDoor
namespace Big
open Go.RowKit
set_option maxHeartbeats 2000000 in
set_option maxRecDepth 100000 in
theorem rparse31_f (w : World) (s : List UInt8) (hs : s.length ≤ 500) (k : Nat) (hko : opOf (fw (sp s)) = k) (q3 : k ≠ 3) (q21 : k ≠ 21) (q6 : k ≠ 6) (q1 : k ≠ 1) (hnd : namedC (k : Int) = false) :
    Calls Tryd.prog 8 #[str s] w fun e w' => e = .returned (.tuple #[cmdV (cmdOf (lineR s).1), .int .i64 ((lineR s).2 : Int)]) ∧ Ext w w' := by
  unfold cmdV
  have h5' : ¬ (500 : Int) < (s.length : Int) := by omega
  have HRN := Lib.hid (fun h => lineR_none (s := s) (by omega) h)
  have HRS0 := Lib.hid (fun c h0 h => lineR_some (s := s) (c := c) (by omega) h0 h)
  have hk22 : k < 22 := by
    by_cases h : opOf (fw (sp s)) = 0
    · omega
    · have := (opOf_spec h).1; omega
  have HAT : Hid (∀ i, 1 ≤ i → i < 22 → (cmdNames.getD i [] = fw (sp s) ↔ i = k)) := Lib.hid (fun i h1 h2 => ⟨fun h => by
      have := opOf_at h2 (names_ne i h1 h2)
      rw [h] at this
      omega, fun h => by
      have h3 : opOf (fw (sp s)) ≠ 0 := by omega
      have := (opOf_spec h3).2
      rw [hko, ← h] at this
      exact this⟩)
  have e0 := sp_le s
  have e1 := fw_le (sp s)
  have e2 := rw_le (sp s)
  have HN1 := Lib.hid (fun W => next31_any W s (by omega))
  rw [hko] at HRN HRS0
  obtain ⟨first, hfi⟩ : ∃ x, x = fw (sp s) := ⟨_, rfl⟩
  obtain ⟨r1, hr1⟩ : ∃ x, x = rw_ (sp s) := ⟨_, rfl⟩
  rw [← hfi, ← hr1] at HN1
  rw [← hfi] at HAT
  rw [← hr1] at HRN HRS0 e2
  clear hko hfi hr1 e1
  generalize lineR s = R at *
  have e3 := sp_le r1
  have e4 := fw_le (sp r1)
  have e5 := rw_le (sp r1)
  have e6 := sp_le (rw_ (sp r1))
  have e7 := fw_le (sp (rw_ (sp r1)))
  have e8 := rw_le (sp (rw_ (sp r1)))
  have e9 := bareT_le (rw_ (sp (rw_ (sp r1))))
  have HL : Hid (r1.length ≤ 500 ∧ (fw (sp r1)).length ≤ 500 ∧ (rw_ (sp r1)).length ≤ 500 ∧ (fw (sp (rw_ (sp r1)))).length ≤ 500 ∧ (rw_ (sp (rw_ (sp r1)))).length ≤ 500 ∧ (bareT (rw_ (sp (rw_ (sp r1))))).length ≤ 500) := Lib.hid (by omega)
  have HN2 := Lib.hid (fun W => next31_any W r1 (by omega))
  have HN3 := Lib.hid (fun W => next31_any W (rw_ (sp r1)) (by omega))
  have HNM := Lib.hid (fun W op => rname31_any W op)
  have HND := Lib.hid (fun W => rnamed_any W (k : Int))
  have hshape : shapeC (k : Int) = 0 := by rw [shape_else k hk22 q3 q21 q6 q1, hnd]; rfl
  rw [hnd] at HND
  have HRS : Hid (∀ c, readR (k : Int) r1 = some c → R = (some c, 0)) := Lib.hid (fun c h => HRS0.out c (fun h0 => by subst h0; have h1 : readR ((0 : Nat) : Int) r1 = none := readR_zero r1; rw [h1] at h; cases h) h)
  have HRD : Hid (readR (k : Int) r1 = if bareT r1 = [] ∧ validC ⟨(k : Int), [], [], [], 0⟩ = true then some ⟨(k : Int), [], [], [], 0⟩ else none) := Lib.hid (by unfold readR; simp [show shapeC (k : Int) = 0 from by first | rfl | exact hshape])
  have g3 : ¬ ((k : Int) = 3) := by omega
  have g21 : ¬ ((k : Int) = 21) := by omega
  have g6 : ¬ ((k : Int) = 6) := by omega
  have g1 : ¬ ((k : Int) = 1) := by omega
  clear q3 q21 q6 q1 hnd hshape
  clear hs e0 e2 e3 e4 e5 e6 e7 e8 e9
  go_enter Tryd.func8, Tryd.ntmps8
  go_wp2_with fail
  have ha := (Blk.new w 27 #[Value.int .i64 0, Value.string ⟨#[]⟩, Value.string ⟨#[]⟩, Value.string ⟨#[]⟩, Value.int .i64 0]).ext ((Ext.refl _).alloc (.cells #[Value.int .i64 0, Value.string ⟨#[]⟩, Value.string ⟨#[]⟩, Value.string ⟨#[]⟩, Value.int .i64 0] 27))
  have hc := Blk.new (w.alloc (.cells #[Value.int .i64 0, Value.string ⟨#[]⟩, Value.string ⟨#[]⟩, Value.string ⟨#[]⟩, Value.int .i64 0] 27)) 27 #[Value.int .i64 0, Value.string ⟨#[]⟩, Value.string ⟨#[]⟩, Value.string ⟨#[]⟩, Value.int .i64 0]
  have hgs : (w.alloc (.cells #[Value.int .i64 0, Value.string ⟨#[]⟩, Value.string ⟨#[]⟩, Value.string ⟨#[]⟩, Value.int .i64 0] 27)).heap.size = w.heap.size + 1 := by simp
  rw [hgs] at hc
  have HX0 : Hid (Ext w ((w.alloc (.cells #[Value.int .i64 0, Value.string ⟨#[]⟩, Value.string ⟨#[]⟩, Value.string ⟨#[]⟩, Value.int .i64 0] 27)).alloc (.cells #[Value.int .i64 0, Value.string ⟨#[]⟩, Value.string ⟨#[]⟩, Value.string ⟨#[]⟩, Value.int .i64 0] 27))) := Lib.hid (((Ext.refl w).alloc _).alloc _)
  obtain ⟨gc, hgc⟩ : ∃ gc, gc = w.heap.size + 1 := ⟨_, rfl⟩
  rw [← hgc] at hc ⊢
  obtain ⟨ga, hga⟩ : ∃ ga, ga = w.heap.size := ⟨_, rfl⟩
  have nac : ga ≠ gc := by omega
  have HGA : Hid (w.heap.size ≤ ga) := Lib.hid (by omega)
  have HGC : Hid (w.heap.size ≤ gc) := Lib.hid (by omega)
  rw [← hga] at ha ⊢
  have HA0 := Lib.hid ha
  have HC0 := Lib.hid hc
  clear ha hc hga hgc hgs
  generalize (w.alloc (.cells #[Value.int .i64 0, Value.string ⟨#[]⟩, Value.string ⟨#[]⟩, Value.string ⟨#[]⟩, Value.int .i64 0] 27)).alloc (.cells #[Value.int .i64 0, Value.string ⟨#[]⟩, Value.string ⟨#[]⟩, Value.string ⟨#[]⟩, Value.int .i64 0] 27) = w0 at *
  refine (HN1.out _).mono ?_
  rintro e w1 ⟨rfl, hx1⟩
  have HA1 := Lib.hid (HA0.out.ext hx1)
  have HC1 := Lib.hid (HC0.out.ext hx1)
  have HX1 := Lib.hid (HX0.out.trans hx1)
  clear hx1
  go_wp2_with fail
  go_loopw [7] (fun s7 wr => ∃ i : Nat, 1 ≤ i ∧ i ≤ 22 ∧ s7 = .int .i64 (i : Int) ∧ Ext w wr ∧ Blk wr ga 27 #[Value.int .i64 0, Value.string ⟨#[]⟩, Value.string ⟨#[]⟩, Value.string ⟨#[]⟩, Value.int .i64 0] ∧ ∃ v : Nat, Blk wr gc 27 #[Value.int .i64 (v : Int), Value.string ⟨#[]⟩, Value.string ⟨#[]⟩, Value.string ⟨#[]⟩, Value.int .i64 0] ∧ v = if k < i then k else 0) (fun s7 _ => 22 - (intOf s7).toNat)
  case atStart => exact ⟨1, by omega, by omega, rfl, HX1.out, HA1.out, 0, HC1.out, by split <;> omega⟩
  case round =>
    obtain ⟨i, hi1, hi2, rfl, hx, ha, v, hc, hv⟩ := hrel
    have HX2 := Lib.hid hx
    have HA2 := Lib.hid ha
    have HC2 := Lib.hid hc
    have HV := Lib.hid hv
    clear hx ha hc hv HX1 HA1 HC1 HX0 HA0 HC0
    by_cases hlt : i < 22
    · have hii : (i : Int) ≤ 21 := by omega
      have hat := HAT.out i hi1 hlt
      have hnm : nameC (i : Int) = cmdNames.getD i [] := by unfold nameC; rw [if_pos (by omega), Int.toNat_natCast]
      have HNI := Lib.hid (fun W => HNM.out W (i : Int))
      rw [hnm] at HNI
      generalize cmdNames.getD i [] = fn at *
      clear hnm
      go_wp2_with fail
      refine (HNI.out _).mono ?_
      rintro e w3 ⟨rfl, hx3⟩
      have HA3 := Lib.hid (HA2.out.ext hx3)
      have HC3 := Lib.hid (HC2.out.ext hx3)
      have HX3 := Lib.hid (HX2.out.trans hx3)
      clear hx3
      cases heq : fn == first
      · have hne : i ≠ k := fun h => by rw [hat.2 h] at heq; simp at heq
        have HV2 : Hid (v = if k < i + 1 then k else 0) := Lib.hid (by rw [HV.out]; (repeat' split) <;> omega)
        clear hat hne
        go_wp2_with fail
        go_roundw
        case rel => exact ⟨i + 1, by omega, by omega, by go_num, HX3.out, HA3.out, v, HC3.out, HV2.out⟩
        case measure => simp [intOf]; omega
      · have hik : i = k := hat.1 (by simpa using heq)
        have HV2 : Hid (i = if k < i + 1 then k else 0) := Lib.hid (by rw [if_pos (by omega)]; exact hik)
        clear hat hik
        have a0 := HA3.out.cell 0
        have e0 := HA3.out.frozen 0
        have p0 := HC3.out.cell 0
        have q0 := HC3.out.frozen 0
        have a1 := HA3.out.cell 1
        have e1 := HA3.out.frozen 1
        have p1 := HC3.out.cell 1
        have q1 := HC3.out.frozen 1
        have a2 := HA3.out.cell 2
        have e2 := HA3.out.frozen 2
        have p2 := HC3.out.cell 2
        have q2 := HC3.out.frozen 2
        have a3 := HA3.out.cell 3
        have e3 := HA3.out.frozen 3
        have p3 := HC3.out.cell 3
        have q3 := HC3.out.frozen 3
        have a4 := HA3.out.cell 4
        have e4 := HA3.out.frozen 4
        have p4 := HC3.out.cell 4
        have q4 := HC3.out.frozen 4
        have az := HA3.out.lt
        have pz := HC3.out.lt
        go_wp2_with fail
        go_roundw
        case rel => exact ⟨i + 1, by omega, by omega, by go_num, HX3.out.setCell (p := ⟨gc, 0, none⟩) HGC.out _, HA3.out.far nac _, i, (by have := HC3.out.set_ 0 (Value.int .i64 (i : Int)); simpa using this), HV2.out⟩
        case measure => simp [intOf]; omega
    · obtain rfl : i = 22 := by omega
      have hvk : v = k := by have := HV.out; rw [if_pos hk22] at this; exact this
      subst hvk
      clear HV hlt hi1 hi2 HAT
      have a0 := HA2.out.cell 0
      have e0 := HA2.out.frozen 0
      have p0 := HC2.out.cell 0
      have q0 := HC2.out.frozen 0
      have a1 := HA2.out.cell 1
      have e1 := HA2.out.frozen 1
      have p1 := HC2.out.cell 1
      have q1 := HC2.out.frozen 1
      have a2 := HA2.out.cell 2
      have e2 := HA2.out.frozen 2
      have p2 := HC2.out.cell 2
      have q2 := HC2.out.frozen 2
      have a3 := HA2.out.cell 3
      have e3 := HA2.out.frozen 3
      have p3 := HC2.out.cell 3
      have q3 := HC2.out.frozen 3
      have a4 := HA2.out.cell 4
      have e4 := HA2.out.frozen 4
      have p4 := HC2.out.cell 4
      have q4 := HC2.out.frozen 4
      have az := HA2.out.lt
      have pz := HC2.out.lt
      go_wp2_with fail
      refine (HND.out _).mono ?_
      rintro e w4 ⟨rfl, rfl⟩
      clear a0 a1 a2 a3 a4 e0 e1 e2 e3 e4 p0 p1 p2 p3 p4 q0 q1 q2 q3 q4 az pz
      have a0 := HA2.out.cell 0
      have e0 := HA2.out.frozen 0
      have p0 := HC2.out.cell 0
      have q0 := HC2.out.frozen 0
      have a1 := HA2.out.cell 1
      have e1 := HA2.out.frozen 1
      have p1 := HC2.out.cell 1
      have q1 := HC2.out.frozen 1
      have a2 := HA2.out.cell 2
      have e2 := HA2.out.frozen 2
      have p2 := HC2.out.cell 2
      have q2 := HC2.out.frozen 2
      have a3 := HA2.out.cell 3
      have e3 := HA2.out.frozen 3
      have p3 := HC2.out.cell 3
      have q3 := HC2.out.frozen 3
      have a4 := HA2.out.cell 4
      have e4 := HA2.out.frozen 4
      have p4 := HC2.out.cell 4
      have q4 := HC2.out.frozen 4
      have az := HA2.out.lt
      have pz := HC2.out.lt
      go_upto_region 30 with fail
      clear a0 a1 a2 a3 a4 e0 e1 e2 e3 e4 p0 p1 p2 p3 p4 q0 q1 q2 q3 q4 az pz
      have HBR := Lib.hid (fun W => bare31_any W r1 (by have := HL.out; (try simp only [List.length_nil]); omega))
      have HVK : Hid (∀ W : World, Calls Tryd.prog 10 #[.agg #[Value.int .i64 (v : Int), Value.string ⟨#[]⟩, Value.string ⟨#[]⟩, Value.string ⟨#[]⟩, Value.int .i64 0]] W fun e w' => e = .returned (.bool (validC ⟨(v : Int), [], [], [], 0⟩)) ∧ Ext W w') := Lib.hid (fun W => rvalid31_any W ⟨(v : Int), [], [], [], 0⟩ (by have := HL.out; (try simp only [List.length_nil]); omega) (by have := HL.out; (try simp only [List.length_nil]); omega) (by have := HL.out; (try simp only [List.length_nil]); omega))
      obtain ⟨vb, hvb⟩ : ∃ vb, vb = validC ⟨(v : Int), [], [], [], 0⟩ := ⟨_, rfl⟩
      have HVB := Lib.hid hvb
      rw [← hvb] at HVK HRD
      clear hvb
      obtain ⟨bt, hbt⟩ : ∃ bt, bt = bareT r1 := ⟨_, rfl⟩
      rw [← hbt] at HBR HRD
      clear hbt
      have a0 := HA2.out.cell 0
      have e0 := HA2.out.frozen 0
      have p0 := HC2.out.cell 0
      have q0 := HC2.out.frozen 0
      have a1 := HA2.out.cell 1
      have e1 := HA2.out.frozen 1
      have p1 := HC2.out.cell 1
      have q1 := HC2.out.frozen 1
      have a2 := HA2.out.cell 2
      have e2 := HA2.out.frozen 2
      have p2 := HC2.out.cell 2
      have q2 := HC2.out.frozen 2
      have a3 := HA2.out.cell 3
      have e3 := HA2.out.frozen 3
      have p3 := HC2.out.cell 3
      have q3 := HC2.out.frozen 3
      have a4 := HA2.out.cell 4
      have e4 := HA2.out.frozen 4
      have p4 := HC2.out.cell 4
      have q4 := HC2.out.frozen 4
      have az := HA2.out.lt
      have pz := HC2.out.lt
      go_wp2_with fail
      refine (HBR.out _).mono ?_
      rintro e w8 ⟨rfl, rfl⟩
      cases hbe : bt == []
      · have HN6 : Hid (R = (none, 6)) := Lib.hid (HRN.out (.inr (by rw [HRD.out, if_neg (fun h => by rw [h.1] at hbe; simp at hbe)])))
        go_wp2_with fail
        obtain ⟨y0, y1, y2, y3, y4⟩ := five_set HA2.out (Value.int .i64 0) (Value.string ⟨#[]⟩) (Value.string ⟨#[]⟩) (Value.string ⟨#[]⟩) (Value.int .i64 0)
        refine bodyPost_ret (v := .tuple #[.agg #[Value.int .i64 0, Value.string ⟨#[]⟩, Value.string ⟨#[]⟩, Value.string ⟨#[]⟩, Value.int .i64 0], .int .i64 6]) (by simp [results, Tryd.results8, go_sem, y0, y1, y2, y3, y4]) rfl ?_
        rw [HN6.out]
        exact ⟨rfl, (((((HX2.out.setCell (p := ⟨ga, 0, none⟩) HGA.out _).setCell (p := ⟨ga, 1, none⟩) HGA.out _).setCell (p := ⟨ga, 2, none⟩) HGA.out _).setCell (p := ⟨ga, 3, none⟩) HGA.out _).setCell (p := ⟨ga, 4, none⟩) HGA.out _)⟩
      have HBE : Hid (bt = []) := Lib.hid (by simpa using hbe)
      go_wp2_with fail
      refine (HVK.out _).mono ?_
      rintro e w9 ⟨rfl, hx9⟩
      clear a0 a1 a2 a3 a4 e0 e1 e2 e3 e4 p0 p1 p2 p3 p4 q0 q1 q2 q3 q4 az pz
      have HAz := Lib.hid (HA2.out.ext hx9)
      have HCz := Lib.hid (HC2.out.ext hx9)
      have HXz := Lib.hid (HX2.out.trans hx9)
      clear hx9
      have a0 := HAz.out.cell 0
      have e0 := HAz.out.frozen 0
      have p0 := HCz.out.cell 0
      have q0 := HCz.out.frozen 0
      have a1 := HAz.out.cell 1
      have e1 := HAz.out.frozen 1
      have p1 := HCz.out.cell 1
      have q1 := HCz.out.frozen 1
      have a2 := HAz.out.cell 2
      have e2 := HAz.out.frozen 2
      have p2 := HCz.out.cell 2
      have q2 := HCz.out.frozen 2
      have a3 := HAz.out.cell 3
      have e3 := HAz.out.frozen 3
      have p3 := HCz.out.cell 3
      have q3 := HCz.out.frozen 3
      have a4 := HAz.out.cell 4
      have e4 := HAz.out.frozen 4
      have p4 := HCz.out.cell 4
      have q4 := HCz.out.frozen 4
      have az := HAz.out.lt
      have pz := HCz.out.lt
      cases vb
      · have HN6 : Hid (R = (none, 6)) := Lib.hid (HRN.out (.inr (HRD.out.trans (by simp))))
        go_wp2_with fail
        obtain ⟨y0, y1, y2, y3, y4⟩ := five_set HAz.out (Value.int .i64 0) (Value.string ⟨#[]⟩) (Value.string ⟨#[]⟩) (Value.string ⟨#[]⟩) (Value.int .i64 0)
        refine bodyPost_ret (v := .tuple #[.agg #[Value.int .i64 0, Value.string ⟨#[]⟩, Value.string ⟨#[]⟩, Value.string ⟨#[]⟩, Value.int .i64 0], .int .i64 6]) (by simp [results, Tryd.results8, go_sem, y0, y1, y2, y3, y4]) rfl ?_
        rw [HN6.out]
        exact ⟨rfl, (((((HXz.out.setCell (p := ⟨ga, 0, none⟩) HGA.out _).setCell (p := ⟨ga, 1, none⟩) HGA.out _).setCell (p := ⟨ga, 2, none⟩) HGA.out _).setCell (p := ⟨ga, 3, none⟩) HGA.out _).setCell (p := ⟨ga, 4, none⟩) HGA.out _)⟩
      · have HN6 : Hid (R = (some ⟨(v : Int), [], [], [], 0⟩, 0)) := Lib.hid (HRS.out _ (HRD.out.trans (by simp [HBE.out])))
        go_wp2_with fail
        obtain ⟨y0, y1, y2, y3, y4⟩ := five_set HAz.out (Value.int .i64 (v : Int)) (Value.string ⟨#[]⟩) (Value.string ⟨#[]⟩) (Value.string ⟨#[]⟩) (Value.int .i64 0)
        refine bodyPost_ret (v := .tuple #[.agg #[Value.int .i64 (v : Int), Value.string ⟨#[]⟩, Value.string ⟨#[]⟩, Value.string ⟨#[]⟩, Value.int .i64 0], .int .i64 0]) (by simp [results, Tryd.results8, go_sem, y0, y1, y2, y3, y4]) rfl ?_
        rw [HN6.out]
        exact ⟨rfl, (((((HXz.out.setCell (p := ⟨ga, 0, none⟩) HGA.out _).setCell (p := ⟨ga, 1, none⟩) HGA.out _).setCell (p := ⟨ga, 2, none⟩) HGA.out _).setCell (p := ⟨ga, 3, none⟩) HGA.out _).setCell (p := ⟨ga, 4, none⟩) HGA.out _)⟩
end Big
end Go.Proofs.YtoehdoghghpmjaaDoor
/- The document's Parse of commands. -/
namespace Go.Proofs.YtoehdoghghpmjaaDoor
namespace Big
open Go.RowKit
set_option maxHeartbeats 1000000 in
set_option maxRecDepth 100000 in
theorem rparse31_any (w : World) (s : List UInt8) (hs : s.length ≤ 1000000) :
    Calls Tryd.prog 8 #[str s] w fun e w' => e = .returned (.tuple #[cmdV (cmdOf (lineR s).1), .int .i64 ((lineR s).2 : Int)]) ∧ Ext w w' := by
  rcases Nat.lt_or_ge 500 s.length with h5 | h5
  · have HR : Hid (lineR s = (none, 7)) := Lib.hid (by unfold lineR; rw [if_pos h5])
    rw [HR.out]
    have h5' : (500 : Int) < (s.length : Int) := by omega
    unfold cmdV
    simp only [cmdOf]
    clear h5 hs HR
    go_enter Tryd.func8, Tryd.ntmps8
    go_wp2_with fail
    refine bodyPost_ret (v := .tuple #[.agg #[.int .i64 0, .string ⟨#[]⟩, .string ⟨#[]⟩, .string ⟨#[]⟩, .int .i64 0], .int .i64 7]) (by simp [results, Tryd.results8, go_sem]) rfl ?_
    exact ⟨rfl, (Ext.refl w).alloc _⟩
  by_cases q6 : opOf (fw (sp s)) = 6
  · exact rparse31_6 w s h5 _ rfl q6
  by_cases q1 : opOf (fw (sp s)) = 1
  · exact rparse31_1 w s h5 _ rfl q1
  by_cases q3 : opOf (fw (sp s)) = 3
  · exact rparse31_3 w s h5 _ rfl q3
  by_cases q21 : opOf (fw (sp s)) = 21
  · exact rparse31_21 w s h5 _ rfl q21
  cases hnd : namedC ((opOf (fw (sp s)) : Nat) : Int)
  · exact rparse31_f w s h5 _ rfl q3 q21 q6 q1 hnd
  · exact rparse31_t w s h5 _ rfl q3 q21 q6 q1 hnd
end Big
end Go.Proofs.YtoehdoghghpmjaaDoor
/- mill.Mod. -/
namespace Go.Proofs.YtoehdoghghpmjaaDoor
namespace Big
open Go.RowKit

theorem tmod_mod (v n : Int) (hn : 1 ≤ n) : (if v.tmod n < 0 then v.tmod n + n else v.tmod n) = v % n := by
  have h := Int.tmod_eq_emod (a := v) (b := n)
  have h1 := Int.emod_nonneg v (show n ≠ 0 by omega)
  have h2 := Int.emod_lt_of_pos v (show 0 < n by omega)
  rw [h]
  split <;> split <;> omega
theorem mod_any (w : World) (v n : Int) (h1 : -9223372036854775808 ≤ v) (h2 : v ≤ 9223372036854775807) (hn : 1 ≤ n) (hn2 : n ≤ 4611686018427387904) :
    Calls Tryd.prog 6 #[.int .i64 v, .int .i64 n] w fun e w' => e = .returned (.int .i64 (v % n)) ∧ w = w' := by
  have hT := tmod_mod v n hn
  have hne : (n == 0) = false := by rw [beq_eq_false_iff_ne]; omega
  obtain ⟨r, hr⟩ : ∃ r, v.tmod n = r := ⟨_, rfl⟩
  rw [hr] at hT
  have hm1 := Int.emod_nonneg v (show n ≠ 0 by omega)
  have hm2 := Int.emod_lt_of_pos v (show 0 < n by omega)
  by_cases h0 : r < 0
  · rw [if_pos h0] at hT
    have hb1 : -n ≤ r := by omega
    have HT := Lib.hid hT
    clear hT hm1 hm2
    go_enter Tryd.func6, Tryd.ntmps6
    go_wp2_with fail
    go_ret
    exact ⟨congrArg (fun z => Ending.returned (.int .i64 z)) HT.out, rfl⟩
  · rw [if_neg h0] at hT
    have hb1 : r < n := by omega
    have HT := Lib.hid hT
    clear hT hm1 hm2
    go_enter Tryd.func6, Tryd.ntmps6
    go_wp2_with fail
    go_ret
    exact ⟨congrArg (fun z => Ending.returned (.int .i64 z)) HT.out, rfl⟩

end Big
end Go.Proofs.YtoehdoghghpmjaaDoor
