import Derived.Test.YtoehdoghghpmjaaGreatDoorM15
import Derived.Test.YtoehdoghghpmjaaGreatDoorM7
/- command.Valid. -/
namespace Go.Proofs.YtoehdoghghpmjaaGreatDoor
namespace Big
open Go.RowKit
def cmdV (c : Cmd) : Value := .agg #[.int .i64 c.op, str c.name, str c.other, str c.text, .int .i64 c.n]
theorem shapeC_le (op : Int) : shapeC op ≤ 5 := by
  unfold shapeC
  split
  · rename_i h
    obtain ⟨k, rfl⟩ := Int.eq_ofNat_of_zero_le h.1
    have hk : k < 22 := by omega
    rw [Int.toNat_natCast]
    exact (show ∀ k : Fin 22, cmdShapes.getD k.val 0 ≤ 5 by decide) ⟨k, hk⟩
  · omega
theorem str_nil_iff (l : List UInt8) : (⟨l.toArray⟩ : ByteArray).toList = [] ↔ l = [] := by rw [Lib.toList_data]
set_option maxHeartbeats 4000000 in
set_option maxRecDepth 100000 in
theorem cvalid_any (w : World) (c : Cmd) (h1 : c.name.length ≤ 1073741824) (h2 : c.other.length ≤ 1073741824) (h3 : c.text.length ≤ 1073741824) :
    Calls Tryz.prog 15 #[cmdV c] w fun e w' => e = .returned (.bool (validC c)) ∧ Ext w w' := by
  have HO := Lib.hid (fun W => of_any W c.op)
  have HK := Lib.hid (shapeC_le c.op)
  have HV : Hid (validC c = _) := Lib.hid (by unfold validC; rfl)
  obtain ⟨op, nm, ot, tx, n⟩ := c
  have HW1 := Lib.hid (fun W => word_any W nm h1)
  have HW2 := Lib.hid (fun W => word_any W ot h2)
  have HW3 := Lib.hid (fun W => istext_any W tx h3)
  unfold cmdV
  unfold formV at HO
  simp only at HO HK HV ⊢
  obtain ⟨nb, hnb, hnz⟩ : ∃ nb, str nm = .string nb ∧ (nb.toList = [] ↔ nm = []) := ⟨_, rfl, str_nil_iff nm⟩
  obtain ⟨ob, hob, hoz⟩ : ∃ nb, str ot = .string nb ∧ (nb.toList = [] ↔ ot = []) := ⟨_, rfl, str_nil_iff ot⟩
  obtain ⟨tb, htb, htz⟩ : ∃ nb, str tx = .string nb ∧ (nb.toList = [] ↔ tx = []) := ⟨_, rfl, str_nil_iff tx⟩
  have HN1 := Lib.hid hnz
  have HN2 := Lib.hid hoz
  have HN3 := Lib.hid htz
  rw [hnb] at HW1 ⊢
  rw [hob] at HW2 ⊢
  rw [htb] at HW3 ⊢
  clear hnb hnz hob hoz htb htz
  generalize validC ⟨op, nm, ot, tx, n⟩ = vb at *
  generalize nameC op = fn at *
  generalize shapeC op = k at *
  generalize writesC op = wr at *
  clear h1 h2 h3
  go_enter Tryz.func15, Tryz.ntmps15
  go_wp2_with fail
  refine (HO.out _).mono ?_
  rintro e w1 ⟨rfl, hx⟩
  have hbk := (Blk.new w 31 #[Value.int .i64 op, Value.string nb, Value.string ob, Value.string tb, Value.int .i64 n]).ext hx
  have HX1 := Lib.hid (((Ext.refl w).alloc (.cells #[Value.int .i64 op, Value.string nb, Value.string ob, Value.string tb, Value.int .i64 n] 31)).trans hx)
  have hc0 := hbk.cell 0
  have hzb := hbk.lt
  have HBK := Lib.hid hbk
  clear hx hbk
  go_upto_region 3 with fail
  have hbb := HBK.out.ext (w' := (w1.alloc (.cells #[str fn, Value.int .i64 (k : Int), Value.bool wr] 61)).alloc (.cells #[Value.int .i64 op, Value.string ⟨#[]⟩, Value.string ⟨#[]⟩, Value.string ⟨#[]⟩, Value.int .i64 0] 31)) (((Ext.refl w1).alloc _).alloc _)
  have hbf := (Blk.new w1 61 #[str fn, Value.int .i64 (k : Int), Value.bool wr]).ext (w' := (w1.alloc (.cells #[str fn, Value.int .i64 (k : Int), Value.bool wr] 61)).alloc (.cells #[Value.int .i64 op, Value.string ⟨#[]⟩, Value.string ⟨#[]⟩, Value.string ⟨#[]⟩, Value.int .i64 0] 31)) ((Ext.refl _).alloc _)
  have hbp := Blk.new (w1.alloc (.cells #[str fn, Value.int .i64 (k : Int), Value.bool wr] 61)) 31 #[Value.int .i64 op, Value.string ⟨#[]⟩, Value.string ⟨#[]⟩, Value.string ⟨#[]⟩, Value.int .i64 0]
  have hgs : (w1.alloc (.cells #[str fn, Value.int .i64 (k : Int), Value.bool wr] 61)).heap.size = w1.heap.size + 1 := by simp
  rw [hgs] at hbp
  have HX : Hid (Ext w ((w1.alloc (.cells #[str fn, Value.int .i64 (k : Int), Value.bool wr] 61)).alloc (.cells #[Value.int .i64 op, Value.string ⟨#[]⟩, Value.string ⟨#[]⟩, Value.string ⟨#[]⟩, Value.int .i64 0] 31))) := Lib.hid (HX1.out.trans (((Ext.refl w1).alloc _).alloc _))
  generalize ((w1.alloc (.cells #[str fn, Value.int .i64 (k : Int), Value.bool wr] 61)).alloc (.cells #[Value.int .i64 op, Value.string ⟨#[]⟩, Value.string ⟨#[]⟩, Value.string ⟨#[]⟩, Value.int .i64 0] 31)) = w2 at *
  obtain ⟨gp, hgp⟩ : ∃ gp, gp = w1.heap.size + 1 := ⟨_, rfl⟩
  rw [← hgp] at hbp ⊢
  have HNE : Hid (w.heap.size ≤ gp) := Lib.hid (by omega)
  have n1 : w.heap.size ≠ gp := by omega
  have n2 : w1.heap.size ≠ gp := by omega
  clear hgp hc0 hzb hgs HX1 HBK
  generalize w1.heap.size = gf at *
  obtain ⟨gb, hgb⟩ : ∃ gb, gb = w.heap.size := ⟨_, rfl⟩
  rw [← hgb] at hbb n1 ⊢
  clear hgb
  have HBB := Lib.hid hbb
  have HBF := Lib.hid hbf
  have HBP := Lib.hid hbp
  clear hbb hbf hbp HO
  cases hfn : fn == []
  rotate_left
  · have HVK : Hid (vb = false) := Lib.hid (by rw [HV.out, hfn]; simp)
    have b0 := HBB.out.cell 0
    have b1 := HBB.out.cell 1
    have b2 := HBB.out.cell 2
    have b3 := HBB.out.cell 3
    have b4 := HBB.out.cell 4
    have bz := HBB.out.lt
    have f0 := HBF.out.cell 0
    have f1 := HBF.out.cell 1
    have p0 := HBP.out.cell 0
    have q0 := HBP.out.frozen 0
    have p1 := HBP.out.cell 1
    have q1 := HBP.out.frozen 1
    have p2 := HBP.out.cell 2
    have q2 := HBP.out.frozen 2
    have p3 := HBP.out.cell 3
    have q3 := HBP.out.frozen 3
    have p4 := HBP.out.cell 4
    have q4 := HBP.out.frozen 4
    have pz := HBP.out.lt
    go_wp2_with fail
    go_ret
    rw [HVK.out]
    exact ⟨rfl, HX.out⟩
  have hk : k = 0 ∨ k = 1 ∨ k = 2 ∨ k = 3 ∨ k = 4 ∨ k = 5 := by have := HK.out; omega
  clear HK
  rcases hk with rfl | rfl | rfl | rfl | rfl | rfl
  · -- shape 0
    have HVK : Hid (vb = (((nm == []) && (ot == []) && (tx == []) && (n == 0)))) := Lib.hid (by rw [HV.out, hfn]; rfl)
    clear HV
    by_cases hnm : nm = []
    · have Enm := Lib.hid hnm
      have tnm : nb.toList = [] := HN1.out.2 hnm
      clear hnm
      by_cases hot : ot = []
      · have Eot := Lib.hid hot
        have tot : ob.toList = [] := HN2.out.2 hot
        clear hot
        by_cases htx : tx = []
        · have Etx := Lib.hid htx
          have ttx : tb.toList = [] := HN3.out.2 htx
          clear htx
          by_cases hn : n = 0
          · subst hn
            have b0 := HBB.out.cell 0
            have b1 := HBB.out.cell 1
            have b2 := HBB.out.cell 2
            have b3 := HBB.out.cell 3
            have b4 := HBB.out.cell 4
            have bz := HBB.out.lt
            have f0 := HBF.out.cell 0
            have f1 := HBF.out.cell 1
            have p0 := HBP.out.cell 0
            have q0 := HBP.out.frozen 0
            have p1 := HBP.out.cell 1
            have q1 := HBP.out.frozen 1
            have p2 := HBP.out.cell 2
            have q2 := HBP.out.frozen 2
            have p3 := HBP.out.cell 3
            have q3 := HBP.out.frozen 3
            have p4 := HBP.out.cell 4
            have q4 := HBP.out.frozen 4
            have pz := HBP.out.lt
            go_wp2_with fail
            go_ret
            rw [HVK.out]
            refine ⟨?_, HX.out⟩
            simp [Enm.out, Eot.out, Etx.out]
          · have hn' := hn
            have b0 := HBB.out.cell 0
            have b1 := HBB.out.cell 1
            have b2 := HBB.out.cell 2
            have b3 := HBB.out.cell 3
            have b4 := HBB.out.cell 4
            have bz := HBB.out.lt
            have f0 := HBF.out.cell 0
            have f1 := HBF.out.cell 1
            have p0 := HBP.out.cell 0
            have q0 := HBP.out.frozen 0
            have p1 := HBP.out.cell 1
            have q1 := HBP.out.frozen 1
            have p2 := HBP.out.cell 2
            have q2 := HBP.out.frozen 2
            have p3 := HBP.out.cell 3
            have q3 := HBP.out.frozen 3
            have p4 := HBP.out.cell 4
            have q4 := HBP.out.frozen 4
            have pz := HBP.out.lt
            go_wp2_with fail
            go_ret
            rw [HVK.out]
            refine ⟨?_, HX.out⟩
            simp [hn']
        · have Etx := Lib.hid htx
          have ttx : ¬ tb.toList = [] := fun q => htx (HN3.out.1 q)
          clear htx
          have b0 := HBB.out.cell 0
          have b1 := HBB.out.cell 1
          have b2 := HBB.out.cell 2
          have b3 := HBB.out.cell 3
          have b4 := HBB.out.cell 4
          have bz := HBB.out.lt
          have f0 := HBF.out.cell 0
          have f1 := HBF.out.cell 1
          have p0 := HBP.out.cell 0
          have q0 := HBP.out.frozen 0
          have p1 := HBP.out.cell 1
          have q1 := HBP.out.frozen 1
          have p2 := HBP.out.cell 2
          have q2 := HBP.out.frozen 2
          have p3 := HBP.out.cell 3
          have q3 := HBP.out.frozen 3
          have p4 := HBP.out.cell 4
          have q4 := HBP.out.frozen 4
          have pz := HBP.out.lt
          go_wp2_with fail
          go_ret
          rw [HVK.out]
          refine ⟨?_, HX.out⟩
          simp [Etx.out]
      · have Eot := Lib.hid hot
        have tot : ¬ ob.toList = [] := fun q => hot (HN2.out.1 q)
        clear hot
        have b0 := HBB.out.cell 0
        have b1 := HBB.out.cell 1
        have b2 := HBB.out.cell 2
        have b3 := HBB.out.cell 3
        have b4 := HBB.out.cell 4
        have bz := HBB.out.lt
        have f0 := HBF.out.cell 0
        have f1 := HBF.out.cell 1
        have p0 := HBP.out.cell 0
        have q0 := HBP.out.frozen 0
        have p1 := HBP.out.cell 1
        have q1 := HBP.out.frozen 1
        have p2 := HBP.out.cell 2
        have q2 := HBP.out.frozen 2
        have p3 := HBP.out.cell 3
        have q3 := HBP.out.frozen 3
        have p4 := HBP.out.cell 4
        have q4 := HBP.out.frozen 4
        have pz := HBP.out.lt
        go_wp2_with fail
        go_ret
        rw [HVK.out]
        refine ⟨?_, HX.out⟩
        simp [Eot.out]
    · have Enm := Lib.hid hnm
      have tnm : ¬ nb.toList = [] := fun q => hnm (HN1.out.1 q)
      clear hnm
      have b0 := HBB.out.cell 0
      have b1 := HBB.out.cell 1
      have b2 := HBB.out.cell 2
      have b3 := HBB.out.cell 3
      have b4 := HBB.out.cell 4
      have bz := HBB.out.lt
      have f0 := HBF.out.cell 0
      have f1 := HBF.out.cell 1
      have p0 := HBP.out.cell 0
      have q0 := HBP.out.frozen 0
      have p1 := HBP.out.cell 1
      have q1 := HBP.out.frozen 1
      have p2 := HBP.out.cell 2
      have q2 := HBP.out.frozen 2
      have p3 := HBP.out.cell 3
      have q3 := HBP.out.frozen 3
      have p4 := HBP.out.cell 4
      have q4 := HBP.out.frozen 4
      have pz := HBP.out.lt
      go_wp2_with fail
      go_ret
      rw [HVK.out]
      refine ⟨?_, HX.out⟩
      simp [Enm.out]
  · -- shape 1
    have HVK : Hid (vb = ((wordB nm && (ot == []) && (tx == []) && (n == 0)))) := Lib.hid (by rw [HV.out, hfn]; rfl)
    clear HV
    have HBBn : Hid (Blk (w2.setCell ⟨gp, 1, none⟩ (Value.string nb)) gb 31 #[Value.int .i64 op, Value.string nb, Value.string ob, Value.string tb, Value.int .i64 n]) := Lib.hid (HBB.out.far n1 _)
    have HBFn : Hid (Blk (w2.setCell ⟨gp, 1, none⟩ (Value.string nb)) gf 61 #[str fn, Value.int .i64 1, Value.bool wr]) := Lib.hid (HBF.out.far n2 _)
    have HBPn : Hid (Blk (w2.setCell ⟨gp, 1, none⟩ (Value.string nb)) gp 31 #[Value.int .i64 op, Value.string nb, Value.string ⟨#[]⟩, Value.string ⟨#[]⟩, Value.int .i64 0]) := Lib.hid (by have := HBP.out.set_ 1 (Value.string nb); simpa using this)
    have HXn : Hid (Ext w (w2.setCell ⟨gp, 1, none⟩ (Value.string nb))) := Lib.hid (HX.out.setCell (p := ⟨gp, 1, none⟩) HNE.out (Value.string nb))
    cases hwn : wordB nm
    · rw [hwn] at HW1 HVK
      clear hwn HBBn HBFn HBPn
      have b0 := HBB.out.cell 0
      have b1 := HBB.out.cell 1
      have b2 := HBB.out.cell 2
      have b3 := HBB.out.cell 3
      have b4 := HBB.out.cell 4
      have bz := HBB.out.lt
      have f0 := HBF.out.cell 0
      have f1 := HBF.out.cell 1
      have p0 := HBP.out.cell 0
      have q0 := HBP.out.frozen 0
      have p1 := HBP.out.cell 1
      have q1 := HBP.out.frozen 1
      have p2 := HBP.out.cell 2
      have q2 := HBP.out.frozen 2
      have p3 := HBP.out.cell 3
      have q3 := HBP.out.frozen 3
      have p4 := HBP.out.cell 4
      have q4 := HBP.out.frozen 4
      have pz := HBP.out.lt
      go_wp2_with fail
      refine (HW1.out _).mono ?_
      rintro e w3 ⟨rfl, rfl⟩
      go_wp2_with fail
      go_ret
      rw [HVK.out]
      exact ⟨by simp, HXn.out⟩
    rw [hwn] at HW1 HVK
    clear hwn
    have b0 := HBB.out.cell 0
    have b1 := HBB.out.cell 1
    have b2 := HBB.out.cell 2
    have b3 := HBB.out.cell 3
    have b4 := HBB.out.cell 4
    have bz := HBB.out.lt
    have f0 := HBF.out.cell 0
    have f1 := HBF.out.cell 1
    have p0 := HBP.out.cell 0
    have q0 := HBP.out.frozen 0
    have p1 := HBP.out.cell 1
    have q1 := HBP.out.frozen 1
    have p2 := HBP.out.cell 2
    have q2 := HBP.out.frozen 2
    have p3 := HBP.out.cell 3
    have q3 := HBP.out.frozen 3
    have p4 := HBP.out.cell 4
    have q4 := HBP.out.frozen 4
    have pz := HBP.out.lt
    go_wp2_with fail
    refine (HW1.out _).mono ?_
    rintro e w3 ⟨rfl, rfl⟩
    generalize w2.setCell ⟨gp, 1, none⟩ (Value.string nb) = w3 at *
    clear b0 b1 b2 b3 b4 bz f0 f1 p0 p1 p2 p3 p4 q0 q1 q2 q3 q4 pz
    by_cases hot : ot = []
    · have Eot := Lib.hid hot
      have tot : ob.toList = [] := HN2.out.2 hot
      clear hot
      by_cases htx : tx = []
      · have Etx := Lib.hid htx
        have ttx : tb.toList = [] := HN3.out.2 htx
        clear htx
        by_cases hn : n = 0
        · subst hn
          have b0 := HBBn.out.cell 0
          have b1 := HBBn.out.cell 1
          have b2 := HBBn.out.cell 2
          have b3 := HBBn.out.cell 3
          have b4 := HBBn.out.cell 4
          have bz := HBBn.out.lt
          have f0 := HBFn.out.cell 0
          have f1 := HBFn.out.cell 1
          have p0 := HBPn.out.cell 0
          have q0 := HBPn.out.frozen 0
          have p1 := HBPn.out.cell 1
          have q1 := HBPn.out.frozen 1
          have p2 := HBPn.out.cell 2
          have q2 := HBPn.out.frozen 2
          have p3 := HBPn.out.cell 3
          have q3 := HBPn.out.frozen 3
          have p4 := HBPn.out.cell 4
          have q4 := HBPn.out.frozen 4
          have pz := HBPn.out.lt
          go_wp2_with fail
          go_ret
          rw [HVK.out]
          refine ⟨?_, HXn.out⟩
          simp [Eot.out, Etx.out]
        · have hn' := hn
          have b0 := HBBn.out.cell 0
          have b1 := HBBn.out.cell 1
          have b2 := HBBn.out.cell 2
          have b3 := HBBn.out.cell 3
          have b4 := HBBn.out.cell 4
          have bz := HBBn.out.lt
          have f0 := HBFn.out.cell 0
          have f1 := HBFn.out.cell 1
          have p0 := HBPn.out.cell 0
          have q0 := HBPn.out.frozen 0
          have p1 := HBPn.out.cell 1
          have q1 := HBPn.out.frozen 1
          have p2 := HBPn.out.cell 2
          have q2 := HBPn.out.frozen 2
          have p3 := HBPn.out.cell 3
          have q3 := HBPn.out.frozen 3
          have p4 := HBPn.out.cell 4
          have q4 := HBPn.out.frozen 4
          have pz := HBPn.out.lt
          go_wp2_with fail
          go_ret
          rw [HVK.out]
          refine ⟨?_, HXn.out⟩
          simp [hn']
      · have Etx := Lib.hid htx
        have ttx : ¬ tb.toList = [] := fun q => htx (HN3.out.1 q)
        clear htx
        have b0 := HBBn.out.cell 0
        have b1 := HBBn.out.cell 1
        have b2 := HBBn.out.cell 2
        have b3 := HBBn.out.cell 3
        have b4 := HBBn.out.cell 4
        have bz := HBBn.out.lt
        have f0 := HBFn.out.cell 0
        have f1 := HBFn.out.cell 1
        have p0 := HBPn.out.cell 0
        have q0 := HBPn.out.frozen 0
        have p1 := HBPn.out.cell 1
        have q1 := HBPn.out.frozen 1
        have p2 := HBPn.out.cell 2
        have q2 := HBPn.out.frozen 2
        have p3 := HBPn.out.cell 3
        have q3 := HBPn.out.frozen 3
        have p4 := HBPn.out.cell 4
        have q4 := HBPn.out.frozen 4
        have pz := HBPn.out.lt
        go_wp2_with fail
        go_ret
        rw [HVK.out]
        refine ⟨?_, HXn.out⟩
        simp [Etx.out]
    · have Eot := Lib.hid hot
      have tot : ¬ ob.toList = [] := fun q => hot (HN2.out.1 q)
      clear hot
      have b0 := HBBn.out.cell 0
      have b1 := HBBn.out.cell 1
      have b2 := HBBn.out.cell 2
      have b3 := HBBn.out.cell 3
      have b4 := HBBn.out.cell 4
      have bz := HBBn.out.lt
      have f0 := HBFn.out.cell 0
      have f1 := HBFn.out.cell 1
      have p0 := HBPn.out.cell 0
      have q0 := HBPn.out.frozen 0
      have p1 := HBPn.out.cell 1
      have q1 := HBPn.out.frozen 1
      have p2 := HBPn.out.cell 2
      have q2 := HBPn.out.frozen 2
      have p3 := HBPn.out.cell 3
      have q3 := HBPn.out.frozen 3
      have p4 := HBPn.out.cell 4
      have q4 := HBPn.out.frozen 4
      have pz := HBPn.out.lt
      go_wp2_with fail
      go_ret
      rw [HVK.out]
      refine ⟨?_, HXn.out⟩
      simp [Eot.out]
  · -- shape 2
    have HVK : Hid (vb = ((wordB nm && (ot == []) && (tx == []) && decide (0 ≤ n ∧ n ≤ 9999)))) := Lib.hid (by rw [HV.out, hfn]; rfl)
    clear HV
    have HBBn : Hid (Blk (w2.setCell ⟨gp, 1, none⟩ (Value.string nb)) gb 31 #[Value.int .i64 op, Value.string nb, Value.string ob, Value.string tb, Value.int .i64 n]) := Lib.hid (HBB.out.far n1 _)
    have HBFn : Hid (Blk (w2.setCell ⟨gp, 1, none⟩ (Value.string nb)) gf 61 #[str fn, Value.int .i64 2, Value.bool wr]) := Lib.hid (HBF.out.far n2 _)
    have HBPn : Hid (Blk (w2.setCell ⟨gp, 1, none⟩ (Value.string nb)) gp 31 #[Value.int .i64 op, Value.string nb, Value.string ⟨#[]⟩, Value.string ⟨#[]⟩, Value.int .i64 0]) := Lib.hid (by have := HBP.out.set_ 1 (Value.string nb); simpa using this)
    have HXn : Hid (Ext w (w2.setCell ⟨gp, 1, none⟩ (Value.string nb))) := Lib.hid (HX.out.setCell (p := ⟨gp, 1, none⟩) HNE.out (Value.string nb))
    cases hwn : wordB nm
    · rw [hwn] at HW1 HVK
      clear hwn HBBn HBFn HBPn
      have b0 := HBB.out.cell 0
      have b1 := HBB.out.cell 1
      have b2 := HBB.out.cell 2
      have b3 := HBB.out.cell 3
      have b4 := HBB.out.cell 4
      have bz := HBB.out.lt
      have f0 := HBF.out.cell 0
      have f1 := HBF.out.cell 1
      have p0 := HBP.out.cell 0
      have q0 := HBP.out.frozen 0
      have p1 := HBP.out.cell 1
      have q1 := HBP.out.frozen 1
      have p2 := HBP.out.cell 2
      have q2 := HBP.out.frozen 2
      have p3 := HBP.out.cell 3
      have q3 := HBP.out.frozen 3
      have p4 := HBP.out.cell 4
      have q4 := HBP.out.frozen 4
      have pz := HBP.out.lt
      go_wp2_with fail
      refine (HW1.out _).mono ?_
      rintro e w3 ⟨rfl, rfl⟩
      go_wp2_with fail
      go_ret
      rw [HVK.out]
      exact ⟨by simp, HXn.out⟩
    rw [hwn] at HW1 HVK
    clear hwn
    have b0 := HBB.out.cell 0
    have b1 := HBB.out.cell 1
    have b2 := HBB.out.cell 2
    have b3 := HBB.out.cell 3
    have b4 := HBB.out.cell 4
    have bz := HBB.out.lt
    have f0 := HBF.out.cell 0
    have f1 := HBF.out.cell 1
    have p0 := HBP.out.cell 0
    have q0 := HBP.out.frozen 0
    have p1 := HBP.out.cell 1
    have q1 := HBP.out.frozen 1
    have p2 := HBP.out.cell 2
    have q2 := HBP.out.frozen 2
    have p3 := HBP.out.cell 3
    have q3 := HBP.out.frozen 3
    have p4 := HBP.out.cell 4
    have q4 := HBP.out.frozen 4
    have pz := HBP.out.lt
    go_wp2_with fail
    refine (HW1.out _).mono ?_
    rintro e w3 ⟨rfl, rfl⟩
    generalize w2.setCell ⟨gp, 1, none⟩ (Value.string nb) = w3 at *
    clear b0 b1 b2 b3 b4 bz f0 f1 p0 p1 p2 p3 p4 q0 q1 q2 q3 q4 pz
    have HBBm : Hid (Blk (w3.setCell ⟨gp, 4, none⟩ (Value.int .i64 n)) gb 31 #[Value.int .i64 op, Value.string nb, Value.string ob, Value.string tb, Value.int .i64 n]) := Lib.hid (HBBn.out.far n1 _)
    have HBFm : Hid (Blk (w3.setCell ⟨gp, 4, none⟩ (Value.int .i64 n)) gf 61 #[str fn, Value.int .i64 2, Value.bool wr]) := Lib.hid (HBFn.out.far n2 _)
    have HBPm : Hid (Blk (w3.setCell ⟨gp, 4, none⟩ (Value.int .i64 n)) gp 31 #[Value.int .i64 op, Value.string nb, Value.string ⟨#[]⟩, Value.string ⟨#[]⟩, Value.int .i64 n]) := Lib.hid (by have := HBPn.out.set_ 4 (Value.int .i64 n); simpa using this)
    have HXm : Hid (Ext w (w3.setCell ⟨gp, 4, none⟩ (Value.int .i64 n))) := Lib.hid (HXn.out.setCell (p := ⟨gp, 4, none⟩) HNE.out (Value.int .i64 n))
    by_cases hr : 0 ≤ n ∧ n ≤ 9999
    · have r1 : ¬ n < 0 := by omega
      have r2 : ¬ 9999 < n := by omega
      rw [decide_eq_true hr] at HVK
      clear hr
      by_cases hot : ot = []
      · have Eot := Lib.hid hot
        have tot : ob.toList = [] := HN2.out.2 hot
        clear hot
        by_cases htx : tx = []
        · have Etx := Lib.hid htx
          have ttx : tb.toList = [] := HN3.out.2 htx
          clear htx
          have b0 := HBBn.out.cell 0
          have b1 := HBBn.out.cell 1
          have b2 := HBBn.out.cell 2
          have b3 := HBBn.out.cell 3
          have b4 := HBBn.out.cell 4
          have bz := HBBn.out.lt
          have f0 := HBFn.out.cell 0
          have f1 := HBFn.out.cell 1
          have p0 := HBPn.out.cell 0
          have q0 := HBPn.out.frozen 0
          have p1 := HBPn.out.cell 1
          have q1 := HBPn.out.frozen 1
          have p2 := HBPn.out.cell 2
          have q2 := HBPn.out.frozen 2
          have p3 := HBPn.out.cell 3
          have q3 := HBPn.out.frozen 3
          have p4 := HBPn.out.cell 4
          have q4 := HBPn.out.frozen 4
          have pz := HBPn.out.lt
          go_wp2_with fail
          go_ret
          rw [HVK.out]
          refine ⟨?_, HXm.out⟩
          simp [Eot.out, Etx.out]
        · have Etx := Lib.hid htx
          have ttx : ¬ tb.toList = [] := fun q => htx (HN3.out.1 q)
          clear htx
          have b0 := HBBn.out.cell 0
          have b1 := HBBn.out.cell 1
          have b2 := HBBn.out.cell 2
          have b3 := HBBn.out.cell 3
          have b4 := HBBn.out.cell 4
          have bz := HBBn.out.lt
          have f0 := HBFn.out.cell 0
          have f1 := HBFn.out.cell 1
          have p0 := HBPn.out.cell 0
          have q0 := HBPn.out.frozen 0
          have p1 := HBPn.out.cell 1
          have q1 := HBPn.out.frozen 1
          have p2 := HBPn.out.cell 2
          have q2 := HBPn.out.frozen 2
          have p3 := HBPn.out.cell 3
          have q3 := HBPn.out.frozen 3
          have p4 := HBPn.out.cell 4
          have q4 := HBPn.out.frozen 4
          have pz := HBPn.out.lt
          go_wp2_with fail
          go_ret
          rw [HVK.out]
          refine ⟨?_, HXm.out⟩
          simp [Etx.out]
      · have Eot := Lib.hid hot
        have tot : ¬ ob.toList = [] := fun q => hot (HN2.out.1 q)
        clear hot
        have b0 := HBBn.out.cell 0
        have b1 := HBBn.out.cell 1
        have b2 := HBBn.out.cell 2
        have b3 := HBBn.out.cell 3
        have b4 := HBBn.out.cell 4
        have bz := HBBn.out.lt
        have f0 := HBFn.out.cell 0
        have f1 := HBFn.out.cell 1
        have p0 := HBPn.out.cell 0
        have q0 := HBPn.out.frozen 0
        have p1 := HBPn.out.cell 1
        have q1 := HBPn.out.frozen 1
        have p2 := HBPn.out.cell 2
        have q2 := HBPn.out.frozen 2
        have p3 := HBPn.out.cell 3
        have q3 := HBPn.out.frozen 3
        have p4 := HBPn.out.cell 4
        have q4 := HBPn.out.frozen 4
        have pz := HBPn.out.lt
        go_wp2_with fail
        go_ret
        rw [HVK.out]
        refine ⟨?_, HXm.out⟩
        simp [Eot.out]
    · rw [decide_eq_false hr] at HVK
      have b0 := HBBn.out.cell 0
      have b1 := HBBn.out.cell 1
      have b2 := HBBn.out.cell 2
      have b3 := HBBn.out.cell 3
      have b4 := HBBn.out.cell 4
      have bz := HBBn.out.lt
      have f0 := HBFn.out.cell 0
      have f1 := HBFn.out.cell 1
      have p0 := HBPn.out.cell 0
      have q0 := HBPn.out.frozen 0
      have p1 := HBPn.out.cell 1
      have q1 := HBPn.out.frozen 1
      have p2 := HBPn.out.cell 2
      have q2 := HBPn.out.frozen 2
      have p3 := HBPn.out.cell 3
      have q3 := HBPn.out.frozen 3
      have p4 := HBPn.out.cell 4
      have q4 := HBPn.out.frozen 4
      have pz := HBPn.out.lt
      by_cases r1 : n < 0
      · clear hr
        go_wp2_with fail
        go_ret
        rw [HVK.out]
        exact ⟨by simp, HXm.out⟩
      · have r2 : 9999 < n := by omega
        clear hr
        go_wp2_with fail
        go_ret
        rw [HVK.out]
        exact ⟨by simp, HXm.out⟩
  · -- shape 3
    have HVK : Hid (vb = ((wordB nm && wordB ot && (tx == []) && (n == 0)))) := Lib.hid (by rw [HV.out, hfn]; rfl)
    clear HV
    have HBBn : Hid (Blk (w2.setCell ⟨gp, 1, none⟩ (Value.string nb)) gb 31 #[Value.int .i64 op, Value.string nb, Value.string ob, Value.string tb, Value.int .i64 n]) := Lib.hid (HBB.out.far n1 _)
    have HBFn : Hid (Blk (w2.setCell ⟨gp, 1, none⟩ (Value.string nb)) gf 61 #[str fn, Value.int .i64 3, Value.bool wr]) := Lib.hid (HBF.out.far n2 _)
    have HBPn : Hid (Blk (w2.setCell ⟨gp, 1, none⟩ (Value.string nb)) gp 31 #[Value.int .i64 op, Value.string nb, Value.string ⟨#[]⟩, Value.string ⟨#[]⟩, Value.int .i64 0]) := Lib.hid (by have := HBP.out.set_ 1 (Value.string nb); simpa using this)
    have HXn : Hid (Ext w (w2.setCell ⟨gp, 1, none⟩ (Value.string nb))) := Lib.hid (HX.out.setCell (p := ⟨gp, 1, none⟩) HNE.out (Value.string nb))
    cases hwn : wordB nm
    · rw [hwn] at HW1 HVK
      clear hwn HBBn HBFn HBPn
      have b0 := HBB.out.cell 0
      have b1 := HBB.out.cell 1
      have b2 := HBB.out.cell 2
      have b3 := HBB.out.cell 3
      have b4 := HBB.out.cell 4
      have bz := HBB.out.lt
      have f0 := HBF.out.cell 0
      have f1 := HBF.out.cell 1
      have p0 := HBP.out.cell 0
      have q0 := HBP.out.frozen 0
      have p1 := HBP.out.cell 1
      have q1 := HBP.out.frozen 1
      have p2 := HBP.out.cell 2
      have q2 := HBP.out.frozen 2
      have p3 := HBP.out.cell 3
      have q3 := HBP.out.frozen 3
      have p4 := HBP.out.cell 4
      have q4 := HBP.out.frozen 4
      have pz := HBP.out.lt
      go_wp2_with fail
      refine (HW1.out _).mono ?_
      rintro e w3 ⟨rfl, rfl⟩
      go_wp2_with fail
      go_ret
      rw [HVK.out]
      exact ⟨by simp, HXn.out⟩
    rw [hwn] at HW1 HVK
    clear hwn
    have b0 := HBB.out.cell 0
    have b1 := HBB.out.cell 1
    have b2 := HBB.out.cell 2
    have b3 := HBB.out.cell 3
    have b4 := HBB.out.cell 4
    have bz := HBB.out.lt
    have f0 := HBF.out.cell 0
    have f1 := HBF.out.cell 1
    have p0 := HBP.out.cell 0
    have q0 := HBP.out.frozen 0
    have p1 := HBP.out.cell 1
    have q1 := HBP.out.frozen 1
    have p2 := HBP.out.cell 2
    have q2 := HBP.out.frozen 2
    have p3 := HBP.out.cell 3
    have q3 := HBP.out.frozen 3
    have p4 := HBP.out.cell 4
    have q4 := HBP.out.frozen 4
    have pz := HBP.out.lt
    go_wp2_with fail
    refine (HW1.out _).mono ?_
    rintro e w3 ⟨rfl, rfl⟩
    generalize w2.setCell ⟨gp, 1, none⟩ (Value.string nb) = w3 at *
    clear b0 b1 b2 b3 b4 bz f0 f1 p0 p1 p2 p3 p4 q0 q1 q2 q3 q4 pz
    have HBBo : Hid (Blk (w3.setCell ⟨gp, 2, none⟩ (Value.string ob)) gb 31 #[Value.int .i64 op, Value.string nb, Value.string ob, Value.string tb, Value.int .i64 n]) := Lib.hid (HBBn.out.far n1 _)
    have HBFo : Hid (Blk (w3.setCell ⟨gp, 2, none⟩ (Value.string ob)) gf 61 #[str fn, Value.int .i64 3, Value.bool wr]) := Lib.hid (HBFn.out.far n2 _)
    have HBPo : Hid (Blk (w3.setCell ⟨gp, 2, none⟩ (Value.string ob)) gp 31 #[Value.int .i64 op, Value.string nb, Value.string ob, Value.string ⟨#[]⟩, Value.int .i64 0]) := Lib.hid (by have := HBPn.out.set_ 2 (Value.string ob); simpa using this)
    have HXo : Hid (Ext w (w3.setCell ⟨gp, 2, none⟩ (Value.string ob))) := Lib.hid (HXn.out.setCell (p := ⟨gp, 2, none⟩) HNE.out (Value.string ob))
    cases hwo : wordB ot
    · rw [hwo] at HW2 HVK
      clear hwo HBBo HBFo HBPo
      have b0 := HBBn.out.cell 0
      have b1 := HBBn.out.cell 1
      have b2 := HBBn.out.cell 2
      have b3 := HBBn.out.cell 3
      have b4 := HBBn.out.cell 4
      have bz := HBBn.out.lt
      have f0 := HBFn.out.cell 0
      have f1 := HBFn.out.cell 1
      have p0 := HBPn.out.cell 0
      have q0 := HBPn.out.frozen 0
      have p1 := HBPn.out.cell 1
      have q1 := HBPn.out.frozen 1
      have p2 := HBPn.out.cell 2
      have q2 := HBPn.out.frozen 2
      have p3 := HBPn.out.cell 3
      have q3 := HBPn.out.frozen 3
      have p4 := HBPn.out.cell 4
      have q4 := HBPn.out.frozen 4
      have pz := HBPn.out.lt
      go_wp2_with fail
      refine (HW2.out _).mono ?_
      rintro e w4 ⟨rfl, rfl⟩
      go_wp2_with fail
      go_ret
      rw [HVK.out]
      exact ⟨by simp, HXo.out⟩
    rw [hwo] at HW2 HVK
    clear hwo
    have b0 := HBBn.out.cell 0
    have b1 := HBBn.out.cell 1
    have b2 := HBBn.out.cell 2
    have b3 := HBBn.out.cell 3
    have b4 := HBBn.out.cell 4
    have bz := HBBn.out.lt
    have f0 := HBFn.out.cell 0
    have f1 := HBFn.out.cell 1
    have p0 := HBPn.out.cell 0
    have q0 := HBPn.out.frozen 0
    have p1 := HBPn.out.cell 1
    have q1 := HBPn.out.frozen 1
    have p2 := HBPn.out.cell 2
    have q2 := HBPn.out.frozen 2
    have p3 := HBPn.out.cell 3
    have q3 := HBPn.out.frozen 3
    have p4 := HBPn.out.cell 4
    have q4 := HBPn.out.frozen 4
    have pz := HBPn.out.lt
    go_wp2_with fail
    refine (HW2.out _).mono ?_
    rintro e w4 ⟨rfl, rfl⟩
    generalize w3.setCell ⟨gp, 2, none⟩ (Value.string ob) = w4 at *
    clear b0 b1 b2 b3 b4 bz f0 f1 p0 p1 p2 p3 p4 q0 q1 q2 q3 q4 pz
    by_cases htx : tx = []
    · have Etx := Lib.hid htx
      have ttx : tb.toList = [] := HN3.out.2 htx
      clear htx
      by_cases hn : n = 0
      · subst hn
        have b0 := HBBo.out.cell 0
        have b1 := HBBo.out.cell 1
        have b2 := HBBo.out.cell 2
        have b3 := HBBo.out.cell 3
        have b4 := HBBo.out.cell 4
        have bz := HBBo.out.lt
        have f0 := HBFo.out.cell 0
        have f1 := HBFo.out.cell 1
        have p0 := HBPo.out.cell 0
        have q0 := HBPo.out.frozen 0
        have p1 := HBPo.out.cell 1
        have q1 := HBPo.out.frozen 1
        have p2 := HBPo.out.cell 2
        have q2 := HBPo.out.frozen 2
        have p3 := HBPo.out.cell 3
        have q3 := HBPo.out.frozen 3
        have p4 := HBPo.out.cell 4
        have q4 := HBPo.out.frozen 4
        have pz := HBPo.out.lt
        go_wp2_with fail
        go_ret
        rw [HVK.out]
        refine ⟨?_, HXo.out⟩
        simp [Etx.out]
      · have hn' := hn
        have b0 := HBBo.out.cell 0
        have b1 := HBBo.out.cell 1
        have b2 := HBBo.out.cell 2
        have b3 := HBBo.out.cell 3
        have b4 := HBBo.out.cell 4
        have bz := HBBo.out.lt
        have f0 := HBFo.out.cell 0
        have f1 := HBFo.out.cell 1
        have p0 := HBPo.out.cell 0
        have q0 := HBPo.out.frozen 0
        have p1 := HBPo.out.cell 1
        have q1 := HBPo.out.frozen 1
        have p2 := HBPo.out.cell 2
        have q2 := HBPo.out.frozen 2
        have p3 := HBPo.out.cell 3
        have q3 := HBPo.out.frozen 3
        have p4 := HBPo.out.cell 4
        have q4 := HBPo.out.frozen 4
        have pz := HBPo.out.lt
        go_wp2_with fail
        go_ret
        rw [HVK.out]
        refine ⟨?_, HXo.out⟩
        simp [hn']
    · have Etx := Lib.hid htx
      have ttx : ¬ tb.toList = [] := fun q => htx (HN3.out.1 q)
      clear htx
      have b0 := HBBo.out.cell 0
      have b1 := HBBo.out.cell 1
      have b2 := HBBo.out.cell 2
      have b3 := HBBo.out.cell 3
      have b4 := HBBo.out.cell 4
      have bz := HBBo.out.lt
      have f0 := HBFo.out.cell 0
      have f1 := HBFo.out.cell 1
      have p0 := HBPo.out.cell 0
      have q0 := HBPo.out.frozen 0
      have p1 := HBPo.out.cell 1
      have q1 := HBPo.out.frozen 1
      have p2 := HBPo.out.cell 2
      have q2 := HBPo.out.frozen 2
      have p3 := HBPo.out.cell 3
      have q3 := HBPo.out.frozen 3
      have p4 := HBPo.out.cell 4
      have q4 := HBPo.out.frozen 4
      have pz := HBPo.out.lt
      go_wp2_with fail
      go_ret
      rw [HVK.out]
      refine ⟨?_, HXo.out⟩
      simp [Etx.out]
  · -- shape 4
    have HVK : Hid (vb = (((nm == []) && (ot == []) && (tx == []) && decide (0 ≤ n ∧ n ≤ 9999)))) := Lib.hid (by rw [HV.out, hfn]; rfl)
    clear HV
    have HBBm : Hid (Blk (w2.setCell ⟨gp, 4, none⟩ (Value.int .i64 n)) gb 31 #[Value.int .i64 op, Value.string nb, Value.string ob, Value.string tb, Value.int .i64 n]) := Lib.hid (HBB.out.far n1 _)
    have HBFm : Hid (Blk (w2.setCell ⟨gp, 4, none⟩ (Value.int .i64 n)) gf 61 #[str fn, Value.int .i64 4, Value.bool wr]) := Lib.hid (HBF.out.far n2 _)
    have HBPm : Hid (Blk (w2.setCell ⟨gp, 4, none⟩ (Value.int .i64 n)) gp 31 #[Value.int .i64 op, Value.string ⟨#[]⟩, Value.string ⟨#[]⟩, Value.string ⟨#[]⟩, Value.int .i64 n]) := Lib.hid (by have := HBP.out.set_ 4 (Value.int .i64 n); simpa using this)
    have HXm : Hid (Ext w (w2.setCell ⟨gp, 4, none⟩ (Value.int .i64 n))) := Lib.hid (HX.out.setCell (p := ⟨gp, 4, none⟩) HNE.out (Value.int .i64 n))
    by_cases hr : 0 ≤ n ∧ n ≤ 9999
    · have r1 : ¬ n < 0 := by omega
      have r2 : ¬ 9999 < n := by omega
      rw [decide_eq_true hr] at HVK
      clear hr
      by_cases hnm : nm = []
      · have Enm := Lib.hid hnm
        have tnm : nb.toList = [] := HN1.out.2 hnm
        clear hnm
        by_cases hot : ot = []
        · have Eot := Lib.hid hot
          have tot : ob.toList = [] := HN2.out.2 hot
          clear hot
          by_cases htx : tx = []
          · have Etx := Lib.hid htx
            have ttx : tb.toList = [] := HN3.out.2 htx
            clear htx
            have b0 := HBB.out.cell 0
            have b1 := HBB.out.cell 1
            have b2 := HBB.out.cell 2
            have b3 := HBB.out.cell 3
            have b4 := HBB.out.cell 4
            have bz := HBB.out.lt
            have f0 := HBF.out.cell 0
            have f1 := HBF.out.cell 1
            have p0 := HBP.out.cell 0
            have q0 := HBP.out.frozen 0
            have p1 := HBP.out.cell 1
            have q1 := HBP.out.frozen 1
            have p2 := HBP.out.cell 2
            have q2 := HBP.out.frozen 2
            have p3 := HBP.out.cell 3
            have q3 := HBP.out.frozen 3
            have p4 := HBP.out.cell 4
            have q4 := HBP.out.frozen 4
            have pz := HBP.out.lt
            go_wp2_with fail
            go_ret
            rw [HVK.out]
            refine ⟨?_, HXm.out⟩
            simp [Enm.out, Eot.out, Etx.out]
          · have Etx := Lib.hid htx
            have ttx : ¬ tb.toList = [] := fun q => htx (HN3.out.1 q)
            clear htx
            have b0 := HBB.out.cell 0
            have b1 := HBB.out.cell 1
            have b2 := HBB.out.cell 2
            have b3 := HBB.out.cell 3
            have b4 := HBB.out.cell 4
            have bz := HBB.out.lt
            have f0 := HBF.out.cell 0
            have f1 := HBF.out.cell 1
            have p0 := HBP.out.cell 0
            have q0 := HBP.out.frozen 0
            have p1 := HBP.out.cell 1
            have q1 := HBP.out.frozen 1
            have p2 := HBP.out.cell 2
            have q2 := HBP.out.frozen 2
            have p3 := HBP.out.cell 3
            have q3 := HBP.out.frozen 3
            have p4 := HBP.out.cell 4
            have q4 := HBP.out.frozen 4
            have pz := HBP.out.lt
            go_wp2_with fail
            go_ret
            rw [HVK.out]
            refine ⟨?_, HXm.out⟩
            simp [Etx.out]
        · have Eot := Lib.hid hot
          have tot : ¬ ob.toList = [] := fun q => hot (HN2.out.1 q)
          clear hot
          have b0 := HBB.out.cell 0
          have b1 := HBB.out.cell 1
          have b2 := HBB.out.cell 2
          have b3 := HBB.out.cell 3
          have b4 := HBB.out.cell 4
          have bz := HBB.out.lt
          have f0 := HBF.out.cell 0
          have f1 := HBF.out.cell 1
          have p0 := HBP.out.cell 0
          have q0 := HBP.out.frozen 0
          have p1 := HBP.out.cell 1
          have q1 := HBP.out.frozen 1
          have p2 := HBP.out.cell 2
          have q2 := HBP.out.frozen 2
          have p3 := HBP.out.cell 3
          have q3 := HBP.out.frozen 3
          have p4 := HBP.out.cell 4
          have q4 := HBP.out.frozen 4
          have pz := HBP.out.lt
          go_wp2_with fail
          go_ret
          rw [HVK.out]
          refine ⟨?_, HXm.out⟩
          simp [Eot.out]
      · have Enm := Lib.hid hnm
        have tnm : ¬ nb.toList = [] := fun q => hnm (HN1.out.1 q)
        clear hnm
        have b0 := HBB.out.cell 0
        have b1 := HBB.out.cell 1
        have b2 := HBB.out.cell 2
        have b3 := HBB.out.cell 3
        have b4 := HBB.out.cell 4
        have bz := HBB.out.lt
        have f0 := HBF.out.cell 0
        have f1 := HBF.out.cell 1
        have p0 := HBP.out.cell 0
        have q0 := HBP.out.frozen 0
        have p1 := HBP.out.cell 1
        have q1 := HBP.out.frozen 1
        have p2 := HBP.out.cell 2
        have q2 := HBP.out.frozen 2
        have p3 := HBP.out.cell 3
        have q3 := HBP.out.frozen 3
        have p4 := HBP.out.cell 4
        have q4 := HBP.out.frozen 4
        have pz := HBP.out.lt
        go_wp2_with fail
        go_ret
        rw [HVK.out]
        refine ⟨?_, HXm.out⟩
        simp [Enm.out]
    · rw [decide_eq_false hr] at HVK
      have b0 := HBB.out.cell 0
      have b1 := HBB.out.cell 1
      have b2 := HBB.out.cell 2
      have b3 := HBB.out.cell 3
      have b4 := HBB.out.cell 4
      have bz := HBB.out.lt
      have f0 := HBF.out.cell 0
      have f1 := HBF.out.cell 1
      have p0 := HBP.out.cell 0
      have q0 := HBP.out.frozen 0
      have p1 := HBP.out.cell 1
      have q1 := HBP.out.frozen 1
      have p2 := HBP.out.cell 2
      have q2 := HBP.out.frozen 2
      have p3 := HBP.out.cell 3
      have q3 := HBP.out.frozen 3
      have p4 := HBP.out.cell 4
      have q4 := HBP.out.frozen 4
      have pz := HBP.out.lt
      by_cases r1 : n < 0
      · clear hr
        go_wp2_with fail
        go_ret
        rw [HVK.out]
        exact ⟨by simp, HXm.out⟩
      · have r2 : 9999 < n := by omega
        clear hr
        go_wp2_with fail
        go_ret
        rw [HVK.out]
        exact ⟨by simp, HXm.out⟩
  · -- shape 5
    have HVK : Hid (vb = ((wordB nm && (ot == []) && textB tx && (n == 0)))) := Lib.hid (by rw [HV.out, hfn]; rfl)
    clear HV
    have HBBn : Hid (Blk (w2.setCell ⟨gp, 1, none⟩ (Value.string nb)) gb 31 #[Value.int .i64 op, Value.string nb, Value.string ob, Value.string tb, Value.int .i64 n]) := Lib.hid (HBB.out.far n1 _)
    have HBFn : Hid (Blk (w2.setCell ⟨gp, 1, none⟩ (Value.string nb)) gf 61 #[str fn, Value.int .i64 5, Value.bool wr]) := Lib.hid (HBF.out.far n2 _)
    have HBPn : Hid (Blk (w2.setCell ⟨gp, 1, none⟩ (Value.string nb)) gp 31 #[Value.int .i64 op, Value.string nb, Value.string ⟨#[]⟩, Value.string ⟨#[]⟩, Value.int .i64 0]) := Lib.hid (by have := HBP.out.set_ 1 (Value.string nb); simpa using this)
    have HXn : Hid (Ext w (w2.setCell ⟨gp, 1, none⟩ (Value.string nb))) := Lib.hid (HX.out.setCell (p := ⟨gp, 1, none⟩) HNE.out (Value.string nb))
    cases hwn : wordB nm
    · rw [hwn] at HW1 HVK
      clear hwn HBBn HBFn HBPn
      have b0 := HBB.out.cell 0
      have b1 := HBB.out.cell 1
      have b2 := HBB.out.cell 2
      have b3 := HBB.out.cell 3
      have b4 := HBB.out.cell 4
      have bz := HBB.out.lt
      have f0 := HBF.out.cell 0
      have f1 := HBF.out.cell 1
      have p0 := HBP.out.cell 0
      have q0 := HBP.out.frozen 0
      have p1 := HBP.out.cell 1
      have q1 := HBP.out.frozen 1
      have p2 := HBP.out.cell 2
      have q2 := HBP.out.frozen 2
      have p3 := HBP.out.cell 3
      have q3 := HBP.out.frozen 3
      have p4 := HBP.out.cell 4
      have q4 := HBP.out.frozen 4
      have pz := HBP.out.lt
      go_wp2_with fail
      refine (HW1.out _).mono ?_
      rintro e w3 ⟨rfl, rfl⟩
      go_wp2_with fail
      go_ret
      rw [HVK.out]
      exact ⟨by simp, HXn.out⟩
    rw [hwn] at HW1 HVK
    clear hwn
    have b0 := HBB.out.cell 0
    have b1 := HBB.out.cell 1
    have b2 := HBB.out.cell 2
    have b3 := HBB.out.cell 3
    have b4 := HBB.out.cell 4
    have bz := HBB.out.lt
    have f0 := HBF.out.cell 0
    have f1 := HBF.out.cell 1
    have p0 := HBP.out.cell 0
    have q0 := HBP.out.frozen 0
    have p1 := HBP.out.cell 1
    have q1 := HBP.out.frozen 1
    have p2 := HBP.out.cell 2
    have q2 := HBP.out.frozen 2
    have p3 := HBP.out.cell 3
    have q3 := HBP.out.frozen 3
    have p4 := HBP.out.cell 4
    have q4 := HBP.out.frozen 4
    have pz := HBP.out.lt
    go_wp2_with fail
    refine (HW1.out _).mono ?_
    rintro e w3 ⟨rfl, rfl⟩
    generalize w2.setCell ⟨gp, 1, none⟩ (Value.string nb) = w3 at *
    clear b0 b1 b2 b3 b4 bz f0 f1 p0 p1 p2 p3 p4 q0 q1 q2 q3 q4 pz
    have HBBt : Hid (Blk (w3.setCell ⟨gp, 3, none⟩ (Value.string tb)) gb 31 #[Value.int .i64 op, Value.string nb, Value.string ob, Value.string tb, Value.int .i64 n]) := Lib.hid (HBBn.out.far n1 _)
    have HBFt : Hid (Blk (w3.setCell ⟨gp, 3, none⟩ (Value.string tb)) gf 61 #[str fn, Value.int .i64 5, Value.bool wr]) := Lib.hid (HBFn.out.far n2 _)
    have HBPt : Hid (Blk (w3.setCell ⟨gp, 3, none⟩ (Value.string tb)) gp 31 #[Value.int .i64 op, Value.string nb, Value.string ⟨#[]⟩, Value.string tb, Value.int .i64 0]) := Lib.hid (by have := HBPn.out.set_ 3 (Value.string tb); simpa using this)
    have HXt : Hid (Ext w (w3.setCell ⟨gp, 3, none⟩ (Value.string tb))) := Lib.hid (HXn.out.setCell (p := ⟨gp, 3, none⟩) HNE.out (Value.string tb))
    have b0 := HBBn.out.cell 0
    have b1 := HBBn.out.cell 1
    have b2 := HBBn.out.cell 2
    have b3 := HBBn.out.cell 3
    have b4 := HBBn.out.cell 4
    have bz := HBBn.out.lt
    have f0 := HBFn.out.cell 0
    have f1 := HBFn.out.cell 1
    have p0 := HBPn.out.cell 0
    have q0 := HBPn.out.frozen 0
    have p1 := HBPn.out.cell 1
    have q1 := HBPn.out.frozen 1
    have p2 := HBPn.out.cell 2
    have q2 := HBPn.out.frozen 2
    have p3 := HBPn.out.cell 3
    have q3 := HBPn.out.frozen 3
    have p4 := HBPn.out.cell 4
    have q4 := HBPn.out.frozen 4
    have pz := HBPn.out.lt
    go_wp2_with fail
    refine (HW3.out _).mono ?_
    rintro e w4 ⟨rfl, hx4⟩
    generalize w3.setCell ⟨gp, 3, none⟩ (Value.string tb) = w3' at *
    clear b0 b1 b2 b3 b4 bz f0 f1 p0 p1 p2 p3 p4 q0 q1 q2 q3 q4 pz
    have HBBu := Lib.hid (HBBt.out.ext hx4)
    have HBFu := Lib.hid (HBFt.out.ext hx4)
    have HBPu := Lib.hid (HBPt.out.ext hx4)
    have HXu := Lib.hid (HXt.out.trans hx4)
    clear hx4
    cases hwt : textB tx
    · rw [hwt] at HVK
      clear hwt
      go_wp2_with fail
      go_ret
      rw [HVK.out]
      exact ⟨by simp, HXu.out⟩
    rw [hwt] at HVK
    clear hwt
    by_cases hot : ot = []
    · have Eot := Lib.hid hot
      have tot : ob.toList = [] := HN2.out.2 hot
      clear hot
      by_cases hn : n = 0
      · subst hn
        have b0 := HBBu.out.cell 0
        have b1 := HBBu.out.cell 1
        have b2 := HBBu.out.cell 2
        have b3 := HBBu.out.cell 3
        have b4 := HBBu.out.cell 4
        have bz := HBBu.out.lt
        have f0 := HBFu.out.cell 0
        have f1 := HBFu.out.cell 1
        have p0 := HBPu.out.cell 0
        have q0 := HBPu.out.frozen 0
        have p1 := HBPu.out.cell 1
        have q1 := HBPu.out.frozen 1
        have p2 := HBPu.out.cell 2
        have q2 := HBPu.out.frozen 2
        have p3 := HBPu.out.cell 3
        have q3 := HBPu.out.frozen 3
        have p4 := HBPu.out.cell 4
        have q4 := HBPu.out.frozen 4
        have pz := HBPu.out.lt
        go_wp2_with fail
        go_ret
        rw [HVK.out]
        refine ⟨?_, HXu.out⟩
        simp [Eot.out]
      · have hn' := hn
        have b0 := HBBu.out.cell 0
        have b1 := HBBu.out.cell 1
        have b2 := HBBu.out.cell 2
        have b3 := HBBu.out.cell 3
        have b4 := HBBu.out.cell 4
        have bz := HBBu.out.lt
        have f0 := HBFu.out.cell 0
        have f1 := HBFu.out.cell 1
        have p0 := HBPu.out.cell 0
        have q0 := HBPu.out.frozen 0
        have p1 := HBPu.out.cell 1
        have q1 := HBPu.out.frozen 1
        have p2 := HBPu.out.cell 2
        have q2 := HBPu.out.frozen 2
        have p3 := HBPu.out.cell 3
        have q3 := HBPu.out.frozen 3
        have p4 := HBPu.out.cell 4
        have q4 := HBPu.out.frozen 4
        have pz := HBPu.out.lt
        go_wp2_with fail
        go_ret
        rw [HVK.out]
        refine ⟨?_, HXu.out⟩
        simp [hn']
    · have Eot := Lib.hid hot
      have tot : ¬ ob.toList = [] := fun q => hot (HN2.out.1 q)
      clear hot
      have b0 := HBBu.out.cell 0
      have b1 := HBBu.out.cell 1
      have b2 := HBBu.out.cell 2
      have b3 := HBBu.out.cell 3
      have b4 := HBBu.out.cell 4
      have bz := HBBu.out.lt
      have f0 := HBFu.out.cell 0
      have f1 := HBFu.out.cell 1
      have p0 := HBPu.out.cell 0
      have q0 := HBPu.out.frozen 0
      have p1 := HBPu.out.cell 1
      have q1 := HBPu.out.frozen 1
      have p2 := HBPu.out.cell 2
      have q2 := HBPu.out.frozen 2
      have p3 := HBPu.out.cell 3
      have q3 := HBPu.out.frozen 3
      have p4 := HBPu.out.cell 4
      have q4 := HBPu.out.frozen 4
      have pz := HBPu.out.lt
      go_wp2_with fail
      go_ret
      rw [HVK.out]
      refine ⟨?_, HXu.out⟩
      simp [Eot.out]
end Big
end Go.Proofs.YtoehdoghghpmjaaGreatDoor
/- Words for a region that draws its order: what its loads read stays behind calls that make memory, and behind the store of its result. Printed by a program. -/
namespace Go.Proofs.YtoehdoghghpmjaaGreatDoor
namespace Big
open Go.RowKit
/-- What a cell holds, whatever that is. -/
@[irreducible] def was (w : World) (g o : Nat) : Value := (w.cell? ⟨g, o, none⟩).getD undef
theorem was_some {w : World} {g o : Nat} {u : Value} (h : w.cell? ⟨g, o, none⟩ = some u) : w.cell? ⟨g, o, none⟩ = some (was w g o) := by
  unfold was; rw [h]; rfl
theorem Ext.keepf {w w' : World} {b o : Nat} {u : Value} (hx : Ext w w') (h : w.cell? ⟨b, o, none⟩ = some u) (hf : w.frozen? ⟨b, o, none⟩ = false) : w'.frozen? ⟨b, o, none⟩ = false := (hx.frozen (World.block_lt_of_cell? w _ h)).trans hf
theorem set_far {w : World} {g i b o : Nat} {u v : Value} (h : w.cell? ⟨b, o, none⟩ = some v) (hne : b ≠ g) : (w.setCell ⟨g, i, none⟩ u).cell? ⟨b, o, none⟩ = some v :=
  (World.cell?_setCell_other w _ _ u (fun e => hne (by injection e with e1 _ _; exact e1.symm))).trans h
theorem set_was {w : World} {g i b o : Nat} {u v : Value} (h : w.cell? ⟨b, o, none⟩ = some v) : ∃ v', (w.setCell ⟨g, i, none⟩ u).cell? ⟨b, o, none⟩ = some v' := by
  obtain ⟨v', hv⟩ := cell?_setCell_some (w := w) (p := ⟨g, i, none⟩) (x := u) (q := ⟨b, o, none⟩) (v := v) h
  exact ⟨v', hv⟩
theorem set_fz {w : World} {g i b o : Nat} {u : Value} (hf : w.frozen? ⟨b, o, none⟩ = false) : (w.setCell ⟨g, i, none⟩ u).frozen? ⟨b, o, none⟩ = false := by
  rw [World.frozen?_setCell]; exact hf

theorem keptS0_2 {w w1 w2 : World} {g  : Nat} (h : Ext w w1 ∧ w1.cell? ⟨g, 0, none⟩ = some (was w1 g 0) ∧ w1.cell? ⟨g, 1, none⟩ = some (was w1 g 1) ∧ w1.frozen? ⟨g, 0, none⟩ = false ∧ w1.frozen? ⟨g, 1, none⟩ = false) (hx : Ext w1 w2) : Ext w w2 ∧ w2.cell? ⟨g, 0, none⟩ = some (was w2 g 0) ∧ w2.cell? ⟨g, 1, none⟩ = some (was w2 g 1) ∧ w2.frozen? ⟨g, 0, none⟩ = false ∧ w2.frozen? ⟨g, 1, none⟩ = false :=
  ⟨h.1.trans hx, was_some (hx.keep h.2.1), was_some (hx.keep h.2.2.1), hx.keepf h.2.1 h.2.2.2.1, hx.keepf h.2.2.1 h.2.2.2.2⟩
theorem keptS0_2_set {w w1 : World} {g  : Nat} {x0 x1 : Value} (h : Ext w w1 ∧ w1.cell? ⟨g, 0, none⟩ = some (was w1 g 0) ∧ w1.cell? ⟨g, 1, none⟩ = some (was w1 g 1) ∧ w1.frozen? ⟨g, 0, none⟩ = false ∧ w1.frozen? ⟨g, 1, none⟩ = false) (hg : w.heap.size ≤ g)  : Ext w ((w1.setCell ⟨g, 0, none⟩ x0).setCell ⟨g, 1, none⟩ x1) ∧ ((w1.setCell ⟨g, 0, none⟩ x0).setCell ⟨g, 1, none⟩ x1).cell? ⟨g, 0, none⟩ = some (was ((w1.setCell ⟨g, 0, none⟩ x0).setCell ⟨g, 1, none⟩ x1) g 0) ∧ ((w1.setCell ⟨g, 0, none⟩ x0).setCell ⟨g, 1, none⟩ x1).cell? ⟨g, 1, none⟩ = some (was ((w1.setCell ⟨g, 0, none⟩ x0).setCell ⟨g, 1, none⟩ x1) g 1) ∧ ((w1.setCell ⟨g, 0, none⟩ x0).setCell ⟨g, 1, none⟩ x1).frozen? ⟨g, 0, none⟩ = false ∧ ((w1.setCell ⟨g, 0, none⟩ x0).setCell ⟨g, 1, none⟩ x1).frozen? ⟨g, 1, none⟩ = false := by
  obtain ⟨_, k0⟩ := set_was (g := g) (i := 0) (u := x0) h.2.1
  obtain ⟨_, k0⟩ := set_was (g := g) (i := 1) (u := x1) k0
  obtain ⟨_, k1⟩ := set_was (g := g) (i := 0) (u := x0) h.2.2.1
  obtain ⟨_, k1⟩ := set_was (g := g) (i := 1) (u := x1) k1
  exact ⟨((h.1.setCell hg _).setCell hg _), was_some k0, was_some k1, (set_fz (set_fz h.2.2.2.1)), (set_fz (set_fz h.2.2.2.2))⟩
theorem keptS1_2 {w w1 w2 : World} {g b0 o0 : Nat} {u0 : Value} (h : Ext w w1 ∧ w1.cell? ⟨b0, o0, none⟩ = some u0 ∧ w1.cell? ⟨g, 0, none⟩ = some (was w1 g 0) ∧ w1.cell? ⟨g, 1, none⟩ = some (was w1 g 1) ∧ w1.frozen? ⟨g, 0, none⟩ = false ∧ w1.frozen? ⟨g, 1, none⟩ = false) (hx : Ext w1 w2) : Ext w w2 ∧ w2.cell? ⟨b0, o0, none⟩ = some u0 ∧ w2.cell? ⟨g, 0, none⟩ = some (was w2 g 0) ∧ w2.cell? ⟨g, 1, none⟩ = some (was w2 g 1) ∧ w2.frozen? ⟨g, 0, none⟩ = false ∧ w2.frozen? ⟨g, 1, none⟩ = false :=
  ⟨h.1.trans hx, hx.keep h.2.1, was_some (hx.keep h.2.2.1), was_some (hx.keep h.2.2.2.1), hx.keepf h.2.2.1 h.2.2.2.2.1, hx.keepf h.2.2.2.1 h.2.2.2.2.2⟩
theorem keptS1_2_set {w w1 : World} {g b0 o0 : Nat} {u0 : Value} {x0 x1 : Value} (h : Ext w w1 ∧ w1.cell? ⟨b0, o0, none⟩ = some u0 ∧ w1.cell? ⟨g, 0, none⟩ = some (was w1 g 0) ∧ w1.cell? ⟨g, 1, none⟩ = some (was w1 g 1) ∧ w1.frozen? ⟨g, 0, none⟩ = false ∧ w1.frozen? ⟨g, 1, none⟩ = false) (hg : w.heap.size ≤ g) (n0 : b0 ≠ g) : Ext w ((w1.setCell ⟨g, 0, none⟩ x0).setCell ⟨g, 1, none⟩ x1) ∧ ((w1.setCell ⟨g, 0, none⟩ x0).setCell ⟨g, 1, none⟩ x1).cell? ⟨b0, o0, none⟩ = some u0 ∧ ((w1.setCell ⟨g, 0, none⟩ x0).setCell ⟨g, 1, none⟩ x1).cell? ⟨g, 0, none⟩ = some (was ((w1.setCell ⟨g, 0, none⟩ x0).setCell ⟨g, 1, none⟩ x1) g 0) ∧ ((w1.setCell ⟨g, 0, none⟩ x0).setCell ⟨g, 1, none⟩ x1).cell? ⟨g, 1, none⟩ = some (was ((w1.setCell ⟨g, 0, none⟩ x0).setCell ⟨g, 1, none⟩ x1) g 1) ∧ ((w1.setCell ⟨g, 0, none⟩ x0).setCell ⟨g, 1, none⟩ x1).frozen? ⟨g, 0, none⟩ = false ∧ ((w1.setCell ⟨g, 0, none⟩ x0).setCell ⟨g, 1, none⟩ x1).frozen? ⟨g, 1, none⟩ = false := by
  obtain ⟨_, k0⟩ := set_was (g := g) (i := 0) (u := x0) h.2.2.1
  obtain ⟨_, k0⟩ := set_was (g := g) (i := 1) (u := x1) k0
  obtain ⟨_, k1⟩ := set_was (g := g) (i := 0) (u := x0) h.2.2.2.1
  obtain ⟨_, k1⟩ := set_was (g := g) (i := 1) (u := x1) k1
  exact ⟨((h.1.setCell hg _).setCell hg _), (set_far (set_far h.2.1 n0) n0), was_some k0, was_some k1, (set_fz (set_fz h.2.2.2.2.1)), (set_fz (set_fz h.2.2.2.2.2))⟩
theorem keptS2_2 {w w1 w2 : World} {g b0 o0 b1 o1 : Nat} {u0 u1 : Value} (h : Ext w w1 ∧ w1.cell? ⟨b0, o0, none⟩ = some u0 ∧ w1.cell? ⟨b1, o1, none⟩ = some u1 ∧ w1.cell? ⟨g, 0, none⟩ = some (was w1 g 0) ∧ w1.cell? ⟨g, 1, none⟩ = some (was w1 g 1) ∧ w1.frozen? ⟨g, 0, none⟩ = false ∧ w1.frozen? ⟨g, 1, none⟩ = false) (hx : Ext w1 w2) : Ext w w2 ∧ w2.cell? ⟨b0, o0, none⟩ = some u0 ∧ w2.cell? ⟨b1, o1, none⟩ = some u1 ∧ w2.cell? ⟨g, 0, none⟩ = some (was w2 g 0) ∧ w2.cell? ⟨g, 1, none⟩ = some (was w2 g 1) ∧ w2.frozen? ⟨g, 0, none⟩ = false ∧ w2.frozen? ⟨g, 1, none⟩ = false :=
  ⟨h.1.trans hx, hx.keep h.2.1, hx.keep h.2.2.1, was_some (hx.keep h.2.2.2.1), was_some (hx.keep h.2.2.2.2.1), hx.keepf h.2.2.2.1 h.2.2.2.2.2.1, hx.keepf h.2.2.2.2.1 h.2.2.2.2.2.2⟩
theorem keptS2_2_set {w w1 : World} {g b0 o0 b1 o1 : Nat} {u0 u1 : Value} {x0 x1 : Value} (h : Ext w w1 ∧ w1.cell? ⟨b0, o0, none⟩ = some u0 ∧ w1.cell? ⟨b1, o1, none⟩ = some u1 ∧ w1.cell? ⟨g, 0, none⟩ = some (was w1 g 0) ∧ w1.cell? ⟨g, 1, none⟩ = some (was w1 g 1) ∧ w1.frozen? ⟨g, 0, none⟩ = false ∧ w1.frozen? ⟨g, 1, none⟩ = false) (hg : w.heap.size ≤ g) (n0 : b0 ≠ g) (n1 : b1 ≠ g) : Ext w ((w1.setCell ⟨g, 0, none⟩ x0).setCell ⟨g, 1, none⟩ x1) ∧ ((w1.setCell ⟨g, 0, none⟩ x0).setCell ⟨g, 1, none⟩ x1).cell? ⟨b0, o0, none⟩ = some u0 ∧ ((w1.setCell ⟨g, 0, none⟩ x0).setCell ⟨g, 1, none⟩ x1).cell? ⟨b1, o1, none⟩ = some u1 ∧ ((w1.setCell ⟨g, 0, none⟩ x0).setCell ⟨g, 1, none⟩ x1).cell? ⟨g, 0, none⟩ = some (was ((w1.setCell ⟨g, 0, none⟩ x0).setCell ⟨g, 1, none⟩ x1) g 0) ∧ ((w1.setCell ⟨g, 0, none⟩ x0).setCell ⟨g, 1, none⟩ x1).cell? ⟨g, 1, none⟩ = some (was ((w1.setCell ⟨g, 0, none⟩ x0).setCell ⟨g, 1, none⟩ x1) g 1) ∧ ((w1.setCell ⟨g, 0, none⟩ x0).setCell ⟨g, 1, none⟩ x1).frozen? ⟨g, 0, none⟩ = false ∧ ((w1.setCell ⟨g, 0, none⟩ x0).setCell ⟨g, 1, none⟩ x1).frozen? ⟨g, 1, none⟩ = false := by
  obtain ⟨_, k0⟩ := set_was (g := g) (i := 0) (u := x0) h.2.2.2.1
  obtain ⟨_, k0⟩ := set_was (g := g) (i := 1) (u := x1) k0
  obtain ⟨_, k1⟩ := set_was (g := g) (i := 0) (u := x0) h.2.2.2.2.1
  obtain ⟨_, k1⟩ := set_was (g := g) (i := 1) (u := x1) k1
  exact ⟨((h.1.setCell hg _).setCell hg _), (set_far (set_far h.2.1 n0) n0), (set_far (set_far h.2.2.1 n1) n1), was_some k0, was_some k1, (set_fz (set_fz h.2.2.2.2.2.1)), (set_fz (set_fz h.2.2.2.2.2.2))⟩
theorem keptS3_2 {w w1 w2 : World} {g b0 o0 b1 o1 b2 o2 : Nat} {u0 u1 u2 : Value} (h : Ext w w1 ∧ w1.cell? ⟨b0, o0, none⟩ = some u0 ∧ w1.cell? ⟨b1, o1, none⟩ = some u1 ∧ w1.cell? ⟨b2, o2, none⟩ = some u2 ∧ w1.cell? ⟨g, 0, none⟩ = some (was w1 g 0) ∧ w1.cell? ⟨g, 1, none⟩ = some (was w1 g 1) ∧ w1.frozen? ⟨g, 0, none⟩ = false ∧ w1.frozen? ⟨g, 1, none⟩ = false) (hx : Ext w1 w2) : Ext w w2 ∧ w2.cell? ⟨b0, o0, none⟩ = some u0 ∧ w2.cell? ⟨b1, o1, none⟩ = some u1 ∧ w2.cell? ⟨b2, o2, none⟩ = some u2 ∧ w2.cell? ⟨g, 0, none⟩ = some (was w2 g 0) ∧ w2.cell? ⟨g, 1, none⟩ = some (was w2 g 1) ∧ w2.frozen? ⟨g, 0, none⟩ = false ∧ w2.frozen? ⟨g, 1, none⟩ = false :=
  ⟨h.1.trans hx, hx.keep h.2.1, hx.keep h.2.2.1, hx.keep h.2.2.2.1, was_some (hx.keep h.2.2.2.2.1), was_some (hx.keep h.2.2.2.2.2.1), hx.keepf h.2.2.2.2.1 h.2.2.2.2.2.2.1, hx.keepf h.2.2.2.2.2.1 h.2.2.2.2.2.2.2⟩
theorem keptS3_2_set {w w1 : World} {g b0 o0 b1 o1 b2 o2 : Nat} {u0 u1 u2 : Value} {x0 x1 : Value} (h : Ext w w1 ∧ w1.cell? ⟨b0, o0, none⟩ = some u0 ∧ w1.cell? ⟨b1, o1, none⟩ = some u1 ∧ w1.cell? ⟨b2, o2, none⟩ = some u2 ∧ w1.cell? ⟨g, 0, none⟩ = some (was w1 g 0) ∧ w1.cell? ⟨g, 1, none⟩ = some (was w1 g 1) ∧ w1.frozen? ⟨g, 0, none⟩ = false ∧ w1.frozen? ⟨g, 1, none⟩ = false) (hg : w.heap.size ≤ g) (n0 : b0 ≠ g) (n1 : b1 ≠ g) (n2 : b2 ≠ g) : Ext w ((w1.setCell ⟨g, 0, none⟩ x0).setCell ⟨g, 1, none⟩ x1) ∧ ((w1.setCell ⟨g, 0, none⟩ x0).setCell ⟨g, 1, none⟩ x1).cell? ⟨b0, o0, none⟩ = some u0 ∧ ((w1.setCell ⟨g, 0, none⟩ x0).setCell ⟨g, 1, none⟩ x1).cell? ⟨b1, o1, none⟩ = some u1 ∧ ((w1.setCell ⟨g, 0, none⟩ x0).setCell ⟨g, 1, none⟩ x1).cell? ⟨b2, o2, none⟩ = some u2 ∧ ((w1.setCell ⟨g, 0, none⟩ x0).setCell ⟨g, 1, none⟩ x1).cell? ⟨g, 0, none⟩ = some (was ((w1.setCell ⟨g, 0, none⟩ x0).setCell ⟨g, 1, none⟩ x1) g 0) ∧ ((w1.setCell ⟨g, 0, none⟩ x0).setCell ⟨g, 1, none⟩ x1).cell? ⟨g, 1, none⟩ = some (was ((w1.setCell ⟨g, 0, none⟩ x0).setCell ⟨g, 1, none⟩ x1) g 1) ∧ ((w1.setCell ⟨g, 0, none⟩ x0).setCell ⟨g, 1, none⟩ x1).frozen? ⟨g, 0, none⟩ = false ∧ ((w1.setCell ⟨g, 0, none⟩ x0).setCell ⟨g, 1, none⟩ x1).frozen? ⟨g, 1, none⟩ = false := by
  obtain ⟨_, k0⟩ := set_was (g := g) (i := 0) (u := x0) h.2.2.2.2.1
  obtain ⟨_, k0⟩ := set_was (g := g) (i := 1) (u := x1) k0
  obtain ⟨_, k1⟩ := set_was (g := g) (i := 0) (u := x0) h.2.2.2.2.2.1
  obtain ⟨_, k1⟩ := set_was (g := g) (i := 1) (u := x1) k1
  exact ⟨((h.1.setCell hg _).setCell hg _), (set_far (set_far h.2.1 n0) n0), (set_far (set_far h.2.2.1 n1) n1), (set_far (set_far h.2.2.2.1 n2) n2), was_some k0, was_some k1, (set_fz (set_fz h.2.2.2.2.2.2.1)), (set_fz (set_fz h.2.2.2.2.2.2.2))⟩
theorem keptS4_2 {w w1 w2 : World} {g b0 o0 b1 o1 b2 o2 b3 o3 : Nat} {u0 u1 u2 u3 : Value} (h : Ext w w1 ∧ w1.cell? ⟨b0, o0, none⟩ = some u0 ∧ w1.cell? ⟨b1, o1, none⟩ = some u1 ∧ w1.cell? ⟨b2, o2, none⟩ = some u2 ∧ w1.cell? ⟨b3, o3, none⟩ = some u3 ∧ w1.cell? ⟨g, 0, none⟩ = some (was w1 g 0) ∧ w1.cell? ⟨g, 1, none⟩ = some (was w1 g 1) ∧ w1.frozen? ⟨g, 0, none⟩ = false ∧ w1.frozen? ⟨g, 1, none⟩ = false) (hx : Ext w1 w2) : Ext w w2 ∧ w2.cell? ⟨b0, o0, none⟩ = some u0 ∧ w2.cell? ⟨b1, o1, none⟩ = some u1 ∧ w2.cell? ⟨b2, o2, none⟩ = some u2 ∧ w2.cell? ⟨b3, o3, none⟩ = some u3 ∧ w2.cell? ⟨g, 0, none⟩ = some (was w2 g 0) ∧ w2.cell? ⟨g, 1, none⟩ = some (was w2 g 1) ∧ w2.frozen? ⟨g, 0, none⟩ = false ∧ w2.frozen? ⟨g, 1, none⟩ = false :=
  ⟨h.1.trans hx, hx.keep h.2.1, hx.keep h.2.2.1, hx.keep h.2.2.2.1, hx.keep h.2.2.2.2.1, was_some (hx.keep h.2.2.2.2.2.1), was_some (hx.keep h.2.2.2.2.2.2.1), hx.keepf h.2.2.2.2.2.1 h.2.2.2.2.2.2.2.1, hx.keepf h.2.2.2.2.2.2.1 h.2.2.2.2.2.2.2.2⟩
theorem keptS4_2_set {w w1 : World} {g b0 o0 b1 o1 b2 o2 b3 o3 : Nat} {u0 u1 u2 u3 : Value} {x0 x1 : Value} (h : Ext w w1 ∧ w1.cell? ⟨b0, o0, none⟩ = some u0 ∧ w1.cell? ⟨b1, o1, none⟩ = some u1 ∧ w1.cell? ⟨b2, o2, none⟩ = some u2 ∧ w1.cell? ⟨b3, o3, none⟩ = some u3 ∧ w1.cell? ⟨g, 0, none⟩ = some (was w1 g 0) ∧ w1.cell? ⟨g, 1, none⟩ = some (was w1 g 1) ∧ w1.frozen? ⟨g, 0, none⟩ = false ∧ w1.frozen? ⟨g, 1, none⟩ = false) (hg : w.heap.size ≤ g) (n0 : b0 ≠ g) (n1 : b1 ≠ g) (n2 : b2 ≠ g) (n3 : b3 ≠ g) : Ext w ((w1.setCell ⟨g, 0, none⟩ x0).setCell ⟨g, 1, none⟩ x1) ∧ ((w1.setCell ⟨g, 0, none⟩ x0).setCell ⟨g, 1, none⟩ x1).cell? ⟨b0, o0, none⟩ = some u0 ∧ ((w1.setCell ⟨g, 0, none⟩ x0).setCell ⟨g, 1, none⟩ x1).cell? ⟨b1, o1, none⟩ = some u1 ∧ ((w1.setCell ⟨g, 0, none⟩ x0).setCell ⟨g, 1, none⟩ x1).cell? ⟨b2, o2, none⟩ = some u2 ∧ ((w1.setCell ⟨g, 0, none⟩ x0).setCell ⟨g, 1, none⟩ x1).cell? ⟨b3, o3, none⟩ = some u3 ∧ ((w1.setCell ⟨g, 0, none⟩ x0).setCell ⟨g, 1, none⟩ x1).cell? ⟨g, 0, none⟩ = some (was ((w1.setCell ⟨g, 0, none⟩ x0).setCell ⟨g, 1, none⟩ x1) g 0) ∧ ((w1.setCell ⟨g, 0, none⟩ x0).setCell ⟨g, 1, none⟩ x1).cell? ⟨g, 1, none⟩ = some (was ((w1.setCell ⟨g, 0, none⟩ x0).setCell ⟨g, 1, none⟩ x1) g 1) ∧ ((w1.setCell ⟨g, 0, none⟩ x0).setCell ⟨g, 1, none⟩ x1).frozen? ⟨g, 0, none⟩ = false ∧ ((w1.setCell ⟨g, 0, none⟩ x0).setCell ⟨g, 1, none⟩ x1).frozen? ⟨g, 1, none⟩ = false := by
  obtain ⟨_, k0⟩ := set_was (g := g) (i := 0) (u := x0) h.2.2.2.2.2.1
  obtain ⟨_, k0⟩ := set_was (g := g) (i := 1) (u := x1) k0
  obtain ⟨_, k1⟩ := set_was (g := g) (i := 0) (u := x0) h.2.2.2.2.2.2.1
  obtain ⟨_, k1⟩ := set_was (g := g) (i := 1) (u := x1) k1
  exact ⟨((h.1.setCell hg _).setCell hg _), (set_far (set_far h.2.1 n0) n0), (set_far (set_far h.2.2.1 n1) n1), (set_far (set_far h.2.2.2.1 n2) n2), (set_far (set_far h.2.2.2.2.1 n3) n3), was_some k0, was_some k1, (set_fz (set_fz h.2.2.2.2.2.2.2.1)), (set_fz (set_fz h.2.2.2.2.2.2.2.2))⟩
theorem keptS5_2 {w w1 w2 : World} {g b0 o0 b1 o1 b2 o2 b3 o3 b4 o4 : Nat} {u0 u1 u2 u3 u4 : Value} (h : Ext w w1 ∧ w1.cell? ⟨b0, o0, none⟩ = some u0 ∧ w1.cell? ⟨b1, o1, none⟩ = some u1 ∧ w1.cell? ⟨b2, o2, none⟩ = some u2 ∧ w1.cell? ⟨b3, o3, none⟩ = some u3 ∧ w1.cell? ⟨b4, o4, none⟩ = some u4 ∧ w1.cell? ⟨g, 0, none⟩ = some (was w1 g 0) ∧ w1.cell? ⟨g, 1, none⟩ = some (was w1 g 1) ∧ w1.frozen? ⟨g, 0, none⟩ = false ∧ w1.frozen? ⟨g, 1, none⟩ = false) (hx : Ext w1 w2) : Ext w w2 ∧ w2.cell? ⟨b0, o0, none⟩ = some u0 ∧ w2.cell? ⟨b1, o1, none⟩ = some u1 ∧ w2.cell? ⟨b2, o2, none⟩ = some u2 ∧ w2.cell? ⟨b3, o3, none⟩ = some u3 ∧ w2.cell? ⟨b4, o4, none⟩ = some u4 ∧ w2.cell? ⟨g, 0, none⟩ = some (was w2 g 0) ∧ w2.cell? ⟨g, 1, none⟩ = some (was w2 g 1) ∧ w2.frozen? ⟨g, 0, none⟩ = false ∧ w2.frozen? ⟨g, 1, none⟩ = false :=
  ⟨h.1.trans hx, hx.keep h.2.1, hx.keep h.2.2.1, hx.keep h.2.2.2.1, hx.keep h.2.2.2.2.1, hx.keep h.2.2.2.2.2.1, was_some (hx.keep h.2.2.2.2.2.2.1), was_some (hx.keep h.2.2.2.2.2.2.2.1), hx.keepf h.2.2.2.2.2.2.1 h.2.2.2.2.2.2.2.2.1, hx.keepf h.2.2.2.2.2.2.2.1 h.2.2.2.2.2.2.2.2.2⟩
theorem keptS5_2_set {w w1 : World} {g b0 o0 b1 o1 b2 o2 b3 o3 b4 o4 : Nat} {u0 u1 u2 u3 u4 : Value} {x0 x1 : Value} (h : Ext w w1 ∧ w1.cell? ⟨b0, o0, none⟩ = some u0 ∧ w1.cell? ⟨b1, o1, none⟩ = some u1 ∧ w1.cell? ⟨b2, o2, none⟩ = some u2 ∧ w1.cell? ⟨b3, o3, none⟩ = some u3 ∧ w1.cell? ⟨b4, o4, none⟩ = some u4 ∧ w1.cell? ⟨g, 0, none⟩ = some (was w1 g 0) ∧ w1.cell? ⟨g, 1, none⟩ = some (was w1 g 1) ∧ w1.frozen? ⟨g, 0, none⟩ = false ∧ w1.frozen? ⟨g, 1, none⟩ = false) (hg : w.heap.size ≤ g) (n0 : b0 ≠ g) (n1 : b1 ≠ g) (n2 : b2 ≠ g) (n3 : b3 ≠ g) (n4 : b4 ≠ g) : Ext w ((w1.setCell ⟨g, 0, none⟩ x0).setCell ⟨g, 1, none⟩ x1) ∧ ((w1.setCell ⟨g, 0, none⟩ x0).setCell ⟨g, 1, none⟩ x1).cell? ⟨b0, o0, none⟩ = some u0 ∧ ((w1.setCell ⟨g, 0, none⟩ x0).setCell ⟨g, 1, none⟩ x1).cell? ⟨b1, o1, none⟩ = some u1 ∧ ((w1.setCell ⟨g, 0, none⟩ x0).setCell ⟨g, 1, none⟩ x1).cell? ⟨b2, o2, none⟩ = some u2 ∧ ((w1.setCell ⟨g, 0, none⟩ x0).setCell ⟨g, 1, none⟩ x1).cell? ⟨b3, o3, none⟩ = some u3 ∧ ((w1.setCell ⟨g, 0, none⟩ x0).setCell ⟨g, 1, none⟩ x1).cell? ⟨b4, o4, none⟩ = some u4 ∧ ((w1.setCell ⟨g, 0, none⟩ x0).setCell ⟨g, 1, none⟩ x1).cell? ⟨g, 0, none⟩ = some (was ((w1.setCell ⟨g, 0, none⟩ x0).setCell ⟨g, 1, none⟩ x1) g 0) ∧ ((w1.setCell ⟨g, 0, none⟩ x0).setCell ⟨g, 1, none⟩ x1).cell? ⟨g, 1, none⟩ = some (was ((w1.setCell ⟨g, 0, none⟩ x0).setCell ⟨g, 1, none⟩ x1) g 1) ∧ ((w1.setCell ⟨g, 0, none⟩ x0).setCell ⟨g, 1, none⟩ x1).frozen? ⟨g, 0, none⟩ = false ∧ ((w1.setCell ⟨g, 0, none⟩ x0).setCell ⟨g, 1, none⟩ x1).frozen? ⟨g, 1, none⟩ = false := by
  obtain ⟨_, k0⟩ := set_was (g := g) (i := 0) (u := x0) h.2.2.2.2.2.2.1
  obtain ⟨_, k0⟩ := set_was (g := g) (i := 1) (u := x1) k0
  obtain ⟨_, k1⟩ := set_was (g := g) (i := 0) (u := x0) h.2.2.2.2.2.2.2.1
  obtain ⟨_, k1⟩ := set_was (g := g) (i := 1) (u := x1) k1
  exact ⟨((h.1.setCell hg _).setCell hg _), (set_far (set_far h.2.1 n0) n0), (set_far (set_far h.2.2.1 n1) n1), (set_far (set_far h.2.2.2.1 n2) n2), (set_far (set_far h.2.2.2.2.1 n3) n3), (set_far (set_far h.2.2.2.2.2.1 n4) n4), was_some k0, was_some k1, (set_fz (set_fz h.2.2.2.2.2.2.2.2.1)), (set_fz (set_fz h.2.2.2.2.2.2.2.2.2))⟩
theorem keptS6_2 {w w1 w2 : World} {g b0 o0 b1 o1 b2 o2 b3 o3 b4 o4 b5 o5 : Nat} {u0 u1 u2 u3 u4 u5 : Value} (h : Ext w w1 ∧ w1.cell? ⟨b0, o0, none⟩ = some u0 ∧ w1.cell? ⟨b1, o1, none⟩ = some u1 ∧ w1.cell? ⟨b2, o2, none⟩ = some u2 ∧ w1.cell? ⟨b3, o3, none⟩ = some u3 ∧ w1.cell? ⟨b4, o4, none⟩ = some u4 ∧ w1.cell? ⟨b5, o5, none⟩ = some u5 ∧ w1.cell? ⟨g, 0, none⟩ = some (was w1 g 0) ∧ w1.cell? ⟨g, 1, none⟩ = some (was w1 g 1) ∧ w1.frozen? ⟨g, 0, none⟩ = false ∧ w1.frozen? ⟨g, 1, none⟩ = false) (hx : Ext w1 w2) : Ext w w2 ∧ w2.cell? ⟨b0, o0, none⟩ = some u0 ∧ w2.cell? ⟨b1, o1, none⟩ = some u1 ∧ w2.cell? ⟨b2, o2, none⟩ = some u2 ∧ w2.cell? ⟨b3, o3, none⟩ = some u3 ∧ w2.cell? ⟨b4, o4, none⟩ = some u4 ∧ w2.cell? ⟨b5, o5, none⟩ = some u5 ∧ w2.cell? ⟨g, 0, none⟩ = some (was w2 g 0) ∧ w2.cell? ⟨g, 1, none⟩ = some (was w2 g 1) ∧ w2.frozen? ⟨g, 0, none⟩ = false ∧ w2.frozen? ⟨g, 1, none⟩ = false :=
  ⟨h.1.trans hx, hx.keep h.2.1, hx.keep h.2.2.1, hx.keep h.2.2.2.1, hx.keep h.2.2.2.2.1, hx.keep h.2.2.2.2.2.1, hx.keep h.2.2.2.2.2.2.1, was_some (hx.keep h.2.2.2.2.2.2.2.1), was_some (hx.keep h.2.2.2.2.2.2.2.2.1), hx.keepf h.2.2.2.2.2.2.2.1 h.2.2.2.2.2.2.2.2.2.1, hx.keepf h.2.2.2.2.2.2.2.2.1 h.2.2.2.2.2.2.2.2.2.2⟩
theorem keptS6_2_set {w w1 : World} {g b0 o0 b1 o1 b2 o2 b3 o3 b4 o4 b5 o5 : Nat} {u0 u1 u2 u3 u4 u5 : Value} {x0 x1 : Value} (h : Ext w w1 ∧ w1.cell? ⟨b0, o0, none⟩ = some u0 ∧ w1.cell? ⟨b1, o1, none⟩ = some u1 ∧ w1.cell? ⟨b2, o2, none⟩ = some u2 ∧ w1.cell? ⟨b3, o3, none⟩ = some u3 ∧ w1.cell? ⟨b4, o4, none⟩ = some u4 ∧ w1.cell? ⟨b5, o5, none⟩ = some u5 ∧ w1.cell? ⟨g, 0, none⟩ = some (was w1 g 0) ∧ w1.cell? ⟨g, 1, none⟩ = some (was w1 g 1) ∧ w1.frozen? ⟨g, 0, none⟩ = false ∧ w1.frozen? ⟨g, 1, none⟩ = false) (hg : w.heap.size ≤ g) (n0 : b0 ≠ g) (n1 : b1 ≠ g) (n2 : b2 ≠ g) (n3 : b3 ≠ g) (n4 : b4 ≠ g) (n5 : b5 ≠ g) : Ext w ((w1.setCell ⟨g, 0, none⟩ x0).setCell ⟨g, 1, none⟩ x1) ∧ ((w1.setCell ⟨g, 0, none⟩ x0).setCell ⟨g, 1, none⟩ x1).cell? ⟨b0, o0, none⟩ = some u0 ∧ ((w1.setCell ⟨g, 0, none⟩ x0).setCell ⟨g, 1, none⟩ x1).cell? ⟨b1, o1, none⟩ = some u1 ∧ ((w1.setCell ⟨g, 0, none⟩ x0).setCell ⟨g, 1, none⟩ x1).cell? ⟨b2, o2, none⟩ = some u2 ∧ ((w1.setCell ⟨g, 0, none⟩ x0).setCell ⟨g, 1, none⟩ x1).cell? ⟨b3, o3, none⟩ = some u3 ∧ ((w1.setCell ⟨g, 0, none⟩ x0).setCell ⟨g, 1, none⟩ x1).cell? ⟨b4, o4, none⟩ = some u4 ∧ ((w1.setCell ⟨g, 0, none⟩ x0).setCell ⟨g, 1, none⟩ x1).cell? ⟨b5, o5, none⟩ = some u5 ∧ ((w1.setCell ⟨g, 0, none⟩ x0).setCell ⟨g, 1, none⟩ x1).cell? ⟨g, 0, none⟩ = some (was ((w1.setCell ⟨g, 0, none⟩ x0).setCell ⟨g, 1, none⟩ x1) g 0) ∧ ((w1.setCell ⟨g, 0, none⟩ x0).setCell ⟨g, 1, none⟩ x1).cell? ⟨g, 1, none⟩ = some (was ((w1.setCell ⟨g, 0, none⟩ x0).setCell ⟨g, 1, none⟩ x1) g 1) ∧ ((w1.setCell ⟨g, 0, none⟩ x0).setCell ⟨g, 1, none⟩ x1).frozen? ⟨g, 0, none⟩ = false ∧ ((w1.setCell ⟨g, 0, none⟩ x0).setCell ⟨g, 1, none⟩ x1).frozen? ⟨g, 1, none⟩ = false := by
  obtain ⟨_, k0⟩ := set_was (g := g) (i := 0) (u := x0) h.2.2.2.2.2.2.2.1
  obtain ⟨_, k0⟩ := set_was (g := g) (i := 1) (u := x1) k0
  obtain ⟨_, k1⟩ := set_was (g := g) (i := 0) (u := x0) h.2.2.2.2.2.2.2.2.1
  obtain ⟨_, k1⟩ := set_was (g := g) (i := 1) (u := x1) k1
  exact ⟨((h.1.setCell hg _).setCell hg _), (set_far (set_far h.2.1 n0) n0), (set_far (set_far h.2.2.1 n1) n1), (set_far (set_far h.2.2.2.1 n2) n2), (set_far (set_far h.2.2.2.2.1 n3) n3), (set_far (set_far h.2.2.2.2.2.1 n4) n4), (set_far (set_far h.2.2.2.2.2.2.1 n5) n5), was_some k0, was_some k1, (set_fz (set_fz h.2.2.2.2.2.2.2.2.2.1)), (set_fz (set_fz h.2.2.2.2.2.2.2.2.2.2))⟩
theorem keptS7_2 {w w1 w2 : World} {g b0 o0 b1 o1 b2 o2 b3 o3 b4 o4 b5 o5 b6 o6 : Nat} {u0 u1 u2 u3 u4 u5 u6 : Value} (h : Ext w w1 ∧ w1.cell? ⟨b0, o0, none⟩ = some u0 ∧ w1.cell? ⟨b1, o1, none⟩ = some u1 ∧ w1.cell? ⟨b2, o2, none⟩ = some u2 ∧ w1.cell? ⟨b3, o3, none⟩ = some u3 ∧ w1.cell? ⟨b4, o4, none⟩ = some u4 ∧ w1.cell? ⟨b5, o5, none⟩ = some u5 ∧ w1.cell? ⟨b6, o6, none⟩ = some u6 ∧ w1.cell? ⟨g, 0, none⟩ = some (was w1 g 0) ∧ w1.cell? ⟨g, 1, none⟩ = some (was w1 g 1) ∧ w1.frozen? ⟨g, 0, none⟩ = false ∧ w1.frozen? ⟨g, 1, none⟩ = false) (hx : Ext w1 w2) : Ext w w2 ∧ w2.cell? ⟨b0, o0, none⟩ = some u0 ∧ w2.cell? ⟨b1, o1, none⟩ = some u1 ∧ w2.cell? ⟨b2, o2, none⟩ = some u2 ∧ w2.cell? ⟨b3, o3, none⟩ = some u3 ∧ w2.cell? ⟨b4, o4, none⟩ = some u4 ∧ w2.cell? ⟨b5, o5, none⟩ = some u5 ∧ w2.cell? ⟨b6, o6, none⟩ = some u6 ∧ w2.cell? ⟨g, 0, none⟩ = some (was w2 g 0) ∧ w2.cell? ⟨g, 1, none⟩ = some (was w2 g 1) ∧ w2.frozen? ⟨g, 0, none⟩ = false ∧ w2.frozen? ⟨g, 1, none⟩ = false :=
  ⟨h.1.trans hx, hx.keep h.2.1, hx.keep h.2.2.1, hx.keep h.2.2.2.1, hx.keep h.2.2.2.2.1, hx.keep h.2.2.2.2.2.1, hx.keep h.2.2.2.2.2.2.1, hx.keep h.2.2.2.2.2.2.2.1, was_some (hx.keep h.2.2.2.2.2.2.2.2.1), was_some (hx.keep h.2.2.2.2.2.2.2.2.2.1), hx.keepf h.2.2.2.2.2.2.2.2.1 h.2.2.2.2.2.2.2.2.2.2.1, hx.keepf h.2.2.2.2.2.2.2.2.2.1 h.2.2.2.2.2.2.2.2.2.2.2⟩
theorem keptS7_2_set {w w1 : World} {g b0 o0 b1 o1 b2 o2 b3 o3 b4 o4 b5 o5 b6 o6 : Nat} {u0 u1 u2 u3 u4 u5 u6 : Value} {x0 x1 : Value} (h : Ext w w1 ∧ w1.cell? ⟨b0, o0, none⟩ = some u0 ∧ w1.cell? ⟨b1, o1, none⟩ = some u1 ∧ w1.cell? ⟨b2, o2, none⟩ = some u2 ∧ w1.cell? ⟨b3, o3, none⟩ = some u3 ∧ w1.cell? ⟨b4, o4, none⟩ = some u4 ∧ w1.cell? ⟨b5, o5, none⟩ = some u5 ∧ w1.cell? ⟨b6, o6, none⟩ = some u6 ∧ w1.cell? ⟨g, 0, none⟩ = some (was w1 g 0) ∧ w1.cell? ⟨g, 1, none⟩ = some (was w1 g 1) ∧ w1.frozen? ⟨g, 0, none⟩ = false ∧ w1.frozen? ⟨g, 1, none⟩ = false) (hg : w.heap.size ≤ g) (n0 : b0 ≠ g) (n1 : b1 ≠ g) (n2 : b2 ≠ g) (n3 : b3 ≠ g) (n4 : b4 ≠ g) (n5 : b5 ≠ g) (n6 : b6 ≠ g) : Ext w ((w1.setCell ⟨g, 0, none⟩ x0).setCell ⟨g, 1, none⟩ x1) ∧ ((w1.setCell ⟨g, 0, none⟩ x0).setCell ⟨g, 1, none⟩ x1).cell? ⟨b0, o0, none⟩ = some u0 ∧ ((w1.setCell ⟨g, 0, none⟩ x0).setCell ⟨g, 1, none⟩ x1).cell? ⟨b1, o1, none⟩ = some u1 ∧ ((w1.setCell ⟨g, 0, none⟩ x0).setCell ⟨g, 1, none⟩ x1).cell? ⟨b2, o2, none⟩ = some u2 ∧ ((w1.setCell ⟨g, 0, none⟩ x0).setCell ⟨g, 1, none⟩ x1).cell? ⟨b3, o3, none⟩ = some u3 ∧ ((w1.setCell ⟨g, 0, none⟩ x0).setCell ⟨g, 1, none⟩ x1).cell? ⟨b4, o4, none⟩ = some u4 ∧ ((w1.setCell ⟨g, 0, none⟩ x0).setCell ⟨g, 1, none⟩ x1).cell? ⟨b5, o5, none⟩ = some u5 ∧ ((w1.setCell ⟨g, 0, none⟩ x0).setCell ⟨g, 1, none⟩ x1).cell? ⟨b6, o6, none⟩ = some u6 ∧ ((w1.setCell ⟨g, 0, none⟩ x0).setCell ⟨g, 1, none⟩ x1).cell? ⟨g, 0, none⟩ = some (was ((w1.setCell ⟨g, 0, none⟩ x0).setCell ⟨g, 1, none⟩ x1) g 0) ∧ ((w1.setCell ⟨g, 0, none⟩ x0).setCell ⟨g, 1, none⟩ x1).cell? ⟨g, 1, none⟩ = some (was ((w1.setCell ⟨g, 0, none⟩ x0).setCell ⟨g, 1, none⟩ x1) g 1) ∧ ((w1.setCell ⟨g, 0, none⟩ x0).setCell ⟨g, 1, none⟩ x1).frozen? ⟨g, 0, none⟩ = false ∧ ((w1.setCell ⟨g, 0, none⟩ x0).setCell ⟨g, 1, none⟩ x1).frozen? ⟨g, 1, none⟩ = false := by
  obtain ⟨_, k0⟩ := set_was (g := g) (i := 0) (u := x0) h.2.2.2.2.2.2.2.2.1
  obtain ⟨_, k0⟩ := set_was (g := g) (i := 1) (u := x1) k0
  obtain ⟨_, k1⟩ := set_was (g := g) (i := 0) (u := x0) h.2.2.2.2.2.2.2.2.2.1
  obtain ⟨_, k1⟩ := set_was (g := g) (i := 1) (u := x1) k1
  exact ⟨((h.1.setCell hg _).setCell hg _), (set_far (set_far h.2.1 n0) n0), (set_far (set_far h.2.2.1 n1) n1), (set_far (set_far h.2.2.2.1 n2) n2), (set_far (set_far h.2.2.2.2.1 n3) n3), (set_far (set_far h.2.2.2.2.2.1 n4) n4), (set_far (set_far h.2.2.2.2.2.2.1 n5) n5), (set_far (set_far h.2.2.2.2.2.2.2.1 n6) n6), was_some k0, was_some k1, (set_fz (set_fz h.2.2.2.2.2.2.2.2.2.2.1)), (set_fz (set_fz h.2.2.2.2.2.2.2.2.2.2.2))⟩
theorem keptS8_2 {w w1 w2 : World} {g b0 o0 b1 o1 b2 o2 b3 o3 b4 o4 b5 o5 b6 o6 b7 o7 : Nat} {u0 u1 u2 u3 u4 u5 u6 u7 : Value} (h : Ext w w1 ∧ w1.cell? ⟨b0, o0, none⟩ = some u0 ∧ w1.cell? ⟨b1, o1, none⟩ = some u1 ∧ w1.cell? ⟨b2, o2, none⟩ = some u2 ∧ w1.cell? ⟨b3, o3, none⟩ = some u3 ∧ w1.cell? ⟨b4, o4, none⟩ = some u4 ∧ w1.cell? ⟨b5, o5, none⟩ = some u5 ∧ w1.cell? ⟨b6, o6, none⟩ = some u6 ∧ w1.cell? ⟨b7, o7, none⟩ = some u7 ∧ w1.cell? ⟨g, 0, none⟩ = some (was w1 g 0) ∧ w1.cell? ⟨g, 1, none⟩ = some (was w1 g 1) ∧ w1.frozen? ⟨g, 0, none⟩ = false ∧ w1.frozen? ⟨g, 1, none⟩ = false) (hx : Ext w1 w2) : Ext w w2 ∧ w2.cell? ⟨b0, o0, none⟩ = some u0 ∧ w2.cell? ⟨b1, o1, none⟩ = some u1 ∧ w2.cell? ⟨b2, o2, none⟩ = some u2 ∧ w2.cell? ⟨b3, o3, none⟩ = some u3 ∧ w2.cell? ⟨b4, o4, none⟩ = some u4 ∧ w2.cell? ⟨b5, o5, none⟩ = some u5 ∧ w2.cell? ⟨b6, o6, none⟩ = some u6 ∧ w2.cell? ⟨b7, o7, none⟩ = some u7 ∧ w2.cell? ⟨g, 0, none⟩ = some (was w2 g 0) ∧ w2.cell? ⟨g, 1, none⟩ = some (was w2 g 1) ∧ w2.frozen? ⟨g, 0, none⟩ = false ∧ w2.frozen? ⟨g, 1, none⟩ = false :=
  ⟨h.1.trans hx, hx.keep h.2.1, hx.keep h.2.2.1, hx.keep h.2.2.2.1, hx.keep h.2.2.2.2.1, hx.keep h.2.2.2.2.2.1, hx.keep h.2.2.2.2.2.2.1, hx.keep h.2.2.2.2.2.2.2.1, hx.keep h.2.2.2.2.2.2.2.2.1, was_some (hx.keep h.2.2.2.2.2.2.2.2.2.1), was_some (hx.keep h.2.2.2.2.2.2.2.2.2.2.1), hx.keepf h.2.2.2.2.2.2.2.2.2.1 h.2.2.2.2.2.2.2.2.2.2.2.1, hx.keepf h.2.2.2.2.2.2.2.2.2.2.1 h.2.2.2.2.2.2.2.2.2.2.2.2⟩
theorem keptS8_2_set {w w1 : World} {g b0 o0 b1 o1 b2 o2 b3 o3 b4 o4 b5 o5 b6 o6 b7 o7 : Nat} {u0 u1 u2 u3 u4 u5 u6 u7 : Value} {x0 x1 : Value} (h : Ext w w1 ∧ w1.cell? ⟨b0, o0, none⟩ = some u0 ∧ w1.cell? ⟨b1, o1, none⟩ = some u1 ∧ w1.cell? ⟨b2, o2, none⟩ = some u2 ∧ w1.cell? ⟨b3, o3, none⟩ = some u3 ∧ w1.cell? ⟨b4, o4, none⟩ = some u4 ∧ w1.cell? ⟨b5, o5, none⟩ = some u5 ∧ w1.cell? ⟨b6, o6, none⟩ = some u6 ∧ w1.cell? ⟨b7, o7, none⟩ = some u7 ∧ w1.cell? ⟨g, 0, none⟩ = some (was w1 g 0) ∧ w1.cell? ⟨g, 1, none⟩ = some (was w1 g 1) ∧ w1.frozen? ⟨g, 0, none⟩ = false ∧ w1.frozen? ⟨g, 1, none⟩ = false) (hg : w.heap.size ≤ g) (n0 : b0 ≠ g) (n1 : b1 ≠ g) (n2 : b2 ≠ g) (n3 : b3 ≠ g) (n4 : b4 ≠ g) (n5 : b5 ≠ g) (n6 : b6 ≠ g) (n7 : b7 ≠ g) : Ext w ((w1.setCell ⟨g, 0, none⟩ x0).setCell ⟨g, 1, none⟩ x1) ∧ ((w1.setCell ⟨g, 0, none⟩ x0).setCell ⟨g, 1, none⟩ x1).cell? ⟨b0, o0, none⟩ = some u0 ∧ ((w1.setCell ⟨g, 0, none⟩ x0).setCell ⟨g, 1, none⟩ x1).cell? ⟨b1, o1, none⟩ = some u1 ∧ ((w1.setCell ⟨g, 0, none⟩ x0).setCell ⟨g, 1, none⟩ x1).cell? ⟨b2, o2, none⟩ = some u2 ∧ ((w1.setCell ⟨g, 0, none⟩ x0).setCell ⟨g, 1, none⟩ x1).cell? ⟨b3, o3, none⟩ = some u3 ∧ ((w1.setCell ⟨g, 0, none⟩ x0).setCell ⟨g, 1, none⟩ x1).cell? ⟨b4, o4, none⟩ = some u4 ∧ ((w1.setCell ⟨g, 0, none⟩ x0).setCell ⟨g, 1, none⟩ x1).cell? ⟨b5, o5, none⟩ = some u5 ∧ ((w1.setCell ⟨g, 0, none⟩ x0).setCell ⟨g, 1, none⟩ x1).cell? ⟨b6, o6, none⟩ = some u6 ∧ ((w1.setCell ⟨g, 0, none⟩ x0).setCell ⟨g, 1, none⟩ x1).cell? ⟨b7, o7, none⟩ = some u7 ∧ ((w1.setCell ⟨g, 0, none⟩ x0).setCell ⟨g, 1, none⟩ x1).cell? ⟨g, 0, none⟩ = some (was ((w1.setCell ⟨g, 0, none⟩ x0).setCell ⟨g, 1, none⟩ x1) g 0) ∧ ((w1.setCell ⟨g, 0, none⟩ x0).setCell ⟨g, 1, none⟩ x1).cell? ⟨g, 1, none⟩ = some (was ((w1.setCell ⟨g, 0, none⟩ x0).setCell ⟨g, 1, none⟩ x1) g 1) ∧ ((w1.setCell ⟨g, 0, none⟩ x0).setCell ⟨g, 1, none⟩ x1).frozen? ⟨g, 0, none⟩ = false ∧ ((w1.setCell ⟨g, 0, none⟩ x0).setCell ⟨g, 1, none⟩ x1).frozen? ⟨g, 1, none⟩ = false := by
  obtain ⟨_, k0⟩ := set_was (g := g) (i := 0) (u := x0) h.2.2.2.2.2.2.2.2.2.1
  obtain ⟨_, k0⟩ := set_was (g := g) (i := 1) (u := x1) k0
  obtain ⟨_, k1⟩ := set_was (g := g) (i := 0) (u := x0) h.2.2.2.2.2.2.2.2.2.2.1
  obtain ⟨_, k1⟩ := set_was (g := g) (i := 1) (u := x1) k1
  exact ⟨((h.1.setCell hg _).setCell hg _), (set_far (set_far h.2.1 n0) n0), (set_far (set_far h.2.2.1 n1) n1), (set_far (set_far h.2.2.2.1 n2) n2), (set_far (set_far h.2.2.2.2.1 n3) n3), (set_far (set_far h.2.2.2.2.2.1 n4) n4), (set_far (set_far h.2.2.2.2.2.2.1 n5) n5), (set_far (set_far h.2.2.2.2.2.2.2.1 n6) n6), (set_far (set_far h.2.2.2.2.2.2.2.2.1 n7) n7), was_some k0, was_some k1, (set_fz (set_fz h.2.2.2.2.2.2.2.2.2.2.2.1)), (set_fz (set_fz h.2.2.2.2.2.2.2.2.2.2.2.2))⟩
theorem keptS0_3 {w w1 w2 : World} {g  : Nat} (h : Ext w w1 ∧ w1.cell? ⟨g, 0, none⟩ = some (was w1 g 0) ∧ w1.cell? ⟨g, 1, none⟩ = some (was w1 g 1) ∧ w1.cell? ⟨g, 2, none⟩ = some (was w1 g 2) ∧ w1.frozen? ⟨g, 0, none⟩ = false ∧ w1.frozen? ⟨g, 1, none⟩ = false ∧ w1.frozen? ⟨g, 2, none⟩ = false) (hx : Ext w1 w2) : Ext w w2 ∧ w2.cell? ⟨g, 0, none⟩ = some (was w2 g 0) ∧ w2.cell? ⟨g, 1, none⟩ = some (was w2 g 1) ∧ w2.cell? ⟨g, 2, none⟩ = some (was w2 g 2) ∧ w2.frozen? ⟨g, 0, none⟩ = false ∧ w2.frozen? ⟨g, 1, none⟩ = false ∧ w2.frozen? ⟨g, 2, none⟩ = false :=
  ⟨h.1.trans hx, was_some (hx.keep h.2.1), was_some (hx.keep h.2.2.1), was_some (hx.keep h.2.2.2.1), hx.keepf h.2.1 h.2.2.2.2.1, hx.keepf h.2.2.1 h.2.2.2.2.2.1, hx.keepf h.2.2.2.1 h.2.2.2.2.2.2⟩
theorem keptS0_3_set {w w1 : World} {g  : Nat} {x0 x1 x2 : Value} (h : Ext w w1 ∧ w1.cell? ⟨g, 0, none⟩ = some (was w1 g 0) ∧ w1.cell? ⟨g, 1, none⟩ = some (was w1 g 1) ∧ w1.cell? ⟨g, 2, none⟩ = some (was w1 g 2) ∧ w1.frozen? ⟨g, 0, none⟩ = false ∧ w1.frozen? ⟨g, 1, none⟩ = false ∧ w1.frozen? ⟨g, 2, none⟩ = false) (hg : w.heap.size ≤ g)  : Ext w (((w1.setCell ⟨g, 0, none⟩ x0).setCell ⟨g, 1, none⟩ x1).setCell ⟨g, 2, none⟩ x2) ∧ (((w1.setCell ⟨g, 0, none⟩ x0).setCell ⟨g, 1, none⟩ x1).setCell ⟨g, 2, none⟩ x2).cell? ⟨g, 0, none⟩ = some (was (((w1.setCell ⟨g, 0, none⟩ x0).setCell ⟨g, 1, none⟩ x1).setCell ⟨g, 2, none⟩ x2) g 0) ∧ (((w1.setCell ⟨g, 0, none⟩ x0).setCell ⟨g, 1, none⟩ x1).setCell ⟨g, 2, none⟩ x2).cell? ⟨g, 1, none⟩ = some (was (((w1.setCell ⟨g, 0, none⟩ x0).setCell ⟨g, 1, none⟩ x1).setCell ⟨g, 2, none⟩ x2) g 1) ∧ (((w1.setCell ⟨g, 0, none⟩ x0).setCell ⟨g, 1, none⟩ x1).setCell ⟨g, 2, none⟩ x2).cell? ⟨g, 2, none⟩ = some (was (((w1.setCell ⟨g, 0, none⟩ x0).setCell ⟨g, 1, none⟩ x1).setCell ⟨g, 2, none⟩ x2) g 2) ∧ (((w1.setCell ⟨g, 0, none⟩ x0).setCell ⟨g, 1, none⟩ x1).setCell ⟨g, 2, none⟩ x2).frozen? ⟨g, 0, none⟩ = false ∧ (((w1.setCell ⟨g, 0, none⟩ x0).setCell ⟨g, 1, none⟩ x1).setCell ⟨g, 2, none⟩ x2).frozen? ⟨g, 1, none⟩ = false ∧ (((w1.setCell ⟨g, 0, none⟩ x0).setCell ⟨g, 1, none⟩ x1).setCell ⟨g, 2, none⟩ x2).frozen? ⟨g, 2, none⟩ = false := by
  obtain ⟨_, k0⟩ := set_was (g := g) (i := 0) (u := x0) h.2.1
  obtain ⟨_, k0⟩ := set_was (g := g) (i := 1) (u := x1) k0
  obtain ⟨_, k0⟩ := set_was (g := g) (i := 2) (u := x2) k0
  obtain ⟨_, k1⟩ := set_was (g := g) (i := 0) (u := x0) h.2.2.1
  obtain ⟨_, k1⟩ := set_was (g := g) (i := 1) (u := x1) k1
  obtain ⟨_, k1⟩ := set_was (g := g) (i := 2) (u := x2) k1
  obtain ⟨_, k2⟩ := set_was (g := g) (i := 0) (u := x0) h.2.2.2.1
  obtain ⟨_, k2⟩ := set_was (g := g) (i := 1) (u := x1) k2
  obtain ⟨_, k2⟩ := set_was (g := g) (i := 2) (u := x2) k2
  exact ⟨(((h.1.setCell hg _).setCell hg _).setCell hg _), was_some k0, was_some k1, was_some k2, (set_fz (set_fz (set_fz h.2.2.2.2.1))), (set_fz (set_fz (set_fz h.2.2.2.2.2.1))), (set_fz (set_fz (set_fz h.2.2.2.2.2.2)))⟩
theorem keptS1_3 {w w1 w2 : World} {g b0 o0 : Nat} {u0 : Value} (h : Ext w w1 ∧ w1.cell? ⟨b0, o0, none⟩ = some u0 ∧ w1.cell? ⟨g, 0, none⟩ = some (was w1 g 0) ∧ w1.cell? ⟨g, 1, none⟩ = some (was w1 g 1) ∧ w1.cell? ⟨g, 2, none⟩ = some (was w1 g 2) ∧ w1.frozen? ⟨g, 0, none⟩ = false ∧ w1.frozen? ⟨g, 1, none⟩ = false ∧ w1.frozen? ⟨g, 2, none⟩ = false) (hx : Ext w1 w2) : Ext w w2 ∧ w2.cell? ⟨b0, o0, none⟩ = some u0 ∧ w2.cell? ⟨g, 0, none⟩ = some (was w2 g 0) ∧ w2.cell? ⟨g, 1, none⟩ = some (was w2 g 1) ∧ w2.cell? ⟨g, 2, none⟩ = some (was w2 g 2) ∧ w2.frozen? ⟨g, 0, none⟩ = false ∧ w2.frozen? ⟨g, 1, none⟩ = false ∧ w2.frozen? ⟨g, 2, none⟩ = false :=
  ⟨h.1.trans hx, hx.keep h.2.1, was_some (hx.keep h.2.2.1), was_some (hx.keep h.2.2.2.1), was_some (hx.keep h.2.2.2.2.1), hx.keepf h.2.2.1 h.2.2.2.2.2.1, hx.keepf h.2.2.2.1 h.2.2.2.2.2.2.1, hx.keepf h.2.2.2.2.1 h.2.2.2.2.2.2.2⟩
theorem keptS1_3_set {w w1 : World} {g b0 o0 : Nat} {u0 : Value} {x0 x1 x2 : Value} (h : Ext w w1 ∧ w1.cell? ⟨b0, o0, none⟩ = some u0 ∧ w1.cell? ⟨g, 0, none⟩ = some (was w1 g 0) ∧ w1.cell? ⟨g, 1, none⟩ = some (was w1 g 1) ∧ w1.cell? ⟨g, 2, none⟩ = some (was w1 g 2) ∧ w1.frozen? ⟨g, 0, none⟩ = false ∧ w1.frozen? ⟨g, 1, none⟩ = false ∧ w1.frozen? ⟨g, 2, none⟩ = false) (hg : w.heap.size ≤ g) (n0 : b0 ≠ g) : Ext w (((w1.setCell ⟨g, 0, none⟩ x0).setCell ⟨g, 1, none⟩ x1).setCell ⟨g, 2, none⟩ x2) ∧ (((w1.setCell ⟨g, 0, none⟩ x0).setCell ⟨g, 1, none⟩ x1).setCell ⟨g, 2, none⟩ x2).cell? ⟨b0, o0, none⟩ = some u0 ∧ (((w1.setCell ⟨g, 0, none⟩ x0).setCell ⟨g, 1, none⟩ x1).setCell ⟨g, 2, none⟩ x2).cell? ⟨g, 0, none⟩ = some (was (((w1.setCell ⟨g, 0, none⟩ x0).setCell ⟨g, 1, none⟩ x1).setCell ⟨g, 2, none⟩ x2) g 0) ∧ (((w1.setCell ⟨g, 0, none⟩ x0).setCell ⟨g, 1, none⟩ x1).setCell ⟨g, 2, none⟩ x2).cell? ⟨g, 1, none⟩ = some (was (((w1.setCell ⟨g, 0, none⟩ x0).setCell ⟨g, 1, none⟩ x1).setCell ⟨g, 2, none⟩ x2) g 1) ∧ (((w1.setCell ⟨g, 0, none⟩ x0).setCell ⟨g, 1, none⟩ x1).setCell ⟨g, 2, none⟩ x2).cell? ⟨g, 2, none⟩ = some (was (((w1.setCell ⟨g, 0, none⟩ x0).setCell ⟨g, 1, none⟩ x1).setCell ⟨g, 2, none⟩ x2) g 2) ∧ (((w1.setCell ⟨g, 0, none⟩ x0).setCell ⟨g, 1, none⟩ x1).setCell ⟨g, 2, none⟩ x2).frozen? ⟨g, 0, none⟩ = false ∧ (((w1.setCell ⟨g, 0, none⟩ x0).setCell ⟨g, 1, none⟩ x1).setCell ⟨g, 2, none⟩ x2).frozen? ⟨g, 1, none⟩ = false ∧ (((w1.setCell ⟨g, 0, none⟩ x0).setCell ⟨g, 1, none⟩ x1).setCell ⟨g, 2, none⟩ x2).frozen? ⟨g, 2, none⟩ = false := by
  obtain ⟨_, k0⟩ := set_was (g := g) (i := 0) (u := x0) h.2.2.1
  obtain ⟨_, k0⟩ := set_was (g := g) (i := 1) (u := x1) k0
  obtain ⟨_, k0⟩ := set_was (g := g) (i := 2) (u := x2) k0
  obtain ⟨_, k1⟩ := set_was (g := g) (i := 0) (u := x0) h.2.2.2.1
  obtain ⟨_, k1⟩ := set_was (g := g) (i := 1) (u := x1) k1
  obtain ⟨_, k1⟩ := set_was (g := g) (i := 2) (u := x2) k1
  obtain ⟨_, k2⟩ := set_was (g := g) (i := 0) (u := x0) h.2.2.2.2.1
  obtain ⟨_, k2⟩ := set_was (g := g) (i := 1) (u := x1) k2
  obtain ⟨_, k2⟩ := set_was (g := g) (i := 2) (u := x2) k2
  exact ⟨(((h.1.setCell hg _).setCell hg _).setCell hg _), (set_far (set_far (set_far h.2.1 n0) n0) n0), was_some k0, was_some k1, was_some k2, (set_fz (set_fz (set_fz h.2.2.2.2.2.1))), (set_fz (set_fz (set_fz h.2.2.2.2.2.2.1))), (set_fz (set_fz (set_fz h.2.2.2.2.2.2.2)))⟩
theorem keptS2_3 {w w1 w2 : World} {g b0 o0 b1 o1 : Nat} {u0 u1 : Value} (h : Ext w w1 ∧ w1.cell? ⟨b0, o0, none⟩ = some u0 ∧ w1.cell? ⟨b1, o1, none⟩ = some u1 ∧ w1.cell? ⟨g, 0, none⟩ = some (was w1 g 0) ∧ w1.cell? ⟨g, 1, none⟩ = some (was w1 g 1) ∧ w1.cell? ⟨g, 2, none⟩ = some (was w1 g 2) ∧ w1.frozen? ⟨g, 0, none⟩ = false ∧ w1.frozen? ⟨g, 1, none⟩ = false ∧ w1.frozen? ⟨g, 2, none⟩ = false) (hx : Ext w1 w2) : Ext w w2 ∧ w2.cell? ⟨b0, o0, none⟩ = some u0 ∧ w2.cell? ⟨b1, o1, none⟩ = some u1 ∧ w2.cell? ⟨g, 0, none⟩ = some (was w2 g 0) ∧ w2.cell? ⟨g, 1, none⟩ = some (was w2 g 1) ∧ w2.cell? ⟨g, 2, none⟩ = some (was w2 g 2) ∧ w2.frozen? ⟨g, 0, none⟩ = false ∧ w2.frozen? ⟨g, 1, none⟩ = false ∧ w2.frozen? ⟨g, 2, none⟩ = false :=
  ⟨h.1.trans hx, hx.keep h.2.1, hx.keep h.2.2.1, was_some (hx.keep h.2.2.2.1), was_some (hx.keep h.2.2.2.2.1), was_some (hx.keep h.2.2.2.2.2.1), hx.keepf h.2.2.2.1 h.2.2.2.2.2.2.1, hx.keepf h.2.2.2.2.1 h.2.2.2.2.2.2.2.1, hx.keepf h.2.2.2.2.2.1 h.2.2.2.2.2.2.2.2⟩
theorem keptS2_3_set {w w1 : World} {g b0 o0 b1 o1 : Nat} {u0 u1 : Value} {x0 x1 x2 : Value} (h : Ext w w1 ∧ w1.cell? ⟨b0, o0, none⟩ = some u0 ∧ w1.cell? ⟨b1, o1, none⟩ = some u1 ∧ w1.cell? ⟨g, 0, none⟩ = some (was w1 g 0) ∧ w1.cell? ⟨g, 1, none⟩ = some (was w1 g 1) ∧ w1.cell? ⟨g, 2, none⟩ = some (was w1 g 2) ∧ w1.frozen? ⟨g, 0, none⟩ = false ∧ w1.frozen? ⟨g, 1, none⟩ = false ∧ w1.frozen? ⟨g, 2, none⟩ = false) (hg : w.heap.size ≤ g) (n0 : b0 ≠ g) (n1 : b1 ≠ g) : Ext w (((w1.setCell ⟨g, 0, none⟩ x0).setCell ⟨g, 1, none⟩ x1).setCell ⟨g, 2, none⟩ x2) ∧ (((w1.setCell ⟨g, 0, none⟩ x0).setCell ⟨g, 1, none⟩ x1).setCell ⟨g, 2, none⟩ x2).cell? ⟨b0, o0, none⟩ = some u0 ∧ (((w1.setCell ⟨g, 0, none⟩ x0).setCell ⟨g, 1, none⟩ x1).setCell ⟨g, 2, none⟩ x2).cell? ⟨b1, o1, none⟩ = some u1 ∧ (((w1.setCell ⟨g, 0, none⟩ x0).setCell ⟨g, 1, none⟩ x1).setCell ⟨g, 2, none⟩ x2).cell? ⟨g, 0, none⟩ = some (was (((w1.setCell ⟨g, 0, none⟩ x0).setCell ⟨g, 1, none⟩ x1).setCell ⟨g, 2, none⟩ x2) g 0) ∧ (((w1.setCell ⟨g, 0, none⟩ x0).setCell ⟨g, 1, none⟩ x1).setCell ⟨g, 2, none⟩ x2).cell? ⟨g, 1, none⟩ = some (was (((w1.setCell ⟨g, 0, none⟩ x0).setCell ⟨g, 1, none⟩ x1).setCell ⟨g, 2, none⟩ x2) g 1) ∧ (((w1.setCell ⟨g, 0, none⟩ x0).setCell ⟨g, 1, none⟩ x1).setCell ⟨g, 2, none⟩ x2).cell? ⟨g, 2, none⟩ = some (was (((w1.setCell ⟨g, 0, none⟩ x0).setCell ⟨g, 1, none⟩ x1).setCell ⟨g, 2, none⟩ x2) g 2) ∧ (((w1.setCell ⟨g, 0, none⟩ x0).setCell ⟨g, 1, none⟩ x1).setCell ⟨g, 2, none⟩ x2).frozen? ⟨g, 0, none⟩ = false ∧ (((w1.setCell ⟨g, 0, none⟩ x0).setCell ⟨g, 1, none⟩ x1).setCell ⟨g, 2, none⟩ x2).frozen? ⟨g, 1, none⟩ = false ∧ (((w1.setCell ⟨g, 0, none⟩ x0).setCell ⟨g, 1, none⟩ x1).setCell ⟨g, 2, none⟩ x2).frozen? ⟨g, 2, none⟩ = false := by
  obtain ⟨_, k0⟩ := set_was (g := g) (i := 0) (u := x0) h.2.2.2.1
  obtain ⟨_, k0⟩ := set_was (g := g) (i := 1) (u := x1) k0
  obtain ⟨_, k0⟩ := set_was (g := g) (i := 2) (u := x2) k0
  obtain ⟨_, k1⟩ := set_was (g := g) (i := 0) (u := x0) h.2.2.2.2.1
  obtain ⟨_, k1⟩ := set_was (g := g) (i := 1) (u := x1) k1
  obtain ⟨_, k1⟩ := set_was (g := g) (i := 2) (u := x2) k1
  obtain ⟨_, k2⟩ := set_was (g := g) (i := 0) (u := x0) h.2.2.2.2.2.1
  obtain ⟨_, k2⟩ := set_was (g := g) (i := 1) (u := x1) k2
  obtain ⟨_, k2⟩ := set_was (g := g) (i := 2) (u := x2) k2
  exact ⟨(((h.1.setCell hg _).setCell hg _).setCell hg _), (set_far (set_far (set_far h.2.1 n0) n0) n0), (set_far (set_far (set_far h.2.2.1 n1) n1) n1), was_some k0, was_some k1, was_some k2, (set_fz (set_fz (set_fz h.2.2.2.2.2.2.1))), (set_fz (set_fz (set_fz h.2.2.2.2.2.2.2.1))), (set_fz (set_fz (set_fz h.2.2.2.2.2.2.2.2)))⟩
theorem keptS3_3 {w w1 w2 : World} {g b0 o0 b1 o1 b2 o2 : Nat} {u0 u1 u2 : Value} (h : Ext w w1 ∧ w1.cell? ⟨b0, o0, none⟩ = some u0 ∧ w1.cell? ⟨b1, o1, none⟩ = some u1 ∧ w1.cell? ⟨b2, o2, none⟩ = some u2 ∧ w1.cell? ⟨g, 0, none⟩ = some (was w1 g 0) ∧ w1.cell? ⟨g, 1, none⟩ = some (was w1 g 1) ∧ w1.cell? ⟨g, 2, none⟩ = some (was w1 g 2) ∧ w1.frozen? ⟨g, 0, none⟩ = false ∧ w1.frozen? ⟨g, 1, none⟩ = false ∧ w1.frozen? ⟨g, 2, none⟩ = false) (hx : Ext w1 w2) : Ext w w2 ∧ w2.cell? ⟨b0, o0, none⟩ = some u0 ∧ w2.cell? ⟨b1, o1, none⟩ = some u1 ∧ w2.cell? ⟨b2, o2, none⟩ = some u2 ∧ w2.cell? ⟨g, 0, none⟩ = some (was w2 g 0) ∧ w2.cell? ⟨g, 1, none⟩ = some (was w2 g 1) ∧ w2.cell? ⟨g, 2, none⟩ = some (was w2 g 2) ∧ w2.frozen? ⟨g, 0, none⟩ = false ∧ w2.frozen? ⟨g, 1, none⟩ = false ∧ w2.frozen? ⟨g, 2, none⟩ = false :=
  ⟨h.1.trans hx, hx.keep h.2.1, hx.keep h.2.2.1, hx.keep h.2.2.2.1, was_some (hx.keep h.2.2.2.2.1), was_some (hx.keep h.2.2.2.2.2.1), was_some (hx.keep h.2.2.2.2.2.2.1), hx.keepf h.2.2.2.2.1 h.2.2.2.2.2.2.2.1, hx.keepf h.2.2.2.2.2.1 h.2.2.2.2.2.2.2.2.1, hx.keepf h.2.2.2.2.2.2.1 h.2.2.2.2.2.2.2.2.2⟩
theorem keptS3_3_set {w w1 : World} {g b0 o0 b1 o1 b2 o2 : Nat} {u0 u1 u2 : Value} {x0 x1 x2 : Value} (h : Ext w w1 ∧ w1.cell? ⟨b0, o0, none⟩ = some u0 ∧ w1.cell? ⟨b1, o1, none⟩ = some u1 ∧ w1.cell? ⟨b2, o2, none⟩ = some u2 ∧ w1.cell? ⟨g, 0, none⟩ = some (was w1 g 0) ∧ w1.cell? ⟨g, 1, none⟩ = some (was w1 g 1) ∧ w1.cell? ⟨g, 2, none⟩ = some (was w1 g 2) ∧ w1.frozen? ⟨g, 0, none⟩ = false ∧ w1.frozen? ⟨g, 1, none⟩ = false ∧ w1.frozen? ⟨g, 2, none⟩ = false) (hg : w.heap.size ≤ g) (n0 : b0 ≠ g) (n1 : b1 ≠ g) (n2 : b2 ≠ g) : Ext w (((w1.setCell ⟨g, 0, none⟩ x0).setCell ⟨g, 1, none⟩ x1).setCell ⟨g, 2, none⟩ x2) ∧ (((w1.setCell ⟨g, 0, none⟩ x0).setCell ⟨g, 1, none⟩ x1).setCell ⟨g, 2, none⟩ x2).cell? ⟨b0, o0, none⟩ = some u0 ∧ (((w1.setCell ⟨g, 0, none⟩ x0).setCell ⟨g, 1, none⟩ x1).setCell ⟨g, 2, none⟩ x2).cell? ⟨b1, o1, none⟩ = some u1 ∧ (((w1.setCell ⟨g, 0, none⟩ x0).setCell ⟨g, 1, none⟩ x1).setCell ⟨g, 2, none⟩ x2).cell? ⟨b2, o2, none⟩ = some u2 ∧ (((w1.setCell ⟨g, 0, none⟩ x0).setCell ⟨g, 1, none⟩ x1).setCell ⟨g, 2, none⟩ x2).cell? ⟨g, 0, none⟩ = some (was (((w1.setCell ⟨g, 0, none⟩ x0).setCell ⟨g, 1, none⟩ x1).setCell ⟨g, 2, none⟩ x2) g 0) ∧ (((w1.setCell ⟨g, 0, none⟩ x0).setCell ⟨g, 1, none⟩ x1).setCell ⟨g, 2, none⟩ x2).cell? ⟨g, 1, none⟩ = some (was (((w1.setCell ⟨g, 0, none⟩ x0).setCell ⟨g, 1, none⟩ x1).setCell ⟨g, 2, none⟩ x2) g 1) ∧ (((w1.setCell ⟨g, 0, none⟩ x0).setCell ⟨g, 1, none⟩ x1).setCell ⟨g, 2, none⟩ x2).cell? ⟨g, 2, none⟩ = some (was (((w1.setCell ⟨g, 0, none⟩ x0).setCell ⟨g, 1, none⟩ x1).setCell ⟨g, 2, none⟩ x2) g 2) ∧ (((w1.setCell ⟨g, 0, none⟩ x0).setCell ⟨g, 1, none⟩ x1).setCell ⟨g, 2, none⟩ x2).frozen? ⟨g, 0, none⟩ = false ∧ (((w1.setCell ⟨g, 0, none⟩ x0).setCell ⟨g, 1, none⟩ x1).setCell ⟨g, 2, none⟩ x2).frozen? ⟨g, 1, none⟩ = false ∧ (((w1.setCell ⟨g, 0, none⟩ x0).setCell ⟨g, 1, none⟩ x1).setCell ⟨g, 2, none⟩ x2).frozen? ⟨g, 2, none⟩ = false := by
  obtain ⟨_, k0⟩ := set_was (g := g) (i := 0) (u := x0) h.2.2.2.2.1
  obtain ⟨_, k0⟩ := set_was (g := g) (i := 1) (u := x1) k0
  obtain ⟨_, k0⟩ := set_was (g := g) (i := 2) (u := x2) k0
  obtain ⟨_, k1⟩ := set_was (g := g) (i := 0) (u := x0) h.2.2.2.2.2.1
  obtain ⟨_, k1⟩ := set_was (g := g) (i := 1) (u := x1) k1
  obtain ⟨_, k1⟩ := set_was (g := g) (i := 2) (u := x2) k1
  obtain ⟨_, k2⟩ := set_was (g := g) (i := 0) (u := x0) h.2.2.2.2.2.2.1
  obtain ⟨_, k2⟩ := set_was (g := g) (i := 1) (u := x1) k2
  obtain ⟨_, k2⟩ := set_was (g := g) (i := 2) (u := x2) k2
  exact ⟨(((h.1.setCell hg _).setCell hg _).setCell hg _), (set_far (set_far (set_far h.2.1 n0) n0) n0), (set_far (set_far (set_far h.2.2.1 n1) n1) n1), (set_far (set_far (set_far h.2.2.2.1 n2) n2) n2), was_some k0, was_some k1, was_some k2, (set_fz (set_fz (set_fz h.2.2.2.2.2.2.2.1))), (set_fz (set_fz (set_fz h.2.2.2.2.2.2.2.2.1))), (set_fz (set_fz (set_fz h.2.2.2.2.2.2.2.2.2)))⟩
theorem keptS4_3 {w w1 w2 : World} {g b0 o0 b1 o1 b2 o2 b3 o3 : Nat} {u0 u1 u2 u3 : Value} (h : Ext w w1 ∧ w1.cell? ⟨b0, o0, none⟩ = some u0 ∧ w1.cell? ⟨b1, o1, none⟩ = some u1 ∧ w1.cell? ⟨b2, o2, none⟩ = some u2 ∧ w1.cell? ⟨b3, o3, none⟩ = some u3 ∧ w1.cell? ⟨g, 0, none⟩ = some (was w1 g 0) ∧ w1.cell? ⟨g, 1, none⟩ = some (was w1 g 1) ∧ w1.cell? ⟨g, 2, none⟩ = some (was w1 g 2) ∧ w1.frozen? ⟨g, 0, none⟩ = false ∧ w1.frozen? ⟨g, 1, none⟩ = false ∧ w1.frozen? ⟨g, 2, none⟩ = false) (hx : Ext w1 w2) : Ext w w2 ∧ w2.cell? ⟨b0, o0, none⟩ = some u0 ∧ w2.cell? ⟨b1, o1, none⟩ = some u1 ∧ w2.cell? ⟨b2, o2, none⟩ = some u2 ∧ w2.cell? ⟨b3, o3, none⟩ = some u3 ∧ w2.cell? ⟨g, 0, none⟩ = some (was w2 g 0) ∧ w2.cell? ⟨g, 1, none⟩ = some (was w2 g 1) ∧ w2.cell? ⟨g, 2, none⟩ = some (was w2 g 2) ∧ w2.frozen? ⟨g, 0, none⟩ = false ∧ w2.frozen? ⟨g, 1, none⟩ = false ∧ w2.frozen? ⟨g, 2, none⟩ = false :=
  ⟨h.1.trans hx, hx.keep h.2.1, hx.keep h.2.2.1, hx.keep h.2.2.2.1, hx.keep h.2.2.2.2.1, was_some (hx.keep h.2.2.2.2.2.1), was_some (hx.keep h.2.2.2.2.2.2.1), was_some (hx.keep h.2.2.2.2.2.2.2.1), hx.keepf h.2.2.2.2.2.1 h.2.2.2.2.2.2.2.2.1, hx.keepf h.2.2.2.2.2.2.1 h.2.2.2.2.2.2.2.2.2.1, hx.keepf h.2.2.2.2.2.2.2.1 h.2.2.2.2.2.2.2.2.2.2⟩
theorem keptS4_3_set {w w1 : World} {g b0 o0 b1 o1 b2 o2 b3 o3 : Nat} {u0 u1 u2 u3 : Value} {x0 x1 x2 : Value} (h : Ext w w1 ∧ w1.cell? ⟨b0, o0, none⟩ = some u0 ∧ w1.cell? ⟨b1, o1, none⟩ = some u1 ∧ w1.cell? ⟨b2, o2, none⟩ = some u2 ∧ w1.cell? ⟨b3, o3, none⟩ = some u3 ∧ w1.cell? ⟨g, 0, none⟩ = some (was w1 g 0) ∧ w1.cell? ⟨g, 1, none⟩ = some (was w1 g 1) ∧ w1.cell? ⟨g, 2, none⟩ = some (was w1 g 2) ∧ w1.frozen? ⟨g, 0, none⟩ = false ∧ w1.frozen? ⟨g, 1, none⟩ = false ∧ w1.frozen? ⟨g, 2, none⟩ = false) (hg : w.heap.size ≤ g) (n0 : b0 ≠ g) (n1 : b1 ≠ g) (n2 : b2 ≠ g) (n3 : b3 ≠ g) : Ext w (((w1.setCell ⟨g, 0, none⟩ x0).setCell ⟨g, 1, none⟩ x1).setCell ⟨g, 2, none⟩ x2) ∧ (((w1.setCell ⟨g, 0, none⟩ x0).setCell ⟨g, 1, none⟩ x1).setCell ⟨g, 2, none⟩ x2).cell? ⟨b0, o0, none⟩ = some u0 ∧ (((w1.setCell ⟨g, 0, none⟩ x0).setCell ⟨g, 1, none⟩ x1).setCell ⟨g, 2, none⟩ x2).cell? ⟨b1, o1, none⟩ = some u1 ∧ (((w1.setCell ⟨g, 0, none⟩ x0).setCell ⟨g, 1, none⟩ x1).setCell ⟨g, 2, none⟩ x2).cell? ⟨b2, o2, none⟩ = some u2 ∧ (((w1.setCell ⟨g, 0, none⟩ x0).setCell ⟨g, 1, none⟩ x1).setCell ⟨g, 2, none⟩ x2).cell? ⟨b3, o3, none⟩ = some u3 ∧ (((w1.setCell ⟨g, 0, none⟩ x0).setCell ⟨g, 1, none⟩ x1).setCell ⟨g, 2, none⟩ x2).cell? ⟨g, 0, none⟩ = some (was (((w1.setCell ⟨g, 0, none⟩ x0).setCell ⟨g, 1, none⟩ x1).setCell ⟨g, 2, none⟩ x2) g 0) ∧ (((w1.setCell ⟨g, 0, none⟩ x0).setCell ⟨g, 1, none⟩ x1).setCell ⟨g, 2, none⟩ x2).cell? ⟨g, 1, none⟩ = some (was (((w1.setCell ⟨g, 0, none⟩ x0).setCell ⟨g, 1, none⟩ x1).setCell ⟨g, 2, none⟩ x2) g 1) ∧ (((w1.setCell ⟨g, 0, none⟩ x0).setCell ⟨g, 1, none⟩ x1).setCell ⟨g, 2, none⟩ x2).cell? ⟨g, 2, none⟩ = some (was (((w1.setCell ⟨g, 0, none⟩ x0).setCell ⟨g, 1, none⟩ x1).setCell ⟨g, 2, none⟩ x2) g 2) ∧ (((w1.setCell ⟨g, 0, none⟩ x0).setCell ⟨g, 1, none⟩ x1).setCell ⟨g, 2, none⟩ x2).frozen? ⟨g, 0, none⟩ = false ∧ (((w1.setCell ⟨g, 0, none⟩ x0).setCell ⟨g, 1, none⟩ x1).setCell ⟨g, 2, none⟩ x2).frozen? ⟨g, 1, none⟩ = false ∧ (((w1.setCell ⟨g, 0, none⟩ x0).setCell ⟨g, 1, none⟩ x1).setCell ⟨g, 2, none⟩ x2).frozen? ⟨g, 2, none⟩ = false := by
  obtain ⟨_, k0⟩ := set_was (g := g) (i := 0) (u := x0) h.2.2.2.2.2.1
  obtain ⟨_, k0⟩ := set_was (g := g) (i := 1) (u := x1) k0
  obtain ⟨_, k0⟩ := set_was (g := g) (i := 2) (u := x2) k0
  obtain ⟨_, k1⟩ := set_was (g := g) (i := 0) (u := x0) h.2.2.2.2.2.2.1
  obtain ⟨_, k1⟩ := set_was (g := g) (i := 1) (u := x1) k1
  obtain ⟨_, k1⟩ := set_was (g := g) (i := 2) (u := x2) k1
  obtain ⟨_, k2⟩ := set_was (g := g) (i := 0) (u := x0) h.2.2.2.2.2.2.2.1
  obtain ⟨_, k2⟩ := set_was (g := g) (i := 1) (u := x1) k2
  obtain ⟨_, k2⟩ := set_was (g := g) (i := 2) (u := x2) k2
  exact ⟨(((h.1.setCell hg _).setCell hg _).setCell hg _), (set_far (set_far (set_far h.2.1 n0) n0) n0), (set_far (set_far (set_far h.2.2.1 n1) n1) n1), (set_far (set_far (set_far h.2.2.2.1 n2) n2) n2), (set_far (set_far (set_far h.2.2.2.2.1 n3) n3) n3), was_some k0, was_some k1, was_some k2, (set_fz (set_fz (set_fz h.2.2.2.2.2.2.2.2.1))), (set_fz (set_fz (set_fz h.2.2.2.2.2.2.2.2.2.1))), (set_fz (set_fz (set_fz h.2.2.2.2.2.2.2.2.2.2)))⟩
theorem keptS5_3 {w w1 w2 : World} {g b0 o0 b1 o1 b2 o2 b3 o3 b4 o4 : Nat} {u0 u1 u2 u3 u4 : Value} (h : Ext w w1 ∧ w1.cell? ⟨b0, o0, none⟩ = some u0 ∧ w1.cell? ⟨b1, o1, none⟩ = some u1 ∧ w1.cell? ⟨b2, o2, none⟩ = some u2 ∧ w1.cell? ⟨b3, o3, none⟩ = some u3 ∧ w1.cell? ⟨b4, o4, none⟩ = some u4 ∧ w1.cell? ⟨g, 0, none⟩ = some (was w1 g 0) ∧ w1.cell? ⟨g, 1, none⟩ = some (was w1 g 1) ∧ w1.cell? ⟨g, 2, none⟩ = some (was w1 g 2) ∧ w1.frozen? ⟨g, 0, none⟩ = false ∧ w1.frozen? ⟨g, 1, none⟩ = false ∧ w1.frozen? ⟨g, 2, none⟩ = false) (hx : Ext w1 w2) : Ext w w2 ∧ w2.cell? ⟨b0, o0, none⟩ = some u0 ∧ w2.cell? ⟨b1, o1, none⟩ = some u1 ∧ w2.cell? ⟨b2, o2, none⟩ = some u2 ∧ w2.cell? ⟨b3, o3, none⟩ = some u3 ∧ w2.cell? ⟨b4, o4, none⟩ = some u4 ∧ w2.cell? ⟨g, 0, none⟩ = some (was w2 g 0) ∧ w2.cell? ⟨g, 1, none⟩ = some (was w2 g 1) ∧ w2.cell? ⟨g, 2, none⟩ = some (was w2 g 2) ∧ w2.frozen? ⟨g, 0, none⟩ = false ∧ w2.frozen? ⟨g, 1, none⟩ = false ∧ w2.frozen? ⟨g, 2, none⟩ = false :=
  ⟨h.1.trans hx, hx.keep h.2.1, hx.keep h.2.2.1, hx.keep h.2.2.2.1, hx.keep h.2.2.2.2.1, hx.keep h.2.2.2.2.2.1, was_some (hx.keep h.2.2.2.2.2.2.1), was_some (hx.keep h.2.2.2.2.2.2.2.1), was_some (hx.keep h.2.2.2.2.2.2.2.2.1), hx.keepf h.2.2.2.2.2.2.1 h.2.2.2.2.2.2.2.2.2.1, hx.keepf h.2.2.2.2.2.2.2.1 h.2.2.2.2.2.2.2.2.2.2.1, hx.keepf h.2.2.2.2.2.2.2.2.1 h.2.2.2.2.2.2.2.2.2.2.2⟩
theorem keptS5_3_set {w w1 : World} {g b0 o0 b1 o1 b2 o2 b3 o3 b4 o4 : Nat} {u0 u1 u2 u3 u4 : Value} {x0 x1 x2 : Value} (h : Ext w w1 ∧ w1.cell? ⟨b0, o0, none⟩ = some u0 ∧ w1.cell? ⟨b1, o1, none⟩ = some u1 ∧ w1.cell? ⟨b2, o2, none⟩ = some u2 ∧ w1.cell? ⟨b3, o3, none⟩ = some u3 ∧ w1.cell? ⟨b4, o4, none⟩ = some u4 ∧ w1.cell? ⟨g, 0, none⟩ = some (was w1 g 0) ∧ w1.cell? ⟨g, 1, none⟩ = some (was w1 g 1) ∧ w1.cell? ⟨g, 2, none⟩ = some (was w1 g 2) ∧ w1.frozen? ⟨g, 0, none⟩ = false ∧ w1.frozen? ⟨g, 1, none⟩ = false ∧ w1.frozen? ⟨g, 2, none⟩ = false) (hg : w.heap.size ≤ g) (n0 : b0 ≠ g) (n1 : b1 ≠ g) (n2 : b2 ≠ g) (n3 : b3 ≠ g) (n4 : b4 ≠ g) : Ext w (((w1.setCell ⟨g, 0, none⟩ x0).setCell ⟨g, 1, none⟩ x1).setCell ⟨g, 2, none⟩ x2) ∧ (((w1.setCell ⟨g, 0, none⟩ x0).setCell ⟨g, 1, none⟩ x1).setCell ⟨g, 2, none⟩ x2).cell? ⟨b0, o0, none⟩ = some u0 ∧ (((w1.setCell ⟨g, 0, none⟩ x0).setCell ⟨g, 1, none⟩ x1).setCell ⟨g, 2, none⟩ x2).cell? ⟨b1, o1, none⟩ = some u1 ∧ (((w1.setCell ⟨g, 0, none⟩ x0).setCell ⟨g, 1, none⟩ x1).setCell ⟨g, 2, none⟩ x2).cell? ⟨b2, o2, none⟩ = some u2 ∧ (((w1.setCell ⟨g, 0, none⟩ x0).setCell ⟨g, 1, none⟩ x1).setCell ⟨g, 2, none⟩ x2).cell? ⟨b3, o3, none⟩ = some u3 ∧ (((w1.setCell ⟨g, 0, none⟩ x0).setCell ⟨g, 1, none⟩ x1).setCell ⟨g, 2, none⟩ x2).cell? ⟨b4, o4, none⟩ = some u4 ∧ (((w1.setCell ⟨g, 0, none⟩ x0).setCell ⟨g, 1, none⟩ x1).setCell ⟨g, 2, none⟩ x2).cell? ⟨g, 0, none⟩ = some (was (((w1.setCell ⟨g, 0, none⟩ x0).setCell ⟨g, 1, none⟩ x1).setCell ⟨g, 2, none⟩ x2) g 0) ∧ (((w1.setCell ⟨g, 0, none⟩ x0).setCell ⟨g, 1, none⟩ x1).setCell ⟨g, 2, none⟩ x2).cell? ⟨g, 1, none⟩ = some (was (((w1.setCell ⟨g, 0, none⟩ x0).setCell ⟨g, 1, none⟩ x1).setCell ⟨g, 2, none⟩ x2) g 1) ∧ (((w1.setCell ⟨g, 0, none⟩ x0).setCell ⟨g, 1, none⟩ x1).setCell ⟨g, 2, none⟩ x2).cell? ⟨g, 2, none⟩ = some (was (((w1.setCell ⟨g, 0, none⟩ x0).setCell ⟨g, 1, none⟩ x1).setCell ⟨g, 2, none⟩ x2) g 2) ∧ (((w1.setCell ⟨g, 0, none⟩ x0).setCell ⟨g, 1, none⟩ x1).setCell ⟨g, 2, none⟩ x2).frozen? ⟨g, 0, none⟩ = false ∧ (((w1.setCell ⟨g, 0, none⟩ x0).setCell ⟨g, 1, none⟩ x1).setCell ⟨g, 2, none⟩ x2).frozen? ⟨g, 1, none⟩ = false ∧ (((w1.setCell ⟨g, 0, none⟩ x0).setCell ⟨g, 1, none⟩ x1).setCell ⟨g, 2, none⟩ x2).frozen? ⟨g, 2, none⟩ = false := by
  obtain ⟨_, k0⟩ := set_was (g := g) (i := 0) (u := x0) h.2.2.2.2.2.2.1
  obtain ⟨_, k0⟩ := set_was (g := g) (i := 1) (u := x1) k0
  obtain ⟨_, k0⟩ := set_was (g := g) (i := 2) (u := x2) k0
  obtain ⟨_, k1⟩ := set_was (g := g) (i := 0) (u := x0) h.2.2.2.2.2.2.2.1
  obtain ⟨_, k1⟩ := set_was (g := g) (i := 1) (u := x1) k1
  obtain ⟨_, k1⟩ := set_was (g := g) (i := 2) (u := x2) k1
  obtain ⟨_, k2⟩ := set_was (g := g) (i := 0) (u := x0) h.2.2.2.2.2.2.2.2.1
  obtain ⟨_, k2⟩ := set_was (g := g) (i := 1) (u := x1) k2
  obtain ⟨_, k2⟩ := set_was (g := g) (i := 2) (u := x2) k2
  exact ⟨(((h.1.setCell hg _).setCell hg _).setCell hg _), (set_far (set_far (set_far h.2.1 n0) n0) n0), (set_far (set_far (set_far h.2.2.1 n1) n1) n1), (set_far (set_far (set_far h.2.2.2.1 n2) n2) n2), (set_far (set_far (set_far h.2.2.2.2.1 n3) n3) n3), (set_far (set_far (set_far h.2.2.2.2.2.1 n4) n4) n4), was_some k0, was_some k1, was_some k2, (set_fz (set_fz (set_fz h.2.2.2.2.2.2.2.2.2.1))), (set_fz (set_fz (set_fz h.2.2.2.2.2.2.2.2.2.2.1))), (set_fz (set_fz (set_fz h.2.2.2.2.2.2.2.2.2.2.2)))⟩
theorem keptS6_3 {w w1 w2 : World} {g b0 o0 b1 o1 b2 o2 b3 o3 b4 o4 b5 o5 : Nat} {u0 u1 u2 u3 u4 u5 : Value} (h : Ext w w1 ∧ w1.cell? ⟨b0, o0, none⟩ = some u0 ∧ w1.cell? ⟨b1, o1, none⟩ = some u1 ∧ w1.cell? ⟨b2, o2, none⟩ = some u2 ∧ w1.cell? ⟨b3, o3, none⟩ = some u3 ∧ w1.cell? ⟨b4, o4, none⟩ = some u4 ∧ w1.cell? ⟨b5, o5, none⟩ = some u5 ∧ w1.cell? ⟨g, 0, none⟩ = some (was w1 g 0) ∧ w1.cell? ⟨g, 1, none⟩ = some (was w1 g 1) ∧ w1.cell? ⟨g, 2, none⟩ = some (was w1 g 2) ∧ w1.frozen? ⟨g, 0, none⟩ = false ∧ w1.frozen? ⟨g, 1, none⟩ = false ∧ w1.frozen? ⟨g, 2, none⟩ = false) (hx : Ext w1 w2) : Ext w w2 ∧ w2.cell? ⟨b0, o0, none⟩ = some u0 ∧ w2.cell? ⟨b1, o1, none⟩ = some u1 ∧ w2.cell? ⟨b2, o2, none⟩ = some u2 ∧ w2.cell? ⟨b3, o3, none⟩ = some u3 ∧ w2.cell? ⟨b4, o4, none⟩ = some u4 ∧ w2.cell? ⟨b5, o5, none⟩ = some u5 ∧ w2.cell? ⟨g, 0, none⟩ = some (was w2 g 0) ∧ w2.cell? ⟨g, 1, none⟩ = some (was w2 g 1) ∧ w2.cell? ⟨g, 2, none⟩ = some (was w2 g 2) ∧ w2.frozen? ⟨g, 0, none⟩ = false ∧ w2.frozen? ⟨g, 1, none⟩ = false ∧ w2.frozen? ⟨g, 2, none⟩ = false :=
  ⟨h.1.trans hx, hx.keep h.2.1, hx.keep h.2.2.1, hx.keep h.2.2.2.1, hx.keep h.2.2.2.2.1, hx.keep h.2.2.2.2.2.1, hx.keep h.2.2.2.2.2.2.1, was_some (hx.keep h.2.2.2.2.2.2.2.1), was_some (hx.keep h.2.2.2.2.2.2.2.2.1), was_some (hx.keep h.2.2.2.2.2.2.2.2.2.1), hx.keepf h.2.2.2.2.2.2.2.1 h.2.2.2.2.2.2.2.2.2.2.1, hx.keepf h.2.2.2.2.2.2.2.2.1 h.2.2.2.2.2.2.2.2.2.2.2.1, hx.keepf h.2.2.2.2.2.2.2.2.2.1 h.2.2.2.2.2.2.2.2.2.2.2.2⟩
theorem keptS6_3_set {w w1 : World} {g b0 o0 b1 o1 b2 o2 b3 o3 b4 o4 b5 o5 : Nat} {u0 u1 u2 u3 u4 u5 : Value} {x0 x1 x2 : Value} (h : Ext w w1 ∧ w1.cell? ⟨b0, o0, none⟩ = some u0 ∧ w1.cell? ⟨b1, o1, none⟩ = some u1 ∧ w1.cell? ⟨b2, o2, none⟩ = some u2 ∧ w1.cell? ⟨b3, o3, none⟩ = some u3 ∧ w1.cell? ⟨b4, o4, none⟩ = some u4 ∧ w1.cell? ⟨b5, o5, none⟩ = some u5 ∧ w1.cell? ⟨g, 0, none⟩ = some (was w1 g 0) ∧ w1.cell? ⟨g, 1, none⟩ = some (was w1 g 1) ∧ w1.cell? ⟨g, 2, none⟩ = some (was w1 g 2) ∧ w1.frozen? ⟨g, 0, none⟩ = false ∧ w1.frozen? ⟨g, 1, none⟩ = false ∧ w1.frozen? ⟨g, 2, none⟩ = false) (hg : w.heap.size ≤ g) (n0 : b0 ≠ g) (n1 : b1 ≠ g) (n2 : b2 ≠ g) (n3 : b3 ≠ g) (n4 : b4 ≠ g) (n5 : b5 ≠ g) : Ext w (((w1.setCell ⟨g, 0, none⟩ x0).setCell ⟨g, 1, none⟩ x1).setCell ⟨g, 2, none⟩ x2) ∧ (((w1.setCell ⟨g, 0, none⟩ x0).setCell ⟨g, 1, none⟩ x1).setCell ⟨g, 2, none⟩ x2).cell? ⟨b0, o0, none⟩ = some u0 ∧ (((w1.setCell ⟨g, 0, none⟩ x0).setCell ⟨g, 1, none⟩ x1).setCell ⟨g, 2, none⟩ x2).cell? ⟨b1, o1, none⟩ = some u1 ∧ (((w1.setCell ⟨g, 0, none⟩ x0).setCell ⟨g, 1, none⟩ x1).setCell ⟨g, 2, none⟩ x2).cell? ⟨b2, o2, none⟩ = some u2 ∧ (((w1.setCell ⟨g, 0, none⟩ x0).setCell ⟨g, 1, none⟩ x1).setCell ⟨g, 2, none⟩ x2).cell? ⟨b3, o3, none⟩ = some u3 ∧ (((w1.setCell ⟨g, 0, none⟩ x0).setCell ⟨g, 1, none⟩ x1).setCell ⟨g, 2, none⟩ x2).cell? ⟨b4, o4, none⟩ = some u4 ∧ (((w1.setCell ⟨g, 0, none⟩ x0).setCell ⟨g, 1, none⟩ x1).setCell ⟨g, 2, none⟩ x2).cell? ⟨b5, o5, none⟩ = some u5 ∧ (((w1.setCell ⟨g, 0, none⟩ x0).setCell ⟨g, 1, none⟩ x1).setCell ⟨g, 2, none⟩ x2).cell? ⟨g, 0, none⟩ = some (was (((w1.setCell ⟨g, 0, none⟩ x0).setCell ⟨g, 1, none⟩ x1).setCell ⟨g, 2, none⟩ x2) g 0) ∧ (((w1.setCell ⟨g, 0, none⟩ x0).setCell ⟨g, 1, none⟩ x1).setCell ⟨g, 2, none⟩ x2).cell? ⟨g, 1, none⟩ = some (was (((w1.setCell ⟨g, 0, none⟩ x0).setCell ⟨g, 1, none⟩ x1).setCell ⟨g, 2, none⟩ x2) g 1) ∧ (((w1.setCell ⟨g, 0, none⟩ x0).setCell ⟨g, 1, none⟩ x1).setCell ⟨g, 2, none⟩ x2).cell? ⟨g, 2, none⟩ = some (was (((w1.setCell ⟨g, 0, none⟩ x0).setCell ⟨g, 1, none⟩ x1).setCell ⟨g, 2, none⟩ x2) g 2) ∧ (((w1.setCell ⟨g, 0, none⟩ x0).setCell ⟨g, 1, none⟩ x1).setCell ⟨g, 2, none⟩ x2).frozen? ⟨g, 0, none⟩ = false ∧ (((w1.setCell ⟨g, 0, none⟩ x0).setCell ⟨g, 1, none⟩ x1).setCell ⟨g, 2, none⟩ x2).frozen? ⟨g, 1, none⟩ = false ∧ (((w1.setCell ⟨g, 0, none⟩ x0).setCell ⟨g, 1, none⟩ x1).setCell ⟨g, 2, none⟩ x2).frozen? ⟨g, 2, none⟩ = false := by
  obtain ⟨_, k0⟩ := set_was (g := g) (i := 0) (u := x0) h.2.2.2.2.2.2.2.1
  obtain ⟨_, k0⟩ := set_was (g := g) (i := 1) (u := x1) k0
  obtain ⟨_, k0⟩ := set_was (g := g) (i := 2) (u := x2) k0
  obtain ⟨_, k1⟩ := set_was (g := g) (i := 0) (u := x0) h.2.2.2.2.2.2.2.2.1
  obtain ⟨_, k1⟩ := set_was (g := g) (i := 1) (u := x1) k1
  obtain ⟨_, k1⟩ := set_was (g := g) (i := 2) (u := x2) k1
  obtain ⟨_, k2⟩ := set_was (g := g) (i := 0) (u := x0) h.2.2.2.2.2.2.2.2.2.1
  obtain ⟨_, k2⟩ := set_was (g := g) (i := 1) (u := x1) k2
  obtain ⟨_, k2⟩ := set_was (g := g) (i := 2) (u := x2) k2
  exact ⟨(((h.1.setCell hg _).setCell hg _).setCell hg _), (set_far (set_far (set_far h.2.1 n0) n0) n0), (set_far (set_far (set_far h.2.2.1 n1) n1) n1), (set_far (set_far (set_far h.2.2.2.1 n2) n2) n2), (set_far (set_far (set_far h.2.2.2.2.1 n3) n3) n3), (set_far (set_far (set_far h.2.2.2.2.2.1 n4) n4) n4), (set_far (set_far (set_far h.2.2.2.2.2.2.1 n5) n5) n5), was_some k0, was_some k1, was_some k2, (set_fz (set_fz (set_fz h.2.2.2.2.2.2.2.2.2.2.1))), (set_fz (set_fz (set_fz h.2.2.2.2.2.2.2.2.2.2.2.1))), (set_fz (set_fz (set_fz h.2.2.2.2.2.2.2.2.2.2.2.2)))⟩
theorem keptS7_3 {w w1 w2 : World} {g b0 o0 b1 o1 b2 o2 b3 o3 b4 o4 b5 o5 b6 o6 : Nat} {u0 u1 u2 u3 u4 u5 u6 : Value} (h : Ext w w1 ∧ w1.cell? ⟨b0, o0, none⟩ = some u0 ∧ w1.cell? ⟨b1, o1, none⟩ = some u1 ∧ w1.cell? ⟨b2, o2, none⟩ = some u2 ∧ w1.cell? ⟨b3, o3, none⟩ = some u3 ∧ w1.cell? ⟨b4, o4, none⟩ = some u4 ∧ w1.cell? ⟨b5, o5, none⟩ = some u5 ∧ w1.cell? ⟨b6, o6, none⟩ = some u6 ∧ w1.cell? ⟨g, 0, none⟩ = some (was w1 g 0) ∧ w1.cell? ⟨g, 1, none⟩ = some (was w1 g 1) ∧ w1.cell? ⟨g, 2, none⟩ = some (was w1 g 2) ∧ w1.frozen? ⟨g, 0, none⟩ = false ∧ w1.frozen? ⟨g, 1, none⟩ = false ∧ w1.frozen? ⟨g, 2, none⟩ = false) (hx : Ext w1 w2) : Ext w w2 ∧ w2.cell? ⟨b0, o0, none⟩ = some u0 ∧ w2.cell? ⟨b1, o1, none⟩ = some u1 ∧ w2.cell? ⟨b2, o2, none⟩ = some u2 ∧ w2.cell? ⟨b3, o3, none⟩ = some u3 ∧ w2.cell? ⟨b4, o4, none⟩ = some u4 ∧ w2.cell? ⟨b5, o5, none⟩ = some u5 ∧ w2.cell? ⟨b6, o6, none⟩ = some u6 ∧ w2.cell? ⟨g, 0, none⟩ = some (was w2 g 0) ∧ w2.cell? ⟨g, 1, none⟩ = some (was w2 g 1) ∧ w2.cell? ⟨g, 2, none⟩ = some (was w2 g 2) ∧ w2.frozen? ⟨g, 0, none⟩ = false ∧ w2.frozen? ⟨g, 1, none⟩ = false ∧ w2.frozen? ⟨g, 2, none⟩ = false :=
  ⟨h.1.trans hx, hx.keep h.2.1, hx.keep h.2.2.1, hx.keep h.2.2.2.1, hx.keep h.2.2.2.2.1, hx.keep h.2.2.2.2.2.1, hx.keep h.2.2.2.2.2.2.1, hx.keep h.2.2.2.2.2.2.2.1, was_some (hx.keep h.2.2.2.2.2.2.2.2.1), was_some (hx.keep h.2.2.2.2.2.2.2.2.2.1), was_some (hx.keep h.2.2.2.2.2.2.2.2.2.2.1), hx.keepf h.2.2.2.2.2.2.2.2.1 h.2.2.2.2.2.2.2.2.2.2.2.1, hx.keepf h.2.2.2.2.2.2.2.2.2.1 h.2.2.2.2.2.2.2.2.2.2.2.2.1, hx.keepf h.2.2.2.2.2.2.2.2.2.2.1 h.2.2.2.2.2.2.2.2.2.2.2.2.2⟩
theorem keptS7_3_set {w w1 : World} {g b0 o0 b1 o1 b2 o2 b3 o3 b4 o4 b5 o5 b6 o6 : Nat} {u0 u1 u2 u3 u4 u5 u6 : Value} {x0 x1 x2 : Value} (h : Ext w w1 ∧ w1.cell? ⟨b0, o0, none⟩ = some u0 ∧ w1.cell? ⟨b1, o1, none⟩ = some u1 ∧ w1.cell? ⟨b2, o2, none⟩ = some u2 ∧ w1.cell? ⟨b3, o3, none⟩ = some u3 ∧ w1.cell? ⟨b4, o4, none⟩ = some u4 ∧ w1.cell? ⟨b5, o5, none⟩ = some u5 ∧ w1.cell? ⟨b6, o6, none⟩ = some u6 ∧ w1.cell? ⟨g, 0, none⟩ = some (was w1 g 0) ∧ w1.cell? ⟨g, 1, none⟩ = some (was w1 g 1) ∧ w1.cell? ⟨g, 2, none⟩ = some (was w1 g 2) ∧ w1.frozen? ⟨g, 0, none⟩ = false ∧ w1.frozen? ⟨g, 1, none⟩ = false ∧ w1.frozen? ⟨g, 2, none⟩ = false) (hg : w.heap.size ≤ g) (n0 : b0 ≠ g) (n1 : b1 ≠ g) (n2 : b2 ≠ g) (n3 : b3 ≠ g) (n4 : b4 ≠ g) (n5 : b5 ≠ g) (n6 : b6 ≠ g) : Ext w (((w1.setCell ⟨g, 0, none⟩ x0).setCell ⟨g, 1, none⟩ x1).setCell ⟨g, 2, none⟩ x2) ∧ (((w1.setCell ⟨g, 0, none⟩ x0).setCell ⟨g, 1, none⟩ x1).setCell ⟨g, 2, none⟩ x2).cell? ⟨b0, o0, none⟩ = some u0 ∧ (((w1.setCell ⟨g, 0, none⟩ x0).setCell ⟨g, 1, none⟩ x1).setCell ⟨g, 2, none⟩ x2).cell? ⟨b1, o1, none⟩ = some u1 ∧ (((w1.setCell ⟨g, 0, none⟩ x0).setCell ⟨g, 1, none⟩ x1).setCell ⟨g, 2, none⟩ x2).cell? ⟨b2, o2, none⟩ = some u2 ∧ (((w1.setCell ⟨g, 0, none⟩ x0).setCell ⟨g, 1, none⟩ x1).setCell ⟨g, 2, none⟩ x2).cell? ⟨b3, o3, none⟩ = some u3 ∧ (((w1.setCell ⟨g, 0, none⟩ x0).setCell ⟨g, 1, none⟩ x1).setCell ⟨g, 2, none⟩ x2).cell? ⟨b4, o4, none⟩ = some u4 ∧ (((w1.setCell ⟨g, 0, none⟩ x0).setCell ⟨g, 1, none⟩ x1).setCell ⟨g, 2, none⟩ x2).cell? ⟨b5, o5, none⟩ = some u5 ∧ (((w1.setCell ⟨g, 0, none⟩ x0).setCell ⟨g, 1, none⟩ x1).setCell ⟨g, 2, none⟩ x2).cell? ⟨b6, o6, none⟩ = some u6 ∧ (((w1.setCell ⟨g, 0, none⟩ x0).setCell ⟨g, 1, none⟩ x1).setCell ⟨g, 2, none⟩ x2).cell? ⟨g, 0, none⟩ = some (was (((w1.setCell ⟨g, 0, none⟩ x0).setCell ⟨g, 1, none⟩ x1).setCell ⟨g, 2, none⟩ x2) g 0) ∧ (((w1.setCell ⟨g, 0, none⟩ x0).setCell ⟨g, 1, none⟩ x1).setCell ⟨g, 2, none⟩ x2).cell? ⟨g, 1, none⟩ = some (was (((w1.setCell ⟨g, 0, none⟩ x0).setCell ⟨g, 1, none⟩ x1).setCell ⟨g, 2, none⟩ x2) g 1) ∧ (((w1.setCell ⟨g, 0, none⟩ x0).setCell ⟨g, 1, none⟩ x1).setCell ⟨g, 2, none⟩ x2).cell? ⟨g, 2, none⟩ = some (was (((w1.setCell ⟨g, 0, none⟩ x0).setCell ⟨g, 1, none⟩ x1).setCell ⟨g, 2, none⟩ x2) g 2) ∧ (((w1.setCell ⟨g, 0, none⟩ x0).setCell ⟨g, 1, none⟩ x1).setCell ⟨g, 2, none⟩ x2).frozen? ⟨g, 0, none⟩ = false ∧ (((w1.setCell ⟨g, 0, none⟩ x0).setCell ⟨g, 1, none⟩ x1).setCell ⟨g, 2, none⟩ x2).frozen? ⟨g, 1, none⟩ = false ∧ (((w1.setCell ⟨g, 0, none⟩ x0).setCell ⟨g, 1, none⟩ x1).setCell ⟨g, 2, none⟩ x2).frozen? ⟨g, 2, none⟩ = false := by
  obtain ⟨_, k0⟩ := set_was (g := g) (i := 0) (u := x0) h.2.2.2.2.2.2.2.2.1
  obtain ⟨_, k0⟩ := set_was (g := g) (i := 1) (u := x1) k0
  obtain ⟨_, k0⟩ := set_was (g := g) (i := 2) (u := x2) k0
  obtain ⟨_, k1⟩ := set_was (g := g) (i := 0) (u := x0) h.2.2.2.2.2.2.2.2.2.1
  obtain ⟨_, k1⟩ := set_was (g := g) (i := 1) (u := x1) k1
  obtain ⟨_, k1⟩ := set_was (g := g) (i := 2) (u := x2) k1
  obtain ⟨_, k2⟩ := set_was (g := g) (i := 0) (u := x0) h.2.2.2.2.2.2.2.2.2.2.1
  obtain ⟨_, k2⟩ := set_was (g := g) (i := 1) (u := x1) k2
  obtain ⟨_, k2⟩ := set_was (g := g) (i := 2) (u := x2) k2
  exact ⟨(((h.1.setCell hg _).setCell hg _).setCell hg _), (set_far (set_far (set_far h.2.1 n0) n0) n0), (set_far (set_far (set_far h.2.2.1 n1) n1) n1), (set_far (set_far (set_far h.2.2.2.1 n2) n2) n2), (set_far (set_far (set_far h.2.2.2.2.1 n3) n3) n3), (set_far (set_far (set_far h.2.2.2.2.2.1 n4) n4) n4), (set_far (set_far (set_far h.2.2.2.2.2.2.1 n5) n5) n5), (set_far (set_far (set_far h.2.2.2.2.2.2.2.1 n6) n6) n6), was_some k0, was_some k1, was_some k2, (set_fz (set_fz (set_fz h.2.2.2.2.2.2.2.2.2.2.2.1))), (set_fz (set_fz (set_fz h.2.2.2.2.2.2.2.2.2.2.2.2.1))), (set_fz (set_fz (set_fz h.2.2.2.2.2.2.2.2.2.2.2.2.2)))⟩
theorem keptS8_3 {w w1 w2 : World} {g b0 o0 b1 o1 b2 o2 b3 o3 b4 o4 b5 o5 b6 o6 b7 o7 : Nat} {u0 u1 u2 u3 u4 u5 u6 u7 : Value} (h : Ext w w1 ∧ w1.cell? ⟨b0, o0, none⟩ = some u0 ∧ w1.cell? ⟨b1, o1, none⟩ = some u1 ∧ w1.cell? ⟨b2, o2, none⟩ = some u2 ∧ w1.cell? ⟨b3, o3, none⟩ = some u3 ∧ w1.cell? ⟨b4, o4, none⟩ = some u4 ∧ w1.cell? ⟨b5, o5, none⟩ = some u5 ∧ w1.cell? ⟨b6, o6, none⟩ = some u6 ∧ w1.cell? ⟨b7, o7, none⟩ = some u7 ∧ w1.cell? ⟨g, 0, none⟩ = some (was w1 g 0) ∧ w1.cell? ⟨g, 1, none⟩ = some (was w1 g 1) ∧ w1.cell? ⟨g, 2, none⟩ = some (was w1 g 2) ∧ w1.frozen? ⟨g, 0, none⟩ = false ∧ w1.frozen? ⟨g, 1, none⟩ = false ∧ w1.frozen? ⟨g, 2, none⟩ = false) (hx : Ext w1 w2) : Ext w w2 ∧ w2.cell? ⟨b0, o0, none⟩ = some u0 ∧ w2.cell? ⟨b1, o1, none⟩ = some u1 ∧ w2.cell? ⟨b2, o2, none⟩ = some u2 ∧ w2.cell? ⟨b3, o3, none⟩ = some u3 ∧ w2.cell? ⟨b4, o4, none⟩ = some u4 ∧ w2.cell? ⟨b5, o5, none⟩ = some u5 ∧ w2.cell? ⟨b6, o6, none⟩ = some u6 ∧ w2.cell? ⟨b7, o7, none⟩ = some u7 ∧ w2.cell? ⟨g, 0, none⟩ = some (was w2 g 0) ∧ w2.cell? ⟨g, 1, none⟩ = some (was w2 g 1) ∧ w2.cell? ⟨g, 2, none⟩ = some (was w2 g 2) ∧ w2.frozen? ⟨g, 0, none⟩ = false ∧ w2.frozen? ⟨g, 1, none⟩ = false ∧ w2.frozen? ⟨g, 2, none⟩ = false :=
  ⟨h.1.trans hx, hx.keep h.2.1, hx.keep h.2.2.1, hx.keep h.2.2.2.1, hx.keep h.2.2.2.2.1, hx.keep h.2.2.2.2.2.1, hx.keep h.2.2.2.2.2.2.1, hx.keep h.2.2.2.2.2.2.2.1, hx.keep h.2.2.2.2.2.2.2.2.1, was_some (hx.keep h.2.2.2.2.2.2.2.2.2.1), was_some (hx.keep h.2.2.2.2.2.2.2.2.2.2.1), was_some (hx.keep h.2.2.2.2.2.2.2.2.2.2.2.1), hx.keepf h.2.2.2.2.2.2.2.2.2.1 h.2.2.2.2.2.2.2.2.2.2.2.2.1, hx.keepf h.2.2.2.2.2.2.2.2.2.2.1 h.2.2.2.2.2.2.2.2.2.2.2.2.2.1, hx.keepf h.2.2.2.2.2.2.2.2.2.2.2.1 h.2.2.2.2.2.2.2.2.2.2.2.2.2.2⟩
theorem keptS8_3_set {w w1 : World} {g b0 o0 b1 o1 b2 o2 b3 o3 b4 o4 b5 o5 b6 o6 b7 o7 : Nat} {u0 u1 u2 u3 u4 u5 u6 u7 : Value} {x0 x1 x2 : Value} (h : Ext w w1 ∧ w1.cell? ⟨b0, o0, none⟩ = some u0 ∧ w1.cell? ⟨b1, o1, none⟩ = some u1 ∧ w1.cell? ⟨b2, o2, none⟩ = some u2 ∧ w1.cell? ⟨b3, o3, none⟩ = some u3 ∧ w1.cell? ⟨b4, o4, none⟩ = some u4 ∧ w1.cell? ⟨b5, o5, none⟩ = some u5 ∧ w1.cell? ⟨b6, o6, none⟩ = some u6 ∧ w1.cell? ⟨b7, o7, none⟩ = some u7 ∧ w1.cell? ⟨g, 0, none⟩ = some (was w1 g 0) ∧ w1.cell? ⟨g, 1, none⟩ = some (was w1 g 1) ∧ w1.cell? ⟨g, 2, none⟩ = some (was w1 g 2) ∧ w1.frozen? ⟨g, 0, none⟩ = false ∧ w1.frozen? ⟨g, 1, none⟩ = false ∧ w1.frozen? ⟨g, 2, none⟩ = false) (hg : w.heap.size ≤ g) (n0 : b0 ≠ g) (n1 : b1 ≠ g) (n2 : b2 ≠ g) (n3 : b3 ≠ g) (n4 : b4 ≠ g) (n5 : b5 ≠ g) (n6 : b6 ≠ g) (n7 : b7 ≠ g) : Ext w (((w1.setCell ⟨g, 0, none⟩ x0).setCell ⟨g, 1, none⟩ x1).setCell ⟨g, 2, none⟩ x2) ∧ (((w1.setCell ⟨g, 0, none⟩ x0).setCell ⟨g, 1, none⟩ x1).setCell ⟨g, 2, none⟩ x2).cell? ⟨b0, o0, none⟩ = some u0 ∧ (((w1.setCell ⟨g, 0, none⟩ x0).setCell ⟨g, 1, none⟩ x1).setCell ⟨g, 2, none⟩ x2).cell? ⟨b1, o1, none⟩ = some u1 ∧ (((w1.setCell ⟨g, 0, none⟩ x0).setCell ⟨g, 1, none⟩ x1).setCell ⟨g, 2, none⟩ x2).cell? ⟨b2, o2, none⟩ = some u2 ∧ (((w1.setCell ⟨g, 0, none⟩ x0).setCell ⟨g, 1, none⟩ x1).setCell ⟨g, 2, none⟩ x2).cell? ⟨b3, o3, none⟩ = some u3 ∧ (((w1.setCell ⟨g, 0, none⟩ x0).setCell ⟨g, 1, none⟩ x1).setCell ⟨g, 2, none⟩ x2).cell? ⟨b4, o4, none⟩ = some u4 ∧ (((w1.setCell ⟨g, 0, none⟩ x0).setCell ⟨g, 1, none⟩ x1).setCell ⟨g, 2, none⟩ x2).cell? ⟨b5, o5, none⟩ = some u5 ∧ (((w1.setCell ⟨g, 0, none⟩ x0).setCell ⟨g, 1, none⟩ x1).setCell ⟨g, 2, none⟩ x2).cell? ⟨b6, o6, none⟩ = some u6 ∧ (((w1.setCell ⟨g, 0, none⟩ x0).setCell ⟨g, 1, none⟩ x1).setCell ⟨g, 2, none⟩ x2).cell? ⟨b7, o7, none⟩ = some u7 ∧ (((w1.setCell ⟨g, 0, none⟩ x0).setCell ⟨g, 1, none⟩ x1).setCell ⟨g, 2, none⟩ x2).cell? ⟨g, 0, none⟩ = some (was (((w1.setCell ⟨g, 0, none⟩ x0).setCell ⟨g, 1, none⟩ x1).setCell ⟨g, 2, none⟩ x2) g 0) ∧ (((w1.setCell ⟨g, 0, none⟩ x0).setCell ⟨g, 1, none⟩ x1).setCell ⟨g, 2, none⟩ x2).cell? ⟨g, 1, none⟩ = some (was (((w1.setCell ⟨g, 0, none⟩ x0).setCell ⟨g, 1, none⟩ x1).setCell ⟨g, 2, none⟩ x2) g 1) ∧ (((w1.setCell ⟨g, 0, none⟩ x0).setCell ⟨g, 1, none⟩ x1).setCell ⟨g, 2, none⟩ x2).cell? ⟨g, 2, none⟩ = some (was (((w1.setCell ⟨g, 0, none⟩ x0).setCell ⟨g, 1, none⟩ x1).setCell ⟨g, 2, none⟩ x2) g 2) ∧ (((w1.setCell ⟨g, 0, none⟩ x0).setCell ⟨g, 1, none⟩ x1).setCell ⟨g, 2, none⟩ x2).frozen? ⟨g, 0, none⟩ = false ∧ (((w1.setCell ⟨g, 0, none⟩ x0).setCell ⟨g, 1, none⟩ x1).setCell ⟨g, 2, none⟩ x2).frozen? ⟨g, 1, none⟩ = false ∧ (((w1.setCell ⟨g, 0, none⟩ x0).setCell ⟨g, 1, none⟩ x1).setCell ⟨g, 2, none⟩ x2).frozen? ⟨g, 2, none⟩ = false := by
  obtain ⟨_, k0⟩ := set_was (g := g) (i := 0) (u := x0) h.2.2.2.2.2.2.2.2.2.1
  obtain ⟨_, k0⟩ := set_was (g := g) (i := 1) (u := x1) k0
  obtain ⟨_, k0⟩ := set_was (g := g) (i := 2) (u := x2) k0
  obtain ⟨_, k1⟩ := set_was (g := g) (i := 0) (u := x0) h.2.2.2.2.2.2.2.2.2.2.1
  obtain ⟨_, k1⟩ := set_was (g := g) (i := 1) (u := x1) k1
  obtain ⟨_, k1⟩ := set_was (g := g) (i := 2) (u := x2) k1
  obtain ⟨_, k2⟩ := set_was (g := g) (i := 0) (u := x0) h.2.2.2.2.2.2.2.2.2.2.2.1
  obtain ⟨_, k2⟩ := set_was (g := g) (i := 1) (u := x1) k2
  obtain ⟨_, k2⟩ := set_was (g := g) (i := 2) (u := x2) k2
  exact ⟨(((h.1.setCell hg _).setCell hg _).setCell hg _), (set_far (set_far (set_far h.2.1 n0) n0) n0), (set_far (set_far (set_far h.2.2.1 n1) n1) n1), (set_far (set_far (set_far h.2.2.2.1 n2) n2) n2), (set_far (set_far (set_far h.2.2.2.2.1 n3) n3) n3), (set_far (set_far (set_far h.2.2.2.2.2.1 n4) n4) n4), (set_far (set_far (set_far h.2.2.2.2.2.2.1 n5) n5) n5), (set_far (set_far (set_far h.2.2.2.2.2.2.2.1 n6) n6) n6), (set_far (set_far (set_far h.2.2.2.2.2.2.2.2.1 n7) n7) n7), was_some k0, was_some k1, was_some k2, (set_fz (set_fz (set_fz h.2.2.2.2.2.2.2.2.2.2.2.2.1))), (set_fz (set_fz (set_fz h.2.2.2.2.2.2.2.2.2.2.2.2.2.1))), (set_fz (set_fz (set_fz h.2.2.2.2.2.2.2.2.2.2.2.2.2.2)))⟩
theorem cell_before {w : World} {p q : Addr} {v u : Value} (h : (w.setCell p v).cell? q = some u) : ∃ u', w.cell? q = some u' := by
  by_cases e : p = q
  · subst e
    cases hc : w.cell? p with
    | some u' => exact ⟨u', rfl⟩
    | none =>
      exfalso
      simp only [World.setCell, World.cell?, Array.getElem?_modify, if_true] at h
      unfold World.cell? at hc
      cases hb : w.heap[p.block]? with
      | none => rw [hb] at h; simp at h
      | some x =>
        rw [hb] at h hc
        cases x with
        | cells c t f =>
          simp at h hc
          split at h
          · simp_all
          · obtain ⟨hs, h⟩ := h
            have hge := hc hs
            rw [Array.getElem?_eq_none (by simpa using hge)] at h
            cases h
        | _ => simp at h
  · rw [World.cell?_setCell_other _ _ _ _ e] at h
    exact ⟨u, h⟩
/-- A struct of two cells stored into a block: its cells behind the stores. -/
theorem final2 {w : World} {g : Nat} {a b u u' : Value} (h0 : ((w.setCell ⟨g, 0, none⟩ a).setCell ⟨g, 1, none⟩ b).cell? ⟨g, 0, none⟩ = some u) (h1 : ((w.setCell ⟨g, 0, none⟩ a).setCell ⟨g, 1, none⟩ b).cell? ⟨g, 1, none⟩ = some u') :
    (w.setCell ⟨g, 0, none⟩ a).cell? ⟨g, 0, none⟩ = some a ∧ ((w.setCell ⟨g, 0, none⟩ a).setCell ⟨g, 1, none⟩ b).cell? ⟨g, 1, none⟩ = some b := by
  obtain ⟨_, k0⟩ := cell_before h0
  obtain ⟨_, k0⟩ := cell_before k0
  obtain ⟨_, k1⟩ := cell_before h1
  exact ⟨World.cell?_setCell_same _ _ _ k0, World.cell?_setCell_same _ _ _ k1⟩
theorem IsInt.put {w w1 w' : World} {g : Nat} {bi : Bool} {m : Value} {z : Int} (hi : IsInt w1.heap.size w' (.agg #[.bool bi, m]) z) (hg : g < w1.heap.size) (hw : w.heap.size ≤ w1.heap.size) :
    IsInt w.heap.size ((w'.setCell ⟨g, 0, none⟩ (.bool bi)).setCell ⟨g, 1, none⟩ m) (.agg #[.bool bi, m]) z := ((hi.far hg _).far hg _).mono hw


end Big
end Go.Proofs.YtoehdoghghpmjaaGreatDoor
/- command.read. -/
namespace Go.Proofs.YtoehdoghghpmjaaGreatDoor
namespace Big
open Go.RowKit
theorem five_set {w : World} {g : Nat} {t : TypeId} {a b c d e : Value} (h : Blk w g t #[a, b, c, d, e]) (a' b' c' d' e' : Value) :
    (((((w.setCell ⟨g, 0, none⟩ a').setCell ⟨g, 1, none⟩ b').setCell ⟨g, 2, none⟩ c').setCell ⟨g, 3, none⟩ d').setCell ⟨g, 4, none⟩ e').cell? ⟨g, 0, none⟩ = some a' ∧
    (((((w.setCell ⟨g, 0, none⟩ a').setCell ⟨g, 1, none⟩ b').setCell ⟨g, 2, none⟩ c').setCell ⟨g, 3, none⟩ d').setCell ⟨g, 4, none⟩ e').cell? ⟨g, 1, none⟩ = some b' ∧
    (((((w.setCell ⟨g, 0, none⟩ a').setCell ⟨g, 1, none⟩ b').setCell ⟨g, 2, none⟩ c').setCell ⟨g, 3, none⟩ d').setCell ⟨g, 4, none⟩ e').cell? ⟨g, 2, none⟩ = some c' ∧
    (((((w.setCell ⟨g, 0, none⟩ a').setCell ⟨g, 1, none⟩ b').setCell ⟨g, 2, none⟩ c').setCell ⟨g, 3, none⟩ d').setCell ⟨g, 4, none⟩ e').cell? ⟨g, 3, none⟩ = some d' ∧
    (((((w.setCell ⟨g, 0, none⟩ a').setCell ⟨g, 1, none⟩ b').setCell ⟨g, 2, none⟩ c').setCell ⟨g, 3, none⟩ d').setCell ⟨g, 4, none⟩ e').cell? ⟨g, 4, none⟩ = some e' := by
  have h5 := ((((h.set_ 0 a').set_ 1 b').set_ 2 c').set_ 3 d').set_ 4 e'
  exact ⟨h5.cell 0, h5.cell 1, h5.cell 2, h5.cell 3, h5.cell 4⟩
theorem keptR {w w1 w2 : World} {gc ga : Nat} {u0 u1 u2 u3 u4 : Value} (h : Ext w w1 ∧ w1.cell? ⟨gc, 0, none⟩ = some (u0) ∧ w1.cell? ⟨gc, 1, none⟩ = some (u1) ∧ w1.cell? ⟨gc, 2, none⟩ = some (u2) ∧ w1.cell? ⟨gc, 3, none⟩ = some (u3) ∧ w1.cell? ⟨gc, 4, none⟩ = some (u4) ∧ w1.cell? ⟨ga, 0, none⟩ = some (was w1 ga 0) ∧ w1.cell? ⟨ga, 1, none⟩ = some (was w1 ga 1) ∧ w1.cell? ⟨ga, 2, none⟩ = some (was w1 ga 2) ∧ w1.cell? ⟨ga, 3, none⟩ = some (was w1 ga 3) ∧ w1.cell? ⟨ga, 4, none⟩ = some (was w1 ga 4) ∧ w1.frozen? ⟨ga, 0, none⟩ = false ∧ w1.frozen? ⟨ga, 1, none⟩ = false ∧ w1.frozen? ⟨ga, 2, none⟩ = false ∧ w1.frozen? ⟨ga, 3, none⟩ = false ∧ w1.frozen? ⟨ga, 4, none⟩ = false) (hx : Ext w1 w2) : Ext w w2 ∧ w2.cell? ⟨gc, 0, none⟩ = some (u0) ∧ w2.cell? ⟨gc, 1, none⟩ = some (u1) ∧ w2.cell? ⟨gc, 2, none⟩ = some (u2) ∧ w2.cell? ⟨gc, 3, none⟩ = some (u3) ∧ w2.cell? ⟨gc, 4, none⟩ = some (u4) ∧ w2.cell? ⟨ga, 0, none⟩ = some (was w2 ga 0) ∧ w2.cell? ⟨ga, 1, none⟩ = some (was w2 ga 1) ∧ w2.cell? ⟨ga, 2, none⟩ = some (was w2 ga 2) ∧ w2.cell? ⟨ga, 3, none⟩ = some (was w2 ga 3) ∧ w2.cell? ⟨ga, 4, none⟩ = some (was w2 ga 4) ∧ w2.frozen? ⟨ga, 0, none⟩ = false ∧ w2.frozen? ⟨ga, 1, none⟩ = false ∧ w2.frozen? ⟨ga, 2, none⟩ = false ∧ w2.frozen? ⟨ga, 3, none⟩ = false ∧ w2.frozen? ⟨ga, 4, none⟩ = false :=
  ⟨h.1.trans hx, hx.keep h.2.1, hx.keep h.2.2.1, hx.keep h.2.2.2.1, hx.keep h.2.2.2.2.1, hx.keep h.2.2.2.2.2.1, was_some (hx.keep h.2.2.2.2.2.2.1), was_some (hx.keep h.2.2.2.2.2.2.2.1), was_some (hx.keep h.2.2.2.2.2.2.2.2.1), was_some (hx.keep h.2.2.2.2.2.2.2.2.2.1), was_some (hx.keep h.2.2.2.2.2.2.2.2.2.2.1), hx.keepf h.2.2.2.2.2.2.1 h.2.2.2.2.2.2.2.2.2.2.2.1, hx.keepf h.2.2.2.2.2.2.2.1 h.2.2.2.2.2.2.2.2.2.2.2.2.1, hx.keepf h.2.2.2.2.2.2.2.2.1 h.2.2.2.2.2.2.2.2.2.2.2.2.2.1, hx.keepf h.2.2.2.2.2.2.2.2.2.1 h.2.2.2.2.2.2.2.2.2.2.2.2.2.2.1, hx.keepf h.2.2.2.2.2.2.2.2.2.2.1 h.2.2.2.2.2.2.2.2.2.2.2.2.2.2.2⟩
theorem keptR_set {w w1 : World} {gc ga : Nat} {u0 u1 u2 u3 u4 x0 x1 x2 x3 x4 : Value} (h : Ext w w1 ∧ w1.cell? ⟨gc, 0, none⟩ = some (u0) ∧ w1.cell? ⟨gc, 1, none⟩ = some (u1) ∧ w1.cell? ⟨gc, 2, none⟩ = some (u2) ∧ w1.cell? ⟨gc, 3, none⟩ = some (u3) ∧ w1.cell? ⟨gc, 4, none⟩ = some (u4) ∧ w1.cell? ⟨ga, 0, none⟩ = some (was w1 ga 0) ∧ w1.cell? ⟨ga, 1, none⟩ = some (was w1 ga 1) ∧ w1.cell? ⟨ga, 2, none⟩ = some (was w1 ga 2) ∧ w1.cell? ⟨ga, 3, none⟩ = some (was w1 ga 3) ∧ w1.cell? ⟨ga, 4, none⟩ = some (was w1 ga 4) ∧ w1.frozen? ⟨ga, 0, none⟩ = false ∧ w1.frozen? ⟨ga, 1, none⟩ = false ∧ w1.frozen? ⟨ga, 2, none⟩ = false ∧ w1.frozen? ⟨ga, 3, none⟩ = false ∧ w1.frozen? ⟨ga, 4, none⟩ = false) (hg : w.heap.size ≤ ga) (hn : gc ≠ ga) : Ext w (((((w1.setCell ⟨ga, 0, none⟩ x0).setCell ⟨ga, 1, none⟩ x1).setCell ⟨ga, 2, none⟩ x2).setCell ⟨ga, 3, none⟩ x3).setCell ⟨ga, 4, none⟩ x4) ∧ (((((w1.setCell ⟨ga, 0, none⟩ x0).setCell ⟨ga, 1, none⟩ x1).setCell ⟨ga, 2, none⟩ x2).setCell ⟨ga, 3, none⟩ x3).setCell ⟨ga, 4, none⟩ x4).cell? ⟨gc, 0, none⟩ = some (u0) ∧ (((((w1.setCell ⟨ga, 0, none⟩ x0).setCell ⟨ga, 1, none⟩ x1).setCell ⟨ga, 2, none⟩ x2).setCell ⟨ga, 3, none⟩ x3).setCell ⟨ga, 4, none⟩ x4).cell? ⟨gc, 1, none⟩ = some (u1) ∧ (((((w1.setCell ⟨ga, 0, none⟩ x0).setCell ⟨ga, 1, none⟩ x1).setCell ⟨ga, 2, none⟩ x2).setCell ⟨ga, 3, none⟩ x3).setCell ⟨ga, 4, none⟩ x4).cell? ⟨gc, 2, none⟩ = some (u2) ∧ (((((w1.setCell ⟨ga, 0, none⟩ x0).setCell ⟨ga, 1, none⟩ x1).setCell ⟨ga, 2, none⟩ x2).setCell ⟨ga, 3, none⟩ x3).setCell ⟨ga, 4, none⟩ x4).cell? ⟨gc, 3, none⟩ = some (u3) ∧ (((((w1.setCell ⟨ga, 0, none⟩ x0).setCell ⟨ga, 1, none⟩ x1).setCell ⟨ga, 2, none⟩ x2).setCell ⟨ga, 3, none⟩ x3).setCell ⟨ga, 4, none⟩ x4).cell? ⟨gc, 4, none⟩ = some (u4) ∧ (((((w1.setCell ⟨ga, 0, none⟩ x0).setCell ⟨ga, 1, none⟩ x1).setCell ⟨ga, 2, none⟩ x2).setCell ⟨ga, 3, none⟩ x3).setCell ⟨ga, 4, none⟩ x4).cell? ⟨ga, 0, none⟩ = some (was (((((w1.setCell ⟨ga, 0, none⟩ x0).setCell ⟨ga, 1, none⟩ x1).setCell ⟨ga, 2, none⟩ x2).setCell ⟨ga, 3, none⟩ x3).setCell ⟨ga, 4, none⟩ x4) ga 0) ∧ (((((w1.setCell ⟨ga, 0, none⟩ x0).setCell ⟨ga, 1, none⟩ x1).setCell ⟨ga, 2, none⟩ x2).setCell ⟨ga, 3, none⟩ x3).setCell ⟨ga, 4, none⟩ x4).cell? ⟨ga, 1, none⟩ = some (was (((((w1.setCell ⟨ga, 0, none⟩ x0).setCell ⟨ga, 1, none⟩ x1).setCell ⟨ga, 2, none⟩ x2).setCell ⟨ga, 3, none⟩ x3).setCell ⟨ga, 4, none⟩ x4) ga 1) ∧ (((((w1.setCell ⟨ga, 0, none⟩ x0).setCell ⟨ga, 1, none⟩ x1).setCell ⟨ga, 2, none⟩ x2).setCell ⟨ga, 3, none⟩ x3).setCell ⟨ga, 4, none⟩ x4).cell? ⟨ga, 2, none⟩ = some (was (((((w1.setCell ⟨ga, 0, none⟩ x0).setCell ⟨ga, 1, none⟩ x1).setCell ⟨ga, 2, none⟩ x2).setCell ⟨ga, 3, none⟩ x3).setCell ⟨ga, 4, none⟩ x4) ga 2) ∧ (((((w1.setCell ⟨ga, 0, none⟩ x0).setCell ⟨ga, 1, none⟩ x1).setCell ⟨ga, 2, none⟩ x2).setCell ⟨ga, 3, none⟩ x3).setCell ⟨ga, 4, none⟩ x4).cell? ⟨ga, 3, none⟩ = some (was (((((w1.setCell ⟨ga, 0, none⟩ x0).setCell ⟨ga, 1, none⟩ x1).setCell ⟨ga, 2, none⟩ x2).setCell ⟨ga, 3, none⟩ x3).setCell ⟨ga, 4, none⟩ x4) ga 3) ∧ (((((w1.setCell ⟨ga, 0, none⟩ x0).setCell ⟨ga, 1, none⟩ x1).setCell ⟨ga, 2, none⟩ x2).setCell ⟨ga, 3, none⟩ x3).setCell ⟨ga, 4, none⟩ x4).cell? ⟨ga, 4, none⟩ = some (was (((((w1.setCell ⟨ga, 0, none⟩ x0).setCell ⟨ga, 1, none⟩ x1).setCell ⟨ga, 2, none⟩ x2).setCell ⟨ga, 3, none⟩ x3).setCell ⟨ga, 4, none⟩ x4) ga 4) ∧ (((((w1.setCell ⟨ga, 0, none⟩ x0).setCell ⟨ga, 1, none⟩ x1).setCell ⟨ga, 2, none⟩ x2).setCell ⟨ga, 3, none⟩ x3).setCell ⟨ga, 4, none⟩ x4).frozen? ⟨ga, 0, none⟩ = false ∧ (((((w1.setCell ⟨ga, 0, none⟩ x0).setCell ⟨ga, 1, none⟩ x1).setCell ⟨ga, 2, none⟩ x2).setCell ⟨ga, 3, none⟩ x3).setCell ⟨ga, 4, none⟩ x4).frozen? ⟨ga, 1, none⟩ = false ∧ (((((w1.setCell ⟨ga, 0, none⟩ x0).setCell ⟨ga, 1, none⟩ x1).setCell ⟨ga, 2, none⟩ x2).setCell ⟨ga, 3, none⟩ x3).setCell ⟨ga, 4, none⟩ x4).frozen? ⟨ga, 2, none⟩ = false ∧ (((((w1.setCell ⟨ga, 0, none⟩ x0).setCell ⟨ga, 1, none⟩ x1).setCell ⟨ga, 2, none⟩ x2).setCell ⟨ga, 3, none⟩ x3).setCell ⟨ga, 4, none⟩ x4).frozen? ⟨ga, 3, none⟩ = false ∧ (((((w1.setCell ⟨ga, 0, none⟩ x0).setCell ⟨ga, 1, none⟩ x1).setCell ⟨ga, 2, none⟩ x2).setCell ⟨ga, 3, none⟩ x3).setCell ⟨ga, 4, none⟩ x4).frozen? ⟨ga, 4, none⟩ = false := by
  obtain ⟨_, k0⟩ := set_was (g := ga) (i := 0) (u := x0) h.2.2.2.2.2.2.1
  obtain ⟨_, k0⟩ := set_was (g := ga) (i := 1) (u := x1) k0
  obtain ⟨_, k0⟩ := set_was (g := ga) (i := 2) (u := x2) k0
  obtain ⟨_, k0⟩ := set_was (g := ga) (i := 3) (u := x3) k0
  obtain ⟨_, k0⟩ := set_was (g := ga) (i := 4) (u := x4) k0
  obtain ⟨_, k1⟩ := set_was (g := ga) (i := 0) (u := x0) h.2.2.2.2.2.2.2.1
  obtain ⟨_, k1⟩ := set_was (g := ga) (i := 1) (u := x1) k1
  obtain ⟨_, k1⟩ := set_was (g := ga) (i := 2) (u := x2) k1
  obtain ⟨_, k1⟩ := set_was (g := ga) (i := 3) (u := x3) k1
  obtain ⟨_, k1⟩ := set_was (g := ga) (i := 4) (u := x4) k1
  obtain ⟨_, k2⟩ := set_was (g := ga) (i := 0) (u := x0) h.2.2.2.2.2.2.2.2.1
  obtain ⟨_, k2⟩ := set_was (g := ga) (i := 1) (u := x1) k2
  obtain ⟨_, k2⟩ := set_was (g := ga) (i := 2) (u := x2) k2
  obtain ⟨_, k2⟩ := set_was (g := ga) (i := 3) (u := x3) k2
  obtain ⟨_, k2⟩ := set_was (g := ga) (i := 4) (u := x4) k2
  obtain ⟨_, k3⟩ := set_was (g := ga) (i := 0) (u := x0) h.2.2.2.2.2.2.2.2.2.1
  obtain ⟨_, k3⟩ := set_was (g := ga) (i := 1) (u := x1) k3
  obtain ⟨_, k3⟩ := set_was (g := ga) (i := 2) (u := x2) k3
  obtain ⟨_, k3⟩ := set_was (g := ga) (i := 3) (u := x3) k3
  obtain ⟨_, k3⟩ := set_was (g := ga) (i := 4) (u := x4) k3
  obtain ⟨_, k4⟩ := set_was (g := ga) (i := 0) (u := x0) h.2.2.2.2.2.2.2.2.2.2.1
  obtain ⟨_, k4⟩ := set_was (g := ga) (i := 1) (u := x1) k4
  obtain ⟨_, k4⟩ := set_was (g := ga) (i := 2) (u := x2) k4
  obtain ⟨_, k4⟩ := set_was (g := ga) (i := 3) (u := x3) k4
  obtain ⟨_, k4⟩ := set_was (g := ga) (i := 4) (u := x4) k4
  exact ⟨((((h.1.setCell hg _).setCell hg _).setCell hg _).setCell hg _).setCell hg _, set_far (set_far (set_far (set_far (set_far h.2.1 hn) hn) hn) hn) hn, set_far (set_far (set_far (set_far (set_far h.2.2.1 hn) hn) hn) hn) hn, set_far (set_far (set_far (set_far (set_far h.2.2.2.1 hn) hn) hn) hn) hn, set_far (set_far (set_far (set_far (set_far h.2.2.2.2.1 hn) hn) hn) hn) hn, set_far (set_far (set_far (set_far (set_far h.2.2.2.2.2.1 hn) hn) hn) hn) hn, was_some k0, was_some k1, was_some k2, was_some k3, was_some k4, set_fz (set_fz (set_fz (set_fz (set_fz h.2.2.2.2.2.2.2.2.2.2.2.1)))), set_fz (set_fz (set_fz (set_fz (set_fz h.2.2.2.2.2.2.2.2.2.2.2.2.1)))), set_fz (set_fz (set_fz (set_fz (set_fz h.2.2.2.2.2.2.2.2.2.2.2.2.2.1)))), set_fz (set_fz (set_fz (set_fz (set_fz h.2.2.2.2.2.2.2.2.2.2.2.2.2.2.1)))), set_fz (set_fz (set_fz (set_fz (set_fz h.2.2.2.2.2.2.2.2.2.2.2.2.2.2.2))))⟩
theorem final5 {w : World} {ga : Nat} {x0 x1 x2 x3 x4 v0 v1 v2 v3 v4 : Value} (h0 : (((((w.setCell ⟨ga, 0, none⟩ x0).setCell ⟨ga, 1, none⟩ x1).setCell ⟨ga, 2, none⟩ x2).setCell ⟨ga, 3, none⟩ x3).setCell ⟨ga, 4, none⟩ x4).cell? ⟨ga, 0, none⟩ = some v0) (h1 : (((((w.setCell ⟨ga, 0, none⟩ x0).setCell ⟨ga, 1, none⟩ x1).setCell ⟨ga, 2, none⟩ x2).setCell ⟨ga, 3, none⟩ x3).setCell ⟨ga, 4, none⟩ x4).cell? ⟨ga, 1, none⟩ = some v1) (h2 : (((((w.setCell ⟨ga, 0, none⟩ x0).setCell ⟨ga, 1, none⟩ x1).setCell ⟨ga, 2, none⟩ x2).setCell ⟨ga, 3, none⟩ x3).setCell ⟨ga, 4, none⟩ x4).cell? ⟨ga, 2, none⟩ = some v2) (h3 : (((((w.setCell ⟨ga, 0, none⟩ x0).setCell ⟨ga, 1, none⟩ x1).setCell ⟨ga, 2, none⟩ x2).setCell ⟨ga, 3, none⟩ x3).setCell ⟨ga, 4, none⟩ x4).cell? ⟨ga, 3, none⟩ = some v3) (h4 : (((((w.setCell ⟨ga, 0, none⟩ x0).setCell ⟨ga, 1, none⟩ x1).setCell ⟨ga, 2, none⟩ x2).setCell ⟨ga, 3, none⟩ x3).setCell ⟨ga, 4, none⟩ x4).cell? ⟨ga, 4, none⟩ = some v4) :
    (w.setCell ⟨ga, 0, none⟩ x0).cell? ⟨ga, 0, none⟩ = some x0 ∧ ((w.setCell ⟨ga, 0, none⟩ x0).setCell ⟨ga, 1, none⟩ x1).cell? ⟨ga, 1, none⟩ = some x1 ∧ (((w.setCell ⟨ga, 0, none⟩ x0).setCell ⟨ga, 1, none⟩ x1).setCell ⟨ga, 2, none⟩ x2).cell? ⟨ga, 2, none⟩ = some x2 ∧ ((((w.setCell ⟨ga, 0, none⟩ x0).setCell ⟨ga, 1, none⟩ x1).setCell ⟨ga, 2, none⟩ x2).setCell ⟨ga, 3, none⟩ x3).cell? ⟨ga, 3, none⟩ = some x3 ∧ (((((w.setCell ⟨ga, 0, none⟩ x0).setCell ⟨ga, 1, none⟩ x1).setCell ⟨ga, 2, none⟩ x2).setCell ⟨ga, 3, none⟩ x3).setCell ⟨ga, 4, none⟩ x4).cell? ⟨ga, 4, none⟩ = some x4 := by
  obtain ⟨_, h0⟩ := cell_before h0
  obtain ⟨_, h0⟩ := cell_before h0
  obtain ⟨_, h0⟩ := cell_before h0
  obtain ⟨_, h0⟩ := cell_before h0
  obtain ⟨_, h0⟩ := cell_before h0
  obtain ⟨_, h1⟩ := cell_before h1
  obtain ⟨_, h1⟩ := cell_before h1
  obtain ⟨_, h1⟩ := cell_before h1
  obtain ⟨_, h1⟩ := cell_before h1
  obtain ⟨_, h2⟩ := cell_before h2
  obtain ⟨_, h2⟩ := cell_before h2
  obtain ⟨_, h2⟩ := cell_before h2
  obtain ⟨_, h3⟩ := cell_before h3
  obtain ⟨_, h3⟩ := cell_before h3
  obtain ⟨_, h4⟩ := cell_before h4
  exact ⟨World.cell?_setCell_same _ _ _ h0, World.cell?_setCell_same _ _ _ h1, World.cell?_setCell_same _ _ _ h2, World.cell?_setCell_same _ _ _ h3, World.cell?_setCell_same _ _ _ h4⟩
/-- What read returns. -/
def ReadRes (op : Int) (r : List UInt8) (c' : Cmd) (ok : Bool) : Prop := (∀ c, readP op r = some c → ok = true ∧ c' = c) ∧ (readP op r = none → ok = false)
theorem readRes_of {op : Int} {r : List UInt8} {c' : Cmd} {ok : Bool} (h : readP op r = if ok = true then some c' else none) : ReadRes op r c' ok := by
  unfold ReadRes
  rw [h]
  cases ok
  · exact ⟨fun c h => (by simp at h), fun _ => rfl⟩
  · exact ⟨fun c h => ⟨rfl, by simpa using h⟩, fun h => (by simp at h)⟩
theorem validC_num {op : Int} {nm o tx : List UInt8} {n : Int} (hk : shapeC op = 2 ∨ shapeC op = 4) (h : ¬ (0 ≤ n ∧ n ≤ 9999)) : validC ⟨op, nm, o, tx, n⟩ = false := by
  unfold validC
  simp only
  rw [if_pos hk, decide_eq_false h]
  simp
theorem num_none {s : List UInt8} {v : Int} (h : NumRes s v false) : numW s = none := by
  cases hn : numW s with
  | none => rfl
  | some n => have := (h.1 n hn).1; cases this
theorem num_some {s nm : List UInt8} {v op : Int} (hk : shapeC op = 2 ∨ shapeC op = 4) (h : NumRes s v true) :
    (match numW s with
    | some n => if validC ⟨op, nm, [], [], (n : Int)⟩ then some (⟨op, nm, [], [], (n : Int)⟩ : Cmd) else none
    | none => none) = if validC ⟨op, nm, [], [], v⟩ = true then some ⟨op, nm, [], [], v⟩ else none := by
  cases hn : numW s with
  | none =>
    simp only
    rw [validC_num hk (h.2.1 hn rfl), if_neg (by simp)]
  | some n =>
    obtain ⟨_, rfl⟩ := h.1 n hn
    rfl
end Big
end Go.Proofs.YtoehdoghghpmjaaGreatDoor
/- command.read at shape 0. -/
namespace Go.Proofs.YtoehdoghghpmjaaGreatDoor
namespace Big
open Go.RowKit
set_option maxHeartbeats 16000000 in
set_option maxRecDepth 100000 in
theorem cread_0 (w : World) (op : Int) (r : List UInt8) (hl : r.length ≤ 1000000) (hm : MaxV w) (hE : CmdEnv w) (hko : shapeC op = 0) :
    Calls Tryz.prog 30 #[.int .i64 op, str r] w fun e w' => ∃ c' ok, e = .returned (.tuple #[cmdV c', .bool ok]) ∧ ReadRes op r c' ok ∧ Ext w w' := by
  have HOF := Lib.hid (fun W => of_any W op)
  have HWD := Lib.hid (fun W hx => cword_any W r (by omega) (hm.ext (w' := W) hx))
  have e1 := fw_le r
  have e2 := Nat.le_trans (sp_le (rw_ r)) (rw_le r)
  have HWD2 := Lib.hid (fun W hx => cword_any W (sp (rw_ r)) (by omega) (hm.ext (w' := W) hx))
  have e3 := fw_le (sp (rw_ r))
  have e4 := Nat.le_trans (sp_le (rw_ (sp (rw_ r)))) (rw_le (sp (rw_ r)))
  have HNU := Lib.hid (fun W hx => cnumber_any W r (by omega) (hE.ext (w' := W) hx))
  have HNU2 := Lib.hid (fun W hx => cnumber_any W (sp (rw_ r)) (by omega) (hE.ext (w' := W) hx))
  have HRP : Hid (readP op r = _) := Lib.hid (by unfold readP; rfl)
  have HK := Lib.hid (shapeC_le op)
  have HL : Hid (r.length ≤ 1000000 ∧ (fw r).length ≤ 1000000 ∧ (sp (rw_ r)).length ≤ 1000000 ∧ (fw (sp (rw_ r))).length ≤ 1000000 ∧ (sp (rw_ (sp (rw_ r)))).length ≤ 1000000) := Lib.hid (by omega)
  unfold formV at HOF
  simp only at HRP
  generalize nameC op = fn at *
  obtain ⟨k, hk⟩ : ∃ k, k = shapeC op := ⟨_, rfl⟩
  have HKE := Lib.hid hk
  have hk2 : k = 0 := hk.trans hko
  rw [← hk] at HOF HK HRP
  clear hk hko
  generalize writesC op = wr at *
  obtain ⟨f1, hf1⟩ : ∃ x, x = fw r := ⟨_, rfl⟩
  obtain ⟨s1, hs1⟩ : ∃ x, x = sp (rw_ r) := ⟨_, rfl⟩
  rw [← hs1] at HWD2 HNU2 HL HRP HWD
  rw [← hf1] at HWD HL HRP
  obtain ⟨f2, hf2⟩ : ∃ x, x = fw s1 := ⟨_, rfl⟩
  obtain ⟨s2, hs2⟩ : ∃ x, x = sp (rw_ s1) := ⟨_, rfl⟩
  rw [← hf2, ← hs2] at HWD2 HL
  have HF2 := Lib.hid hf2
  have HS2 := Lib.hid hs2
  clear hl hm hE e1 e2 e3 e4 hf1 hs1 hf2 hs2
  go_enter Tryz.func30, Tryz.ntmps30
  go_wp2_with fail
  refine (HOF.out _).mono ?_
  rintro e w2 ⟨rfl, hx⟩
  have ha := ((Blk.new w 31 #[Value.int .i64 0, Value.string ⟨#[]⟩, Value.string ⟨#[]⟩, Value.string ⟨#[]⟩, Value.int .i64 0]).ext ((Ext.refl _).alloc (.cells #[Value.int .i64 op, Value.string ⟨#[]⟩, Value.string ⟨#[]⟩, Value.string ⟨#[]⟩, Value.int .i64 0] 31))).ext hx
  have hc := (Blk.new (w.alloc (.cells #[Value.int .i64 0, Value.string ⟨#[]⟩, Value.string ⟨#[]⟩, Value.string ⟨#[]⟩, Value.int .i64 0] 31)) 31 #[Value.int .i64 op, Value.string ⟨#[]⟩, Value.string ⟨#[]⟩, Value.string ⟨#[]⟩, Value.int .i64 0]).ext hx
  have hgs : (w.alloc (.cells #[Value.int .i64 0, Value.string ⟨#[]⟩, Value.string ⟨#[]⟩, Value.string ⟨#[]⟩, Value.int .i64 0] 31)).heap.size = w.heap.size + 1 := by simp
  rw [hgs] at hc
  have HX : Hid (Ext w w2) := Lib.hid ((((Ext.refl w).alloc _).alloc _).trans hx)
  have HGA : Hid (w.heap.size ≤ w.heap.size) := Lib.hid (Nat.le_refl _)
  have HGC : Hid (w.heap.size ≤ w.heap.size + 1) := Lib.hid (Nat.le_succ _)
  have nac : w.heap.size ≠ w.heap.size + 1 := by omega
  obtain ⟨gc, hgc⟩ : ∃ gc, gc = w.heap.size + 1 := ⟨_, rfl⟩
  rw [← hgc] at HGC nac hc ⊢
  obtain ⟨ga, hga⟩ : ∃ ga, ga = w.heap.size := ⟨_, rfl⟩
  have HGA : Hid (w.heap.size ≤ ga) := Lib.hid (by omega)
  rw [← hga] at nac ha ⊢
  clear hga hgc hgs hx HOF
  have HA := Lib.hid ha
  have HC := Lib.hid hc
  clear ha hc
  clear HK
  subst hk2
  have hfd := form_1 fn 0 wr
  by_cases hr : r = []
  · subst hr
    have HVK : Hid (∀ W : World, Calls Tryz.prog 15 #[.agg #[Value.int .i64 op, Value.string ⟨#[]⟩, Value.string ⟨#[]⟩, Value.string ⟨#[]⟩, Value.int .i64 0]] W fun e w' => e = .returned (.bool (validC ⟨op, [], [], [], 0⟩)) ∧ Ext W w') := Lib.hid (fun W => cvalid_any W ⟨op, [], [], [], 0⟩ (by have := HL.out; simp only [List.length_nil]; omega) (by have := HL.out; simp only [List.length_nil]; omega) (by have := HL.out; simp only [List.length_nil]; omega))
    obtain ⟨vb, hvb⟩ : ∃ vb, vb = validC ⟨op, [], [], [], 0⟩ := ⟨_, rfl⟩
    have HVB := Lib.hid hvb
    rw [← hvb] at HVK
    clear hvb
    have a0 := HA.out.cell 0
    have e0 := HA.out.frozen 0
    have p0 := HC.out.cell 0
    have q0 := HC.out.frozen 0
    have a1 := HA.out.cell 1
    have e1 := HA.out.frozen 1
    have p1 := HC.out.cell 1
    have q1 := HC.out.frozen 1
    have a2 := HA.out.cell 2
    have e2 := HA.out.frozen 2
    have p2 := HC.out.cell 2
    have q2 := HC.out.frozen 2
    have a3 := HA.out.cell 3
    have e3 := HA.out.frozen 3
    have p3 := HC.out.cell 3
    have q3 := HC.out.frozen 3
    have a4 := HA.out.cell 4
    have e4 := HA.out.frozen 4
    have p4 := HC.out.cell 4
    have q4 := HC.out.frozen 4
    have az := HA.out.lt
    have pz := HC.out.lt
    go_upto_region 17 with fail
    go_region_held3 (fun W => Ext w W ∧ W.cell? ⟨gc, 0, none⟩ = some (Value.int .i64 op) ∧ W.cell? ⟨gc, 1, none⟩ = some (Value.string ⟨#[]⟩) ∧ W.cell? ⟨gc, 2, none⟩ = some (Value.string ⟨#[]⟩) ∧ W.cell? ⟨gc, 3, none⟩ = some (Value.string ⟨#[]⟩) ∧ W.cell? ⟨gc, 4, none⟩ = some (Value.int .i64 0) ∧ W.cell? ⟨ga, 0, none⟩ = some (was W ga 0) ∧ W.cell? ⟨ga, 1, none⟩ = some (was W ga 1) ∧ W.cell? ⟨ga, 2, none⟩ = some (was W ga 2) ∧ W.cell? ⟨ga, 3, none⟩ = some (was W ga 3) ∧ W.cell? ⟨ga, 4, none⟩ = some (was W ga 4) ∧ W.frozen? ⟨ga, 0, none⟩ = false ∧ W.frozen? ⟨ga, 1, none⟩ = false ∧ W.frozen? ⟨ga, 2, none⟩ = false ∧ W.frozen? ⟨ga, 3, none⟩ = false ∧ W.frozen? ⟨ga, 4, none⟩ = false)
      (first | (exact ⟨HX.out.drew, p0, p1, p2, p3, p4, was_some (w := w2.drew) a0, was_some (w := w2.drew) a1, was_some (w := w2.drew) a2, was_some (w := w2.drew) a3, was_some (w := w2.drew) a4, e0, e1, e2, e3, e4⟩) | (exact keptR (by assumption) (by assumption)) | (exact keptR_set (by assumption) HGA.out nac.symm))
      (first | (go_at_call 15; refine (HVK.out _).mono ?_; rintro e w9 ⟨rfl, hx9⟩))
    go_wp2_with fail
    rename_i hS
    obtain ⟨r0, r1, r2, r3, r4⟩ := final5 hS.2.2.2.2.2.2.1 hS.2.2.2.2.2.2.2.1 hS.2.2.2.2.2.2.2.2.1 hS.2.2.2.2.2.2.2.2.2.1 hS.2.2.2.2.2.2.2.2.2.2.1
    refine bodyPost_ret (v := .tuple #[.agg #[Value.int .i64 op, Value.string ⟨#[]⟩, Value.string ⟨#[]⟩, Value.string ⟨#[]⟩, Value.int .i64 0], .bool vb]) (by simp [results, Tryz.results30, go_sem, r0, r1, r2, r3, r4]) rfl ?_
    refine ⟨⟨op, [], [], [], 0⟩, vb, rfl, readRes_of ?_, hS.1⟩
    rw [HRP.out]
    simp [HVB.out]
  · have hr' : (r == []) = false := by cases r <;> simp_all
    have a0 := HA.out.cell 0
    have e0 := HA.out.frozen 0
    have p0 := HC.out.cell 0
    have q0 := HC.out.frozen 0
    have a1 := HA.out.cell 1
    have e1 := HA.out.frozen 1
    have p1 := HC.out.cell 1
    have q1 := HC.out.frozen 1
    have a2 := HA.out.cell 2
    have e2 := HA.out.frozen 2
    have p2 := HC.out.cell 2
    have q2 := HC.out.frozen 2
    have a3 := HA.out.cell 3
    have e3 := HA.out.frozen 3
    have p3 := HC.out.cell 3
    have q3 := HC.out.frozen 3
    have a4 := HA.out.cell 4
    have e4 := HA.out.frozen 4
    have p4 := HC.out.cell 4
    have q4 := HC.out.frozen 4
    have az := HA.out.lt
    have pz := HC.out.lt
    go_upto_region 17 with fail
    go_region
    go_wp2_with fail
    obtain ⟨r0, r1, r2, r3, r4⟩ := five_set HA.out (Value.int .i64 op) (Value.string ⟨#[]⟩) (Value.string ⟨#[]⟩) (Value.string ⟨#[]⟩) (Value.int .i64 0)
    refine bodyPost_ret (v := .tuple #[.agg #[Value.int .i64 op, Value.string ⟨#[]⟩, Value.string ⟨#[]⟩, Value.string ⟨#[]⟩, Value.int .i64 0], .bool false]) (by simp [results, Tryz.results30, go_sem, r0, r1, r2, r3, r4]) rfl ?_
    refine ⟨⟨op, [], [], [], 0⟩, false, rfl, readRes_of ?_, ?_⟩
    rotate_left
    · first | exact (((((HX.out.setCell (p := ⟨ga, 0, none⟩) HGA.out _).setCell (p := ⟨ga, 1, none⟩) HGA.out _).setCell (p := ⟨ga, 2, none⟩) HGA.out _).setCell (p := ⟨ga, 3, none⟩) HGA.out _).setCell (p := ⟨ga, 4, none⟩) HGA.out _).drew | exact (((((HX.out.drew.setCell (p := ⟨ga, 0, none⟩) HGA.out _).setCell (p := ⟨ga, 1, none⟩) HGA.out _).setCell (p := ⟨ga, 2, none⟩) HGA.out _).setCell (p := ⟨ga, 3, none⟩) HGA.out _).setCell (p := ⟨ga, 4, none⟩) HGA.out _) | exact (((((HX.out.setCell (p := ⟨ga, 0, none⟩) HGA.out _).setCell (p := ⟨ga, 1, none⟩) HGA.out _).setCell (p := ⟨ga, 2, none⟩) HGA.out _).setCell (p := ⟨ga, 3, none⟩) HGA.out _).setCell (p := ⟨ga, 4, none⟩) HGA.out _)
    rw [HRP.out]
    simp [hr]
end Big
end Go.Proofs.YtoehdoghghpmjaaGreatDoor
