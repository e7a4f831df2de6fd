import Derived.Test.YtoehdoghghpmjaaGreatDoorM22
import Derived.Test.YtoehdoghghpmjaaGreatDoorM7
import Derived.Test.YtoehdoghghpmjaaGreatDoorM12
import Derived.Test.YtoehdoghghpmjaaGreatDoorM9
import Derived.Test.YtoehdoghghpmjaaGreatDoorM18
import Derived.Test.YtoehdoghghpmjaaGreatDoorM20
import Derived.Test.YtoehdoghghpmjaaGreatDoorM21
/- ref05.Of. -/
namespace Go.Proofs.YtoehdoghghpmjaaGreatDoor
namespace Big
open Go.RowKit
theorem limbs_small {n : Nat} (hn : n ≤ 1000000) : (limbs n).length ≤ 1 := by
  have h := limbs_mono (a := n) (b := 1000000) hn
  have h2 : (limbs 1000000).length = 1 := by decide +kernel
  omega
theorem r5of_pos (w : World) (n : Nat) (hn : n ≤ 1000000) :
    Calls Tryz.prog 20 #[.int .i64 (n : Int)] w fun e w' => ∃ v', e = .returned v' ∧ ArrInt w' v' (n : Int) ∧ Ext w w' := by
  have HT := Lib.hid (fun W => rof_any W n (by omega))
  have HSG := Lib.hid (show sgn false n = (n : Int) by unfold sgn; simp)
  go_enter Tryz.func20, Tryz.ntmps20
  go_wp2_with fail
  refine (HT.out _).mono ?_
  rintro e w1 ⟨v1, rfl, ho, hx⟩
  have HNT := Lib.hid (rnat_any w1 false v1 (limbs n) ho.arr (by have := limbs_small hn; omega))
  rw [val_limbs, HSG.out] at HNT
  have HX1 := Lib.hid (((Ext.refl w).alloc (.cells #[Value.bool false, Value.slice none 0 0] 48)).trans hx)
  have HB1 := Lib.hid ((Blk.new w 48 #[Value.bool false, Value.slice none 0 0]).ext hx)
  obtain ⟨A1, c1, hv1, _⟩ := ho.2
  rw [List.length_map] at hv1
  obtain ⟨n1, hn1⟩ : ∃ n1, n1 = (limbs n).length := ⟨_, rfl⟩
  rw [← hn1] at hv1
  subst hv1
  clear ho hx hn1
  go_wp2_with fail
  refine HNT.out.mono ?_
  rintro e w2 ⟨v2, rfl, hi, hx2⟩
  have HI := Lib.hid hi
  have HLT := Lib.hid HB1.out.lt
  obtain ⟨m2, hv2, hm2⟩ := hi
  obtain ⟨A2, c2, hv3, _⟩ := hm2.2
  subst hv3
  generalize (List.map d32 (limbs ((n : Int)).natAbs)).length = n2 at *
  generalize decide ((n : Int) < 0) = bb at *
  subst hv2
  have HX2 := Lib.hid (HX1.out.trans hx2)
  have hbk := HB1.out.ext hx2
  obtain ⟨k0, k1, f0, f1, hz2⟩ := hbk.two
  have HB := Lib.hid hbk
  clear hx2 hbk hm2
  go_wp2_with fail
  obtain ⟨hr0, hr1⟩ := two_set' HB.out (.bool bb) (.slice A2 n2 c2)
  refine bodyPost_ret (v := .agg #[.bool bb, .slice A2 n2 c2]) (by simp [results, Tryz.results20, go_sem, hr0, hr1]) rfl ?_
  exact ⟨_, rfl, ((HI.out.far (p := ⟨w.heap.size, 0, none⟩) HLT.out _).far (p := ⟨w.heap.size, 1, none⟩) HLT.out _).arr, (HX2.out.setCell (p := ⟨w.heap.size, 0, none⟩) (Nat.le_refl _) _).setCell (p := ⟨w.heap.size, 1, none⟩) (Nat.le_refl _) _⟩
theorem r5of_neg (w : World) (n : Nat) (hn : n ≤ 1000000) (h0 : 1 ≤ n) :
    Calls Tryz.prog 20 #[.int .i64 (-(n : Int))] w fun e w' => ∃ v', e = .returned v' ∧ ArrInt w' v' (-(n : Int)) ∧ Ext w w' := by
  have HT := Lib.hid (fun W => rof_any W n (by omega))
  have HSG := Lib.hid (show sgn true n = -(n : Int) by unfold sgn; simp)
  have hz : -(n : Int) < 0 := by omega
  have hw : ∀ x : Int, IntKind.u64.wrap x = x % 18446744073709551616 := fun x => by simp [IntKind.wrap, IntKind.bits, IntKind.signed]
  have hwn : IntKind.u64.wrap (-IntKind.u64.wrap (-(n : Int))) = (n : Int) := by rw [hw, hw]; omega
  clear hw
  go_enter Tryz.func20, Tryz.ntmps20
  go_wp2_with fail
  refine (HT.out _).mono ?_
  rintro e w1 ⟨v1, rfl, ho, hx⟩
  have HNT := Lib.hid (rnat_any w1 true v1 (limbs n) ho.arr (by have := limbs_small hn; omega))
  rw [val_limbs, HSG.out] at HNT
  have HX1 := Lib.hid (((Ext.refl w).alloc (.cells #[Value.bool false, Value.slice none 0 0] 48)).trans hx)
  have HB1 := Lib.hid ((Blk.new w 48 #[Value.bool false, Value.slice none 0 0]).ext hx)
  obtain ⟨A1, c1, hv1, _⟩ := ho.2
  rw [List.length_map] at hv1
  obtain ⟨n1, hn1⟩ : ∃ n1, n1 = (limbs n).length := ⟨_, rfl⟩
  rw [← hn1] at hv1
  subst hv1
  clear ho hx hn1
  go_wp2_with fail
  refine HNT.out.mono ?_
  rintro e w2 ⟨v2, rfl, hi, hx2⟩
  have HI := Lib.hid hi
  have HLT := Lib.hid HB1.out.lt
  obtain ⟨m2, hv2, hm2⟩ := hi
  obtain ⟨A2, c2, hv3, _⟩ := hm2.2
  subst hv3
  generalize (List.map d32 (limbs (-(n : Int)).natAbs)).length = n2 at *
  generalize decide (-(n : Int) < 0) = bb at *
  subst hv2
  have HX2 := Lib.hid (HX1.out.trans hx2)
  have hbk := HB1.out.ext hx2
  obtain ⟨k0, k1, f0, f1, hz2⟩ := hbk.two
  have HB := Lib.hid hbk
  clear hx2 hbk hm2
  go_wp2_with fail
  obtain ⟨hr0, hr1⟩ := two_set' HB.out (.bool bb) (.slice A2 n2 c2)
  refine bodyPost_ret (v := .agg #[.bool bb, .slice A2 n2 c2]) (by simp [results, Tryz.results20, go_sem, hr0, hr1]) rfl ?_
  exact ⟨_, rfl, ((HI.out.far (p := ⟨w.heap.size, 0, none⟩) HLT.out _).far (p := ⟨w.heap.size, 1, none⟩) HLT.out _).arr, (HX2.out.setCell (p := ⟨w.heap.size, 0, none⟩) (Nat.le_refl _) _).setCell (p := ⟨w.heap.size, 1, none⟩) (Nat.le_refl _) _⟩
end Big
end Go.Proofs.YtoehdoghghpmjaaGreatDoor
/- The document's Format of commands. -/
namespace Go.Proofs.YtoehdoghghpmjaaGreatDoor
namespace Big
open Go.RowKit
def accW (s x : List UInt8) : List UInt8 := if x = [] then s else s ++ [32] ++ x
/-- The line as the document lays it. -/
theorem formatC_doc {c : Cmd} (h : validC c = true) : formatC c = (if c.op = 1 then accW (accW (nameC c.op) c.name) c.other ++ [32, 61, 32] ++ c.text else if c.op = 3 ∨ c.op = 21 then accW (accW (nameC c.op) c.name) c.other ++ [32] ++ dec c.n.toNat else accW (accW (nameC c.op) c.name) c.other) := by
  have hop : 0 ≤ c.op ∧ c.op < 22 := by
    apply Classical.byContradiction
    intro hn
    have e : nameC c.op = [] := by unfold nameC; rw [if_neg hn]
    unfold validC at h
    rw [e] at h
    simp at h
  obtain ⟨h3, h5, h24⟩ := shape31 c.op hop
  have hne : ∀ t : List UInt8, wordB t = true → t ≠ [] := fun t ht he => by rw [he] at ht; revert ht; decide
  have hsh : shapeC c.op = 0 ∨ shapeC c.op = 1 ∨ shapeC c.op = 2 ∨ shapeC c.op = 3 ∨ shapeC c.op = 4 ∨ shapeC c.op = 5 := by have := shapeC_le c.op; omega
  unfold formatC
  rw [if_pos h]
  unfold validC at h
  unfold accW
  rcases hsh with e | e | e | e | e | e <;> rw [e] at h h3 h5 h24 ⊢ <;> simp only [ne_eq, not_true_eq_false, if_false, and_false, if_true, Bool.and_eq_true, beq_iff_eq, not_false_eq_true, reduceCtorEq, Nat.reduceEqDiff, and_true, or_false, false_or, or_self, true_iff, false_iff, decide_eq_true_eq] at h h3 h5 h24 ⊢
  all_goals obtain ⟨⟨⟨⟨_, g1⟩, g2⟩, g3⟩, g4⟩ := h
  · rw [if_neg h5, if_neg h24, g1, g2]; simp
  · rw [if_neg h5, if_neg h24, g2, if_pos rfl, if_neg (hne _ g1)]; simp
  · rw [if_neg h5, if_pos h24, g2, if_pos rfl, if_neg (hne _ g1)]; simp
  · rw [if_neg h5, if_neg h24, if_neg (hne _ g2), if_neg (hne _ g1)]; simp
  · rw [if_neg h5, if_pos h24, g1, g2]; simp
  · rw [if_pos h5, g2, if_pos rfl, if_neg (hne _ g1)]; simp
theorem accW_len (s x : List UInt8) : (accW s x).length ≤ s.length + x.length + 1 := by
  unfold accW
  split
  · omega
  · simp; omega
set_option maxHeartbeats 4000000 in
set_option maxRecDepth 100000 in
theorem rformat31_any (w : World) (c : Cmd) (h1 : c.name.length ≤ 1000000) (h2 : c.other.length ≤ 1000000) (h3 : c.text.length ≤ 1000000) :
    Calls Tryz.prog 9 #[cmdV c] w fun e w' => e = .returned (str (formatC c)) ∧ Ext w w' := by
  have HVL := Lib.hid (fun W => rvalid31_any W c h1 h2 h3)
  have HO := Lib.hid (fun W => rname31_any W c.op)
  have HF := Lib.hid (fun h => formatC_doc (c := c) h)
  have HF0 : Hid (validC c = false → formatC c = []) := Lib.hid (fun h => by unfold formatC; rw [h]; rfl)
  have hfl := nameC_le c.op
  have HNN := Lib.hid (fun h hk => validC_n (c := c) h hk)
  have HSH := Lib.hid (fun h => (shape31 c.op h).2.2)
  have HOP : Hid (validC c = true → 0 ≤ c.op ∧ c.op < 22) := Lib.hid (fun h => by
    apply Classical.byContradiction
    intro hn
    have e : nameC c.op = [] := by unfold nameC; rw [if_neg hn]
    unfold validC at h
    rw [e] at h
    simp at h)
  obtain ⟨op, nm, ot, tx, n⟩ := c
  unfold cmdV at HVL ⊢
  simp only at HVL HO HF HF0 HNN HSH HOP h1 h2 h3 hfl ⊢
  generalize validC ⟨op, nm, ot, tx, n⟩ = vb at *
  generalize formatC ⟨op, nm, ot, tx, n⟩ = ft at *
  generalize nameC op = fn at *
  cases vb
  · have HFE := Lib.hid (HF0.out rfl)
    clear HF HF0 hfl h1 h2 h3
    go_enter Tryz.func9, Tryz.ntmps9
    go_wp2_with fail
    refine (HVL.out _).mono ?_
    rintro e w1 ⟨rfl, hx⟩
    have HX := Lib.hid (((Ext.refl w).alloc (.cells #[Value.int .i64 op, str nm, str ot, str tx, Value.int .i64 n] 31)).trans hx)
    clear hx
    go_wp2_with fail
    go_ret
    rw [HFE.out]
    exact ⟨rfl, HX.out⟩
  have HFD := Lib.hid (HF.out rfl)
  have HNZ : Hid (op = 3 ∨ op = 21 → 0 ≤ n ∧ n ≤ 9999) := Lib.hid (fun h => HNN.out rfl ((HSH.out (HOP.out rfl)).2 h))
  have hl1 := accW_len fn nm
  have hl2 := accW_len (accW fn nm) ot
  clear HF HF0 HNN HSH HOP
  go_enter Tryz.func9, Tryz.ntmps9
  go_wp2_with fail
  refine (HVL.out _).mono ?_
  rintro e w1 ⟨rfl, hx⟩
  have hbk := (Blk.new w 31 #[Value.int .i64 op, str nm, str ot, str tx, Value.int .i64 n]).ext hx
  have HX1 := Lib.hid (((Ext.refl w).alloc (.cells #[Value.int .i64 op, str nm, str ot, str tx, Value.int .i64 n] 31)).trans hx)
  have hc0 := hbk.cell 0
  have HBK := Lib.hid hbk
  clear hx hbk
  generalize hgb : w.heap.size = gb at *
  clear hgb
  go_wp2_with fail
  refine (HO.out _).mono ?_
  rintro e w2 ⟨rfl, hx2⟩
  have HX2 := Lib.hid (HX1.out.trans hx2)
  have HB2 := Lib.hid (HBK.out.ext hx2)
  clear hx2 hc0 HBK HX1 HO HVL
  have c1 := HB2.out.cell 1
  have c2 := HB2.out.cell 2
  have cz := HB2.out.lt
  have hob := OwnS.block (B := w2.heap.size) (ls := [nm, ot]) (Blk.new w2 9 _) (Nat.le_refl _) (by simp)
  have HRD : Hid (ArrS (w2.alloc (.cells #[str nm, str ot] 9)) (.slice (some ⟨w2.heap.size, 0, none⟩) 2 2) [nm, ot]) := Lib.hid hob.arr
  have HX3 := Lib.hid (HX2.out.alloc (.cells #[str nm, str ot] 9))
  have HB3 := Lib.hid (HB2.out.alloc (.cells #[str nm, str ot] 9))
  clear hob
  go_wp2_with fail
  clear c1 c2 cz
  generalize w2.alloc (.cells #[str nm, str ot] 9) = w3 at *
  generalize w2.heap.size = gz at *
  obtain ⟨b, o, hbo, hblt, hcells⟩ := (show ∃ b o, some (⟨gz, 0, none⟩ : Addr) = some ⟨b, o, none⟩ ∧ b < w3.heap.size ∧ (w3.cell? ⟨gz, 0, none⟩ = some (str nm) ∧ w3.cell? ⟨gz, 1, none⟩ = some (str ot)) from by
    obtain ⟨A', c', hv, _, _, hcell⟩ := HRD.out.open
    injection hv with hv hv1 hv2
    obtain ⟨b, o, hbo, hb, hcells⟩ := hcell (by simp)
    subst hv
    injection hbo with hbo
    injection hbo with e1 e2 _
    subst e1
    subst e2
    have k0 := hcells 0 (by simp)
    have k1 := hcells 1 (by simp)
    exact ⟨gz, 0, rfl, hb, k0, k1⟩)
  obtain ⟨k0, k1⟩ := hcells
  clear hbo hblt HRD
  go_loopw [3, 18] (fun s3 s18 wq => ∃ (i : Nat) (s : List UInt8), i ≤ 2 ∧ s18 = .int .i64 (i : Int) ∧ s3 = str s ∧ w3 = wq ∧ Hid (s = if i = 0 then fn else if i = 1 then accW fn nm else accW (accW fn nm) ot)) (fun _ s18 _ => 2 - (intOf s18).toNat)
  case atStart => exact ⟨0, fn, by omega, rfl, rfl, rfl, Lib.hid (by rw [if_pos rfl])⟩
  case round =>
    obtain ⟨i, s, hi, rfl, rfl, rfl, HS⟩ := hrel
    have hi3 : i = 0 ∨ i = 1 ∨ i = 2 := by omega
    rcases hi3 with rfl | rfl | rfl
    · have hs : s = fn := by rw [HS.out, if_pos rfl]
      subst hs
      cases hn : nm == []
      · have HAC : Hid (accW s nm = s ++ [32] ++ nm) := Lib.hid (by unfold accW; rw [if_neg (fun h => by rw [h] at hn; simp at hn)])
        obtain ⟨x0, hx0⟩ : ∃ x, s ++ ([32] : List UInt8) = x := ⟨_, rfl⟩
        have l0 : x0.length = s.length + 1 := by rw [← hx0, List.length_append]; rfl
        obtain ⟨x1, hx1⟩ : ∃ x, x0 ++ nm = x := ⟨_, rfl⟩
        have a0 : ∀ W : World, (binOp .add 9 (str s) (.string ⟨#[32]⟩)).run Tryz.prog W = .ok (str x0) W := fun W => by rw [← hx0]; exact run_add_str s [32] (by simp; omega) W
        have a1 : ∀ W : World, (binOp .add 9 (str x0) (str nm)).run Tryz.prog W = .ok (str x1) W := fun W => by rw [← hx1]; exact run_add_str x0 nm (by omega) W
        have HS2 : Hid (x1 = accW s nm) := Lib.hid (by rw [HAC.out, ← hx1, ← hx0])
        clear hx0 hx1 l0
        go_wp2_with fail
        go_roundw
        case rel => exact ⟨1, x1, by omega, by go_num, rfl, trivial, Lib.hid (by rw [if_neg (by omega), if_pos rfl]; exact HS2.out)⟩
        case measure => simp [intOf]
      · have HS2 : Hid (s = accW s nm) := Lib.hid (by unfold accW; rw [if_pos (by simpa using hn)])
        go_wp2_with fail
        go_roundw
        case rel => exact ⟨1, s, by omega, by go_num, rfl, trivial, Lib.hid (by rw [if_neg (by omega), if_pos rfl]; exact HS2.out)⟩
        case measure => simp [intOf]
    · have hs : s = accW fn nm := by rw [HS.out, if_neg (by omega), if_pos rfl]
      have hsl : s.length ≤ 1000020 := by rw [hs]; omega
      have HSE := Lib.hid hs
      clear hs HS
      cases hn : ot == []
      · have HAC : Hid (accW s ot = s ++ [32] ++ ot) := Lib.hid (by unfold accW; rw [if_neg (fun h => by rw [h] at hn; simp at hn)])
        obtain ⟨x0, hx0⟩ : ∃ x, s ++ ([32] : List UInt8) = x := ⟨_, rfl⟩
        have l0 : x0.length = s.length + 1 := by rw [← hx0, List.length_append]; rfl
        obtain ⟨x1, hx1⟩ : ∃ x, x0 ++ ot = x := ⟨_, rfl⟩
        have a0 : ∀ W : World, (binOp .add 9 (str s) (.string ⟨#[32]⟩)).run Tryz.prog W = .ok (str x0) W := fun W => by rw [← hx0]; exact run_add_str s [32] (by simp; omega) W
        have a1 : ∀ W : World, (binOp .add 9 (str x0) (str ot)).run Tryz.prog W = .ok (str x1) W := fun W => by rw [← hx1]; exact run_add_str x0 ot (by omega) W
        have HS2 : Hid (x1 = accW (accW fn nm) ot) := Lib.hid (by rw [← HSE.out, HAC.out, ← hx1, ← hx0])
        clear hx0 hx1 l0
        go_wp2_with fail
        go_roundw
        case rel => exact ⟨2, x1, by omega, by go_num, rfl, trivial, Lib.hid (by rw [if_neg (by omega), if_neg (by omega)]; exact HS2.out)⟩
        case measure => simp [intOf]
      · have HS2 : Hid (s = accW (accW fn nm) ot) := Lib.hid (by rw [← HSE.out]; unfold accW; rw [if_pos (by simpa using hn)])
        go_wp2_with fail
        go_roundw
        case rel => exact ⟨2, s, by omega, by go_num, rfl, trivial, Lib.hid (by rw [if_neg (by omega), if_neg (by omega)]; exact HS2.out)⟩
        case measure => simp [intOf]
    · have hs : s = accW (accW fn nm) ot := by rw [HS.out, if_neg (by omega), if_neg (by omega)]
      have hsl : s.length ≤ 2000030 := by rw [hs]; omega
      rw [← hs] at HFD
      clear hs HS hl1 hl2 k0 k1
      have b0 := HB3.out.cell 0
      have b3 := HB3.out.cell 3
      have b4 := HB3.out.cell 4
      have bz := HB3.out.lt
      by_cases q1 : op = 1
      · subst q1
        obtain ⟨x0, hx0⟩ : ∃ x, s ++ ([32, 61, 32] : List UInt8) = x := ⟨_, rfl⟩
        have l0 : x0.length = s.length + 3 := by rw [← hx0, List.length_append]; rfl
        obtain ⟨x1, hx1⟩ : ∃ x, x0 ++ tx = x := ⟨_, rfl⟩
        have a0 : ∀ W : World, (binOp .add 9 (str s) (.string ⟨#[32, 61, 32]⟩)).run Tryz.prog W = .ok (str x0) W := fun W => by rw [← hx0]; exact run_add_str s [32, 61, 32] (by simp; omega) W
        have a1 : ∀ W : World, (binOp .add 9 (str x0) (str tx)).run Tryz.prog W = .ok (str x1) W := fun W => by rw [← hx1]; exact run_add_str x0 tx (by omega) W
        have HFE : Hid (ft = x1) := Lib.hid (by rw [HFD.out, if_pos rfl, ← hx1, ← hx0])
        clear hx0 hx1 l0 HFD
        go_wp2_with fail
        go_ret
        rw [HFE.out]
        exact ⟨rfl, HX3.out⟩
      · by_cases q3 : op = 3 ∨ op = 21
        · have HN := Lib.hid (HNZ.out q3)
          have hnn := HN.out
          obtain ⟨z, rfl⟩ := Int.eq_ofNat_of_zero_le hnn.1
          have HOF := Lib.hid (fun W => r5of_pos W z (by omega))
          have HFM := Lib.hid (fun W v h => rformat_any W v (z : Int) h (by
            have := limbs_small (n := z) (by omega)
            rw [Int.natAbs_natCast]; omega))
          obtain ⟨dd, hdd⟩ : ∃ dd, dd = fmtI (z : Int) := ⟨_, rfl⟩
          rw [← hdd] at HFM
          have hdl : dd.length ≤ 5 := by rw [hdd]; unfold fmtI; rw [if_neg (by omega), Int.natAbs_natCast]; exact dec_small (by omega)
          have hde : dd = dec z := by rw [hdd]; unfold fmtI; rw [if_neg (by omega), Int.natAbs_natCast]
          obtain ⟨x0, hx0⟩ : ∃ x, s ++ ([32] : List UInt8) = x := ⟨_, rfl⟩
          have l0 : x0.length = s.length + 1 := by rw [← hx0, List.length_append]; rfl
          obtain ⟨x1, hx1⟩ : ∃ x, x0 ++ dd = x := ⟨_, rfl⟩
          have a0 : ∀ W : World, (binOp .add 9 (str s) (.string ⟨#[32]⟩)).run Tryz.prog W = .ok (str x0) W := fun W => by rw [← hx0]; exact run_add_str s [32] (by simp; omega) W
          have a1 : ∀ W : World, (binOp .add 9 (str x0) (str dd)).run Tryz.prog W = .ok (str x1) W := fun W => by rw [← hx1]; exact run_add_str x0 dd (by omega) W
          have HFE : Hid (ft = x1) := Lib.hid (by rw [HFD.out, if_neg q1, if_pos q3, ← hx1, ← hx0, hde, Int.toNat_natCast])
          clear hx0 hx1 l0 HFD hdd hde hnn HN HNZ
          rcases q3 with rfl | rfl
          all_goals
            go_wp2_with fail
            refine (HOF.out _).mono ?_
            rintro e w5 ⟨v5, rfl, h5, hx5⟩
            have HI5 := Lib.hid h5
            obtain ⟨m5, rfl, hm5⟩ := h5
            obtain ⟨n5, A5, c5, rfl⟩ := hm5.shape
            have HX5 := Lib.hid (HX3.out.trans hx5)
            clear hx5 hm5
            go_wp2_with fail
            refine (HFM.out _ _ HI5.out).mono ?_
            rintro e w6 ⟨rfl, hx6⟩
            have HX6 := Lib.hid (HX5.out.trans hx6)
            clear hx6
            go_wp2_with fail
            go_ret
            rw [HFE.out]
            exact ⟨rfl, HX6.out⟩
        · have g3 : ¬ op = 3 := fun h => q3 (.inl h)
          have g21 : ¬ op = 21 := fun h => q3 (.inr h)
          have g3' : (op == 3) = false := beq_eq_false_iff_ne.2 g3
          have g21' : (op == 21) = false := beq_eq_false_iff_ne.2 g21
          have HFE : Hid (ft = s) := Lib.hid (by rw [HFD.out, if_neg q1, if_neg q3])
          clear HFD q3
          go_wp2_with fail
          go_ret
          rw [HFE.out]
          exact ⟨rfl, HX3.out⟩
end Big
end Go.Proofs.YtoehdoghghpmjaaGreatDoor
/- Sizes and depths of lists of nodes: plain. -/
namespace Go.Proofs.YtoehdoghghpmjaaGreatDoor
namespace Big
def plainT (x : Nd) : Bool := if x.kind = 1 then code7 x.text == 0 else if x.kind = 2 then nameB x.text else x.text == []
def plainM (x : Nd) : Bool := if x.kind = 10 then decide (-64 ≤ x.n ∧ x.n ≤ 64) else x.n == 0
/-- Plain. -/
def plainB (x : Nd) : Bool := plainT x && plainM x
/-- One step of sizes: S the sizes, D the depths of the nodes before. -/
def szStep (S D : List Nat) (x : Nd) : Option (Nat × Nat) :=
  if operI x.kind < 0 ∨ plainB x = false ∨ (operI x.kind < 1 ∧ x.a ≠ 0) ∨ (operI x.kind < 2 ∧ x.b ≠ 0) then none
  else if operI x.kind = 0 then some (1, 1)
  else if operI x.kind = 1 then
    (if x.a ≠ (S.length : Int) - 1 ∨ x.a < 0 then none else some (S.getD x.a.toNat 0 + 1, max 1 (D.getD x.a.toNat 0 + 1)))
  else if x.b ≠ (S.length : Int) - 1 ∨ x.b < 0 then none
  else if x.a ≠ (S.length : Int) - ((S.getD x.b.toNat 0 + 1 : Nat) : Int) ∨ x.a < 0 then none
  else some (S.getD x.b.toNat 0 + 1 + S.getD x.a.toNat 0, max (max 1 (D.getD x.b.toNat 0 + 1)) (D.getD x.a.toNat 0 + 1))
def szGo : List Nat → List Nat → List Nd → Option (List Nat × List Nat)
  | S, D, [] => some (S, D)
  | S, D, x :: t => match szStep S D x with
    | none => none
    | some (s, d) => szGo (S ++ [s]) (D ++ [d]) t
/-- sizes. -/
def szAll (l : List Nd) : Option (List Nat × List Nat) := match szGo [] [] l with
  | none => none
  | some (S, D) => if l.length = 0 ∨ S.getD (l.length - 1) 0 ≠ l.length then none else some (S, D)
def validB (l : List Nd) : Bool := decide (1 ≤ l.length ∧ l.length ≤ 200) && match szAll l with
  | none => false
  | some (_, D) => decide (D.getD (l.length - 1) 0 ≤ 40)
theorem szGo_append (l m : List Nd) : ∀ S D, szGo S D (l ++ m) = (match szGo S D l with | none => none | some (S', D') => szGo S' D' m) := by
  induction l with
  | nil => intro S D; rfl
  | cons x t ih =>
    intro S D
    rw [List.cons_append, szGo, szGo]
    cases szStep S D x with
    | none => rfl
    | some p => exact ih _ _
def szE : Ex → List Nat
  | .leaf _ _ => [1]
  | .un _ _ x => szE x ++ [x.size + 1]
  | .bin _ x y => szE x ++ szE y ++ [x.size + y.size + 1]
def dpE : Ex → List Nat
  | .leaf _ _ => [1]
  | .un _ _ x => dpE x ++ [x.depth + 1]
  | .bin _ x y => dpE x ++ dpE y ++ [max x.depth y.depth + 1]
theorem szE_len (e : Ex) : (szE e).length = e.size := by
  induction e with
  | leaf k t => rfl
  | un k n x ih => rw [szE, List.length_append, ih]; rfl
  | bin k x y ihx ihy => rw [szE, List.length_append, List.length_append, ihx, ihy]; rfl
theorem dpE_len (e : Ex) : (dpE e).length = e.size := by
  induction e with
  | leaf k t => rfl
  | un k n x ih => rw [dpE, List.length_append, ih]; rfl
  | bin k x y ihx ihy => rw [dpE, List.length_append, List.length_append, ihx, ihy]; rfl
theorem getD_last {L M : List Nat} {x : Nat} {i : Nat} (h : i = L.length + M.length) : (L ++ (M ++ [x])).getD i 0 = x := by
  subst h
  rw [List.getD_eq_getElem?_getD, List.getElem?_append_right (by omega), Nat.add_sub_cancel_left, List.getElem?_append_right (Nat.le_refl _), Nat.sub_self]
  rfl
theorem szE_last (e : Ex) (L : List Nat) (i : Nat) (h : i + 1 = L.length + e.size) : (L ++ szE e).getD i 0 = e.size := by
  cases e with
  | leaf k t => exact getD_last (M := []) (by have h2 : i + 1 = L.length + 1 := h; simp; omega)
  | un k n x => rw [szE]; have := szE_len x; exact getD_last (by have h2 : i + 1 = L.length + (x.size + 1) := h; omega)
  | bin k x y => rw [szE]; have := szE_len x; have := szE_len y; exact getD_last (by have h2 : i + 1 = L.length + (x.size + y.size + 1) := h; rw [List.length_append]; omega)
theorem dpE_last (e : Ex) (L : List Nat) (i : Nat) (h : i + 1 = L.length + e.size) : (L ++ dpE e).getD i 0 = e.depth := by
  cases e with
  | leaf k t => exact getD_last (M := []) (by have h2 : i + 1 = L.length + 1 := h; simp; omega)
  | un k n x => rw [dpE]; have := dpE_len x; exact getD_last (by have h2 : i + 1 = L.length + (x.size + 1) := h; omega)
  | bin k x y => rw [dpE]; have := dpE_len x; have := dpE_len y; exact getD_last (by have h2 : i + 1 = L.length + (x.size + y.size + 1) := h; rw [List.length_append]; omega)
theorem getD_left {L M : List Nat} {i : Nat} (h : i < L.length) : (L ++ M).getD i 0 = L.getD i 0 := by
  rw [List.getD_eq_getElem?_getD, List.getD_eq_getElem?_getD, List.getElem?_append_left h]
theorem plain_un {k : Nat} {n : Int} {x : Ex} (h : (Ex.un k n x).Good) (a b : Int) : plainB ⟨(k : Int), a, b, n, []⟩ = true := by
  obtain ⟨h1, h2, h3, h4, _⟩ := h
  unfold plainB plainT plainM
  rw [if_neg (by simp only; omega), if_neg (by simp only; omega)]
  by_cases hk : k = 10
  · subst hk
    simp
    omega
  · rw [if_neg (by simp only; omega)]
    simp [h2 hk]
/-- A good tree's list passes. -/
theorem szGo_flat (e : Ex) (hg : e.Good) : ∀ S D : List Nat, D.length = S.length → szGo S D (flat S.length e) = some (S ++ szE e, D ++ dpE e) := by
  induction e with
  | leaf k t =>
    intro S D hD
    have h1 : szStep S D ⟨(k : Int), 0, 0, 0, t⟩ = some (1, 1) := by
      have hk : 1 ≤ k ∧ k ≤ 4 := by unfold Ex.Good at hg; omega
      have ho : operI (k : Int) = 0 := by unfold operI; rw [if_neg (by omega), if_pos (by omega)]
      have hp : plainB ⟨(k : Int), 0, 0, 0, t⟩ = true := by
        unfold plainB plainT plainM
        rw [if_neg (c := (k : Int) = 10) (by omega)]
        rcases hg with ⟨rfl, h, _⟩ | ⟨rfl, h⟩ | ⟨h, rfl⟩
        · simp [h]
        · simp [h]
        · rw [if_neg (by simp only; omega), if_neg (by simp only; omega)]; rfl
      unfold szStep
      rw [ho, hp]
      simp
    rw [flat, szGo, h1]
    rfl
  | un k n x ih =>
    intro S D hD
    have hx := hg.2.2.2.2
    have hz := x.size_pos
    have hk := hg.1
    have ho : operI (k : Int) = 1 := by unfold operI; rw [if_neg (by omega), if_neg (by omega), if_neg (by omega)]
    rw [flat, szGo_append, ih hx S D hD]
    have h1 : szStep (S ++ szE x) (D ++ dpE x) ⟨(k : Int), ((S.length + x.size - 1 : Nat) : Int), 0, n, []⟩ = some (x.size + 1, x.depth + 1) := by
      have h2 := szE_last x S (S.length + x.size - 1) (by omega)
      have h3 := dpE_last x D (S.length + x.size - 1) (by omega)
      unfold szStep
      simp only [ho, plain_un hg, Int.toNat_natCast, h2, h3, List.length_append, szE_len]
      rw [if_neg (by simp), if_neg (by decide), if_pos trivial, if_neg (by omega), Nat.max_eq_right (by omega)]
    simp only [szGo, h1]
    simp [szE, dpE]
  | bin k x y ihx ihy =>
    intro S D hD
    have hx := hg.2.1
    have hy := hg.2.2
    have hz := x.size_pos
    have hz2 := y.size_pos
    have hk := hg.1
    have ho : operI (k : Int) = 2 := by unfold operI; rw [if_neg (by omega), if_neg (by omega), if_pos (by omega)]
    have hp : plainB ⟨(k : Int), ((S.length + x.size - 1 : Nat) : Int), ((S.length + x.size + y.size - 1 : Nat) : Int), 0, []⟩ = true := by
      unfold plainB plainT plainM
      rw [if_neg (by simp only; omega), if_neg (by simp only; omega), if_neg (by simp only; omega)]
      rfl
    have hl : S.length + x.size = (S ++ szE x).length := by rw [List.length_append, szE_len]
    have hl2 : D.length + x.size = (D ++ dpE x).length := by rw [List.length_append, dpE_len]
    have h0 := ihy hy (S ++ szE x) (D ++ dpE x) (by rw [← hl, ← hl2, hD])
    rw [flat, szGo_append, ihx hx S D hD]
    simp only
    rw [szGo_append, hl, h0, ← hl]
    have h1 : szStep ((S ++ szE x) ++ szE y) ((D ++ dpE x) ++ dpE y) ⟨(k : Int), ((S.length + x.size - 1 : Nat) : Int), ((S.length + x.size + y.size - 1 : Nat) : Int), 0, []⟩ = some (x.size + y.size + 1, max x.depth y.depth + 1) := by
      have h2 := szE_last y (S ++ szE x) (S.length + x.size + y.size - 1) (by omega)
      have h3 := dpE_last y (D ++ dpE x) (S.length + x.size + y.size - 1) (by omega)
      have h4 := (getD_left (L := S ++ szE x) (M := szE y) (i := S.length + x.size - 1) (by omega)).trans (szE_last x S (S.length + x.size - 1) (by omega))
      have h5 := (getD_left (L := D ++ dpE x) (M := dpE y) (i := S.length + x.size - 1) (by omega)).trans (dpE_last x D (S.length + x.size - 1) (by omega))
      unfold szStep
      simp only [ho, hp, Int.toNat_natCast, h2, h3, h4, h5]
      rw [if_neg (by simp), if_neg (by decide), if_neg (by decide), if_neg (by rw [List.length_append, ← hl, szE_len]; omega), if_neg (by rw [List.length_append, ← hl, szE_len]; omega)]
      congr 2
      · omega
      · omega
    simp only [szGo, h1]
    simp [szE, dpE]
theorem validB_flat (e : Ex) (hg : e.Good) : validB (flat 0 e) = decide (e.size ≤ 200 ∧ e.depth ≤ 40) := by
  have h := szGo_flat e hg [] [] rfl
  have hz := e.size_pos
  have h1 := szE_last e [] (e.size - 1) (by simp; omega)
  have h2 := dpE_last e [] (e.size - 1) (by simp; omega)
  rw [List.nil_append] at h h1 h2
  rw [List.nil_append, List.length_nil] at h
  unfold validB szAll
  rw [h, flat_len]
  simp only [h1]
  rw [if_neg (by omega)]
  simp only [h2]
  rw [← Bool.decide_and, decide_eq_decide]
  omega
/-- What a pass keeps: as many sizes and depths as nodes, none greater than the place allows. -/
structure SzOk (S D : List Nat) : Prop where
  len : D.length = S.length
  size : ∀ j, j < S.length → S.getD j 0 ≤ j + 1
  depth : ∀ j, j < S.length → D.getD j 0 ≤ j + 1
theorem SzOk.nil : SzOk [] [] := ⟨rfl, fun j h => by simp at h, fun j h => by simp at h⟩
theorem SzOk.step {S D : List Nat} {x : Nd} {s d : Nat} (h : SzOk S D) (hs : szStep S D x = some (s, d)) : s ≤ S.length + 1 ∧ d ≤ S.length + 1 ∧ SzOk (S ++ [s]) (D ++ [d]) := by
  have key : s ≤ S.length + 1 ∧ d ≤ S.length + 1 := by
    unfold szStep at hs
    split at hs
    · cases hs
    · split at hs
      · injection hs with hs; injection hs with h1 h2; omega
      · split at hs
        · split at hs
          · cases hs
          · rename_i hc
            injection hs with hs
            injection hs with h1 h2
            have := h.size x.a.toNat (by omega)
            have := h.depth x.a.toNat (by omega)
            omega
        · split at hs
          · cases hs
          · rename_i hc
            have q1 := h.size x.b.toNat (by omega)
            have q2 := h.depth x.b.toNat (by omega)
            split at hs
            · cases hs
            · rename_i hc2
              injection hs with hs
              injection hs with h1 h2
              have q3 := h.size x.a.toNat (by omega)
              have q4 := h.depth x.a.toNat (by omega)
              omega
  refine ⟨key.1, key.2, ?_, fun j hj => ?_, fun j hj => ?_⟩
  · rw [List.length_append, List.length_append, h.len]; rfl
  · rw [List.length_append, List.length_singleton] at hj
    rcases Nat.lt_or_ge j S.length with h1 | h1
    · rw [getD_left h1]; exact h.size j h1
    · have h2 := getD_last (L := S) (M := []) (x := s) (i := j) (by simp; omega)
      rw [List.nil_append] at h2
      rw [h2]; omega
  · rw [List.length_append, List.length_singleton] at hj
    rcases Nat.lt_or_ge j S.length with h1 | h1
    · rw [getD_left (by rw [h.len]; exact h1)]; exact h.depth j h1
    · have h2 := getD_last (L := D) (M := []) (x := d) (i := j) (by rw [h.len]; simp; omega)
      rw [List.nil_append] at h2
      rw [h2]; omega
end Big
end Go.Proofs.YtoehdoghghpmjaaGreatDoor
/- ref20.operand, from node's contract. -/
namespace Go.Proofs.YtoehdoghghpmjaaGreatDoor
namespace Big
open Go.RowKit
/-- node's contract at the tree e of the list l. -/
def NodeC (l : List Nd) (e : Ex) : Prop :=
  ∀ (w : World) (v : Value) (i : Nat) (I : Int), RNd w v l → AtEx l i e → I = (i : Int) →
    Calls Tryz.prog 47 #[v, .int .i64 I] w fun r w' => r = .returned (str (nodeT fmtI e)) ∧ Ext w w'
theorem AtEx.node {l : List Nd} {i : Nat} {e : Ex} (h : AtEx l i e) : ∃ hi : i < l.length, l[i].kind = (e.kind : Int) := by
  have hi := h.lt.1
  refine ⟨hi, ?_⟩
  have h2 : ∃ nd, l[i]? = some nd ∧ nd.kind = (e.kind : Int) := by
    cases e with
    | leaf k t => exact ⟨_, h.leaf, rfl⟩
    | un k n x => exact ⟨_, h.un.2.1, rfl⟩
    | bin k x y => obtain ⟨j, _, h3, _⟩ := h.bin; exact ⟨_, h3, rfl⟩
  obtain ⟨nd, h3, h4⟩ := h2
  rw [List.getElem?_eq_getElem hi] at h3
  injection h3 with h3
  rw [h3, h4]
theorem Ex.Good.kinds {e : Ex} (h : e.Good) : 1 ≤ e.kind ∧ e.kind ≤ 16 := by
  cases e with
  | leaf k t => unfold Ex.Good at h; show 1 ≤ k ∧ k ≤ 16; omega
  | un k n x => obtain ⟨h1, _⟩ := h; show 1 ≤ k ∧ k ≤ 16; omega
  | bin k x y => obtain ⟨h1, _⟩ := h; show 1 ≤ k ∧ k ≤ 16; omega
set_option maxRecDepth 100000 in
theorem operand_any (l : List Nd) (e : Ex) (hn : NodeC l e) (hg : e.Good) (hs : (nodeT fmtI e).length ≤ 1000000) (hl : l.length ≤ 1000000)
    (w : World) (v : Value) (i : Nat) (I : Int) (m : Nat) (hr : RNd w v l) (ha : AtEx l i e) (hI : I = (i : Int)) :
    Calls Tryz.prog 70 #[v, .int .i64 I, .int .i64 (m : Int)] w fun r w' => r = .returned (str (parenT (decide (levelK e.kind < m)) (nodeT fmtI e))) ∧ Ext w w' := by
  subst hI
  have HN := Lib.hid (hn w v i (i : Int) hr ha rfl)
  obtain ⟨hi, hk⟩ := ha.node
  obtain ⟨hk1, hk2⟩ := hg.kinds
  obtain ⟨A, c, rfl, hc⟩ := hr
  obtain ⟨b, o, rfl, hb, hc⟩ := hc (by omega)
  have hat := hc i hi
  generalize l[i] = nd at *
  obtain ⟨kd, na, nb, nn, nt⟩ := nd
  simp only at hk
  subst hk
  have HL := Lib.hid (fun W => level_any W e.kind na nb nn nt hk1 hk2)
  have HAT := Lib.hid hat
  generalize levelK e.kind = lv at *
  generalize e.kind = k at *
  generalize nodeT fmtI e = s at *
  have hadd1 : ∀ W : World, (binOp .add 9 (.string ⟨#[40]⟩) (str s)).run Tryz.prog W = .ok (str (40 :: s)) W := fun W => run_add_str [40] s (by simp; omega) W
  have hadd2 : ∀ W : World, (binOp .add 9 (str (40 :: s)) (.string ⟨#[41]⟩)).run Tryz.prog W = .ok (str (40 :: (s ++ [41]))) W := fun W => run_add_str (40 :: s) [41] (by simp; omega) W
  clear hn ha hg hc hat
  go_enter Tryz.func70, Tryz.ntmps70
  go_wp2_with fail
  refine HN.out.mono ?_
  rintro r w1 ⟨rfl, hx1⟩
  obtain ⟨k0, k1, k2, k3, k4⟩ := HAT.out.ext hx1 hb
  have HX1 := Lib.hid hx1
  clear hx1
  simp only at k0 k1 k2 k3 k4
  go_wp2_with fail
  refine (HL.out _).mono ?_
  rintro r w2 ⟨rfl, hx2⟩
  have HX2 := Lib.hid (HX1.out.trans hx2)
  clear hx2 k0 k1 k2 k3 k4
  by_cases hlv : lv < m
  · have hli : (lv : Int) < (m : Int) := by omega
    have HP : Hid (parenT (decide (lv < m)) s = 40 :: (s ++ [41])) := Lib.hid (by rw [decide_eq_true hlv]; rfl)
    clear hlv
    go_wp2_with fail
    go_ret
    exact ⟨by rw [HP.out]; rfl, HX2.out⟩
  · have hli : ¬ (lv : Int) < (m : Int) := by omega
    have HP : Hid (parenT (decide (lv < m)) s = s) := Lib.hid (by rw [decide_eq_false hlv]; rfl)
    clear hlv
    go_wp2_with fail
    go_ret
    exact ⟨by rw [HP.out]; rfl, HX2.out⟩
end Big
end Go.Proofs.YtoehdoghghpmjaaGreatDoor
