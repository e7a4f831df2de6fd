import Derived.Test.YtgopljllknbelaaGreatDoorM29
import Derived.Test.YtgopljllknbelaaGreatDoorM31
import Derived.Test.YtgopljllknbelaaGreatDoorM32
import Derived.Test.YtgopljllknbelaaGreatDoorM33
import Derived.Test.YtgopljllknbelaaGreatDoorM27
/- All that the printer's laws share. -/
/- awake of chapter 20. Printed by a program. -/
namespace Go.Proofs.YtgopljllknbelaaGreatDoor
namespace Big
open Go.RowKit
theorem parseR_none {s : List UInt8} {n k : Nat} (h : parseR s = (none, n, k)) : k ≠ 0 := by
  unfold parseR at h
  split at h
  · rename_i h0
    injection h with _ h
    injection h with _ h
    subst h
    exact h0
  · split at h
    · injection h with _ h
      injection h with _ h
      omega
    · rcases hp : pSum (scanT s).1 ((scanT s).1.length + 1) 0 with ⟨_ | y, b⟩
      · rw [hp] at h
        simp only at h
        injection h with _ h
        injection h with _ h
        omega
      · rw [hp] at h
        simp only at h
        split at h
        · injection h with h _
          cases h
        · injection h with _ h
          injection h with _ h
          omega
theorem aw20_0 : parseR [40, 97, 45, 98, 41, 45, 99] = (some (.bin 7 (.bin 7 (.leaf 2 [97]) (.leaf 2 [98])) (.leaf 2 [99])), 7, 0) ∧ nodeT fmtI (.bin 7 (.bin 7 (.leaf 2 [97]) (.leaf 2 [98])) (.leaf 2 [99])) = [97, 32, 45, 32, 98, 32, 45, 32, 99] := by
  refine ⟨by kernel_rfl, by kernel_rfl⟩
theorem aw20_1 : parseR [97, 45, 40, 98, 45, 99, 41] = (some (.bin 7 (.leaf 2 [97]) (.bin 7 (.leaf 2 [98]) (.leaf 2 [99]))), 7, 0) ∧ nodeT fmtI (.bin 7 (.leaf 2 [97]) (.bin 7 (.leaf 2 [98]) (.leaf 2 [99]))) = [97, 32, 45, 32, 40, 98, 32, 45, 32, 99, 41] := by
  refine ⟨by kernel_rfl, by kernel_rfl⟩
theorem aw20_2 : parseR [45, 40, 45, 120, 41] = (some (.un 5 0 (.un 5 0 (.leaf 2 [120]))), 5, 0) ∧ nodeT fmtI (.un 5 0 (.un 5 0 (.leaf 2 [120]))) = [45, 45, 120] := by
  refine ⟨by kernel_rfl, by kernel_rfl⟩
theorem aw20_3 : parseR [40, 45, 120, 41, 94, 50] = (some (.un 10 2 (.un 5 0 (.leaf 2 [120]))), 6, 0) ∧ nodeT fmtI (.un 10 2 (.un 5 0 (.leaf 2 [120]))) = [40, 45, 120, 41, 94, 50] := by
  refine ⟨by kernel_rfl, by kernel_rfl⟩
theorem aw20_4 : parseR [45, 120, 94, 50] = (some (.un 5 0 (.un 10 2 (.leaf 2 [120]))), 4, 0) ∧ nodeT fmtI (.un 5 0 (.un 10 2 (.leaf 2 [120]))) = [45, 120, 94, 50] := by
  refine ⟨by kernel_rfl, by kernel_rfl⟩
set_option maxHeartbeats 4000000 in
set_option maxRecDepth 100000 in
theorem awake20_any (w : World) (hm : MaxV w) (hpw : Pow10 w) : Calls Tryz.prog 19 #[] w fun e w' => e = .returned (.bool true) ∧ Ext w w' := by
  have HM := Lib.hid hm
  have HPW := Lib.hid hpw
  obtain ⟨wb, hwb⟩ : ∃ wb, wb = w.alloc (.cells #[.string ⟨#[40, 97, 45, 98, 41, 45, 99]⟩, .string ⟨#[97, 32, 45, 32, 98, 32, 45, 32, 99]⟩, .string ⟨#[97, 45, 40, 98, 45, 99, 41]⟩, .string ⟨#[97, 32, 45, 32, 40, 98, 32, 45, 32, 99, 41]⟩, .string ⟨#[45, 40, 45, 120, 41]⟩, .string ⟨#[45, 45, 120]⟩, .string ⟨#[40, 45, 120, 41, 94, 50]⟩, .string ⟨#[40, 45, 120, 41, 94, 50]⟩, .string ⟨#[45, 120, 94, 50]⟩, .string ⟨#[45, 120, 94, 50]⟩] 60) := ⟨_, rfl⟩
  have HXB : Hid (Ext w wb) := Lib.hid (by rw [hwb]; exact (Ext.refl w).alloc _)
  have HBB : Hid (Blk wb w.heap.size 60 #[.string ⟨#[40, 97, 45, 98, 41, 45, 99]⟩, .string ⟨#[97, 32, 45, 32, 98, 32, 45, 32, 99]⟩, .string ⟨#[97, 45, 40, 98, 45, 99, 41]⟩, .string ⟨#[97, 32, 45, 32, 40, 98, 32, 45, 32, 99, 41]⟩, .string ⟨#[45, 40, 45, 120, 41]⟩, .string ⟨#[45, 45, 120]⟩, .string ⟨#[40, 45, 120, 41, 94, 50]⟩, .string ⟨#[40, 45, 120, 41, 94, 50]⟩, .string ⟨#[45, 120, 94, 50]⟩, .string ⟨#[45, 120, 94, 50]⟩]) := Lib.hid (by rw [hwb]; exact Blk.new w _ _)
  clear hm hpw
  go_enter Tryz.func19, Tryz.ntmps19
  go_upto_block 2 with fail
  rw [← hwb]
  clear hwb
  generalize w.heap.size = gb at *
  go_loopw [13] (fun s13 wr => ∃ k : Nat, k ≤ 5 ∧ s13 = .int .i64 (k : Int) ∧ Ext wb wr) (fun s13 _ => 5 - (intOf s13).toNat)
  case atStart => exact ⟨0, by omega, rfl, Ext.refl _⟩
  case round =>
    obtain ⟨k, hk, rfl, hext⟩ := hrel
    have HBR := Lib.hid (HBB.out.ext hext)
    have HXR := Lib.hid (HXB.out.trans hext)
    have HEX := Lib.hid hext
    clear hext
    have key : k = 0 ∨ k = 1 ∨ k = 2 ∨ k = 3 ∨ k = 4 ∨ k = 5 := by omega
    rcases key with rfl | rfl | rfl | rfl | rfl | rfl
    · have h0 := HBR.out.cell 0
      have h1 := HBR.out.cell 1
      simp at h0 h1
      have HPS := Lib.hid (fun W hx => rparse_any W [40, 97, 45, 98, 41, 45, 99] (HM.out.ext (w' := W) hx))
      unfold ParseP at HPS
      rw [aw20_0.1] at HPS
      simp only [exNodes] at HPS
      have hsm := parseR_some aw20_0.1
      have HF := Lib.hid (fun W v h hx => pformat_any W v _ h hsm.2.2.2.1 hsm.2.1 hsm.2.2.1 (HM.out.ext (w' := W) hx) (HPW.out.ext hx))
      rw [aw20_0.2] at HF
      rw [show str [97, 32, 45, 32, 98, 32, 45, 32, 99] = .string ⟨#[97, 32, 45, 32, 98, 32, 45, 32, 99]⟩ from rfl] at HF
      have hbq := Blk.new wr 60 #[.string ⟨#[40, 97, 45, 98, 41, 45, 99]⟩, .string ⟨#[97, 32, 45, 32, 98, 32, 45, 32, 99]⟩]
      have HBQ := Lib.hid hbq
      clear hsm hbq
      go_wp2_with fail
      refine (HPS.out _ (HXR.out.alloc _)).mono ?_
      rintro e w4 ⟨v4, rfl, hx4, hr4⟩
      have HX4 := Lib.hid ((HXR.out.alloc (.cells #[.string ⟨#[40, 97, 45, 98, 41, 45, 99]⟩, .string ⟨#[97, 32, 45, 32, 98, 32, 45, 32, 99]⟩] 60)).trans hx4)
      have HY4 := Lib.hid (((Ext.refl wr).alloc (.cells #[.string ⟨#[40, 97, 45, 98, 41, 45, 99]⟩, .string ⟨#[97, 32, 45, 32, 98, 32, 45, 32, 99]⟩] 60)).trans hx4)
      have HR4 := Lib.hid hr4
      obtain ⟨A4, c4, rfl⟩ := hr4.shape
      have hb4 := HBQ.out.ext hx4
      have hq1 := hb4.cell 1
      rw [show (#[Value.string ⟨#[40, 97, 45, 98, 41, 45, 99]⟩, Value.string ⟨#[97, 32, 45, 32, 98, 32, 45, 32, 99]⟩] : Array Value)[1]? = some (.string ⟨#[97, 32, 45, 32, 98, 32, 45, 32, 99]⟩) from rfl] at hq1
      generalize wr.heap.size = gq at *
      clear hx4 hr4 hb4 h0 h1
      go_wp2_with fail
      go_region_held3 (fun w' => Ext w4 w' ∧ w'.cell? ⟨gq, 1, none⟩ = some (.string ⟨#[97, 32, 45, 32, 98, 32, 45, 32, 99]⟩))
        (first | (exact kept1_drew hq1) | (exact kept1 (by assumption) (by assumption)))
        (first
          | (go_at_call 20; (refine (HF.out _ _ (HR4.out.ext (And.left (by assumption))) (HX4.out.trans (And.left (by assumption)))).mono ?_); rintro r w5 ⟨rfl, hx5⟩))
      all_goals
        have HX5 : Hid (Ext w4 w5) := Lib.hid (And.left (by assumption))
        go_wp2_with fail
        go_roundw
        case rel => exact ⟨1, by omega, rfl, HEX.out.trans (HY4.out.trans HX5.out)⟩
        case measure => simp [intOf]
    · have h0 := HBR.out.cell 2
      have h1 := HBR.out.cell 3
      simp at h0 h1
      have HPS := Lib.hid (fun W hx => rparse_any W [97, 45, 40, 98, 45, 99, 41] (HM.out.ext (w' := W) hx))
      unfold ParseP at HPS
      rw [aw20_1.1] at HPS
      simp only [exNodes] at HPS
      have hsm := parseR_some aw20_1.1
      have HF := Lib.hid (fun W v h hx => pformat_any W v _ h hsm.2.2.2.1 hsm.2.1 hsm.2.2.1 (HM.out.ext (w' := W) hx) (HPW.out.ext hx))
      rw [aw20_1.2] at HF
      rw [show str [97, 32, 45, 32, 40, 98, 32, 45, 32, 99, 41] = .string ⟨#[97, 32, 45, 32, 40, 98, 32, 45, 32, 99, 41]⟩ from rfl] at HF
      have hbq := Blk.new wr 60 #[.string ⟨#[97, 45, 40, 98, 45, 99, 41]⟩, .string ⟨#[97, 32, 45, 32, 40, 98, 32, 45, 32, 99, 41]⟩]
      have HBQ := Lib.hid hbq
      clear hsm hbq
      go_wp2_with fail
      refine (HPS.out _ (HXR.out.alloc _)).mono ?_
      rintro e w4 ⟨v4, rfl, hx4, hr4⟩
      have HX4 := Lib.hid ((HXR.out.alloc (.cells #[.string ⟨#[97, 45, 40, 98, 45, 99, 41]⟩, .string ⟨#[97, 32, 45, 32, 40, 98, 32, 45, 32, 99, 41]⟩] 60)).trans hx4)
      have HY4 := Lib.hid (((Ext.refl wr).alloc (.cells #[.string ⟨#[97, 45, 40, 98, 45, 99, 41]⟩, .string ⟨#[97, 32, 45, 32, 40, 98, 32, 45, 32, 99, 41]⟩] 60)).trans hx4)
      have HR4 := Lib.hid hr4
      obtain ⟨A4, c4, rfl⟩ := hr4.shape
      have hb4 := HBQ.out.ext hx4
      have hq1 := hb4.cell 1
      rw [show (#[Value.string ⟨#[97, 45, 40, 98, 45, 99, 41]⟩, Value.string ⟨#[97, 32, 45, 32, 40, 98, 32, 45, 32, 99, 41]⟩] : Array Value)[1]? = some (.string ⟨#[97, 32, 45, 32, 40, 98, 32, 45, 32, 99, 41]⟩) from rfl] at hq1
      generalize wr.heap.size = gq at *
      clear hx4 hr4 hb4 h0 h1
      go_wp2_with fail
      go_region_held3 (fun w' => Ext w4 w' ∧ w'.cell? ⟨gq, 1, none⟩ = some (.string ⟨#[97, 32, 45, 32, 40, 98, 32, 45, 32, 99, 41]⟩))
        (first | (exact kept1_drew hq1) | (exact kept1 (by assumption) (by assumption)))
        (first
          | (go_at_call 20; (refine (HF.out _ _ (HR4.out.ext (And.left (by assumption))) (HX4.out.trans (And.left (by assumption)))).mono ?_); rintro r w5 ⟨rfl, hx5⟩))
      all_goals
        have HX5 : Hid (Ext w4 w5) := Lib.hid (And.left (by assumption))
        go_wp2_with fail
        go_roundw
        case rel => exact ⟨2, by omega, rfl, HEX.out.trans (HY4.out.trans HX5.out)⟩
        case measure => simp [intOf]
    · have h0 := HBR.out.cell 4
      have h1 := HBR.out.cell 5
      simp at h0 h1
      have HPS := Lib.hid (fun W hx => rparse_any W [45, 40, 45, 120, 41] (HM.out.ext (w' := W) hx))
      unfold ParseP at HPS
      rw [aw20_2.1] at HPS
      simp only [exNodes] at HPS
      have hsm := parseR_some aw20_2.1
      have HF := Lib.hid (fun W v h hx => pformat_any W v _ h hsm.2.2.2.1 hsm.2.1 hsm.2.2.1 (HM.out.ext (w' := W) hx) (HPW.out.ext hx))
      rw [aw20_2.2] at HF
      rw [show str [45, 45, 120] = .string ⟨#[45, 45, 120]⟩ from rfl] at HF
      have hbq := Blk.new wr 60 #[.string ⟨#[45, 40, 45, 120, 41]⟩, .string ⟨#[45, 45, 120]⟩]
      have HBQ := Lib.hid hbq
      clear hsm hbq
      go_wp2_with fail
      refine (HPS.out _ (HXR.out.alloc _)).mono ?_
      rintro e w4 ⟨v4, rfl, hx4, hr4⟩
      have HX4 := Lib.hid ((HXR.out.alloc (.cells #[.string ⟨#[45, 40, 45, 120, 41]⟩, .string ⟨#[45, 45, 120]⟩] 60)).trans hx4)
      have HY4 := Lib.hid (((Ext.refl wr).alloc (.cells #[.string ⟨#[45, 40, 45, 120, 41]⟩, .string ⟨#[45, 45, 120]⟩] 60)).trans hx4)
      have HR4 := Lib.hid hr4
      obtain ⟨A4, c4, rfl⟩ := hr4.shape
      have hb4 := HBQ.out.ext hx4
      have hq1 := hb4.cell 1
      rw [show (#[Value.string ⟨#[45, 40, 45, 120, 41]⟩, Value.string ⟨#[45, 45, 120]⟩] : Array Value)[1]? = some (.string ⟨#[45, 45, 120]⟩) from rfl] at hq1
      generalize wr.heap.size = gq at *
      clear hx4 hr4 hb4 h0 h1
      go_wp2_with fail
      go_region_held3 (fun w' => Ext w4 w' ∧ w'.cell? ⟨gq, 1, none⟩ = some (.string ⟨#[45, 45, 120]⟩))
        (first | (exact kept1_drew hq1) | (exact kept1 (by assumption) (by assumption)))
        (first
          | (go_at_call 20; (refine (HF.out _ _ (HR4.out.ext (And.left (by assumption))) (HX4.out.trans (And.left (by assumption)))).mono ?_); rintro r w5 ⟨rfl, hx5⟩))
      all_goals
        have HX5 : Hid (Ext w4 w5) := Lib.hid (And.left (by assumption))
        go_wp2_with fail
        go_roundw
        case rel => exact ⟨3, by omega, rfl, HEX.out.trans (HY4.out.trans HX5.out)⟩
        case measure => simp [intOf]
    · have h0 := HBR.out.cell 6
      have h1 := HBR.out.cell 7
      simp at h0 h1
      have HPS := Lib.hid (fun W hx => rparse_any W [40, 45, 120, 41, 94, 50] (HM.out.ext (w' := W) hx))
      unfold ParseP at HPS
      rw [aw20_3.1] at HPS
      simp only [exNodes] at HPS
      have hsm := parseR_some aw20_3.1
      have HF := Lib.hid (fun W v h hx => pformat_any W v _ h hsm.2.2.2.1 hsm.2.1 hsm.2.2.1 (HM.out.ext (w' := W) hx) (HPW.out.ext hx))
      rw [aw20_3.2] at HF
      rw [show str [40, 45, 120, 41, 94, 50] = .string ⟨#[40, 45, 120, 41, 94, 50]⟩ from rfl] at HF
      have hbq := Blk.new wr 60 #[.string ⟨#[40, 45, 120, 41, 94, 50]⟩, .string ⟨#[40, 45, 120, 41, 94, 50]⟩]
      have HBQ := Lib.hid hbq
      clear hsm hbq
      go_wp2_with fail
      refine (HPS.out _ (HXR.out.alloc _)).mono ?_
      rintro e w4 ⟨v4, rfl, hx4, hr4⟩
      have HX4 := Lib.hid ((HXR.out.alloc (.cells #[.string ⟨#[40, 45, 120, 41, 94, 50]⟩, .string ⟨#[40, 45, 120, 41, 94, 50]⟩] 60)).trans hx4)
      have HY4 := Lib.hid (((Ext.refl wr).alloc (.cells #[.string ⟨#[40, 45, 120, 41, 94, 50]⟩, .string ⟨#[40, 45, 120, 41, 94, 50]⟩] 60)).trans hx4)
      have HR4 := Lib.hid hr4
      obtain ⟨A4, c4, rfl⟩ := hr4.shape
      have hb4 := HBQ.out.ext hx4
      have hq1 := hb4.cell 1
      rw [show (#[Value.string ⟨#[40, 45, 120, 41, 94, 50]⟩, Value.string ⟨#[40, 45, 120, 41, 94, 50]⟩] : Array Value)[1]? = some (.string ⟨#[40, 45, 120, 41, 94, 50]⟩) from rfl] at hq1
      generalize wr.heap.size = gq at *
      clear hx4 hr4 hb4 h0 h1
      go_wp2_with fail
      go_region_held3 (fun w' => Ext w4 w' ∧ w'.cell? ⟨gq, 1, none⟩ = some (.string ⟨#[40, 45, 120, 41, 94, 50]⟩))
        (first | (exact kept1_drew hq1) | (exact kept1 (by assumption) (by assumption)))
        (first
          | (go_at_call 20; (refine (HF.out _ _ (HR4.out.ext (And.left (by assumption))) (HX4.out.trans (And.left (by assumption)))).mono ?_); rintro r w5 ⟨rfl, hx5⟩))
      all_goals
        have HX5 : Hid (Ext w4 w5) := Lib.hid (And.left (by assumption))
        go_wp2_with fail
        go_roundw
        case rel => exact ⟨4, by omega, rfl, HEX.out.trans (HY4.out.trans HX5.out)⟩
        case measure => simp [intOf]
    · have h0 := HBR.out.cell 8
      have h1 := HBR.out.cell 9
      simp at h0 h1
      have HPS := Lib.hid (fun W hx => rparse_any W [45, 120, 94, 50] (HM.out.ext (w' := W) hx))
      unfold ParseP at HPS
      rw [aw20_4.1] at HPS
      simp only [exNodes] at HPS
      have hsm := parseR_some aw20_4.1
      have HF := Lib.hid (fun W v h hx => pformat_any W v _ h hsm.2.2.2.1 hsm.2.1 hsm.2.2.1 (HM.out.ext (w' := W) hx) (HPW.out.ext hx))
      rw [aw20_4.2] at HF
      rw [show str [45, 120, 94, 50] = .string ⟨#[45, 120, 94, 50]⟩ from rfl] at HF
      have hbq := Blk.new wr 60 #[.string ⟨#[45, 120, 94, 50]⟩, .string ⟨#[45, 120, 94, 50]⟩]
      have HBQ := Lib.hid hbq
      clear hsm hbq
      go_wp2_with fail
      refine (HPS.out _ (HXR.out.alloc _)).mono ?_
      rintro e w4 ⟨v4, rfl, hx4, hr4⟩
      have HX4 := Lib.hid ((HXR.out.alloc (.cells #[.string ⟨#[45, 120, 94, 50]⟩, .string ⟨#[45, 120, 94, 50]⟩] 60)).trans hx4)
      have HY4 := Lib.hid (((Ext.refl wr).alloc (.cells #[.string ⟨#[45, 120, 94, 50]⟩, .string ⟨#[45, 120, 94, 50]⟩] 60)).trans hx4)
      have HR4 := Lib.hid hr4
      obtain ⟨A4, c4, rfl⟩ := hr4.shape
      have hb4 := HBQ.out.ext hx4
      have hq1 := hb4.cell 1
      rw [show (#[Value.string ⟨#[45, 120, 94, 50]⟩, Value.string ⟨#[45, 120, 94, 50]⟩] : Array Value)[1]? = some (.string ⟨#[45, 120, 94, 50]⟩) from rfl] at hq1
      generalize wr.heap.size = gq at *
      clear hx4 hr4 hb4 h0 h1
      go_wp2_with fail
      go_region_held3 (fun w' => Ext w4 w' ∧ w'.cell? ⟨gq, 1, none⟩ = some (.string ⟨#[45, 120, 94, 50]⟩))
        (first | (exact kept1_drew hq1) | (exact kept1 (by assumption) (by assumption)))
        (first
          | (go_at_call 20; (refine (HF.out _ _ (HR4.out.ext (And.left (by assumption))) (HX4.out.trans (And.left (by assumption)))).mono ?_); rintro r w5 ⟨rfl, hx5⟩))
      all_goals
        have HX5 : Hid (Ext w4 w5) := Lib.hid (And.left (by assumption))
        go_wp2_with fail
        go_roundw
        case rel => exact ⟨5, by omega, rfl, HEX.out.trans (HY4.out.trans HX5.out)⟩
        case measure => simp [intOf]
    · go_wp2_with fail
      go_ret
      exact ⟨rfl, HXR.out⟩
end Big
end Go.Proofs.YtgopljllknbelaaGreatDoor
/- Printed trees are read again, with more spaces and in parentheses. Plain. -/
namespace Go.Proofs.YtgopljllknbelaaGreatDoor
namespace Big
def parK : Nat → List UInt8 → List UInt8
  | 0, s => s
  | k + 1, s => 40 :: (parK k s ++ [41])
def parKT : Nat → List (Nat × Tok) → List (Nat × Tok)
  | 0, q => q
  | k + 1, q => (0, tkS [40]) :: (parKT k q ++ [(0, tkS [41])])
def KK : Nat → List (Nat × List UInt8) → List (Nat × List UInt8)
  | 0, l => l
  | k + 1, l => (3, [40]) :: (KK k l ++ [(3, [41])])
theorem KK_len (k : Nat) (l : List (Nat × List UInt8)) : (KK k l).length = l.length + 2 * k := by
  induction k with
  | zero => rfl
  | succ k ih => rw [KK, List.length_cons, List.length_append, ih, List.length_singleton]; omega
theorem parKT_ok (k : Nat) {q : List (Nat × Tok)} (h : RendOk q) : RendOk (parKT k q) := by
  induction k with
  | zero => exact h
  | succ k ih => exact RendOk.glue (fine_sign 40 (by decide)) rfl (.inr (RendOk.glue (fine_sign 41 (by decide)) rfl (.inl rfl) _ (.inr ih))) [] (.inl rfl)
theorem parKT_rend (k : Nat) (q : List (Nat × Tok)) : rend 0 (parKT k q) = parK k (rend 0 q) := by
  induction k with
  | zero => rfl
  | succ k ih => rw [parKT, rend, rend_append, ih]; simp [tkS, rend, parK]
theorem parKT_map (k : Nat) (q : List (Nat × Tok)) : (parKT k q).map (fun p => ktT p.2) = KK k (q.map (fun p => ktT p.2)) := by
  induction k with
  | zero => rfl
  | succ k ih => rw [parKT, List.map_cons, List.map_append, ih]; rfl
theorem pSum_atom {ts : List Tok} {x : Ex} {f a b : Nat} (h : pAtom (pSum ts f) ts a = (some x, b)) (hm : isS ts a [45] = false) (h1 : isS ts b [94] = false) (h2 : isS ts b [42] = false) (h3 : isS ts b [47] = false) (h4 : isS ts b [43] = false) (h5 : isS ts b [45] = false) :
    pSum ts (f + 1) a = (some x, b) := by
  have hp := power_up (atom_up h h1) hm
  have hq : pProd (pSum ts f) ts a = (some x, b) := by rw [pProd, chain_one hp, chainGo_stop _ h2 h3]
  rw [pSum, chain_one hq, chainGo_stop _ h4 h5]
theorem read_KK {ts : List Tok} {e : Ex} (hg : e.Good) : ∀ k f a, e.size + k ≤ f → MT ts a (KK k (KE e)) → isS ts (a + (KK k (KE e)).length) [94] = false → isS ts (a + (KK k (KE e)).length) [42] = false → isS ts (a + (KK k (KE e)).length) [47] = false →
    isS ts (a + (KK k (KE e)).length) [43] = false → isS ts (a + (KK k (KE e)).length) [45] = false → pSum ts (f + 1) a = (some e, a + (KK k (KE e)).length) := by
  intro k
  induction k with
  | zero =>
    intro f a hf hM h1 h2 h3 h4 h5
    exact (read_all ts e hg f a (by omega) hM).whole h1 h2 h3 h4 h5
  | succ k ih =>
    intro f a hf hM h1 h2 h3 h4 h5
    obtain ⟨f', rfl⟩ : ∃ f', f = f' + 1 := ⟨f - 1, by omega⟩
    have h0 : MT ts a ((3, [40]) :: (KK k (KE e) ++ [(3, [41])])) := hM
    have hm : isS ts a [45] = false := h0.is [45]
    obtain ⟨t, ht, htk, htt⟩ := h0.tok
    have hs := (MT_append _ _ _).1 h0.2
    have hc := hs.2
    have hr := ih f' (a + 1) (by omega) hs.1 (hc.is [94]) (hc.is [42]) (hc.is [47]) (hc.is [43]) (hc.is [45])
    have hl : a + (KK (k + 1) (KE e)).length = a + 1 + (KK k (KE e)).length + 1 := by rw [KK_len, KK_len]; omega
    rw [hl] at h1 h2 h3 h4 h5 ⊢
    refine pSum_atom ?_ hm h1 h2 h3 h4 h5
    unfold pAtom
    rw [ht]
    simp only
    rw [if_pos htk, if_pos htt, hr]
    simp only
    rw [if_pos (show isS ts _ [41] = true from hc.yes)]
theorem KP_len (b : Bool) (l : List (Nat × List UInt8)) : l.length ≤ (KP b l).length := by
  unfold KP; split <;> simp <;> omega
theorem KE_size (e : Ex) : e.size ≤ (KE e).length := by
  induction e with
  | leaf k t => unfold KE Ex.size; (repeat' split) <;> simp
  | un k n x ih =>
    unfold KE Ex.size
    split
    · have := KP_len (decide (levelK x.kind < 3)) (KE x)
      rw [List.length_cons]; omega
    · split
      · have := KP_len (decide (levelK x.kind < 5)) (KE x)
        rw [List.length_append, List.length_cons]; omega
      · rw [List.length_cons, List.length_cons, List.length_append]; omega
  | bin k x y ihx ihy =>
    have h1 := KP_len (decide (levelK x.kind < levelK k)) (KE x)
    have h2 := KP_len (decide (levelK y.kind < levelK k + 1)) (KE y)
    unfold KE Ex.size
    rw [List.length_append, List.length_cons]; omega
theorem MT_self (l : List Tok) : ∀ (ts pre : List Tok), ts = pre ++ l → MT ts pre.length (l.map ktT) := by
  induction l with
  | nil => intro _ _ _; trivial
  | cons x l ih =>
    intro ts pre h
    refine ⟨by rw [h, List.getElem?_append_right (Nat.le_refl _), Nat.sub_self]; rfl, ?_⟩
    have h2 := ih ts (pre ++ [x]) (by rw [h, List.append_assoc]; rfl)
    rw [List.length_append] at h2
    exact h2
theorem isS_end (ts : List Tok) (c : List UInt8) : isS ts ts.length c = false := by
  cases hs : isS ts ts.length c with
  | false => rfl
  | true => have := isS_lt hs; omega
/-- The text of tokens that are a printed tree's, in any number of parentheses, is read as the tree. -/
theorem parseR_read {ps : List (Nat × Tok)} {e : Ex} {k : Nat} (hok : RendOk ps) (hm : ps.map (fun p => ktT p.2) = KK k (KE e)) (hg : e.Good) (hs : e.size ≤ 200) (hd : e.depth ≤ 40) (hl : (rend 0 ps).length ≤ 400) :
    parseR (rend 0 ps) = (some e, (rend 0 ps).length, 0) := by
  obtain ⟨back, h1, h2⟩ := scanT_rend hok hl
  have h3 : back.map ktT = KK k (KE e) := h2.trans hm
  have hM := MT_self back back [] rfl
  rw [h3] at hM
  have hlen : back.length = (KK k (KE e)).length := by rw [← h3, List.length_map]
  have hkl := KK_len k (KE e)
  have hke := KE_size e
  have he : (0 : Nat) + (KK k (KE e)).length = back.length := by omega
  have hr := read_KK (ts := back) hg k back.length 0 (by omega) hM (by rw [he]; exact isS_end _ _) (by rw [he]; exact isS_end _ _) (by rw [he]; exact isS_end _ _) (by rw [he]; exact isS_end _ _) (by rw [he]; exact isS_end _ _)
  rw [he] at hr
  have hb : e.big = false := hg.well.2
  unfold parseR
  rw [h1]
  simp only
  rw [hr]
  simp only [ne_eq, not_true_eq_false, if_false, Nat.lt_irrefl]
  rw [if_pos ⟨hb, hs, hd⟩]
theorem parseR_long {s : List UInt8} (h : 400 < s.length) : (parseR s).2.2 = 7 := by
  unfold parseR scanT
  rw [if_pos h]
  simp
/-- Each space is written three times. -/
def widen : List UInt8 → List UInt8
  | [] => []
  | c :: l => (if c = 32 then [32, 32, 32] else [c]) ++ widen l
def wideP (ps : List (Nat × Tok)) : List (Nat × Tok) := ps.map (fun p => (3 * p.1, p.2))
theorem spaces_par {e : Ex} (hg : e.Good) (hs : e.size ≤ 200) (hd : e.depth ≤ 40) (k : Nat) (hl : (parK k (nodeT fmtI e)).length ≤ 400) : parseR (parK k (nodeT fmtI e)) = (some e, (parK k (nodeT fmtI e)).length, 0) := by
  have h1 := pcs_rend e hg 0
  rw [List.replicate_zero, List.nil_append] at h1
  have h2 := parKT_rend k (pcs e 0)
  rw [h1] at h2
  rw [← h2] at hl ⊢
  exact parseR_read (k := k) (parKT_ok k (pcs_ok e hg 0)) (by rw [parKT_map, pcs_map]) hg hs hd hl
end Big
end Go.Proofs.YtgopljllknbelaaGreatDoor
/- PrinterBack. Printed by a program. -/
namespace Go.Proofs.YtgopljllknbelaaGreatDoor
namespace Big
open Go.RowKit
theorem read_back {e : Ex} (hg : e.Good) (hs : e.size ≤ 200) (hd : e.depth ≤ 40) (hl : (nodeT fmtI e).length ≤ 400) : parseR (nodeT fmtI e) = (some e, (nodeT fmtI e).length, 0) := spaces_par hg hs hd 0 hl
set_option maxHeartbeats 4000000 in
set_option maxRecDepth 100000 in
theorem printerBack_any (w : World) (v : Value) (l : List Int)  (h : ArrI w v l) (hm : MaxV w) (hpw : Pow10 w) :
    Calls Tryz.prog 6 #[v] w fun e w' => e = .returned (.bool true) ∧ Ext w w' := by
  have HAW := Lib.hid (awake20_any w hm hpw)
  have HM := Lib.hid hm
  have HPW := Lib.hid hpw
  clear hm hpw
  have HL := Lib.hid h
  have HLT := Lib.hid (fun W hx => light_any W v l (HL.out.ext hx))
  obtain ⟨A0, c0, rfl, _⟩ := h.open
  clear h
  by_cases hlt : 120 < l.length
  · have hd : decide (l.length ≤ 120) = false := decide_eq_false (by omega)
    rw [hd] at HLT
    clear HL hlt hd
    go_enter Tryz.func6, Tryz.ntmps6
    go_wp2_with fail
    refine HAW.out.mono ?_
    rintro e w1 ⟨rfl, hx1⟩
    have HX1 := Lib.hid hx1
    clear hx1
    go_wp2_with fail
    refine (HLT.out _ HX1.out).mono ?_
    rintro e w2 ⟨rfl, rfl⟩
    go_wp2_with fail
    go_ret
    exact ⟨rfl, HX1.out⟩
  have hd : decide (l.length ≤ 120) = true := decide_eq_true (by omega)
  rw [hd] at HLT
  have hll : l.length ≤ 120 := by omega
  clear hlt hd
  go_enter Tryz.func6, Tryz.ntmps6
  go_wp2_with fail
  refine HAW.out.mono ?_
  rintro e w1 ⟨rfl, hx1⟩
  have HX1 := Lib.hid hx1
  clear hx1
  go_wp2_with fail
  refine (HLT.out _ HX1.out).mono ?_
  rintro e w2 ⟨rfl, rfl⟩
  go_wp2_with fail
  refine (new_any _ _ l (HL.out.ext HX1.out) (by omega)).mono ?_
  rintro e w2 ⟨rfl, ht2, hx2, hs2⟩
  rw [← hs2] at ht2
  have HX2 := Lib.hid (HX1.out.trans hx2)
  have hg2 : w.heap.size ≤ w1.heap.size := HX1.out.size
  have hg3 : w.heap.size ≤ w2.heap.size := HX2.out.size
  have HEX := Lib.hid (expr_any 6 w1.heap.size w2 _ l 0 false ht2 (by decide) (by decide))
  generalize w1.heap.size = g at *
  clear ht2 hx2 hs2 HLT
  go_wp2_with fail
  refine HEX.out.mono ?_
  rintro e w3 ⟨x, v3, a3, rfl, hgd, hsz, hdp, hown, htp, hk⟩
  have hsz2 : x.size ≤ 63 := by have : 2 ^ 6 ≤ 64 := (by decide); omega
  have hdp2 : x.depth ≤ 6 := hdp
  have HRX : Hid (RNd w3 v3 (flat 0 x)) := Lib.hid (by rw [List.nil_append] at hown; exact hown.read)
  have HX3 := Lib.hid (hk.to_ext HX2.out hg3 hg2)
  clear hsz hdp hown htp hk HEX hg2 hg3
  have HF := Lib.hid (fun W h hx => pformat_any W v3 x h hgd (by omega) (by omega) (HM.out.ext (w' := W) hx) (HPW.out.ext hx))
  have HPP := Lib.hid (fun W hx => pparse_any W (nodeT fmtI x) (HM.out.ext (w' := W) hx))
  have HRB := Lib.hid (fun hl => read_back hgd (by omega) (by omega) hl)
  have htl := nodeT_len fmtI fmtI_len x hgd
  have HFL : Hid ((flat 0 x).length ≤ 1000000) := Lib.hid (by rw [flat_len]; omega)
  have hsl : (nodeT fmtI x).length ≤ 30000 := by omega
  obtain ⟨fl, hfe⟩ : ∃ fl, flat 0 x = fl := ⟨_, rfl⟩
  have HFE := Lib.hid hfe
  rw [hfe] at HRX HF HFL
  obtain ⟨A3, c3, hv3⟩ := HRX.out.shape
  subst hv3
  generalize nodeT fmtI x = s at *
  unfold ParseP at HPP
  clear hgd hsz2 hdp2 htl hfe HL
  rcases Nat.lt_or_ge 400 s.length with hy | hy
  · rw [parseR_long hy] at HPP
    have hy' : (400 : Int) < (s.length : Int) := by omega
    generalize (parseR s).2.1 = z1 at *
    generalize exNodes (parseR s).1 = nl at *
    clear hy HRB HFE
    go_wp2_with fail
    refine (HF.out _ HRX.out HX3.out).mono ?_
    rintro e w4 ⟨rfl, hx4⟩
    have HX4 := Lib.hid (HX3.out.trans hx4)
    clear hx4
    go_wp2_with fail
    refine (HPP.out _ HX4.out).mono ?_
    rintro e w5 ⟨v5, rfl, hx5, hr5⟩
    have HX5 := Lib.hid (HX4.out.trans hx5)
    obtain ⟨A5, c5, rfl⟩ := hr5.shape
    clear hx5 hr5
    go_wp2_with fail
    go_ret
    exact ⟨rfl, HX5.out⟩
  · rw [HRB.out hy] at HPP
    simp only [exNodes] at HPP
    rw [HFE.out] at HPP
    have hy' : ¬ (400 : Int) < (s.length : Int) := by omega
    have hb1 : ((s.length : Int) == (s.length : Int)) = true := by simp
    clear hy HRB
    go_wp2_with fail
    refine (HF.out _ HRX.out HX3.out).mono ?_
    rintro e w4 ⟨rfl, hx4⟩
    have HX4 := Lib.hid (HX3.out.trans hx4)
    have HR4 := Lib.hid (HRX.out.ext hx4)
    clear hx4
    go_wp2_with fail
    refine (HPP.out _ HX4.out).mono ?_
    rintro e w5 ⟨v5, rfl, hx5, hr5⟩
    have HX5 := Lib.hid (HX4.out.trans hx5)
    have HSM := Lib.hid (rsameN_any w5 _ _ fl (HR4.out.ext hx5) hr5 HFL.out)
    obtain ⟨A5, c5, rfl⟩ := hr5.shape
    clear hx5 hr5
    go_wp2_with fail
    refine HSM.out.mono ?_
    rintro e w6 ⟨rfl, hd6⟩
    have HX6 := Lib.hid (HX5.out.trans hd6.ext)
    clear hd6
    go_wp2_with fail
    go_ret
    exact ⟨rfl, HX6.out⟩
end Big
end Go.Proofs.YtgopljllknbelaaGreatDoor
