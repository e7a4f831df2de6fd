import Derived.Test.YtgopljllknbelaaGreatDoorM29
import Derived.Test.YtgopljllknbelaaGreatDoorM31
import Derived.Test.YtgopljllknbelaaGreatDoorM32
import Derived.Test.YtgopljllknbelaaGreatDoorM33
import Derived.Test.YtgopljllknbelaaGreatDoorM4
/- All that the printer's laws share. -/
/- awake of chapter 20. Printed by a program. -/
namespace Go.Proofs.YtgopljllknbelaaGreatDoor
namespace Big
open Go.RowKit
theorem parseR_none {s : List UInt8} {n k : Nat} (h : parseR s = (none, n, k)) : k ≠ 0 := by
  unfold parseR at h
  split at h
  · rename_i h0
    injection h with _ h
    injection h with _ h
    subst h
    exact h0
  · split at h
    · injection h with _ h
      injection h with _ h
      omega
    · rcases hp : pSum (scanT s).1 ((scanT s).1.length + 1) 0 with ⟨_ | y, b⟩
      · rw [hp] at h
        simp only at h
        injection h with _ h
        injection h with _ h
        omega
      · rw [hp] at h
        simp only at h
        split at h
        · injection h with h _
          cases h
        · injection h with _ h
          injection h with _ h
          omega
theorem aw20_0 : parseR [40, 97, 45, 98, 41, 45, 99] = (some (.bin 7 (.bin 7 (.leaf 2 [97]) (.leaf 2 [98])) (.leaf 2 [99])), 7, 0) ∧ nodeT fmtI (.bin 7 (.bin 7 (.leaf 2 [97]) (.leaf 2 [98])) (.leaf 2 [99])) = [97, 32, 45, 32, 98, 32, 45, 32, 99] := by
  refine ⟨by kernel_rfl, by kernel_rfl⟩
theorem aw20_1 : parseR [97, 45, 40, 98, 45, 99, 41] = (some (.bin 7 (.leaf 2 [97]) (.bin 7 (.leaf 2 [98]) (.leaf 2 [99]))), 7, 0) ∧ nodeT fmtI (.bin 7 (.leaf 2 [97]) (.bin 7 (.leaf 2 [98]) (.leaf 2 [99]))) = [97, 32, 45, 32, 40, 98, 32, 45, 32, 99, 41] := by
  refine ⟨by kernel_rfl, by kernel_rfl⟩
theorem aw20_2 : parseR [45, 40, 45, 120, 41] = (some (.un 5 0 (.un 5 0 (.leaf 2 [120]))), 5, 0) ∧ nodeT fmtI (.un 5 0 (.un 5 0 (.leaf 2 [120]))) = [45, 45, 120] := by
  refine ⟨by kernel_rfl, by kernel_rfl⟩
theorem aw20_3 : parseR [40, 45, 120, 41, 94, 50] = (some (.un 10 2 (.un 5 0 (.leaf 2 [120]))), 6, 0) ∧ nodeT fmtI (.un 10 2 (.un 5 0 (.leaf 2 [120]))) = [40, 45, 120, 41, 94, 50] := by
  refine ⟨by kernel_rfl, by kernel_rfl⟩
theorem aw20_4 : parseR [45, 120, 94, 50] = (some (.un 5 0 (.un 10 2 (.leaf 2 [120]))), 4, 0) ∧ nodeT fmtI (.un 5 0 (.un 10 2 (.leaf 2 [120]))) = [45, 120, 94, 50] := by
  refine ⟨by kernel_rfl, by kernel_rfl⟩
set_option maxHeartbeats 4000000 in
set_option maxRecDepth 100000 in
theorem awake20_any (w : World) (hm : MaxV w) (hpw : Pow10 w) : Calls Tryz.prog 19 #[] w fun e w' => e = .returned (.bool true) ∧ Ext w w' := by
  have HM := Lib.hid hm
  have HPW := Lib.hid hpw
  obtain ⟨wb, hwb⟩ : ∃ wb, wb = w.alloc (.cells #[.string ⟨#[40, 97, 45, 98, 41, 45, 99]⟩, .string ⟨#[97, 32, 45, 32, 98, 32, 45, 32, 99]⟩, .string ⟨#[97, 45, 40, 98, 45, 99, 41]⟩, .string ⟨#[97, 32, 45, 32, 40, 98, 32, 45, 32, 99, 41]⟩, .string ⟨#[45, 40, 45, 120, 41]⟩, .string ⟨#[45, 45, 120]⟩, .string ⟨#[40, 45, 120, 41, 94, 50]⟩, .string ⟨#[40, 45, 120, 41, 94, 50]⟩, .string ⟨#[45, 120, 94, 50]⟩, .string ⟨#[45, 120, 94, 50]⟩] 60) := ⟨_, rfl⟩
  have HXB : Hid (Ext w wb) := Lib.hid (by rw [hwb]; exact (Ext.refl w).alloc _)
  have HBB : Hid (Blk wb w.heap.size 60 #[.string ⟨#[40, 97, 45, 98, 41, 45, 99]⟩, .string ⟨#[97, 32, 45, 32, 98, 32, 45, 32, 99]⟩, .string ⟨#[97, 45, 40, 98, 45, 99, 41]⟩, .string ⟨#[97, 32, 45, 32, 40, 98, 32, 45, 32, 99, 41]⟩, .string ⟨#[45, 40, 45, 120, 41]⟩, .string ⟨#[45, 45, 120]⟩, .string ⟨#[40, 45, 120, 41, 94, 50]⟩, .string ⟨#[40, 45, 120, 41, 94, 50]⟩, .string ⟨#[45, 120, 94, 50]⟩, .string ⟨#[45, 120, 94, 50]⟩]) := Lib.hid (by rw [hwb]; exact Blk.new w _ _)
  clear hm hpw
  go_enter Tryz.func19, Tryz.ntmps19
  go_upto_block 2 with fail
  rw [← hwb]
  clear hwb
  generalize w.heap.size = gb at *
  go_loopw [13] (fun s13 wr => ∃ k : Nat, k ≤ 5 ∧ s13 = .int .i64 (k : Int) ∧ Ext wb wr) (fun s13 _ => 5 - (intOf s13).toNat)
  case atStart => exact ⟨0, by omega, rfl, Ext.refl _⟩
  case round =>
    obtain ⟨k, hk, rfl, hext⟩ := hrel
    have HBR := Lib.hid (HBB.out.ext hext)
    have HXR := Lib.hid (HXB.out.trans hext)
    have HEX := Lib.hid hext
    clear hext
    have key : k = 0 ∨ k = 1 ∨ k = 2 ∨ k = 3 ∨ k = 4 ∨ k = 5 := by omega
    rcases key with rfl | rfl | rfl | rfl | rfl | rfl
    · have h0 := HBR.out.cell 0
      have h1 := HBR.out.cell 1
      simp at h0 h1
      have HPS := Lib.hid (fun W hx => rparse_any W [40, 97, 45, 98, 41, 45, 99] (HM.out.ext (w' := W) hx))
      unfold ParseP at HPS
      rw [aw20_0.1] at HPS
      simp only [exNodes] at HPS
      have hsm := parseR_some aw20_0.1
      have HF := Lib.hid (fun W v h hx => pformat_any W v _ h hsm.2.2.2.1 hsm.2.1 hsm.2.2.1 (HM.out.ext (w' := W) hx) (HPW.out.ext hx))
      rw [aw20_0.2] at HF
      rw [show str [97, 32, 45, 32, 98, 32, 45, 32, 99] = .string ⟨#[97, 32, 45, 32, 98, 32, 45, 32, 99]⟩ from rfl] at HF
      have hbq := Blk.new wr 60 #[.string ⟨#[40, 97, 45, 98, 41, 45, 99]⟩, .string ⟨#[97, 32, 45, 32, 98, 32, 45, 32, 99]⟩]
      have HBQ := Lib.hid hbq
      clear hsm hbq
      go_wp2_with fail
      refine (HPS.out _ (HXR.out.alloc _)).mono ?_
      rintro e w4 ⟨v4, rfl, hx4, hr4⟩
      have HX4 := Lib.hid ((HXR.out.alloc (.cells #[.string ⟨#[40, 97, 45, 98, 41, 45, 99]⟩, .string ⟨#[97, 32, 45, 32, 98, 32, 45, 32, 99]⟩] 60)).trans hx4)
      have HY4 := Lib.hid (((Ext.refl wr).alloc (.cells #[.string ⟨#[40, 97, 45, 98, 41, 45, 99]⟩, .string ⟨#[97, 32, 45, 32, 98, 32, 45, 32, 99]⟩] 60)).trans hx4)
      have HR4 := Lib.hid hr4
      obtain ⟨A4, c4, rfl⟩ := hr4.shape
      have hb4 := HBQ.out.ext hx4
      have hq1 := hb4.cell 1
      rw [show (#[Value.string ⟨#[40, 97, 45, 98, 41, 45, 99]⟩, Value.string ⟨#[97, 32, 45, 32, 98, 32, 45, 32, 99]⟩] : Array Value)[1]? = some (.string ⟨#[97, 32, 45, 32, 98, 32, 45, 32, 99]⟩) from rfl] at hq1
      generalize wr.heap.size = gq at *
      clear hx4 hr4 hb4 h0 h1
      go_wp2_with fail
      go_region_held3 (fun w' => Ext w4 w' ∧ w'.cell? ⟨gq, 1, none⟩ = some (.string ⟨#[97, 32, 45, 32, 98, 32, 45, 32, 99]⟩))
        (first | (exact kept1_drew hq1) | (exact kept1 (by assumption) (by assumption)))
        (first
          | (go_at_call 20; (refine (HF.out _ _ (HR4.out.ext (And.left (by assumption))) (HX4.out.trans (And.left (by assumption)))).mono ?_); rintro r w5 ⟨rfl, hx5⟩))
      all_goals
        have HX5 : Hid (Ext w4 w5) := Lib.hid (And.left (by assumption))
        go_wp2_with fail
        go_roundw
        case rel => exact ⟨1, by omega, rfl, HEX.out.trans (HY4.out.trans HX5.out)⟩
        case measure => simp [intOf]
    · have h0 := HBR.out.cell 2
      have h1 := HBR.out.cell 3
      simp at h0 h1
      have HPS := Lib.hid (fun W hx => rparse_any W [97, 45, 40, 98, 45, 99, 41] (HM.out.ext (w' := W) hx))
      unfold ParseP at HPS
      rw [aw20_1.1] at HPS
      simp only [exNodes] at HPS
      have hsm := parseR_some aw20_1.1
      have HF := Lib.hid (fun W v h hx => pformat_any W v _ h hsm.2.2.2.1 hsm.2.1 hsm.2.2.1 (HM.out.ext (w' := W) hx) (HPW.out.ext hx))
      rw [aw20_1.2] at HF
      rw [show str [97, 32, 45, 32, 40, 98, 32, 45, 32, 99, 41] = .string ⟨#[97, 32, 45, 32, 40, 98, 32, 45, 32, 99, 41]⟩ from rfl] at HF
      have hbq := Blk.new wr 60 #[.string ⟨#[97, 45, 40, 98, 45, 99, 41]⟩, .string ⟨#[97, 32, 45, 32, 40, 98, 32, 45, 32, 99, 41]⟩]
      have HBQ := Lib.hid hbq
      clear hsm hbq
      go_wp2_with fail
      refine (HPS.out _ (HXR.out.alloc _)).mono ?_
      rintro e w4 ⟨v4, rfl, hx4, hr4⟩
      have HX4 := Lib.hid ((HXR.out.alloc (.cells #[.string ⟨#[97, 45, 40, 98, 45, 99, 41]⟩, .string ⟨#[97, 32, 45, 32, 40, 98, 32, 45, 32, 99, 41]⟩] 60)).trans hx4)
      have HY4 := Lib.hid (((Ext.refl wr).alloc (.cells #[.string ⟨#[97, 45, 40, 98, 45, 99, 41]⟩, .string ⟨#[97, 32, 45, 32, 40, 98, 32, 45, 32, 99, 41]⟩] 60)).trans hx4)
      have HR4 := Lib.hid hr4
      obtain ⟨A4, c4, rfl⟩ := hr4.shape
      have hb4 := HBQ.out.ext hx4
      have hq1 := hb4.cell 1
      rw [show (#[Value.string ⟨#[97, 45, 40, 98, 45, 99, 41]⟩, Value.string ⟨#[97, 32, 45, 32, 40, 98, 32, 45, 32, 99, 41]⟩] : Array Value)[1]? = some (.string ⟨#[97, 32, 45, 32, 40, 98, 32, 45, 32, 99, 41]⟩) from rfl] at hq1
      generalize wr.heap.size = gq at *
      clear hx4 hr4 hb4 h0 h1
      go_wp2_with fail
      go_region_held3 (fun w' => Ext w4 w' ∧ w'.cell? ⟨gq, 1, none⟩ = some (.string ⟨#[97, 32, 45, 32, 40, 98, 32, 45, 32, 99, 41]⟩))
        (first | (exact kept1_drew hq1) | (exact kept1 (by assumption) (by assumption)))
        (first
          | (go_at_call 20; (refine (HF.out _ _ (HR4.out.ext (And.left (by assumption))) (HX4.out.trans (And.left (by assumption)))).mono ?_); rintro r w5 ⟨rfl, hx5⟩))
      all_goals
        have HX5 : Hid (Ext w4 w5) := Lib.hid (And.left (by assumption))
        go_wp2_with fail
        go_roundw
        case rel => exact ⟨2, by omega, rfl, HEX.out.trans (HY4.out.trans HX5.out)⟩
        case measure => simp [intOf]
    · have h0 := HBR.out.cell 4
      have h1 := HBR.out.cell 5
      simp at h0 h1
      have HPS := Lib.hid (fun W hx => rparse_any W [45, 40, 45, 120, 41] (HM.out.ext (w' := W) hx))
      unfold ParseP at HPS
      rw [aw20_2.1] at HPS
      simp only [exNodes] at HPS
      have hsm := parseR_some aw20_2.1
      have HF := Lib.hid (fun W v h hx => pformat_any W v _ h hsm.2.2.2.1 hsm.2.1 hsm.2.2.1 (HM.out.ext (w' := W) hx) (HPW.out.ext hx))
      rw [aw20_2.2] at HF
      rw [show str [45, 45, 120] = .string ⟨#[45, 45, 120]⟩ from rfl] at HF
      have hbq := Blk.new wr 60 #[.string ⟨#[45, 40, 45, 120, 41]⟩, .string ⟨#[45, 45, 120]⟩]
      have HBQ := Lib.hid hbq
      clear hsm hbq
      go_wp2_with fail
      refine (HPS.out _ (HXR.out.alloc _)).mono ?_
      rintro e w4 ⟨v4, rfl, hx4, hr4⟩
      have HX4 := Lib.hid ((HXR.out.alloc (.cells #[.string ⟨#[45, 40, 45, 120, 41]⟩, .string ⟨#[45, 45, 120]⟩] 60)).trans hx4)
      have HY4 := Lib.hid (((Ext.refl wr).alloc (.cells #[.string ⟨#[45, 40, 45, 120, 41]⟩, .string ⟨#[45, 45, 120]⟩] 60)).trans hx4)
      have HR4 := Lib.hid hr4
      obtain ⟨A4, c4, rfl⟩ := hr4.shape
      have hb4 := HBQ.out.ext hx4
      have hq1 := hb4.cell 1
      rw [show (#[Value.string ⟨#[45, 40, 45, 120, 41]⟩, Value.string ⟨#[45, 45, 120]⟩] : Array Value)[1]? = some (.string ⟨#[45, 45, 120]⟩) from rfl] at hq1
      generalize wr.heap.size = gq at *
      clear hx4 hr4 hb4 h0 h1
      go_wp2_with fail
      go_region_held3 (fun w' => Ext w4 w' ∧ w'.cell? ⟨gq, 1, none⟩ = some (.string ⟨#[45, 45, 120]⟩))
        (first | (exact kept1_drew hq1) | (exact kept1 (by assumption) (by assumption)))
        (first
          | (go_at_call 20; (refine (HF.out _ _ (HR4.out.ext (And.left (by assumption))) (HX4.out.trans (And.left (by assumption)))).mono ?_); rintro r w5 ⟨rfl, hx5⟩))
      all_goals
        have HX5 : Hid (Ext w4 w5) := Lib.hid (And.left (by assumption))
        go_wp2_with fail
        go_roundw
        case rel => exact ⟨3, by omega, rfl, HEX.out.trans (HY4.out.trans HX5.out)⟩
        case measure => simp [intOf]
    · have h0 := HBR.out.cell 6
      have h1 := HBR.out.cell 7
      simp at h0 h1
      have HPS := Lib.hid (fun W hx => rparse_any W [40, 45, 120, 41, 94, 50] (HM.out.ext (w' := W) hx))
      unfold ParseP at HPS
      rw [aw20_3.1] at HPS
      simp only [exNodes] at HPS
      have hsm := parseR_some aw20_3.1
      have HF := Lib.hid (fun W v h hx => pformat_any W v _ h hsm.2.2.2.1 hsm.2.1 hsm.2.2.1 (HM.out.ext (w' := W) hx) (HPW.out.ext hx))
      rw [aw20_3.2] at HF
      rw [show str [40, 45, 120, 41, 94, 50] = .string ⟨#[40, 45, 120, 41, 94, 50]⟩ from rfl] at HF
      have hbq := Blk.new wr 60 #[.string ⟨#[40, 45, 120, 41, 94, 50]⟩, .string ⟨#[40, 45, 120, 41, 94, 50]⟩]
      have HBQ := Lib.hid hbq
      clear hsm hbq
      go_wp2_with fail
      refine (HPS.out _ (HXR.out.alloc _)).mono ?_
      rintro e w4 ⟨v4, rfl, hx4, hr4⟩
      have HX4 := Lib.hid ((HXR.out.alloc (.cells #[.string ⟨#[40, 45, 120, 41, 94, 50]⟩, .string ⟨#[40, 45, 120, 41, 94, 50]⟩] 60)).trans hx4)
      have HY4 := Lib.hid (((Ext.refl wr).alloc (.cells #[.string ⟨#[40, 45, 120, 41, 94, 50]⟩, .string ⟨#[40, 45, 120, 41, 94, 50]⟩] 60)).trans hx4)
      have HR4 := Lib.hid hr4
      obtain ⟨A4, c4, rfl⟩ := hr4.shape
      have hb4 := HBQ.out.ext hx4
      have hq1 := hb4.cell 1
      rw [show (#[Value.string ⟨#[40, 45, 120, 41, 94, 50]⟩, Value.string ⟨#[40, 45, 120, 41, 94, 50]⟩] : Array Value)[1]? = some (.string ⟨#[40, 45, 120, 41, 94, 50]⟩) from rfl] at hq1
      generalize wr.heap.size = gq at *
      clear hx4 hr4 hb4 h0 h1
      go_wp2_with fail
      go_region_held3 (fun w' => Ext w4 w' ∧ w'.cell? ⟨gq, 1, none⟩ = some (.string ⟨#[40, 45, 120, 41, 94, 50]⟩))
        (first | (exact kept1_drew hq1) | (exact kept1 (by assumption) (by assumption)))
        (first
          | (go_at_call 20; (refine (HF.out _ _ (HR4.out.ext (And.left (by assumption))) (HX4.out.trans (And.left (by assumption)))).mono ?_); rintro r w5 ⟨rfl, hx5⟩))
      all_goals
        have HX5 : Hid (Ext w4 w5) := Lib.hid (And.left (by assumption))
        go_wp2_with fail
        go_roundw
        case rel => exact ⟨4, by omega, rfl, HEX.out.trans (HY4.out.trans HX5.out)⟩
        case measure => simp [intOf]
    · have h0 := HBR.out.cell 8
      have h1 := HBR.out.cell 9
      simp at h0 h1
      have HPS := Lib.hid (fun W hx => rparse_any W [45, 120, 94, 50] (HM.out.ext (w' := W) hx))
      unfold ParseP at HPS
      rw [aw20_4.1] at HPS
      simp only [exNodes] at HPS
      have hsm := parseR_some aw20_4.1
      have HF := Lib.hid (fun W v h hx => pformat_any W v _ h hsm.2.2.2.1 hsm.2.1 hsm.2.2.1 (HM.out.ext (w' := W) hx) (HPW.out.ext hx))
      rw [aw20_4.2] at HF
      rw [show str [45, 120, 94, 50] = .string ⟨#[45, 120, 94, 50]⟩ from rfl] at HF
      have hbq := Blk.new wr 60 #[.string ⟨#[45, 120, 94, 50]⟩, .string ⟨#[45, 120, 94, 50]⟩]
      have HBQ := Lib.hid hbq
      clear hsm hbq
      go_wp2_with fail
      refine (HPS.out _ (HXR.out.alloc _)).mono ?_
      rintro e w4 ⟨v4, rfl, hx4, hr4⟩
      have HX4 := Lib.hid ((HXR.out.alloc (.cells #[.string ⟨#[45, 120, 94, 50]⟩, .string ⟨#[45, 120, 94, 50]⟩] 60)).trans hx4)
      have HY4 := Lib.hid (((Ext.refl wr).alloc (.cells #[.string ⟨#[45, 120, 94, 50]⟩, .string ⟨#[45, 120, 94, 50]⟩] 60)).trans hx4)
      have HR4 := Lib.hid hr4
      obtain ⟨A4, c4, rfl⟩ := hr4.shape
      have hb4 := HBQ.out.ext hx4
      have hq1 := hb4.cell 1
      rw [show (#[Value.string ⟨#[45, 120, 94, 50]⟩, Value.string ⟨#[45, 120, 94, 50]⟩] : Array Value)[1]? = some (.string ⟨#[45, 120, 94, 50]⟩) from rfl] at hq1
      generalize wr.heap.size = gq at *
      clear hx4 hr4 hb4 h0 h1
      go_wp2_with fail
      go_region_held3 (fun w' => Ext w4 w' ∧ w'.cell? ⟨gq, 1, none⟩ = some (.string ⟨#[45, 120, 94, 50]⟩))
        (first | (exact kept1_drew hq1) | (exact kept1 (by assumption) (by assumption)))
        (first
          | (go_at_call 20; (refine (HF.out _ _ (HR4.out.ext (And.left (by assumption))) (HX4.out.trans (And.left (by assumption)))).mono ?_); rintro r w5 ⟨rfl, hx5⟩))
      all_goals
        have HX5 : Hid (Ext w4 w5) := Lib.hid (And.left (by assumption))
        go_wp2_with fail
        go_roundw
        case rel => exact ⟨5, by omega, rfl, HEX.out.trans (HY4.out.trans HX5.out)⟩
        case measure => simp [intOf]
    · go_wp2_with fail
      go_ret
      exact ⟨rfl, HXR.out⟩
end Big
end Go.Proofs.YtgopljllknbelaaGreatDoor
/- The reference's Same on nodes, decided. Printed by a program. -/
namespace Go.Proofs.YtgopljllknbelaaGreatDoor
namespace Big
open Go.RowKit
/-- Same says whether two lists of nodes agree. -/
def SaysNd (l m : List Nd) (w : World) (e : Ending) (w' : World) : Prop := ∃ r : Bool, e = .returned (.bool r) ∧ (r = true ↔ l = m) ∧ Dr w w'
theorem take_stepN {l m : List Nd} {k : Nat} (h : l.take k = m.take k) (h1 : k < l.length) (h2 : k < m.length) (he : l[k] = m[k]) : l.take (k + 1) = m.take (k + 1) := by
  rw [List.take_succ_eq_append_getElem h1, List.take_succ_eq_append_getElem h2, h, he]
theorem ne_of_getN {l m : List Nd} {k : Nat} (h1 : k < l.length) (h2 : k < m.length) (he : l[k] ≠ m[k]) : l ≠ m := fun e => he (by subst e; rfl)
theorem SaysNd.no {l m : List Nd} {w w' : World} {e : Ending} (he : e = .returned (.bool false)) (h : l ≠ m) (hd : Dr w w') : SaysNd l m w e w' := ⟨false, he, ⟨fun h' => Bool.noConfusion h', fun h' => absurd h' h⟩, hd⟩
theorem SaysNd.yes {l m : List Nd} {w w' : World} {e : Ending} (he : e = .returned (.bool true)) (h : l = m) (hd : Dr w w') : SaysNd l m w e w' := ⟨true, he, ⟨fun _ => h, fun _ => rfl⟩, hd⟩
set_option maxHeartbeats 4000000 in
set_option maxRecDepth 100000 in
theorem rsameD_any (w : World) (v u : Value) (l m : List Nd) (h : RNd w v l) (h' : RNd w u m) (hn : l.length ≤ 1000000) (hn2 : m.length ≤ 1000000) : Calls Tryz.prog 23 #[v, u] w (SaysNd l m w) := by
  obtain ⟨A, c, rfl, H1⟩ := h
  obtain ⟨A', c', rfl, H2⟩ := h'
  have HH1 := Lib.hid H1
  have HH2 := Lib.hid H2
  clear H1 H2
  obtain ⟨n, hnn⟩ : ∃ n, n = l.length := ⟨_, rfl⟩
  have HN := Lib.hid hnn
  rw [← hnn] at hn ⊢
  clear hnn
  obtain ⟨q, hqq⟩ : ∃ q, q = m.length := ⟨_, rfl⟩
  have HQ := Lib.hid hqq
  rw [← hqq] at hn2 ⊢
  clear hqq
  by_cases hl : n = q
  · subst hl
    have hne0 : ((n : Int) != (n : Int)) = false := by simp
    have hne1 : ((n : Int) == (n : Int)) = true := by simp
    go_enter Tryz.func23, Tryz.ntmps23
    go_wp2_with fail
    go_loopw [8] (fun s8 wr => ∃ i : Nat, i ≤ n ∧ s8 = .int .i64 (i : Int) ∧ Hid (l.take i = m.take i) ∧ Dr w wr) (fun s8 _ => n - (intOf s8).toNat)
    case atStart => exact ⟨0, Nat.zero_le _, rfl, Lib.hid rfl, Dr.refl w⟩
    case round =>
      obtain ⟨i, hi, rfl, HTK, hd⟩ := hrel
      have HD := Lib.hid hd
      by_cases hlt : i < n
      · have hit : i < l.length := by rw [← HN.out]; exact hlt
        have hit2 : i < m.length := by rw [← HQ.out]; exact hlt
        obtain ⟨g, o, rfl, hgw, hc⟩ := HH1.out (by omega)
        obtain ⟨g', o', rfl, hgw', hc'⟩ := HH2.out (by omega)
        obtain ⟨k0, k1, k2, k3, k4⟩ := hc i hit
        obtain ⟨j0, j1, j2, j3, j4⟩ := hc' i hit2
        rw [← hd.cell] at k0 k1 k2 k3 k4 j0 j1 j2 j3 j4
        have HST := Lib.hid (fun he => take_stepN HTK.out hit hit2 he)
        have HNG := Lib.hid (fun he => ne_of_getN hit hit2 he)
        clear hc hc' hd
        have hd0 : decide ((0 : Int) ≤ (i : Int)) = true := by simp
        have hi0 : (0 : Int) ≤ (i : Int) := by omega
        have hil : (i : Int) < (n : Int) := by omega
        generalize l[i] = x at *
        generalize m[i] = z at *
        clear hit hit2
        obtain ⟨y0, y1, y2, y3, y4⟩ := x
        obtain ⟨z0, z1, z2, z3, z4⟩ := z
        simp only at k0 k1 k2 k3 k4 j0 j1 j2 j3 j4
        have hsy : str y4 = .string ⟨y4.toArray⟩ := rfl
        have hsz : str z4 = .string ⟨z4.toArray⟩ := rfl
        rw [hsy] at k4
        rw [hsz] at j4
        have hty : (⟨y4.toArray⟩ : ByteArray).toList = y4 := ByteArray.toList_mk _
        have htz : (⟨z4.toArray⟩ : ByteArray).toList = z4 := ByteArray.toList_mk _
        have HTY := Lib.hid hty
        have HTZ := Lib.hid htz
        clear hsy hsz hty htz
        by_cases e0 : y0 = z0
        case neg =>
          have b0 : (y0 == z0) = false := by rw [beq_eq_false_iff_ne]; exact e0
          have c0 : (y0 != z0) = true := by rw [bne_iff_ne]; exact e0
          have HN2 := Lib.hid (HNG.out (fun he => e0 (by injection he)))
          clear e0 HST HNG
          go_wp2_with fail
          go_quiet (fail)
          go_wp2_with fail
          go_ret
          exact SaysNd.no rfl HN2.out (HD.out.drewN _)
        case pos =>
          subst e0
          by_cases e1 : y1 = z1
          case neg =>
            have b1 : (y1 == z1) = false := by rw [beq_eq_false_iff_ne]; exact e1
            have c1 : (y1 != z1) = true := by rw [bne_iff_ne]; exact e1
            have HN2 := Lib.hid (HNG.out (fun he => e1 (by injection he)))
            clear e1 HST HNG
            go_wp2_with fail
            go_quiet (fail)
            go_wp2_with fail
            go_ret
            exact SaysNd.no rfl HN2.out (HD.out.drewN _)
          case pos =>
            subst e1
            by_cases e2 : y2 = z2
            case neg =>
              have b2 : (y2 == z2) = false := by rw [beq_eq_false_iff_ne]; exact e2
              have c2 : (y2 != z2) = true := by rw [bne_iff_ne]; exact e2
              have HN2 := Lib.hid (HNG.out (fun he => e2 (by injection he)))
              clear e2 HST HNG
              go_wp2_with fail
              go_quiet (fail)
              go_wp2_with fail
              go_ret
              exact SaysNd.no rfl HN2.out (HD.out.drewN _)
            case pos =>
              subst e2
              by_cases e3 : y3 = z3
              case neg =>
                have b3 : (y3 == z3) = false := by rw [beq_eq_false_iff_ne]; exact e3
                have c3 : (y3 != z3) = true := by rw [bne_iff_ne]; exact e3
                have HN2 := Lib.hid (HNG.out (fun he => e3 (by injection he)))
                clear e3 HST HNG
                go_wp2_with fail
                go_quiet (fail)
                go_wp2_with fail
                go_ret
                exact SaysNd.no rfl HN2.out (HD.out.drewN _)
              case pos =>
                subst e3
                by_cases e4 : y4 = z4
                case neg =>
                  have b4 : ((⟨y4.toArray⟩ : ByteArray).toList == (⟨z4.toArray⟩ : ByteArray).toList) = false := by rw [HTY.out, HTZ.out, beq_eq_false_iff_ne]; exact e4
                  have HN2 := Lib.hid (HNG.out (fun he => e4 (by injection he)))
                  clear e4 HST HNG
                  generalize (⟨y4.toArray⟩ : ByteArray) = ty at *
                  generalize (⟨z4.toArray⟩ : ByteArray) = tz at *
                  go_wp2_with fail
                  go_quiet (fail)
                  go_wp2_with fail
                  go_ret
                  exact SaysNd.no rfl HN2.out (HD.out.drewN _)
                case pos =>
                  subst e4
                  have HS2 := Lib.hid (HST.out rfl)
                  generalize (⟨y4.toArray⟩ : ByteArray) = ty at *
                  clear HST HNG
                  go_wp2_with fail
                  go_quiet (fail)
                  go_wp2_with fail
                  go_roundw
                  case rel => exact ⟨i + 1, by omega, by go_num, HS2, HD.out.drewN _⟩
                  case measure => simp [intOf]; omega
      · obtain rfl : i = n := by omega
        have HE : Hid (l = m) := Lib.hid (by
          have h1 := HTK.out
          rw [List.take_of_length_le (by rw [← HN.out]; exact Nat.le_refl _), List.take_of_length_le (by rw [← HQ.out]; exact Nat.le_refl _)] at h1
          exact h1)
        clear hd
        go_wp2_with fail
        go_ret
        exact SaysNd.yes rfl HE.out HD.out
  · have HNE : Hid (l ≠ m) := Lib.hid (fun e => hl (by rw [HN.out, HQ.out, e]))
    have hb : ((n : Int) != (q : Int)) = true := by rw [bne_iff_ne]; omega
    have hb2 : ((n : Int) == (q : Int)) = false := by rw [beq_eq_false_iff_ne]; omega
    clear hl
    go_enter Tryz.func23, Tryz.ntmps23
    go_wp2_with fail
    go_loopw [8] (fun s8 wr => s8 = .int .i64 0 ∧ Dr w wr) (fun s8 _ => n - (intOf s8).toNat)
    case atStart => exact ⟨rfl, Dr.refl w⟩
    case round =>
      obtain ⟨rfl, hd⟩ := hrel
      have HD := Lib.hid hd
      clear hd
      by_cases hlt : 0 < n
      · go_wp2_with fail
        go_quiet (fail)
        go_wp2_with fail
        go_ret
        exact SaysNd.no rfl HNE.out (HD.out.drewN _)
      · go_wp2_with fail
        go_ret
        exact SaysNd.no rfl HNE.out HD.out
end Big
end Go.Proofs.YtgopljllknbelaaGreatDoor
/- A tree's list of nodes tells the tree. Plain. -/
namespace Go.Proofs.YtgopljllknbelaaGreatDoor
namespace Big
theorem flat_inj : ∀ (e e' : Ex) (off : Nat), flat off e = flat off e' → e = e' := by
  intro e
  induction e with
  | leaf k t =>
    intro e' off h
    have hl := congrArg List.length h
    rw [flat_len, flat_len] at hl
    cases e' with
    | leaf k' t' =>
      simp only [flat, List.cons.injEq, Nd.mk.injEq, and_true] at h
      obtain ⟨h1, _, _, _, h2⟩ := h
      have : k = k' := by omega
      rw [this, h2]
    | un k' n' x' => have := x'.size_pos; simp only [Ex.size] at hl; omega
    | bin k' x' y' => have := x'.size_pos; simp only [Ex.size] at hl; omega
  | un k n x ih =>
    intro e' off h
    have hl := congrArg List.length h
    rw [flat_len, flat_len] at hl
    have hx := x.size_pos
    cases e' with
    | leaf k' t' => simp only [Ex.size] at hl; omega
    | un k' n' x' =>
      rw [flat, flat] at h
      have h2 := List.append_inj' h rfl
      obtain ⟨h3, h4⟩ := h2
      simp only [List.cons.injEq, Nd.mk.injEq, and_true] at h4
      have hk : k = k' := by omega
      rw [hk, h4.2.2.2, ih x' off h3]
    | bin k' x' y' =>
      exfalso
      rw [flat, flat, ← List.append_assoc] at h
      have h2 := (List.append_inj' h rfl).2
      simp only [List.cons.injEq, Nd.mk.injEq, and_true] at h2
      have := x'.size_pos
      have := y'.size_pos
      omega
  | bin k x y ihx ihy =>
    intro e' off h
    have hl := congrArg List.length h
    rw [flat_len, flat_len] at hl
    have hx := x.size_pos
    have hy := y.size_pos
    cases e' with
    | leaf k' t' => simp only [Ex.size] at hl; omega
    | un k' n' x' =>
      exfalso
      rw [flat, flat, ← List.append_assoc] at h
      have h2 := (List.append_inj' h rfl).2
      simp only [List.cons.injEq, Nd.mk.injEq, and_true] at h2
      omega
    | bin k' x' y' =>
      rw [flat, flat, ← List.append_assoc, ← List.append_assoc] at h
      obtain ⟨h3, h4⟩ := List.append_inj' h rfl
      simp only [List.cons.injEq, Nd.mk.injEq, and_true] at h4
      have hx' := x'.size_pos
      have hs : x.size = x'.size := by omega
      have hk : k = k' := by omega
      obtain ⟨h5, h6⟩ := List.append_inj h3 (by rw [flat_len, flat_len, hs])
      rw [← hs] at h6
      rw [hk, ihx x' off h5, ihy y' _ h6]
end Big
end Go.Proofs.YtgopljllknbelaaGreatDoor
