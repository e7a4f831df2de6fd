import Derived.Test.YtgopljllknbelaaGreatDoorM29
import Derived.Test.YtgopljllknbelaaGreatDoorM31
import Derived.Test.YtgopljllknbelaaGreatDoorM32
import Derived.Test.YtgopljllknbelaaGreatDoorM33
import Derived.Test.YtgopljllknbelaaGreatDoorM9
import Derived.Test.YtgopljllknbelaaGreatDoorM3
import Derived.Test.YtgopljllknbelaaGreatDoorShelf3
/- All that the printer's laws share. -/
/- awake of chapter 20. Printed by a program. -/
namespace Go.Proofs.YtgopljllknbelaaGreatDoor
namespace Big
open Go.RowKit
theorem parseR_none {s : List UInt8} {n k : Nat} (h : parseR s = (none, n, k)) : k ≠ 0 := by
  unfold parseR at h
  split at h
  · rename_i h0
    injection h with _ h
    injection h with _ h
    subst h
    exact h0
  · split at h
    · injection h with _ h
      injection h with _ h
      omega
    · rcases hp : pSum (scanT s).1 ((scanT s).1.length + 1) 0 with ⟨_ | y, b⟩
      · rw [hp] at h
        simp only at h
        injection h with _ h
        injection h with _ h
        omega
      · rw [hp] at h
        simp only at h
        split at h
        · injection h with h _
          cases h
        · injection h with _ h
          injection h with _ h
          omega
theorem aw20_0 : parseR [40, 97, 45, 98, 41, 45, 99] = (some (.bin 7 (.bin 7 (.leaf 2 [97]) (.leaf 2 [98])) (.leaf 2 [99])), 7, 0) ∧ nodeT fmtI (.bin 7 (.bin 7 (.leaf 2 [97]) (.leaf 2 [98])) (.leaf 2 [99])) = [97, 32, 45, 32, 98, 32, 45, 32, 99] := by
  refine ⟨by kernel_rfl, by kernel_rfl⟩
theorem aw20_1 : parseR [97, 45, 40, 98, 45, 99, 41] = (some (.bin 7 (.leaf 2 [97]) (.bin 7 (.leaf 2 [98]) (.leaf 2 [99]))), 7, 0) ∧ nodeT fmtI (.bin 7 (.leaf 2 [97]) (.bin 7 (.leaf 2 [98]) (.leaf 2 [99]))) = [97, 32, 45, 32, 40, 98, 32, 45, 32, 99, 41] := by
  refine ⟨by kernel_rfl, by kernel_rfl⟩
theorem aw20_2 : parseR [45, 40, 45, 120, 41] = (some (.un 5 0 (.un 5 0 (.leaf 2 [120]))), 5, 0) ∧ nodeT fmtI (.un 5 0 (.un 5 0 (.leaf 2 [120]))) = [45, 45, 120] := by
  refine ⟨by kernel_rfl, by kernel_rfl⟩
theorem aw20_3 : parseR [40, 45, 120, 41, 94, 50] = (some (.un 10 2 (.un 5 0 (.leaf 2 [120]))), 6, 0) ∧ nodeT fmtI (.un 10 2 (.un 5 0 (.leaf 2 [120]))) = [40, 45, 120, 41, 94, 50] := by
  refine ⟨by kernel_rfl, by kernel_rfl⟩
theorem aw20_4 : parseR [45, 120, 94, 50] = (some (.un 5 0 (.un 10 2 (.leaf 2 [120]))), 4, 0) ∧ nodeT fmtI (.un 5 0 (.un 10 2 (.leaf 2 [120]))) = [45, 120, 94, 50] := by
  refine ⟨by kernel_rfl, by kernel_rfl⟩
set_option maxHeartbeats 4000000 in
set_option maxRecDepth 100000 in
theorem awake20_any (w : World) (hm : MaxV w) (hpw : Pow10 w) : Calls Tryz.prog 19 #[] w fun e w' => e = .returned (.bool true) ∧ Ext w w' := by
  have HM := Lib.hid hm
  have HPW := Lib.hid hpw
  obtain ⟨wb, hwb⟩ : ∃ wb, wb = w.alloc (.cells #[.string ⟨#[40, 97, 45, 98, 41, 45, 99]⟩, .string ⟨#[97, 32, 45, 32, 98, 32, 45, 32, 99]⟩, .string ⟨#[97, 45, 40, 98, 45, 99, 41]⟩, .string ⟨#[97, 32, 45, 32, 40, 98, 32, 45, 32, 99, 41]⟩, .string ⟨#[45, 40, 45, 120, 41]⟩, .string ⟨#[45, 45, 120]⟩, .string ⟨#[40, 45, 120, 41, 94, 50]⟩, .string ⟨#[40, 45, 120, 41, 94, 50]⟩, .string ⟨#[45, 120, 94, 50]⟩, .string ⟨#[45, 120, 94, 50]⟩] 60) := ⟨_, rfl⟩
  have HXB : Hid (Ext w wb) := Lib.hid (by rw [hwb]; exact (Ext.refl w).alloc _)
  have HBB : Hid (Blk wb w.heap.size 60 #[.string ⟨#[40, 97, 45, 98, 41, 45, 99]⟩, .string ⟨#[97, 32, 45, 32, 98, 32, 45, 32, 99]⟩, .string ⟨#[97, 45, 40, 98, 45, 99, 41]⟩, .string ⟨#[97, 32, 45, 32, 40, 98, 32, 45, 32, 99, 41]⟩, .string ⟨#[45, 40, 45, 120, 41]⟩, .string ⟨#[45, 45, 120]⟩, .string ⟨#[40, 45, 120, 41, 94, 50]⟩, .string ⟨#[40, 45, 120, 41, 94, 50]⟩, .string ⟨#[45, 120, 94, 50]⟩, .string ⟨#[45, 120, 94, 50]⟩]) := Lib.hid (by rw [hwb]; exact Blk.new w _ _)
  clear hm hpw
  go_enter Tryz.func19, Tryz.ntmps19
  go_upto_block 2 with fail
  rw [← hwb]
  clear hwb
  generalize w.heap.size = gb at *
  go_loopw [13] (fun s13 wr => ∃ k : Nat, k ≤ 5 ∧ s13 = .int .i64 (k : Int) ∧ Ext wb wr) (fun s13 _ => 5 - (intOf s13).toNat)
  case atStart => exact ⟨0, by omega, rfl, Ext.refl _⟩
  case round =>
    obtain ⟨k, hk, rfl, hext⟩ := hrel
    have HBR := Lib.hid (HBB.out.ext hext)
    have HXR := Lib.hid (HXB.out.trans hext)
    have HEX := Lib.hid hext
    clear hext
    have key : k = 0 ∨ k = 1 ∨ k = 2 ∨ k = 3 ∨ k = 4 ∨ k = 5 := by omega
    rcases key with rfl | rfl | rfl | rfl | rfl | rfl
    · have h0 := HBR.out.cell 0
      have h1 := HBR.out.cell 1
      simp at h0 h1
      have HPS := Lib.hid (fun W hx => rparse_any W [40, 97, 45, 98, 41, 45, 99] (HM.out.ext (w' := W) hx))
      unfold ParseP at HPS
      rw [aw20_0.1] at HPS
      simp only [exNodes] at HPS
      have hsm := parseR_some aw20_0.1
      have HF := Lib.hid (fun W v h hx => pformat_any W v _ h hsm.2.2.2.1 hsm.2.1 hsm.2.2.1 (HM.out.ext (w' := W) hx) (HPW.out.ext hx))
      rw [aw20_0.2] at HF
      rw [show str [97, 32, 45, 32, 98, 32, 45, 32, 99] = .string ⟨#[97, 32, 45, 32, 98, 32, 45, 32, 99]⟩ from rfl] at HF
      have hbq := Blk.new wr 60 #[.string ⟨#[40, 97, 45, 98, 41, 45, 99]⟩, .string ⟨#[97, 32, 45, 32, 98, 32, 45, 32, 99]⟩]
      have HBQ := Lib.hid hbq
      clear hsm hbq
      go_wp2_with fail
      refine (HPS.out _ (HXR.out.alloc _)).mono ?_
      rintro e w4 ⟨v4, rfl, hx4, hr4⟩
      have HX4 := Lib.hid ((HXR.out.alloc (.cells #[.string ⟨#[40, 97, 45, 98, 41, 45, 99]⟩, .string ⟨#[97, 32, 45, 32, 98, 32, 45, 32, 99]⟩] 60)).trans hx4)
      have HY4 := Lib.hid (((Ext.refl wr).alloc (.cells #[.string ⟨#[40, 97, 45, 98, 41, 45, 99]⟩, .string ⟨#[97, 32, 45, 32, 98, 32, 45, 32, 99]⟩] 60)).trans hx4)
      have HR4 := Lib.hid hr4
      obtain ⟨A4, c4, rfl⟩ := hr4.shape
      have hb4 := HBQ.out.ext hx4
      have hq1 := hb4.cell 1
      rw [show (#[Value.string ⟨#[40, 97, 45, 98, 41, 45, 99]⟩, Value.string ⟨#[97, 32, 45, 32, 98, 32, 45, 32, 99]⟩] : Array Value)[1]? = some (.string ⟨#[97, 32, 45, 32, 98, 32, 45, 32, 99]⟩) from rfl] at hq1
      generalize wr.heap.size = gq at *
      clear hx4 hr4 hb4 h0 h1
      go_wp2_with fail
      go_region_held3 (fun w' => Ext w4 w' ∧ w'.cell? ⟨gq, 1, none⟩ = some (.string ⟨#[97, 32, 45, 32, 98, 32, 45, 32, 99]⟩))
        (first | (exact kept1_drew hq1) | (exact kept1 (by assumption) (by assumption)))
        (first
          | (go_at_call 20; (refine (HF.out _ _ (HR4.out.ext (And.left (by assumption))) (HX4.out.trans (And.left (by assumption)))).mono ?_); rintro r w5 ⟨rfl, hx5⟩))
      all_goals
        have HX5 : Hid (Ext w4 w5) := Lib.hid (And.left (by assumption))
        go_wp2_with fail
        go_roundw
        case rel => exact ⟨1, by omega, rfl, HEX.out.trans (HY4.out.trans HX5.out)⟩
        case measure => simp [intOf]
    · have h0 := HBR.out.cell 2
      have h1 := HBR.out.cell 3
      simp at h0 h1
      have HPS := Lib.hid (fun W hx => rparse_any W [97, 45, 40, 98, 45, 99, 41] (HM.out.ext (w' := W) hx))
      unfold ParseP at HPS
      rw [aw20_1.1] at HPS
      simp only [exNodes] at HPS
      have hsm := parseR_some aw20_1.1
      have HF := Lib.hid (fun W v h hx => pformat_any W v _ h hsm.2.2.2.1 hsm.2.1 hsm.2.2.1 (HM.out.ext (w' := W) hx) (HPW.out.ext hx))
      rw [aw20_1.2] at HF
      rw [show str [97, 32, 45, 32, 40, 98, 32, 45, 32, 99, 41] = .string ⟨#[97, 32, 45, 32, 40, 98, 32, 45, 32, 99, 41]⟩ from rfl] at HF
      have hbq := Blk.new wr 60 #[.string ⟨#[97, 45, 40, 98, 45, 99, 41]⟩, .string ⟨#[97, 32, 45, 32, 40, 98, 32, 45, 32, 99, 41]⟩]
      have HBQ := Lib.hid hbq
      clear hsm hbq
      go_wp2_with fail
      refine (HPS.out _ (HXR.out.alloc _)).mono ?_
      rintro e w4 ⟨v4, rfl, hx4, hr4⟩
      have HX4 := Lib.hid ((HXR.out.alloc (.cells #[.string ⟨#[97, 45, 40, 98, 45, 99, 41]⟩, .string ⟨#[97, 32, 45, 32, 40, 98, 32, 45, 32, 99, 41]⟩] 60)).trans hx4)
      have HY4 := Lib.hid (((Ext.refl wr).alloc (.cells #[.string ⟨#[97, 45, 40, 98, 45, 99, 41]⟩, .string ⟨#[97, 32, 45, 32, 40, 98, 32, 45, 32, 99, 41]⟩] 60)).trans hx4)
      have HR4 := Lib.hid hr4
      obtain ⟨A4, c4, rfl⟩ := hr4.shape
      have hb4 := HBQ.out.ext hx4
      have hq1 := hb4.cell 1
      rw [show (#[Value.string ⟨#[97, 45, 40, 98, 45, 99, 41]⟩, Value.string ⟨#[97, 32, 45, 32, 40, 98, 32, 45, 32, 99, 41]⟩] : Array Value)[1]? = some (.string ⟨#[97, 32, 45, 32, 40, 98, 32, 45, 32, 99, 41]⟩) from rfl] at hq1
      generalize wr.heap.size = gq at *
      clear hx4 hr4 hb4 h0 h1
      go_wp2_with fail
      go_region_held3 (fun w' => Ext w4 w' ∧ w'.cell? ⟨gq, 1, none⟩ = some (.string ⟨#[97, 32, 45, 32, 40, 98, 32, 45, 32, 99, 41]⟩))
        (first | (exact kept1_drew hq1) | (exact kept1 (by assumption) (by assumption)))
        (first
          | (go_at_call 20; (refine (HF.out _ _ (HR4.out.ext (And.left (by assumption))) (HX4.out.trans (And.left (by assumption)))).mono ?_); rintro r w5 ⟨rfl, hx5⟩))
      all_goals
        have HX5 : Hid (Ext w4 w5) := Lib.hid (And.left (by assumption))
        go_wp2_with fail
        go_roundw
        case rel => exact ⟨2, by omega, rfl, HEX.out.trans (HY4.out.trans HX5.out)⟩
        case measure => simp [intOf]
    · have h0 := HBR.out.cell 4
      have h1 := HBR.out.cell 5
      simp at h0 h1
      have HPS := Lib.hid (fun W hx => rparse_any W [45, 40, 45, 120, 41] (HM.out.ext (w' := W) hx))
      unfold ParseP at HPS
      rw [aw20_2.1] at HPS
      simp only [exNodes] at HPS
      have hsm := parseR_some aw20_2.1
      have HF := Lib.hid (fun W v h hx => pformat_any W v _ h hsm.2.2.2.1 hsm.2.1 hsm.2.2.1 (HM.out.ext (w' := W) hx) (HPW.out.ext hx))
      rw [aw20_2.2] at HF
      rw [show str [45, 45, 120] = .string ⟨#[45, 45, 120]⟩ from rfl] at HF
      have hbq := Blk.new wr 60 #[.string ⟨#[45, 40, 45, 120, 41]⟩, .string ⟨#[45, 45, 120]⟩]
      have HBQ := Lib.hid hbq
      clear hsm hbq
      go_wp2_with fail
      refine (HPS.out _ (HXR.out.alloc _)).mono ?_
      rintro e w4 ⟨v4, rfl, hx4, hr4⟩
      have HX4 := Lib.hid ((HXR.out.alloc (.cells #[.string ⟨#[45, 40, 45, 120, 41]⟩, .string ⟨#[45, 45, 120]⟩] 60)).trans hx4)
      have HY4 := Lib.hid (((Ext.refl wr).alloc (.cells #[.string ⟨#[45, 40, 45, 120, 41]⟩, .string ⟨#[45, 45, 120]⟩] 60)).trans hx4)
      have HR4 := Lib.hid hr4
      obtain ⟨A4, c4, rfl⟩ := hr4.shape
      have hb4 := HBQ.out.ext hx4
      have hq1 := hb4.cell 1
      rw [show (#[Value.string ⟨#[45, 40, 45, 120, 41]⟩, Value.string ⟨#[45, 45, 120]⟩] : Array Value)[1]? = some (.string ⟨#[45, 45, 120]⟩) from rfl] at hq1
      generalize wr.heap.size = gq at *
      clear hx4 hr4 hb4 h0 h1
      go_wp2_with fail
      go_region_held3 (fun w' => Ext w4 w' ∧ w'.cell? ⟨gq, 1, none⟩ = some (.string ⟨#[45, 45, 120]⟩))
        (first | (exact kept1_drew hq1) | (exact kept1 (by assumption) (by assumption)))
        (first
          | (go_at_call 20; (refine (HF.out _ _ (HR4.out.ext (And.left (by assumption))) (HX4.out.trans (And.left (by assumption)))).mono ?_); rintro r w5 ⟨rfl, hx5⟩))
      all_goals
        have HX5 : Hid (Ext w4 w5) := Lib.hid (And.left (by assumption))
        go_wp2_with fail
        go_roundw
        case rel => exact ⟨3, by omega, rfl, HEX.out.trans (HY4.out.trans HX5.out)⟩
        case measure => simp [intOf]
    · have h0 := HBR.out.cell 6
      have h1 := HBR.out.cell 7
      simp at h0 h1
      have HPS := Lib.hid (fun W hx => rparse_any W [40, 45, 120, 41, 94, 50] (HM.out.ext (w' := W) hx))
      unfold ParseP at HPS
      rw [aw20_3.1] at HPS
      simp only [exNodes] at HPS
      have hsm := parseR_some aw20_3.1
      have HF := Lib.hid (fun W v h hx => pformat_any W v _ h hsm.2.2.2.1 hsm.2.1 hsm.2.2.1 (HM.out.ext (w' := W) hx) (HPW.out.ext hx))
      rw [aw20_3.2] at HF
      rw [show str [40, 45, 120, 41, 94, 50] = .string ⟨#[40, 45, 120, 41, 94, 50]⟩ from rfl] at HF
      have hbq := Blk.new wr 60 #[.string ⟨#[40, 45, 120, 41, 94, 50]⟩, .string ⟨#[40, 45, 120, 41, 94, 50]⟩]
      have HBQ := Lib.hid hbq
      clear hsm hbq
      go_wp2_with fail
      refine (HPS.out _ (HXR.out.alloc _)).mono ?_
      rintro e w4 ⟨v4, rfl, hx4, hr4⟩
      have HX4 := Lib.hid ((HXR.out.alloc (.cells #[.string ⟨#[40, 45, 120, 41, 94, 50]⟩, .string ⟨#[40, 45, 120, 41, 94, 50]⟩] 60)).trans hx4)
      have HY4 := Lib.hid (((Ext.refl wr).alloc (.cells #[.string ⟨#[40, 45, 120, 41, 94, 50]⟩, .string ⟨#[40, 45, 120, 41, 94, 50]⟩] 60)).trans hx4)
      have HR4 := Lib.hid hr4
      obtain ⟨A4, c4, rfl⟩ := hr4.shape
      have hb4 := HBQ.out.ext hx4
      have hq1 := hb4.cell 1
      rw [show (#[Value.string ⟨#[40, 45, 120, 41, 94, 50]⟩, Value.string ⟨#[40, 45, 120, 41, 94, 50]⟩] : Array Value)[1]? = some (.string ⟨#[40, 45, 120, 41, 94, 50]⟩) from rfl] at hq1
      generalize wr.heap.size = gq at *
      clear hx4 hr4 hb4 h0 h1
      go_wp2_with fail
      go_region_held3 (fun w' => Ext w4 w' ∧ w'.cell? ⟨gq, 1, none⟩ = some (.string ⟨#[40, 45, 120, 41, 94, 50]⟩))
        (first | (exact kept1_drew hq1) | (exact kept1 (by assumption) (by assumption)))
        (first
          | (go_at_call 20; (refine (HF.out _ _ (HR4.out.ext (And.left (by assumption))) (HX4.out.trans (And.left (by assumption)))).mono ?_); rintro r w5 ⟨rfl, hx5⟩))
      all_goals
        have HX5 : Hid (Ext w4 w5) := Lib.hid (And.left (by assumption))
        go_wp2_with fail
        go_roundw
        case rel => exact ⟨4, by omega, rfl, HEX.out.trans (HY4.out.trans HX5.out)⟩
        case measure => simp [intOf]
    · have h0 := HBR.out.cell 8
      have h1 := HBR.out.cell 9
      simp at h0 h1
      have HPS := Lib.hid (fun W hx => rparse_any W [45, 120, 94, 50] (HM.out.ext (w' := W) hx))
      unfold ParseP at HPS
      rw [aw20_4.1] at HPS
      simp only [exNodes] at HPS
      have hsm := parseR_some aw20_4.1
      have HF := Lib.hid (fun W v h hx => pformat_any W v _ h hsm.2.2.2.1 hsm.2.1 hsm.2.2.1 (HM.out.ext (w' := W) hx) (HPW.out.ext hx))
      rw [aw20_4.2] at HF
      rw [show str [45, 120, 94, 50] = .string ⟨#[45, 120, 94, 50]⟩ from rfl] at HF
      have hbq := Blk.new wr 60 #[.string ⟨#[45, 120, 94, 50]⟩, .string ⟨#[45, 120, 94, 50]⟩]
      have HBQ := Lib.hid hbq
      clear hsm hbq
      go_wp2_with fail
      refine (HPS.out _ (HXR.out.alloc _)).mono ?_
      rintro e w4 ⟨v4, rfl, hx4, hr4⟩
      have HX4 := Lib.hid ((HXR.out.alloc (.cells #[.string ⟨#[45, 120, 94, 50]⟩, .string ⟨#[45, 120, 94, 50]⟩] 60)).trans hx4)
      have HY4 := Lib.hid (((Ext.refl wr).alloc (.cells #[.string ⟨#[45, 120, 94, 50]⟩, .string ⟨#[45, 120, 94, 50]⟩] 60)).trans hx4)
      have HR4 := Lib.hid hr4
      obtain ⟨A4, c4, rfl⟩ := hr4.shape
      have hb4 := HBQ.out.ext hx4
      have hq1 := hb4.cell 1
      rw [show (#[Value.string ⟨#[45, 120, 94, 50]⟩, Value.string ⟨#[45, 120, 94, 50]⟩] : Array Value)[1]? = some (.string ⟨#[45, 120, 94, 50]⟩) from rfl] at hq1
      generalize wr.heap.size = gq at *
      clear hx4 hr4 hb4 h0 h1
      go_wp2_with fail
      go_region_held3 (fun w' => Ext w4 w' ∧ w'.cell? ⟨gq, 1, none⟩ = some (.string ⟨#[45, 120, 94, 50]⟩))
        (first | (exact kept1_drew hq1) | (exact kept1 (by assumption) (by assumption)))
        (first
          | (go_at_call 20; (refine (HF.out _ _ (HR4.out.ext (And.left (by assumption))) (HX4.out.trans (And.left (by assumption)))).mono ?_); rintro r w5 ⟨rfl, hx5⟩))
      all_goals
        have HX5 : Hid (Ext w4 w5) := Lib.hid (And.left (by assumption))
        go_wp2_with fail
        go_roundw
        case rel => exact ⟨5, by omega, rfl, HEX.out.trans (HY4.out.trans HX5.out)⟩
        case measure => simp [intOf]
    · go_wp2_with fail
      go_ret
      exact ⟨rfl, HXR.out⟩
end Big
end Go.Proofs.YtgopljllknbelaaGreatDoor
/- strings.Join with a space. -/
namespace Go.Proofs.YtgopljllknbelaaGreatDoor
namespace Big
open Go.RowKit
theorem join_lib (c : UInt8) : ∀ ls : List (List UInt8), Lib.join ls [c] = joinWith c ls
  | [] => rfl
  | [x] => Lib.join_one x [c]
  | x :: y :: r => by
    rw [Lib.join_cons, joinWith, ← join_lib c (y :: r), Lib.join_cons]
    unfold Lib.joinTail
    simp
theorem back_string (ls : List (List UInt8)) : (ls.map fun l => (⟨l.toArray⟩ : ByteArray)).map (·.data.toList) = ls := by
  rw [List.map_map]
  conv => rhs; rw [← List.map_id ls]
  apply List.map_congr_left
  intro l _
  rfl
theorem jn_any (w : World) (v : Value) (ls : List (List UInt8)) (h : ArrS w v ls) (hn : ls.length ≤ 1073741824) (hlen : (joinWith 32 ls).length ≤ 1073741824) :
    Calls Tryz.prog 42 #[v, .string ⟨#[32]⟩] w fun e w' => e = .returned (str (joinWith 32 ls)) ∧ Ext w w' := by
  obtain ⟨A, c, rfl, hc, hm, hcell⟩ := h.open
  rcases Nat.eq_zero_or_pos ls.length with h0 | h0
  · have := List.eq_nil_of_length_eq_zero h0
    subst this
    refine (Tryz.strings_Join_none A c ⟨#[32]⟩ w).mono ?_
    rintro e w' ⟨rfl, rfl⟩
    exact ⟨rfl, Ext.refl _⟩
  · obtain ⟨b, o, rfl, hbk, hcell⟩ := hcell h0
    have hb := back_string ls
    have hj : Lib.join ((ls.map fun l => (⟨l.toArray⟩ : ByteArray)).map (·.data.toList)) (⟨#[32]⟩ : ByteArray).data.toList = joinWith 32 ls := by
      rw [hb]
      exact join_lib 32 ls
    have key := Tryz.strings_Join b o c (ls.map fun l => (⟨l.toArray⟩ : ByteArray)) ⟨#[32]⟩ w (fun j x hx => by
      rw [List.getElem?_map] at hx
      have hj : j < ls.length := by
        rcases Nat.lt_or_ge j ls.length with h | h
        · exact h
        · rw [List.getElem?_eq_none h] at hx; cases hx
      rw [List.getElem?_eq_getElem hj] at hx
      injection hx with hx
      rw [hcell j hj, ← hx]
      rfl) hbk (by rw [List.length_map]; omega) (by rw [List.length_map]; exact hc) (by rw [hj]; omega)
    rw [hj, List.length_map] at key
    exact key
theorem joinWith_snoc (c : UInt8) (x : List UInt8) : ∀ (ls : List (List UInt8)), ls ≠ [] → joinWith c (ls ++ [x]) = (joinWith c ls ++ [c]) ++ x
  | [], h => absurd rfl h
  | [y], _ => by simp [joinWith]
  | y :: z :: r, _ => by
    have := joinWith_snoc c x (z :: r) (by simp)
    rw [List.cons_append, List.cons_append, joinWith, ← List.cons_append, this, joinWith]
    simp
end Big
end Go.Proofs.YtgopljllknbelaaGreatDoor
/- PrinterLevels. Printed by a program. -/
namespace Go.Proofs.YtgopljllknbelaaGreatDoor
namespace Big
open Go.RowKit
set_option maxRecDepth 100000 in
theorem rlevel_none (w : World) (k a b n : Int) (t : List UInt8) (h : k < 1 ∨ 16 < k) : Calls Tryz.prog 25 #[.agg #[.int .i64 k, .int .i64 a, .int .i64 b, .int .i64 n, str t]] w fun e w' => e = .returned (.int .i64 0) ∧ Ext w w' := by
  obtain ⟨s, hs⟩ : ∃ s : ByteArray, s = ⟨t.toArray⟩ := ⟨_, rfl⟩
  have hst : str t = .string s := by rw [hs]; rfl
  rw [hst]
  clear hst hs
  have HOP := Lib.hid (fun W => operands_any W k)
  rw [show operI k = -1 from by unfold operI; split <;> (try rfl) <;> omega] at HOP
  have HX := Lib.hid ((Ext.refl w).alloc (.cells #[.int .i64 k, .int .i64 a, .int .i64 b, .int .i64 n, .string s] 42))
  clear h
  go_enter Tryz.func25, Tryz.ntmps25
  go_wp2_with fail
  refine (HOP.out _).mono ?_
  rintro e w1 ⟨rfl, rfl⟩
  go_wp2_with fail
  go_ret
  exact ⟨rfl, HX.out⟩
theorem rlevelI_any (w : World) (k a b n : Int) (t : List UInt8) : Calls Tryz.prog 25 #[.agg #[.int .i64 k, .int .i64 a, .int .i64 b, .int .i64 n, str t]] w fun e w' => e = .returned (.int .i64 (levelI k)) ∧ Ext w w' := by
  by_cases h : k < 1 ∨ 16 < k
  · have hz : levelI k = 0 := by unfold levelI; rw [if_neg (by omega), if_neg (by omega), if_neg (by omega), if_neg (by omega), if_neg (by omega)]
    rw [hz]
    exact rlevel_none w k a b n t h
  · obtain ⟨q, rfl⟩ := Int.eq_ofNat_of_zero_le (show 0 ≤ k by omega)
    have h1 : 1 ≤ q := by omega
    have h2 : q ≤ 16 := by omega
    have := level_any w q a b n t h1 h2
    rw [← levelI_nat q h1 h2] at this
    exact this
theorem pjoin_any (w : World) (v : Value) (ls : List (List UInt8)) (h : ArrS w v ls) (hn : ls.length ≤ 1073741824) (hlen : (joinWith 32 ls).length ≤ 1073741824) :
    Calls Tryz.prog 26 #[v] w fun e w' => e = .returned (str (joinWith 32 ls)) ∧ Ext w w' := by
  have HJ := Lib.hid (jn_any w v ls h hn hlen)
  obtain ⟨n, A, c, rfl⟩ := h.shape
  generalize joinWith 32 ls = J at *
  clear h hn hlen
  go_enter Tryz.func26, Tryz.ntmps26
  go_wp2_with fail
  refine HJ.out.mono ?_
  rintro e w1 ⟨rfl, hx1⟩
  have HX1 := Lib.hid hx1
  clear hx1
  go_wp2_with fail
  go_ret
  exact ⟨rfl, HX1.out⟩
set_option maxHeartbeats 4000000 in
set_option maxRecDepth 100000 in
theorem printerLevels_any (w : World) (c : Nd) (v : Value) (ls : List (List UInt8)) (h : ArrS w v ls) (hm : MaxV w) (hpw : Pow10 w) :
    Calls Tryz.prog 5 #[ndV c, v] w fun e w' => e = .returned (.bool true) ∧ Ext w w' := by
  have HL := Lib.hid h
  obtain ⟨A, cp, rfl, _, _, hcell⟩ := h.open
  have HC := Lib.hid hcell
  clear h hcell
  obtain ⟨kd, na, nb, nn, nt⟩ := c
  simp only [ndV]
  have HPL := Lib.hid (fun W => plevel_any W kd na nb nn nt)
  have HRL := Lib.hid (fun W => rlevelI_any W kd na nb nn nt)
  have HPK := Lib.hid (fun W k => plevel_any W k 0 0 0 [])
  have HRK := Lib.hid (fun W k => rlevelI_any W k 0 0 0 [])
  have hst : str nt = .string ⟨nt.toArray⟩ := rfl
  rw [hst] at HPL HRL ⊢
  rw [show str [] = .string ⟨#[]⟩ from rfl] at HPK HRK
  generalize (⟨nt.toArray⟩ : ByteArray) = tb at *
  generalize levelI kd = lv at *
  obtain ⟨wb, hwb⟩ : ∃ wb, wb = w.alloc (.cells #[.int .i64 kd, .int .i64 na, .int .i64 nb, .int .i64 nn, .string tb] 42) := ⟨_, rfl⟩
  have hxb : Ext w wb := by rw [hwb]; exact (Ext.refl w).alloc _
  have HXB := Lib.hid hxb
  have HBB : Hid (Blk wb w.heap.size 42 #[.int .i64 kd, .int .i64 na, .int .i64 nb, .int .i64 nn, .string tb]) := Lib.hid (by rw [hwb]; exact Blk.new w _ _)
  have HAW := Lib.hid (awake20_any wb (hm.ext hxb) (hpw.ext hxb))
  have hlv : ((lv : Int) == lv) = true := beq_self_eq_true _
  obtain ⟨n, hn⟩ : ∃ n, n = ls.length := ⟨_, rfl⟩
  have HN := Lib.hid hn
  rw [← hn]
  clear hxb hm hpw hst hn
  rcases Nat.lt_or_ge 40 n with h40 | h40
  · have h40i : (40 : Int) < (n : Int) := by omega
    go_enter Tryz.func5, Tryz.ntmps5
    go_upto_region 1 with fail
    rw [← hwb]
    clear hwb
    go_wp2_with fail
    refine HAW.out.mono ?_
    rintro e w1 ⟨rfl, hx1⟩
    have HX1 := Lib.hid (HXB.out.trans hx1)
    clear hx1
    go_wp2_with fail
    go_ret
    exact ⟨rfl, HX1.out⟩
  have h40i : ¬ (40 : Int) < (n : Int) := by omega
  go_enter Tryz.func5, Tryz.ntmps5
  go_upto_region 1 with fail
  rw [← hwb]
  clear hwb
  go_wp2_with fail
  refine HAW.out.mono ?_
  rintro e w1 ⟨rfl, hx1⟩
  have HX1 := Lib.hid (HXB.out.trans hx1)
  have HB1 := Lib.hid (HBB.out.ext hx1)
  clear hx1
  go_wp2_with fail
  go_loopw [5] (fun s5 wr => ∃ k : Int, -1 ≤ k ∧ k ≤ 19 ∧ s5 = .int .i64 k ∧ Ext w1 wr) (fun s5 _ => (19 - intOf s5).toNat)
  case atStart => exact ⟨-1, by omega, by omega, rfl, Ext.refl _⟩
  case round =>
    obtain ⟨k, hk1, hk2, rfl, hext⟩ := hrel
    have HY := Lib.hid hext
    clear hext
    by_cases hlt : k < 19
    · have hw1 : IntKind.i64.wrap (k + 1) = k + 1 := IntWalk.i64_in _ (by omega)
      have HP2 := Lib.hid (fun W => HPK.out W k)
      have HR2 := Lib.hid (fun W => HRK.out W k)
      generalize levelI k = lk at *
      have hne : ((lk : Int) != lk) = false := by simp
      go_wp2_with fail
      refine (HP2.out _).mono ?_
      rintro e w2 ⟨rfl, hx2⟩
      have HY2 := Lib.hid (HY.out.trans hx2)
      clear hx2
      go_wp2_with fail
      refine (HR2.out _).mono ?_
      rintro e w3 ⟨rfl, hx3⟩
      have HY3 := Lib.hid (HY2.out.trans hx3)
      clear hx3
      go_wp2_with fail
      go_roundw
      case rel => exact ⟨k + 1, by omega, by omega, rfl, HY3.out⟩
      case measure => simp [intOf]; omega
    · clear hk1 hk2
      have HX2 := Lib.hid (HX1.out.trans HY.out)
      have HB2 := Lib.hid (HB1.out.ext HY.out)
      go_wp2_with fail
      generalize wr = wa at *
      go_loopw [6, 27] (fun s6 s27 wq => ∃ i : Nat, i ≤ n ∧ s27 = .int .i64 (i : Int) ∧ s6 = str (joinWith 32 (ls.take i)) ∧ (joinWith 32 (ls.take i)).length ≤ 101 * i ∧ wa = wq) (fun _ s27 _ => n - (intOf s27).toNat)
      case atStart => exact ⟨0, Nat.zero_le _, rfl, rfl, by simp [joinWith], rfl⟩
      case round =>
        obtain ⟨i, hi, rfl, rfl, hjl, rfl⟩ := hrel
        by_cases hin : i < n
        · have hit : i < ls.length := by rw [← HN.out]; exact hin
          obtain ⟨b, o, rfl, hbw, hcs⟩ := HC.out (by omega)
          have hx := (HX2.out.cell hbw).trans (hcs i hit)
          have HTK : Hid (ls.take (i + 1) = ls.take i ++ [ls[i]]) := Lib.hid (List.take_succ_eq_append_getElem hit)
          clear hcs
          generalize ls[i] = x at *
          clear hit
          have hi0 : (0 : Int) ≤ (i : Int) := by omega
          have hii : (i : Int) < (n : Int) := by omega
          rcases Nat.lt_or_ge 100 x.length with hxl | hxl
          · have hxi : (100 : Int) < (x.length : Int) := by omega
            go_wp2_with fail
            go_ret
            exact ⟨rfl, HX2.out⟩
          have hxi : ¬ (100 : Int) < (x.length : Int) := by omega
          have hwi : IntKind.i64.wrap ((i : Int) + 1) = (i : Int) + 1 := IntWalk.i64_in _ (by omega)
          by_cases hi1 : 0 < i
          · have hi1i : (0 : Int) < (i : Int) := by omega
            have HJ : Hid (joinWith 32 (ls.take (i + 1)) = joinWith 32 (ls.take i) ++ 32 :: x) := Lib.hid (by
              rw [HTK.out]
              refine (joinWith_snoc 32 x _ (fun h => ?_)).trans (by simp)
              have := congrArg List.length h
              rw [List.length_take, ← HN.out] at this
              simp at this
              omega)
            generalize joinWith 32 (ls.take i) = J at *
            have HJL : Hid ((J ++ 32 :: x).length ≤ 101 * (i + 1)) := Lib.hid (by simp; omega)
            have a1 : ∀ W : World, (binOp .add 9 (str J) (.string ⟨#[32]⟩)).run Tryz.prog W = .ok (str (J ++ [32])) W := fun W => run_add_str J [32] (by simp; omega) W
            have a2 : ∀ W : World, (binOp .add 9 (str (J ++ [32])) (str x)).run Tryz.prog W = .ok (str (J ++ 32 :: x)) W := fun W => by
              have := run_add_str (J ++ [32]) x (by simp; omega) W
              rw [List.append_assoc] at this
              exact this
            go_wp2_with fail
            go_roundw
            case rel => exact ⟨i + 1, by omega, by go_num, by rw [HJ.out], by rw [HJ.out]; exact HJL.out, trivial⟩
            case measure => simp [intOf]; omega
          · obtain rfl : i = 0 := by omega
            have HJ : Hid (joinWith 32 (ls.take 1) = x) := Lib.hid (by have h1 := HTK.out; rw [Nat.zero_add] at h1; rw [h1]; rfl)
            have a1 : ∀ W : World, (binOp .add 9 (str []) (str x)).run Tryz.prog W = .ok (str x) W := fun W => run_add_str [] x (by simp; omega) W
            have hjn : joinWith 32 (ls.take 0) = [] := rfl
            rw [Nat.add_zero] at hx
            rw [hjn]
            clear hjn
            go_wp2_with fail
            go_roundw
            case rel => exact ⟨1, by omega, rfl, by rw [HJ.out], by rw [HJ.out]; omega, trivial⟩
            case measure => simp [intOf]; omega
        · obtain rfl : i = n := by omega
          have HTA : Hid (joinWith 32 (ls.take i) = joinWith 32 ls) := Lib.hid (by rw [HN.out, List.take_length])
          rw [HTA.out] at hjl ⊢
          have hjn := fun W hx => pjoin_any W _ ls (HL.out.ext (w' := W) hx) (by rw [← HN.out]; omega) (by omega)
          rw [← HN.out] at hjn
          have HJP := Lib.hid hjn
          generalize joinWith 32 ls = J at *
          obtain ⟨q0, q1, q2, q3, q4⟩ := HB2.out.five
          have hJJ : (J == J) = true := beq_self_eq_true _
          clear hin hjl hjn
          go_wp2_with fail
          go_region_held3 (fun w' => Ext wa w' ∧ w'.cell? ⟨w.heap.size, 0, none⟩ = some (.int .i64 kd) ∧ w'.cell? ⟨w.heap.size, 1, none⟩ = some (.int .i64 na) ∧ w'.cell? ⟨w.heap.size, 2, none⟩ = some (.int .i64 nb) ∧ w'.cell? ⟨w.heap.size, 3, none⟩ = some (.int .i64 nn) ∧ w'.cell? ⟨w.heap.size, 4, none⟩ = some (.string tb))
            (first | (exact kept5_drew ⟨q0, q1, q2, q3, q4⟩) | (exact kept5 (by assumption) (by assumption)))
            (first
              | (go_at_call 24; (with_reducible refine (HPL.out _).mono ?_); rintro r w5 ⟨rfl, hx5⟩)
              | (go_at_call 25; (with_reducible refine (HRL.out _).mono ?_); rintro r w6 ⟨rfl, hx6⟩)
              | (go_at_call 26; (refine (HJP.out _ (HX2.out.trans (And.left (by assumption)))).mono ?_); rintro r w7 ⟨rfl, hx7⟩))
          all_goals
            have HX7 : Hid (Ext wa w7) := Lib.hid (And.left (by assumption))
            go_wp2_with fail
            go_ret
            exact ⟨rfl, HX2.out.trans HX7.out⟩
end Big
end Go.Proofs.YtgopljllknbelaaGreatDoor
