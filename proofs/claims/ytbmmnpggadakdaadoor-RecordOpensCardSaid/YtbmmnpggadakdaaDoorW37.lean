import Derived.Test.YtbmmnpggadakdaaDoorW35
import Derived.Test.YtbmmnpggadakdaaDoorW36
/- The sanity check of chapter 34. -/
namespace Go.Proofs.YtbmmnpggadakdaaDoor
namespace Big
open Go.RowKit
theorem fnv_nil : fnv [] = 14695981039346656037 := by rw [fnv, List.foldl_nil]
theorem seal_nil : sealS [] = [115, 117, 109, 32, 99, 98, 102, 50, 57, 99, 101, 52, 56, 52, 50, 50, 50, 51, 50, 53, 10] := by
  unfold sealS
  rw [fnv_nil, hex16_fix (by omega)]
  decide
theorem sum_nil_any (w : World) : Calls Tryd.prog 9 #[str []] w fun e w' => e = .returned (.int .u64 14695981039346656037) ∧ w = w' := by
  have h := sum_any w [] (by simp)
  rw [fnv_nil] at h
  exact h
theorem seal_nil_any (w : World) (hT : Tab16 w) : Calls Tryd.prog 11 #[str []] w fun e w' => e = .returned (str [115, 117, 109, 32, 99, 98, 102, 50, 57, 99, 101, 52, 56, 52, 50, 50, 50, 51, 50, 53, 10]) ∧ Ext w w' := by
  have h := seal_any w [] (by simp) hT
  rw [seal_nil] at h
  exact h
theorem fields_ab_any (w : World) (hm : MaxVar w) : Calls Tryd.prog 13 #[str [97, 32, 32, 98]] w fun e w' => ∃ v, e = .returned v ∧ OwnS w.heap.size w' v [[97], [], [98]] ∧ Ext w w' :=
  fields_any w [97, 32, 32, 98] (by decide) hm
theorem awake34_any (w : World) (hT : Tab16 w) (hm : MaxVar w) : Calls Tryd.prog 8 #[] w fun e w' => e = .returned (.bool true) ∧ Ext w w' := by
  have HT := Lib.hid hT
  have HM := Lib.hid hm
  clear hT hm
  go_enter Tryd.func8, Tryd.ntmps8
  go_wp2_with fail
  refine (sum_nil_any _).mono ?_
  rintro e1 w1 ⟨rfl, rfl⟩
  go_wp2_with fail
  refine (seal_nil_any _ HT.out).mono ?_
  rintro e2 w2 ⟨rfl, hx2⟩
  have HX2 := Lib.hid hx2; clear hx2
  go_wp2_with fail
  refine (fields_ab_any _ (HM.out.ext HX2.out)).mono ?_
  rintro e3 w3 ⟨v3, rfl, ho3, hx3⟩
  have HX3 := Lib.hid (HX2.out.trans hx3); clear hx3
  have HO3 := Lib.hid ho3.arr
  obtain ⟨n3, A3, c3, rfl⟩ := ho3.arr.shape
  clear ho3
  go_wp2_with fail
  have hlit := (OwnS.block (B := w3.heap.size) (ls := [[97], [], [98]]) (Blk.new w3 9 _) (Nat.le_refl _) (by decide)).arr
  refine (sameTexts_any _ _ _ [[97], [], [98]] [[97], [], [98]] (HO3.out.ext ((Ext.refl _).alloc _)) hlit (by decide) (by decide)).mono ?_
  rintro e4 w4 ⟨rfl, hx4⟩
  have HX4 := Lib.hid ((HX3.out.alloc _).trans hx4); clear hx4 hlit
  simp only [decide_true]
  go_wp2_with fail
  go_ret
  exact ⟨rfl, HX4.out⟩

/-- RecordSums: whatever came in. -/
theorem sums34_any (w : World) (l : List UInt8) (hT : Tab16 w) (hm : MaxVar w) : Calls Tryd.prog 3 #[str l] w fun e w' => e = .returned (.bool true) ∧ Ext w w' := by
  have HT := Lib.hid hT
  have HM := Lib.hid hm
  clear hT hm
  rcases Nat.lt_or_ge 2000 l.length with hb | hs
  · have h' : (2000 : Int) < (l.length : Int) := by omega
    clear hb
    go_enter Tryd.func3, Tryd.ntmps3
    go_wp2_with fail
    refine (awake34_any _ HT.out HM.out).mono ?_
    rintro e1 w1 ⟨rfl, hx1⟩
    have HX1 := Lib.hid hx1; clear hx1
    go_wp2_with fail
    go_ret
    exact ⟨rfl, HX1.out⟩
  · have h' : ¬ (2000 : Int) < (l.length : Int) := by omega
    have HS := Lib.hid (fun W => sum_any W l (by omega))
    have HR := Lib.hid (fun W => rsum_any W l (by omega))
    have HE := Lib.hid (fun W hx => seal_any W l (by omega) (HT.out.ext hx))
    have HF := Lib.hid (fun W => rseal_any W l (by omega))
    clear hs
    generalize fnv l = n at *
    generalize sealS l = t at *
    go_enter Tryd.func3, Tryd.ntmps3
    go_wp2_with fail
    refine (awake34_any _ HT.out HM.out).mono ?_
    rintro e1 w1 ⟨rfl, hx1⟩
    have HX1 := Lib.hid hx1; clear hx1
    go_wp2_with fail
    refine (HS.out _).mono ?_
    rintro e2 w2 ⟨rfl, rfl⟩
    go_wp2_with fail
    refine (HR.out _).mono ?_
    rintro e3 w3 ⟨rfl, rfl⟩
    go_wp2_with fail
    refine (HE.out _ HX1.out).mono ?_
    rintro e4 w4 ⟨rfl, hx4⟩
    have HX4 := Lib.hid (HX1.out.trans hx4); clear hx4
    go_wp2_with fail
    refine (HF.out _).mono ?_
    rintro e5 w5 ⟨rfl, rfl⟩
    go_wp2_with fail
    go_ret
    exact ⟨rfl, HX4.out⟩
end Big
end Go.Proofs.YtbmmnpggadakdaaDoor
