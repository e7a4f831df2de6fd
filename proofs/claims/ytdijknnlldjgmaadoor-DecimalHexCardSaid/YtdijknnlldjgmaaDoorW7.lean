import Derived.Test.YtdijknnlldjgmaaDoorW5
namespace Go.Proofs.YtdijknnlldjgmaaDoor
namespace Big
open Go.RowKit

theorem rcmp_any (w : World) (v u : Value) (xs ys : List Nat) (h : Arr w v xs) (h' : Arr w u ys) (hn : xs.length ≤ 1073741824) (hn' : ys.length ≤ 1073741824) :
    Calls Tryd.prog 38 #[v, u] w fun e w' => e = .returned (.int .i64 (cmpI (val xs) (val ys))) ∧ w = w' := by
  have HA := Lib.hid h
  have HB := Lib.hid h'
  obtain ⟨hok, A, c, rfl, hc, hm, hcell⟩ := h.open
  obtain ⟨hok', A', c', rfl, hc', hm', hcell'⟩ := h'.open
  have hdx : ∀ k, xs.length ≤ k → ys.length ≤ k → val (xs.drop k) = val (ys.drop k) := fun k h1 h2 => by
    rw [List.drop_eq_nil_of_le h1, List.drop_eq_nil_of_le h2]
  have HD := Lib.hid hdx
  clear h h' hcell hcell' hm hm' hc hc' hdx
  rcases Nat.lt_or_ge xs.length ys.length with hlen | hlen
  all_goals
    go_enter Tryd.func38, Tryd.ntmps38
    go_wp2_with fail
    go_loop [5] (fun i => ∃ k : Nat, k ≤ 1073741824 ∧ i = .int .i64 ((k : Int) - 1) ∧ val (xs.drop k) = val (ys.drop k)) (fun i => (intOf i + 1).toNat)
    case atStart => first | exact ⟨_, hn', rfl, HD.out _ (by omega) (by omega)⟩ | exact ⟨_, hn, rfl, HD.out _ (by omega) (by omega)⟩
    case round =>
      obtain ⟨k, hk, rfl, hv⟩ := hrel
      have HV := Lib.hid hv; clear hv
      rcases Nat.eq_zero_or_pos k with h0 | h0
      · subst h0
        have HE := Lib.hid (cmpI_eq (show val xs = val ys from HV.out))
        go_wp2_with fail
        go_ret
        exact ⟨congrArg (fun z => Ending.returned (.int .i64 z)) HE.out.symm, rfl⟩
      · obtain ⟨m, rfl⟩ : ∃ m, k = m + 1 := ⟨k - 1, by omega⟩
        have HX := Lib.hid (rat_any w _ xs (m : Int) HA.out (by omega))
        have HY := Lib.hid (rat_any w _ ys (m : Int) HB.out (by omega))
        rw [Int.toNat_natCast] at HX HY
        have HL := Lib.hid (digit_lt hok m HV.out)
        have HG := Lib.hid (digit_lt hok' m HV.out.symm)
        have HE := Lib.hid (fun he => digit_eq (xs := xs) (ys := ys) m HV.out he)
        obtain ⟨x, hxe⟩ : ∃ x, xs.getD m 0 = x := ⟨_, rfl⟩
        obtain ⟨y, hye⟩ : ∃ y, ys.getD m 0 = y := ⟨_, rfl⟩
        rw [hxe] at HX HL HG HE
        rw [hye] at HY HL HG HE
        clear hxe hye
        rcases Nat.lt_trichotomy x y with hxy | rfl | hxy
        · have HC := Lib.hid (cmpI_lt (HL.out hxy))
          go_wp2_with fail
          refine HX.out.mono ?_; rintro e w' ⟨rfl, rfl⟩
          go_wp2_with fail
          refine HY.out.mono ?_; rintro e w' ⟨rfl, rfl⟩
          go_wp2_with fail
          go_ret
          exact ⟨congrArg (fun z => Ending.returned (.int .i64 z)) HC.out.symm, rfl⟩
        · have HE2 := Lib.hid (HE.out rfl)
          go_wp2_with fail
          refine HX.out.mono ?_; rintro e w' ⟨rfl, rfl⟩
          go_wp2_with fail
          refine HY.out.mono ?_; rintro e w' ⟨rfl, rfl⟩
          go_wp2_with fail
          refine HX.out.mono ?_; rintro e w' ⟨rfl, rfl⟩
          go_wp2_with fail
          refine HY.out.mono ?_; rintro e w' ⟨rfl, rfl⟩
          go_wp2_with fail
          go_round
          case rel => exact ⟨m, by omega, rfl, HE2.out⟩
          case measure => simp [intOf]
        · have HC := Lib.hid (cmpI_gt (HG.out hxy))
          go_wp2_with fail
          refine HX.out.mono ?_; rintro e w' ⟨rfl, rfl⟩
          go_wp2_with fail
          refine HY.out.mono ?_; rintro e w' ⟨rfl, rfl⟩
          go_wp2_with fail
          refine HX.out.mono ?_; rintro e w' ⟨rfl, rfl⟩
          go_wp2_with fail
          refine HY.out.mono ?_; rintro e w' ⟨rfl, rfl⟩
          go_wp2_with fail
          go_ret
          exact ⟨congrArg (fun z => Ending.returned (.int .i64 z)) HC.out.symm, rfl⟩
end Big
end Go.Proofs.YtdijknnlldjgmaaDoor
