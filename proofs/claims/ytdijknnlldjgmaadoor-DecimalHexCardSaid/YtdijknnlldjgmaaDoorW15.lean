import Derived.Test.YtdijknnlldjgmaaDoorW6
import Derived.Test.YtdijknnlldjgmaaDoorW10
import Derived.Test.YtdijknnlldjgmaaDoorBytes2
import Derived.Test.YtdijknnlldjgmaaDoorDec
namespace Go.Proofs.YtdijknnlldjgmaaDoor
namespace Big
open Go.RowKit

theorem rdigits_any (w : World) (v : Value) (N : Nat) (h : Arr w v (limbs N)) (hn : (limbs N).length ≤ 67108864) :
    Calls Tryd.prog 14 #[v] w fun e w' => e = .returned (str (dec N)) ∧ Ext w w' := by
  have HLEN := Lib.hid (fun m (hm : m ≤ N) => length_limbs_lt (ok_limbs N) (n := m) (by rw [val_limbs]; exact hm))
  have HN := Lib.hid hn
  have HA := Lib.hid h
  have HLN := Lib.hid (show (low N).length ≤ 1073741823 by
    have := length_low_val (ok_limbs N)
    rw [val_limbs] at this
    omega)
  clear h
  go_enter Tryd.func14, Tryd.ntmps14
  go_wp2_with fail
  go_loopg [0, 3] N (fun g a s wr => ∃ t : List UInt8, g ≤ N ∧ Arr wr a (limbs g) ∧ s = str t ∧ (low N).reverse = (low g).reverse ++ t ∧ Ext w wr)
  case atStart => exact ⟨[], Nat.le_refl _, HA.out, rfl, by simp, Ext.refl _⟩
  case round =>
    obtain ⟨t, hg, har, rfl, hlow, hext⟩ := hrel
    have HLOW := Lib.hid hlow; clear hlow
    have HAR := Lib.hid har
    obtain ⟨_, A, c, rfl, hc, hm, _⟩ := har.open
    have HM := Lib.hid hm; clear hm
    rcases Nat.eq_zero_or_pos gk with h0 | h0
    · subst h0
      clear hc har
      simp only [limbs_zero, List.length_nil, low_zero, List.reverse_nil, List.nil_append] at HLOW ⊢
      rcases t with _ | ⟨b, t⟩
      · have HD := Lib.hid (show dec N = [48] by rw [low_nil (List.reverse_eq_nil_iff.1 HLOW.out)]; rfl)
        simp only [str]
        go_wp2_with fail
        go_ret
        exact ⟨congrArg (fun l => Ending.returned (str l)) HD.out.symm, hext⟩
      · have HD := Lib.hid (show dec N = b :: t by rw [dec_pos N (by rintro rfl; simp [low_zero] at HLOW; exact absurd HLOW.out (by simp)), HLOW.out])
        simp only [str]
        go_wp2_with fail
        go_ret
        exact ⟨congrArg (fun l => Ending.returned (str l)) HD.out.symm, hext⟩
    · have hlp : 0 < (limbs gk).length := by rw [limbs_pos gk (by omega)]; simp
      have hll := Nat.le_trans (HLEN.out gk hg) HN.out
      clear har hc
      go_wp2_with fail
      have HOF := rof_any wr 10 (by omega)
      rw [show ((10 : Nat) : Int) = 10 from rfl] at HOF
      refine HOF.mono ?_
      rintro e w1 ⟨v1, rfl, ho1, hx1⟩
      go_wp2_with fail
      have HD := rdivmod_any w1 _ v1 (limbs gk) (limbs 10) (HAR.out.ext hx1) ho1.arr (by omega) (by decide) (by rw [val_limbs]; omega)
      rw [val_limbs, val_limbs] at HD
      refine HD.mono ?_
      rintro e w2 ⟨v2, v3, rfl, ho2, har3, hx2⟩
      have HA2 := Lib.hid ho2.arr
      clear ho2 ho1
      have hr10 := Nat.mod_lt gk (show 0 < 10 by omega)
      have hq10 : gk / 10 < gk := by omega
      have HAH := Lib.hid (low_ahead gk (by omega) t)
      obtain ⟨q, hq⟩ : ∃ q, gk / 10 = q := ⟨_, rfl⟩
      obtain ⟨r, hr⟩ : ∃ r, gk % 10 = r := ⟨_, rfl⟩
      rw [hq] at HA2 hq10 HAH
      rw [hr] at har3 hr10 HAH
      clear hq hr
      have HAR3 := Lib.hid har3
      have htl : t.length ≤ 1073741824 := by
        have h1 := congrArg List.length HLOW.out
        rw [List.length_reverse, List.length_append] at h1
        have := HLN.out
        omega
      have hadd := run_add_digit r hr10 t htl
      obtain ⟨dg, hdg⟩ : ∃ dg, UInt8.ofNat (48 + r) = dg := ⟨_, rfl⟩
      rw [hdg] at hadd HAH
      clear hdg
      obtain ⟨_, A3, c3, rfl, hc3, hm3, hcell⟩ := har3.open
      have HM3 := Lib.hid hm3; clear hm3 har3
      rcases Nat.eq_zero_or_pos r with hr0 | hr0
      · subst hr0
        simp only [limbs_zero, List.length_nil]
        clear hcell hc3
        simp only [Nat.zero_add] at hadd
        go_wp2_with fail
        go_roundg q
        case measure => omega
        case rel => exact ⟨_, by omega, HA2.out, rfl, by rw [HLOW.out]; exact HAH.out, hext.trans (hx1.trans hx2)⟩
      · have hlr : limbs r = [r] := by rw [limbs_pos r (by omega), Nat.mod_eq_of_lt (by omega), Nat.div_eq_of_lt (by omega)]; rfl
        rw [hlr] at hcell hc3 ⊢
        obtain ⟨b, o, rfl, hb, hcell⟩ := hcell (by simp)
        have hx := hcell 0 (by simp)
        simp only [List.length_cons, List.length_nil, d32, List.getD_cons_zero, Nat.add_zero] at hx hc3 ⊢
        clear hcell hlr
        go_wp2_with fail
        go_roundg q
        case measure => omega
        case rel => exact ⟨_, by omega, HA2.out, rfl, by rw [HLOW.out]; exact HAH.out, hext.trans (hx1.trans hx2)⟩
end Big
end Go.Proofs.YtdijknnlldjgmaaDoor
