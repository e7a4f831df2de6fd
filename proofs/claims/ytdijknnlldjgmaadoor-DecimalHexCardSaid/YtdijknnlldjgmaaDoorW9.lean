import Derived.Test.YtdijknnlldjgmaaDoorW6
import Derived.Test.YtdijknnlldjgmaaDoorW8
namespace Go.Proofs.YtdijknnlldjgmaaDoor
namespace Big
open Go.RowKit

theorem fits_any (w : World) (v u : Value) (xs ys : List Nat) (h : Arr w v xs) (h' : Arr w u ys) (hn : xs.length ≤ 268435456) (hn' : ys.length ≤ 268435456) (hlt : val xs < val ys * 4294967296) :
    Calls Tryd.prog 49 #[v, u] w fun e w' => e = .returned (.int .u32 ((val xs / val ys : Nat) : Int)) ∧ Ext w w' := by
  have HA := Lib.hid h
  have HB := Lib.hid h'
  have HLT := Lib.hid hlt
  have hok := h.ok
  have hok' := h'.ok
  clear h h' hlt
  go_enter Tryd.func49, Tryd.ntmps49
  go_wp2_with fail
  go_loopw [5, 6] (fun lo hi wr => ∃ l k : Nat, l ≤ k ∧ k ≤ 4294967295 ∧ lo = .int .u64 l ∧ hi = .int .u64 k ∧ val ys * l ≤ val xs ∧ val xs < val ys * (k + 1) ∧ Ext w wr) (fun lo hi _ => (intOf hi - intOf lo).toNat)
  case atStart => exact ⟨0, 4294967295, by omega, by omega, rfl, rfl, by omega, HLT.out, Ext.refl w⟩
  case round =>
    obtain ⟨l, k, hlk, hk, rfl, rfl, h1, h2, hext⟩ := hrel
    have H1 := Lib.hid h1; clear h1
    have H2 := Lib.hid h2; clear h2
    by_cases hlt : l < k
    · obtain ⟨m, hm⟩ : ∃ m, (l + k + 1) / 2 = m := ⟨_, rfl⟩
      have hm1 : l < m := by omega
      have hm2 : m ≤ k := by omega
      have hm3 : m < 4294967296 := by omega
      have HM := Lib.hid (show ((l : Int) + (k : Int) + 1) / 2 = (m : Int) by omega)
      have hM := HM.out
      clear hm
      have HS := Lib.hid (rsmall_any wr u ys m 0 (HB.out.ext hext) (by omega) hm3 (by omega))
      have hlen := length_limbs_mul hok' hm3 (show 0 < 4294967296 by omega)
      have HLEN := Lib.hid (show (limbs (val ys * m + 0)).length ≤ 1073741824 by omega)
      clear hlen
      rw [show ((0 : Nat) : Int) = 0 from rfl] at HS
      go_wp2_with fail
      refine HS.out.mono ?_
      rintro e w1 ⟨v1, rfl, ho, hx1⟩
      go_wp2_with fail
      have HCM := rcmp_any w1 v1 v _ xs ho.arr (HA.out.ext (hext.trans hx1)) HLEN.out (by omega)
      rw [val_limbs, Nat.add_zero] at HCM
      by_cases hc : val ys * m ≤ val xs
      · have hcm : cmpI (val ys * m) (val xs) ≤ 0 := by unfold cmpI; split <;> (try split) <;> omega
        have HC := Lib.hid hc; clear hc
        have HCM := Lib.hid HCM
        generalize cmpI (val ys * m) (val xs) = cc at HCM hcm
        refine HCM.out.mono ?_
        rintro e w2 ⟨rfl, rfl⟩
        go_wp2_with fail
        go_roundw
        case rel => exact ⟨m, k, hm2, hk, by first | rfl | exact congrArg (Value.int .u64) HM.out, rfl, HC.out, H2.out, hext.trans hx1⟩
        case measure => simp [intOf]; have := HM.out; omega
      · have hcm : ¬ cmpI (val ys * m) (val xs) ≤ 0 := by unfold cmpI; split <;> (try split) <;> omega
        have hc2 : val xs < val ys * (m - 1 + 1) := by rw [Nat.sub_add_cancel (by omega)]; omega
        have HC := Lib.hid hc2; clear hc hc2
        have HCM := Lib.hid HCM
        generalize cmpI (val ys * m) (val xs) = cc at HCM hcm
        refine HCM.out.mono ?_
        rintro e w2 ⟨rfl, rfl⟩
        go_wp2_with fail
        go_roundw
        case rel => exact ⟨l, m - 1, by omega, by omega, rfl, congrArg (Value.int .u64) (by have := HM.out; omega), H1.out, HC.out, hext.trans hx1⟩
        case measure => simp [intOf]; have := HM.out; omega
    · obtain rfl : k = l := by omega
      have he := bisect_end H1.out H2.out
      have HE := Lib.hid he; clear he
      go_wp2_with fail
      go_ret
      exact ⟨congrArg (fun z : Nat => Ending.returned (.int .u32 (z : Int))) HE.out, hext⟩
end Big
end Go.Proofs.YtdijknnlldjgmaaDoor
