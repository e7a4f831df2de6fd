import Derived.Test.YtgopljllknbelaaGreatDoorM34
import Derived.Test.YtgopljllknbelaaGreatDoorW210
import Derived.Test.YtgopljllknbelaaGreatDoorM32
import Derived.Lay
import Derived.Test.YtgopljllknbelaaGreatDoorM33
import Derived.Test.YtgopljllknbelaaGreatDoorTie
import Derived.Test.YtgopljllknbelaaGreatDoorCards
import Derived.SevenTiedAt
/- PROVED HERE: the card of the law exactreallaw20.PrinterFewest: whatever its arguments are, it returns true and the arguments read as they did; under the condition on the listed package-level variables. -/
namespace Go.Proofs.YtgopljllknbelaaGreatDoor.printerFewest
open Go.ChangeShapes Go.WideShapes Go.ChangeAt Go.RowKit

def laids : List (String × DataW Unit) := [("math/bits.deBruijn32tab", Rows.laid_math_bits_deBruijn32tab), ("math/bits.deBruijn64tab", Rows.laid_math_bits_deBruijn64tab), ("internal/strconv.uint64pow10", Rows.laid_internal_strconv_uint64pow10), ("unicode/utf8.acceptRanges", Rows.laid_unicode_utf8_acceptRanges), ("unicode/utf8.first", Rows.laid_unicode_utf8_first)]
theorem door_met (os : Os) (args : Array Value) : laidMetH Tryz.prog laids ((World.laidAll Tryz.prog os laids).forCall (fun _ _ => 0) ⟨#[], args, []⟩).memory := by
  rw [MakeChecks.laidMetH_plain _ _ _ (by kernel_rfl)]
  exact laidMet_laidAll _ (by kernel_rfl) (by kernel_rfl)

set_option maxRecDepth 100000 in
theorem lifted (os : Os) (started : os.Started) (H : Type) (enc : TypeId × Value → H) :
    ReturnsInHanded {} Tryz.checked os 4 .any (fun w args => (Rows.printerFewestSpec.pre enc Tryz.prog Tryz.f4 [] false w args ∧ laidMetH Tryz.prog laids w) ∧ sizedMet enc Tryz.prog Tryz.f4 (OpenSpec.ofChange Rows.printerFewestSpec) false w args)
      (Rows.printerFewestSpec.post enc Tryz.prog Tryz.f4 false true false false) := by
  refine handed_and_shaped (C := Tryz.checked) (X := fun w _ => laidMetH Tryz.prog laids w) (fun _ _ _ hh h => h.of_heap hh) own started (by kernel_rfl) Tryz.func4
    (ChangeSpec.witness_shaped (enc := enc) (C := Tryz.checked) (os := os) (X := fun w _ => laidMetH Tryz.prog laids w) false (World.laidAll Tryz.prog os laids) #[.slice none 0 0, .int .i64 0] 8 (World.laidAll_os _ _ _) (World.shaped_of_ZipB (by kernel_rfl) (by kernel_rfl)) (by kernel_rfl) (by kernel_rfl) (by kernel_rfl) (door_met os _)) ?_
  intro W base args ds gs before hval0 hW hwt hL hsh
  have hval : ∀ (j : Nat) t v, Tryz.f4.params[j]? = some t → args[j]? = some v → Value.okWide Tryz.prog W .any base t v := hval0
  have hW' := hW
  obtain ⟨p, q, hA0, hV, rfl, hfz, hnd⟩ := hW
  have hA : DataW.TrodAll enc Tryz.prog W 0 (fun _ => true) true Tryz.f4.params.toList args.toList ds p := hA0
  rw [Tryz.params4] at hA hval
  obtain ⟨c0, vs0, e0, ds0, p0, q0, hargs, rfl, rfl, t0, r0⟩ := trodAll_cons hA
  obtain ⟨c1, vs1, e1, ds1, p1, q1, rfl, rfl, rfl, t1, r1⟩ := trodAll_cons r0
  obtain ⟨rfl, rfl, rfl⟩ := trodAll_nil r1
  obtain rfl : args = #[c0, c1] := by cases args; simp_all
  obtain ⟨l0, h0⟩ := open_nums (hval 0 22 c0 rfl rfl) t0
  obtain ⟨a1, rfl, rfl, rfl, w1⟩ := open_int Tryz.underlying3 (hval 1 3 c1 rfl rfl) t1
  have b1 := bounds_i64 w1
  clear hA0 hval0
  refine (Big.printerFewest_any W c0 l0 a1 h0 b1.1 b1.2 (Big.maxV_of_shaped hsh) (pow_of_laid 2 hL rfl rfl)).mono fun e W' ⟨he, hg⟩ => ?_
  subst he
  exact ⟨_, rfl, post_true laid_out (by kernel_rfl) rfl rfl Tryz.underlying4 hW' rfl hg⟩

theorem over : Rows.printerFewestRow.holds Tryz.pinned (OpenSpec.ofChange Rows.printerFewestSpec) :=
  OpenClaim.holds_of_wide 4 Tryz.f4 rfl rfl rfl rfl rfl rfl rfl ⟨rfl, rfl, rfl, rfl, rfl⟩ rfl rfl rfl rfl rfl (by kernel_rfl) Tryz.func4 (by kernel_rfl)
    (of_decide_eq_true (by kernel_rfl)) (by unfold Func.isWrapper; first | (rw [if_pos (by decide +kernel)]; kernel_rfl) | (rw [if_neg (by decide +kernel)]; exact ⟨rfl, rfl⟩))
    (fun os started H enc _ => lifted os started H enc)

theorem card_holds : Rows.PrinterFewestCardSaid :=
  Claim7.holds_tied_plain_at .later [] [.data, .data, .data, .data, .pinned] true (true, "dcf82ae568a81fd7009adb4d76c58cd80f9824c0d401971c200a5d9b7b264ea4") false
    over (fun _ h => by cases h) (by kernel_rfl) (fun _ h => by cases h) printerFewest_row_tie rfl ⟨rfl, rfl⟩ (by kernel_rfl) rfl
    (fun f fn hf hfn => by
      obtain rfl : f = 4 := Option.some.inj ((show Tryz.prog.funcNamed "exactreal/exactreallaw20.PrinterFewest" = some 4 by kernel_rfl).symm.trans hf) |>.symm
      obtain rfl : fn = Tryz.f4 := (Option.some.inj (Tryz.func4.symm.trans hfn)).symm
      exact ⟨by kernel_rfl, fun j t ht => by
        rw [Tryz.params4] at ht
        have hm : t ∈ [22, 3] := by simpa using Array.mem_of_getElem? ht
        have hall : ([22, 3].all fun u => !Tryz.prog.wantsStandIn u) = true := by kernel_rfl
        exact (show Tryz.prog.wantsStandIn t = false by simpa using List.all_eq_true.1 hall t hm)⟩)
    (by kernel_rfl)
#print axioms card_holds
end Go.Proofs.YtgopljllknbelaaGreatDoor.printerFewest
