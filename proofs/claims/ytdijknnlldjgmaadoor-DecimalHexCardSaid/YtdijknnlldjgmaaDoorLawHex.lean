/- PROVED HERE: the card of the law exactreallaw06.DecimalHex: whatever its arguments are, it returns true and the arguments read as they did; under the condition on the listed package-level variables. -/
import Derived.Test.YtdijknnlldjgmaaDoorHexes
import Derived.Test.YtdijknnlldjgmaaDoorLaid
import Derived.Test.YtdijknnlldjgmaaDoorLaidErr
import Derived.Test.YtdijknnlldjgmaaDoorFrame
import Derived.Test.YtdijknnlldjgmaaDoorTie
import Derived.Test.YtdijknnlldjgmaaDoorCards
import Derived.SevenTiedAt
namespace Go.Proofs.YtdijknnlldjgmaaDoor.decimalHex
open Go.ChangeShapes Go.WideShapes Go.ChangeAt Go.RowKit

def laids : List (String × DataW Unit) := [("math/bits.deBruijn32tab", Rows.laid_math_bits_deBruijn32tab), ("math/bits.deBruijn64tab", Rows.laid_math_bits_deBruijn64tab), ("internal/strconv.uint64pow10", Rows.laid_internal_strconv_uint64pow10), ("strconv.ErrRange", Rows.laid_strconv_ErrRange), ("strconv.ErrSyntax", Rows.laid_strconv_ErrSyntax)]
theorem door_met (os : Os) (args : Array Value) : laidMetH Tryd.prog laids ((World.doorLaid Tryd.prog 400 os).forCall (fun _ _ => 0) ⟨#[], args, []⟩).memory :=
  laidMetH_of_parts3 (fuel := 8) (laidMet_of_run' 8 (by kernel_rfl) (by kernel_rfl)) (by kernel_rfl) (by kernel_rfl)

set_option maxRecDepth 100000 in
theorem lifted (os : Os) (started : os.Started) (H : Type) (enc : TypeId × Value → H) :
    ReturnsInHanded {} Tryd.checked os 8 .any (fun w args => (Rows.decimalHexSpec.pre enc Tryd.prog Tryd.f8 [] false w args ∧ laidMetH Tryd.prog laids w) ∧ sizedMet enc Tryd.prog Tryd.f8 (OpenSpec.ofChange Rows.decimalHexSpec) false w args)
      (Rows.decimalHexSpec.post enc Tryd.prog Tryd.f8 false true false false) := by
  refine returnsInHanded_of_change_and (C := Tryd.checked) (X := fun w _ => laidMetH Tryd.prog laids w) (fun _ _ _ hh h => h.of_heap hh) own started (by kernel_rfl) Tryd.func8
    (ChangeSpec.witness_shaped (enc := enc) (C := Tryd.checked) (os := os) (X := fun w _ => laidMetH Tryd.prog laids w) false (World.doorLaid Tryd.prog 400 os) #[.int .u64 0, .string ⟨#[]⟩, .int .i64 0, .int .u8 0] 8 rfl (World.shaped_of_RefB (by kernel_rfl) (by kernel_rfl)) (by kernel_rfl) (by kernel_rfl) (by kernel_rfl) (door_met os _)) ?_
  intro W base args ds gs before hval0 hW _ _ hL _
  have hval : ∀ (j : Nat) t v, Tryd.f8.params[j]? = some t → args[j]? = some v → Value.okWide Tryd.prog W .any base t v := hval0
  have hW' := hW
  obtain ⟨p, q, hA0, hV, rfl, hfz, hnd⟩ := hW
  have hA : DataW.TrodAll enc Tryd.prog W 0 (fun _ => true) true Tryd.f8.params.toList args.toList ds p := hA0
  rw [Tryd.params8] at hA hval
  obtain ⟨c0, vs0, e0, ds0, p0, q0, hargs, rfl, rfl, t0, r0⟩ := trodAll_cons hA
  obtain ⟨c1, vs1, e1, ds1, p1, q1, rfl, rfl, rfl, t1, r1⟩ := trodAll_cons r0
  obtain ⟨c2, vs2, e2, ds2, p2, q2, rfl, rfl, rfl, t2, r2⟩ := trodAll_cons r1
  obtain ⟨c3, vs3, e3, ds3, p3, q3, rfl, rfl, rfl, t3, r3⟩ := trodAll_cons r2
  obtain ⟨rfl, rfl, rfl⟩ := trodAll_nil r3
  obtain rfl : args = #[c0, c1, c2, c3] := by cases args; simp_all
  obtain ⟨z0, rfl, rfl, rfl, w0⟩ := open_int Tryd.underlying48 (hval 0 48 c0 rfl rfl) t0
  obtain ⟨n0, b0, rfl⟩ := u64_of_wf w0
  obtain ⟨s1, rfl, rfl, rfl, y1⟩ := ChangeMaps.open_string Tryd.underlying9 (hval 1 9 c1 rfl rfl) t1
  obtain ⟨l1, b1, rfl⟩ := str_of_bytes y1
  obtain ⟨a2, rfl, rfl, rfl, w2⟩ := open_int Tryd.underlying3 (hval 2 3 c2 rfl rfl) t2
  have b2 := bounds_i64 w2
  obtain ⟨z3, rfl, rfl, rfl, w3⟩ := open_int Tryd.underlying5 (hval 3 5 c3 rfl rfl) t3
  obtain ⟨d3, rfl⟩ := byte_of_wf w3
  clear hA0 hval0
  refine (Big.hexes_any W n0 l1 a2 d3 b0 b2 (tab16_of_laid 1 hL rfl rfl) (errs_of_laid 3 4 hL rfl rfl rfl)).mono fun e W' ⟨he, hg⟩ => ?_
  subst he
  exact ⟨_, rfl, post_true laid_out (by kernel_rfl) rfl rfl Tryd.underlying4 hW' rfl hg⟩

theorem over : Rows.decimalHexRow.holds Tryd.pinned (OpenSpec.ofChange Rows.decimalHexSpec) :=
  OpenClaim.holds_of_wide 8 Tryd.f8 rfl rfl rfl rfl rfl rfl rfl ⟨rfl, rfl, rfl, rfl, rfl⟩ rfl rfl rfl rfl rfl (by kernel_rfl) Tryd.func8 (by kernel_rfl)
    (of_decide_eq_true (by kernel_rfl)) (by unfold Func.isWrapper; first | (rw [if_pos (by decide +kernel)]; kernel_rfl) | (rw [if_neg (by decide +kernel)]; exact ⟨rfl, rfl⟩))
    (fun os started H enc _ => lifted os started H enc)

theorem card_holds : Rows.DecimalHexCardSaid :=
  Claim7.holds_tied_plain_at .later [] [.data, .data, .data, .sentinel, .sentinel] true (true, "0ee50b827f400b76402bb15e98efc53938fc874e57bb250b86ebeb3a1e2e32d6") true
    over (fun _ h => by cases h) (by kernel_rfl) (fun _ h => by cases h) decimalHex_row_tie rfl ⟨rfl, rfl⟩ (by kernel_rfl) rfl
    (fun f fn hf hfn => by
      obtain rfl : f = 8 := Option.some.inj ((show Tryd.prog.funcNamed "exactreal/exactreallaw06.DecimalHex" = some 8 by kernel_rfl).symm.trans hf) |>.symm
      obtain rfl : fn = Tryd.f8 := (Option.some.inj (Tryd.func8.symm.trans hfn)).symm
      exact ⟨by kernel_rfl, fun j t ht => by
        rw [Tryd.params8] at ht
        have hm : t ∈ [48, 9, 3, 5] := by simpa using Array.mem_of_getElem? ht
        have hall : ([48, 9, 3, 5].all fun u => !Tryd.prog.wantsStandIn u) = true := by kernel_rfl
        exact (show Tryd.prog.wantsStandIn t = false by simpa using List.all_eq_true.1 hall t hm)⟩)
    (by kernel_rfl)
#print axioms card_holds
end Go.Proofs.YtdijknnlldjgmaaDoor.decimalHex
