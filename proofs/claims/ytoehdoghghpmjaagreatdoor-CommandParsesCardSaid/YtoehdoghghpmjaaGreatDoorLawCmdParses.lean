import Derived.Test.YtoehdoghghpmjaaGreatDoorM34
import Derived.Test.YtoehdoghghpmjaaGreatDoorM35
import Derived.Lay
import Derived.Test.YtoehdoghghpmjaaGreatDoorTie
import Derived.Test.YtoehdoghghpmjaaGreatDoorCards
import Derived.SevenTiedAt
/- PROVED HERE: the card of the law exactreallaw31.CommandParses: whatever its arguments are, it returns true and the arguments read as they did; under the condition on the listed package-level variables. -/
namespace Go.Proofs.YtoehdoghghpmjaaGreatDoor.commandParses
open Go.ChangeShapes Go.WideShapes Go.ChangeAt Go.RowKit

def laids : List (String × DataW Unit) := [("math/bits.deBruijn32tab", Rows.laid_math_bits_deBruijn32tab), ("math/bits.deBruijn64tab", Rows.laid_math_bits_deBruijn64tab), ("internal/strconv.uint64pow10", Rows.laid_internal_strconv_uint64pow10), ("unicode/utf8.acceptRanges", Rows.laid_unicode_utf8_acceptRanges), ("strconv.ErrRange", Rows.laid_strconv_ErrRange), ("strconv.ErrSyntax", Rows.laid_strconv_ErrSyntax), ("unicode/utf8.first", Rows.laid_unicode_utf8_first)]
theorem door_met (os : Os) (args : Array Value) : laidMetH Tryz.prog laids ((World.laidAll Tryz.prog os laids).forCall (fun _ _ => 0) ⟨#[], args, []⟩).memory := by
  rw [MakeChecks.laidMetH_plain _ _ _ (by kernel_rfl)]
  exact laidMet_laidAll _ (by kernel_rfl) (by kernel_rfl)

set_option maxRecDepth 100000 in
theorem lifted (os : Os) (started : os.Started) (H : Type) (enc : TypeId × Value → H) :
    ReturnsInHanded {} Tryz.checked os 3 .any (fun w args => (Rows.commandParsesSpec.pre enc Tryz.prog Tryz.f3 [] false w args ∧ laidMetH Tryz.prog laids w) ∧ sizedMet enc Tryz.prog Tryz.f3 (OpenSpec.ofChange Rows.commandParsesSpec) false w args)
      (Rows.commandParsesSpec.post enc Tryz.prog Tryz.f3 false true false false) := by
  refine handed_and_shaped (C := Tryz.checked) (X := fun w _ => laidMetH Tryz.prog laids w) (fun _ _ _ hh h => h.of_heap hh) own started (by kernel_rfl) Tryz.func3
    (ChangeSpec.witness_shaped (enc := enc) (C := Tryz.checked) (os := os) (X := fun w _ => laidMetH Tryz.prog laids w) false (World.laidAll Tryz.prog os laids) #[.string ⟨#[]⟩, .slice none 0 0, .int .i64 0, .int .u8 0] 8 (World.laidAll_os _ _ _) (World.shaped_of_ZipB (by kernel_rfl) (by kernel_rfl)) (by kernel_rfl) (by kernel_rfl) (by kernel_rfl) (door_met os _)) ?_
  intro W base args ds gs before hval0 hW hwt hL hsh
  have hval : ∀ (j : Nat) t v, Tryz.f3.params[j]? = some t → args[j]? = some v → Value.okWide Tryz.prog W .any base t v := hval0
  have hW' := hW
  obtain ⟨p, q, hA0, hV, rfl, hfz, hnd⟩ := hW
  have hA : DataW.TrodAll enc Tryz.prog W 0 (fun _ => true) true Tryz.f3.params.toList args.toList ds p := hA0
  rw [Tryz.params3] at hA hval
  obtain ⟨c0, vs0, e0, ds0, p0, q0, hargs, rfl, rfl, t0, r0⟩ := trodAll_cons hA
  obtain ⟨c1, vs1, e1, ds1, p1, q1, rfl, rfl, rfl, t1, r1⟩ := trodAll_cons r0
  obtain ⟨c2, vs2, e2, ds2, p2, q2, rfl, rfl, rfl, t2, r2⟩ := trodAll_cons r1
  obtain ⟨c3, vs3, e3, ds3, p3, q3, rfl, rfl, rfl, t3, r3⟩ := trodAll_cons r2
  obtain ⟨rfl, rfl, rfl⟩ := trodAll_nil r3
  obtain rfl : args = #[c0, c1, c2, c3] := by cases args; simp_all
  obtain ⟨s0, rfl, rfl, rfl, y0⟩ := ChangeMaps.open_string Tryz.underlying9 (hval 0 9 c0 rfl rfl) t0
  obtain ⟨l0, b0, rfl⟩ := str_of_bytes y0
  obtain ⟨l1, h1⟩ := open_nums (hval 1 22 c1 rfl rfl) t1
  obtain ⟨a2, rfl, rfl, rfl, w2⟩ := open_int Tryz.underlying3 (hval 2 3 c2 rfl rfl) t2
  have b2 := bounds_i64 w2
  obtain ⟨z3, rfl, rfl, rfl, w3⟩ := open_int Tryz.underlying5 (hval 3 5 c3 rfl rfl) t3
  obtain ⟨d3, rfl⟩ := byte_of_wf w3
  clear hA0 hval0
  refine (Big.commandParses_any W l0 c1 l1 a2 d3 h1 b2 (Big.maxV_of_shaped hsh) (cmdEnv_of_laid 4 5 2 hL rfl rfl rfl rfl)).mono fun e W' ⟨he, hg⟩ => ?_
  subst he
  exact ⟨_, rfl, post_true laid_out (by kernel_rfl) rfl rfl Tryz.underlying4 hW' rfl hg⟩

theorem over : Rows.commandParsesRow.holds Tryz.pinned (OpenSpec.ofChange Rows.commandParsesSpec) :=
  OpenClaim.holds_of_wide 3 Tryz.f3 rfl rfl rfl rfl rfl rfl rfl ⟨rfl, rfl, rfl, rfl, rfl⟩ rfl rfl rfl rfl rfl (by kernel_rfl) Tryz.func3 (by kernel_rfl)
    (of_decide_eq_true (by kernel_rfl)) (by unfold Func.isWrapper; first | (rw [if_pos (by decide +kernel)]; kernel_rfl) | (rw [if_neg (by decide +kernel)]; exact ⟨rfl, rfl⟩))
    (fun os started H enc _ => lifted os started H enc)

theorem card_holds : Rows.CommandParsesCardSaid :=
  Claim7.holds_tied_plain_at .later [] [.data, .data, .data, .data, .sentinel, .sentinel, .pinned] true (true, "97a42e9e9abbc49125fd0ce86a05a2fd0470b541ac9a66feb5a705b355ff2023") true
    over (fun _ h => by cases h) (by kernel_rfl) (fun _ h => by cases h) commandParses_row_tie rfl ⟨rfl, rfl⟩ (by kernel_rfl) rfl
    (fun f fn hf hfn => by
      obtain rfl : f = 3 := Option.some.inj ((show Tryz.prog.funcNamed "exactreal/exactreallaw31.CommandParses" = some 3 by kernel_rfl).symm.trans hf) |>.symm
      obtain rfl : fn = Tryz.f3 := (Option.some.inj (Tryz.func3.symm.trans hfn)).symm
      exact ⟨by kernel_rfl, fun j t ht => by
        rw [Tryz.params3] at ht
        have hm : t ∈ [9, 22, 3, 5] := by simpa using Array.mem_of_getElem? ht
        have hall : ([9, 22, 3, 5].all fun u => !Tryz.prog.wantsStandIn u) = true := by kernel_rfl
        exact (show Tryz.prog.wantsStandIn t = false by simpa using List.all_eq_true.1 hall t hm)⟩)
    (by kernel_rfl)
#print axioms card_holds
end Go.Proofs.YtoehdoghghpmjaaGreatDoor.commandParses
