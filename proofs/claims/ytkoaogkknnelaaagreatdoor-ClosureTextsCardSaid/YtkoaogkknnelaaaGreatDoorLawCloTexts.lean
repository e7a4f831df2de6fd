import Derived.Test.YtkoaogkknnelaaaGreatDoorLawCloTextsA
/- PROVED HERE: the card of the law exactreallaw23.ClosureTexts: whatever its arguments are, it returns true and the arguments read as they did; under the condition on the listed package-level variables. -/
namespace Go.Proofs.YtkoaogkknnelaaaGreatDoor.closureTexts
open Go.ChangeShapes Go.WideShapes Go.ChangeAt Go.RowKit
theorem c1:true=Tryz.pinned.checked.prog.looks []:=by kernel_rfl
theorem c2:false=Rows.closureTextsRow.goesBy Tryz.pinned.checked.prog:=by kernel_rfl
theorem c3:Rows.closureTextsRow.wfByText (OpenSpec.ofChange Rows.closureTextsSpec)=true:=by kernel_rfl
theorem card_holds:Rows.ClosureTextsCardSaid:=
 Claim7.holds_tied_plain_at .later [] [.data,.pinned] true (true, "39e9549cc7ad8def82a62096f5c1e5209c3e8d55357ed9d6f726b7ae821a748b") true
  over (fun _ h=>by cases h) c3 (fun _ h=>by cases h) closureTexts_row_tie rfl ⟨rfl,rfl⟩ (by kernel_rfl) rfl
  (fun f fn hf hfn=>by
   obtain rfl:f=11:=Option.some.inj ((show Tryz.prog.funcNamed "exactreal/exactreallaw23.ClosureTexts" =some 11 by kernel_rfl).symm.trans hf) |>.symm
   obtain rfl:fn=Tryz.f11:=(Option.some.inj (Tryz.func11.symm.trans hfn)).symm
   exact ⟨c1,fun j t ht=>by
    rw [Tryz.params11] at ht
    have hm:t∈[41,41,3]:=by simpa using Array.mem_of_getElem? ht
    have hall:([41,41,3].all fun u=> !Tryz.prog.wantsStandIn u)=true:=by kernel_rfl
    exact (show Tryz.prog.wantsStandIn t=false by simpa using List.all_eq_true.1 hall t hm)⟩)
  c2
#print axioms card_holds
end Go.Proofs.YtkoaogkknnelaaaGreatDoor.closureTexts
