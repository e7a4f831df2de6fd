import Derived.Test.YtkoaogkknnelaaaGreatDoorLawExaTablesA
/- PROVED HERE: the card of the law exactreallaw22.ExactTables: whatever its arguments are, it returns true and the arguments read as they did; under the condition on the listed package-level variables. -/
namespace Go.Proofs.YtkoaogkknnelaaaGreatDoor.exactTables
open Go.ChangeShapes Go.WideShapes Go.ChangeAt Go.RowKit
theorem c1:true=Tryz.pinned.checked.prog.looks []:=by kernel_rfl
theorem c2:false=Rows.exactTablesRow.goesBy Tryz.pinned.checked.prog:=by kernel_rfl
theorem c3:Rows.exactTablesRow.wfByText (OpenSpec.ofChange Rows.exactTablesSpec)=true:=by kernel_rfl
theorem card_holds:Rows.ExactTablesCardSaid:=
 Claim7.holds_tied_plain_at .later [] [.data,.pinned] true (true, "39e9549cc7ad8def82a62096f5c1e5209c3e8d55357ed9d6f726b7ae821a748b") true
  over (fun _ h=>by cases h) c3 (fun _ h=>by cases h) exactTables_row_tie rfl ⟨rfl,rfl⟩ (by kernel_rfl) rfl
  (fun f fn hf hfn=>by
   obtain rfl:f=5:=Option.some.inj ((show Tryz.prog.funcNamed "exactreal/exactreallaw22.ExactTables" =some 5 by kernel_rfl).symm.trans hf) |>.symm
   obtain rfl:fn=Tryz.f5:=(Option.some.inj (Tryz.func5.symm.trans hfn)).symm
   exact ⟨c1,fun j t ht=>by
    rw [Tryz.params5] at ht
    have hm:t∈[41,3]:=by simpa using Array.mem_of_getElem? ht
    have hall:([41,3].all fun u=> !Tryz.prog.wantsStandIn u)=true:=by kernel_rfl
    exact (show Tryz.prog.wantsStandIn t=false by simpa using List.all_eq_true.1 hall t hm)⟩)
  c2
#print axioms card_holds
end Go.Proofs.YtkoaogkknnelaaaGreatDoor.exactTables
