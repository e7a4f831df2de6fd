import Derived.Test.YtaccjdbbkmhanaaGreatDoorM42
import Derived.Lay
import Derived.Test.YtaccjdbbkmhanaaGreatDoorTie
import Derived.Test.YtaccjdbbkmhanaaGreatDoorCards
import Derived.SevenTiedAt
/- PROVED HERE: the card of the law exactreallaw21.GraphExprs: whatever its arguments are, it returns true and the arguments read as they did; under the condition on the listed package-level variables. -/
namespace Go.Proofs.YtaccjdbbkmhanaaGreatDoor.graphExprs
open Go.ChangeShapes Go.WideShapes Go.ChangeAt Go.RowKit
def laids:List (String × DataW Unit):=[("unicode/utf8.acceptRanges",Rows.laid_unicode_utf8_acceptRanges),("unicode/utf8.first",Rows.laid_unicode_utf8_first)]
theorem door_met (os:Os) (args:Array Value):laidMetH Tryz.prog laids ((World.laidAll Tryz.prog os laids).forCall (fun _ _=>0) ⟨#[],args,[]⟩).memory:=by
 rw [MakeChecks.laidMetH_plain _ _ _ (by kernel_rfl)]
 exact laidMet_laidAll _ (by kernel_rfl) (by kernel_rfl)
set_option maxRecDepth 100000 in
theorem lifted (os:Os) (started:os.Started) (H:Type) (enc:TypeId × Value→H):
  ReturnsInHanded {} Tryz.checked os 5 .any (fun w args=>(Rows.graphExprsSpec.pre enc Tryz.prog Tryz.f5 [] false w args∧laidMetH Tryz.prog laids w)∧sizedMet enc Tryz.prog Tryz.f5 (OpenSpec.ofChange Rows.graphExprsSpec) false w args)
   (Rows.graphExprsSpec.post enc Tryz.prog Tryz.f5 false true false false):=by
 refine handed_and_shaped (C:=Tryz.checked) (X:=fun w _=>laidMetH Tryz.prog laids w) (fun _ _ _ hh h=>h.of_heap hh) own started (by kernel_rfl) Tryz.func5
  (ChangeSpec.witness_shaped (enc:=enc) (C:=Tryz.checked) (os:=os) (X:=fun w _=>laidMetH Tryz.prog laids w) false (World.laidAll Tryz.prog os laids) #[.slice none 0 0,.int .i64 0,.int .i64 0] 8 (World.laidAll_os _ _ _) (World.shaped_of_ZipB (by kernel_rfl) (by kernel_rfl)) (by kernel_rfl) (by kernel_rfl) (by kernel_rfl) (door_met os _)) ?_
 intro W base args ds gs before hval0 hW hwt hL hsh
 have hval:∀(j:Nat) t v,Tryz.f5.params[j]? =some t→args[j]? =some v→Value.okWide Tryz.prog W .any base t v:=hval0
 have hW':=hW
 obtain ⟨p,q,hA0,hV,rfl,hfz,hnd⟩:=hW
 have hA:DataW.TrodAll enc Tryz.prog W 0 (fun _=>true) true Tryz.f5.params.toList args.toList ds p:=hA0
 rw [Tryz.params5] at hA hval
 obtain ⟨c0,vs0,e0,ds0,p0,q0,hargs,rfl,rfl,t0,r0⟩:=trodAll_cons hA
 obtain ⟨c1,vs1,e1,ds1,p1,q1,rfl,rfl,rfl,t1,r1⟩:=trodAll_cons r0
 obtain ⟨c2,vs2,e2,ds2,p2,q2,rfl,rfl,rfl,t2,r2⟩:=trodAll_cons r1
 obtain ⟨rfl,rfl,rfl⟩:=trodAll_nil r2
 obtain rfl:args= #[c0,c1,c2]:=by cases args;simp_all
 obtain ⟨l0,h0⟩:=open_nums (hval 0 22 c0 rfl rfl) t0
 obtain ⟨a1,rfl,rfl,rfl,w1⟩:=open_int Tryz.underlying3 (hval 1 3 c1 rfl rfl) t1
 have b1:=bounds_i64 w1
 obtain ⟨a2,rfl,rfl,rfl,w2⟩:=open_int Tryz.underlying3 (hval 2 3 c2 rfl rfl) t2
 have b2:=bounds_i64 w2
 clear hA0 hval0
 refine (Big.graphExprs_any W c0 l0 a1 a2 b1 b2 h0 (Big.maxV_of_shaped hsh)).mono fun e W' ⟨he,hg⟩=> ?_
 subst he
 exact ⟨_,rfl,post_true laid_out (by kernel_rfl) rfl rfl Tryz.underlying4 hW' rfl hg⟩
theorem over:Rows.graphExprsRow.holds Tryz.pinned (OpenSpec.ofChange Rows.graphExprsSpec):=
 OpenClaim.holds_of_wide 5 Tryz.f5 rfl rfl rfl rfl rfl rfl rfl ⟨rfl,rfl,rfl,rfl,rfl⟩ rfl rfl rfl rfl rfl (by kernel_rfl) Tryz.func5 (by kernel_rfl)
  (of_decide_eq_true (by kernel_rfl)) (by unfold Func.isWrapper;first|(rw [if_pos (by decide+kernel)];kernel_rfl)|(rw [if_neg (by decide+kernel)];exact ⟨rfl,rfl⟩))
  (fun os started H enc _=>lifted os started H enc)
theorem card_holds:Rows.GraphExprsCardSaid:=
 Claim7.holds_tied_plain_at .later [] [.data,.pinned] true (true, "deed51678651a1b43fdd5b40ae5ebd209ea2b3d9490bf0ce0578fc060d65b4cc") true
  over (fun _ h=>by cases h) (by kernel_rfl) (fun _ h=>by cases h) graphExprs_row_tie rfl ⟨rfl,rfl⟩ (by kernel_rfl) rfl
  (fun f fn hf hfn=>by
   obtain rfl:f=5:=Option.some.inj ((show Tryz.prog.funcNamed "exactreal/exactreallaw21.GraphExprs" =some 5 by kernel_rfl).symm.trans hf) |>.symm
   obtain rfl:fn=Tryz.f5:=(Option.some.inj (Tryz.func5.symm.trans hfn)).symm
   exact ⟨by kernel_rfl,fun j t ht=>by
    rw [Tryz.params5] at ht
    have hm:t∈[22,3,3]:=by simpa using Array.mem_of_getElem? ht
    have hall:([22,3,3].all fun u=> !Tryz.prog.wantsStandIn u)=true:=by kernel_rfl
    exact (show Tryz.prog.wantsStandIn t=false by simpa using List.all_eq_true.1 hall t hm)⟩)
  (by kernel_rfl)
#print axioms card_holds
end Go.Proofs.YtaccjdbbkmhanaaGreatDoor.graphExprs
