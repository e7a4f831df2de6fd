import Derived.Test.YtkoaogkknnelaaaGreatDoorM42
import Derived.Lay
import Derived.Test.YtkoaogkknnelaaaGreatDoorTie
import Derived.Test.YtkoaogkknnelaaaGreatDoorCards
import Derived.SevenTiedAt
/- The row of the law, ahead of its card. -/
namespace Go.Proofs.YtkoaogkknnelaaaGreatDoor.closureLimits
open Go.ChangeShapes Go.WideShapes Go.ChangeAt Go.RowKit
def laids:List (String × DataW Unit):=[("unicode/utf8.acceptRanges",Rows.laid_unicode_utf8_acceptRanges),("unicode/utf8.first",Rows.laid_unicode_utf8_first)]
theorem door_met (os:Os) (args:Array Value):laidMetH Tryz.prog laids ((World.laidAll Tryz.prog os laids).forCall (fun _ _=>0) ⟨#[],args,[]⟩).memory:=by
 rw [MakeChecks.laidMetH_plain _ _ _ (by kernel_rfl)]
 exact laidMet_laidAll _ (by kernel_rfl) (by kernel_rfl)
set_option maxRecDepth 100000 in
theorem lifted (os:Os) (started:os.Started) (H:Type) (enc:TypeId × Value→H):
  ReturnsInHanded {} Tryz.checked os 10 .any (fun w args=>(Rows.closureLimitsSpec.pre enc Tryz.prog Tryz.f10 [] false w args∧laidMetH Tryz.prog laids w)∧sizedMet enc Tryz.prog Tryz.f10 (OpenSpec.ofChange Rows.closureLimitsSpec) false w args)
   (Rows.closureLimitsSpec.post enc Tryz.prog Tryz.f10 false true false false):=by
 refine BY (C:=Tryz.checked) (X:=fun w _=>laidMetH Tryz.prog laids w) (fun _ _ _ hh h=>h.of_heap hh) own started (by kernel_rfl) Tryz.func10
  (ChangeSpec.witness_shaped (enc:=enc) (C:=Tryz.checked) (os:=os) (X:=fun w _=>laidMetH Tryz.prog laids w) false (World.laidAll Tryz.prog os laids) #[.int .i64 0] 8 (World.laidAll_os _ _ _) (World.shaped_of_ZipB (by kernel_rfl) (by kernel_rfl)) (by kernel_rfl) (by kernel_rfl) (by kernel_rfl) (door_met os _)) ?_
 intro W base args ds gs before hval0 hW hwt hL hsh
 have hval:∀(j:Nat) t v,Tryz.f10.params[j]? =some t→args[j]? =some v→Value.okWide Tryz.prog W .any base t v:=hval0
 have hW':=hW
 obtain ⟨p,q,hA0,hV,rfl,hfz,hnd⟩:=hW
 have hA:DataW.TrodAll enc Tryz.prog W 0 (fun _=>true) true Tryz.f10.params.toList args.toList ds p:=hA0
 rw [Tryz.params10] at hA hval
 obtain ⟨c0,vs0,e0,ds0,p0,q0,hargs,rfl,rfl,t0,r0⟩:=trodAll_cons hA
 obtain ⟨rfl,rfl,rfl⟩:=trodAll_nil r0
 obtain rfl:args= #[c0]:=by cases args;simp_all
 obtain ⟨a0,rfl,rfl,rfl,w0⟩:=open_int Tryz.underlying3 (hval 0 3 c0 rfl rfl) t0
 have b0:=bounds_i64 w0
 clear hA0 hval0
 refine (Big.Hf W a0 b0 (Big.CB hsh)).mono fun e W' ⟨he,hg⟩=> ?_
 subst he
 exact ⟨_,rfl,EW FS (by kernel_rfl) rfl rfl Tryz.underlying4 hW' rfl hg⟩
theorem j1:(Rows.closureLimitsRow.inPlace == Tryz.pinned.checked.prog.inPlace 10)=true:=by kernel_rfl
theorem j2:(Rows.closureLimitsRow.unfollowed == Tryz.pinned.checked.prog.unfollowed 10)=true:=by kernel_rfl
theorem j3:(Rows.closureLimitsRow.recurses == Tryz.pinned.checked.prog.recurses 10)=true:=by kernel_rfl
theorem j4:(Rows.closureLimitsRow.named == Tryz.pinned.checked.prog.varsNamed 10)=true:=by kernel_rfl
theorem jf:joinedFacts Tryz.pinned.checked.prog 10 Tryz.f10 Rows.closureLimitsSpec Rows.closureLimitsRow=true:=by
 unfold joinedFacts
 rw [j1,j2,j3,j4]
 kernel_rfl
theorem over:Rows.closureLimitsRow.holds Tryz.pinned (OpenSpec.ofChange Rows.closureLimitsSpec):=
 OpenClaim.holds_of_wide 10 Tryz.f10 rfl rfl rfl rfl rfl rfl rfl ⟨rfl,rfl,rfl,rfl,rfl⟩ rfl rfl rfl rfl rfl (by kernel_rfl) Tryz.func10 jf
  (of_decide_eq_true (by kernel_rfl)) (by unfold Func.isWrapper;first|(rw [if_pos (by decide+kernel)];kernel_rfl)|(rw [if_neg (by decide+kernel)];exact ⟨rfl,rfl⟩))
  (fun os started H enc _=>lifted os started H enc)
end Go.Proofs.YtkoaogkknnelaaaGreatDoor.closureLimits
