import Derived.Test.YtkoaogkknnelaaaGreatDoorM41
import Derived.Lay
import Derived.Test.YtkoaogkknnelaaaGreatDoorM42
import Derived.Test.YtkoaogkknnelaaaGreatDoorTie
import Derived.Test.YtkoaogkknnelaaaGreatDoorCards
import Derived.SevenTiedAt
/- The row of the law, ahead of its card. -/
namespace Go.Proofs.YtkoaogkknnelaaaGreatDoor.closureValid
open Go.ChangeShapes Go.WideShapes Go.ChangeAt Go.RowKit
def laids:List (String × DataW Unit):=[("unicode/utf8.acceptRanges",Rows.laid_unicode_utf8_acceptRanges),("unicode/utf8.first",Rows.laid_unicode_utf8_first)]
theorem door_met (os:Os) (args:Array Value):laidMetH Tryz.prog laids ((World.laidAll Tryz.prog os laids).forCall (fun _ _=>0) ⟨#[],args,[]⟩).memory:=by
 rw [MakeChecks.laidMetH_plain _ _ _ (by kernel_rfl)]
 exact laidMet_laidAll _ (by kernel_rfl) (by kernel_rfl)
set_option maxRecDepth 100000 in
theorem lifted (os:Os) (started:os.Started) (H:Type) (enc:TypeId × Value→H):
  ReturnsInHanded {} Tryz.checked os 6 .any (fun w args=>(Rows.closureValidSpec.pre enc Tryz.prog Tryz.f6 [] false w args∧laidMetH Tryz.prog laids w)∧sizedMet enc Tryz.prog Tryz.f6 (OpenSpec.ofChange Rows.closureValidSpec) false w args)
   (Rows.closureValidSpec.post enc Tryz.prog Tryz.f6 false true false false):=by
 refine BY (C:=Tryz.checked) (X:=fun w _=>laidMetH Tryz.prog laids w) (fun _ _ _ hh h=>h.of_heap hh) own started (by kernel_rfl) Tryz.func6
  (ChangeSpec.witness_shaped (enc:=enc) (C:=Tryz.checked) (os:=os) (X:=fun w _=>laidMetH Tryz.prog laids w) false (World.laidAll Tryz.prog os laids) #[.slice none 0 0,.slice none 0 0,.slice none 0 0,.int .i64 0,.int .i64 0,.string ⟨#[]⟩] 8 (World.laidAll_os _ _ _) (World.shaped_of_ZipB (by kernel_rfl) (by kernel_rfl)) (by kernel_rfl) (by kernel_rfl) (by kernel_rfl) (door_met os _)) ?_
 intro W base args ds gs before hval0 hW hwt hL hsh
 have hval:∀(j:Nat) t v,Tryz.f6.params[j]? =some t→args[j]? =some v→Value.okWide Tryz.prog W .any base t v:=hval0
 have hW':=hW
 obtain ⟨p,q,hA0,hV,rfl,hfz,hnd⟩:=hW
 have hA:DataW.TrodAll enc Tryz.prog W 0 (fun _=>true) true Tryz.f6.params.toList args.toList ds p:=hA0
 rw [Tryz.params6] at hA hval
 obtain ⟨c0,vs0,e0,ds0,p0,q0,hargs,rfl,rfl,t0,r0⟩:=trodAll_cons hA
 obtain ⟨c1,vs1,e1,ds1,p1,q1,rfl,rfl,rfl,t1,r1⟩:=trodAll_cons r0
 obtain ⟨c2,vs2,e2,ds2,p2,q2,rfl,rfl,rfl,t2,r2⟩:=trodAll_cons r1
 obtain ⟨c3,vs3,e3,ds3,p3,q3,rfl,rfl,rfl,t3,r3⟩:=trodAll_cons r2
 obtain ⟨c4,vs4,e4,ds4,p4,q4,rfl,rfl,rfl,t4,r4⟩:=trodAll_cons r3
 obtain ⟨c5,vs5,e5,ds5,p5,q5,rfl,rfl,rfl,t5,r5⟩:=trodAll_cons r4
 obtain ⟨rfl,rfl,rfl⟩:=trodAll_nil r5
 obtain rfl:args= #[c0,c1,c2,c3,c4,c5]:=by cases args;simp_all
 obtain ⟨l0,h0⟩:=Dh (hval 0 41 c0 rfl rfl) t0
 obtain ⟨l1,h1⟩:=Dh (hval 1 41 c1 rfl rfl) t1
 obtain ⟨l2,h2,y2⟩:=N1 (hval 2 60 c2 rfl rfl) t2
 obtain ⟨a3,rfl,rfl,rfl,w3⟩:=open_int Tryz.underlying3 (hval 3 3 c3 rfl rfl) t3
 have b3:=bounds_i64 w3
 obtain ⟨a4,rfl,rfl,rfl,w4⟩:=open_int Tryz.underlying3 (hval 4 3 c4 rfl rfl) t4
 have b4:=bounds_i64 w4
 obtain ⟨s5,rfl,rfl,rfl,y5⟩:=ChangeMaps.open_string Tryz.underlying9 (hval 5 9 c5 rfl rfl) t5
 obtain ⟨l5,b5,rfl⟩:=Fc y5
 clear hA0 hval0
 refine (Big.Ia W c0 c1 l0 l1 c2 l2 a3 a4 l5 h2 y2 b3 w4 b5 h0 h1 (Big.CB hsh)).mono fun e W' ⟨he,hg⟩=> ?_
 subst he
 exact ⟨_,rfl,EW FS (by kernel_rfl) rfl rfl Tryz.underlying4 hW' rfl hg⟩
theorem j1:(Rows.closureValidRow.inPlace == Tryz.pinned.checked.prog.inPlace 6)=true:=by kernel_rfl
theorem j2:(Rows.closureValidRow.unfollowed == Tryz.pinned.checked.prog.unfollowed 6)=true:=by kernel_rfl
theorem j3:(Rows.closureValidRow.recurses == Tryz.pinned.checked.prog.recurses 6)=true:=by kernel_rfl
theorem j4:(Rows.closureValidRow.named == Tryz.pinned.checked.prog.varsNamed 6)=true:=by kernel_rfl
theorem jf:joinedFacts Tryz.pinned.checked.prog 6 Tryz.f6 Rows.closureValidSpec Rows.closureValidRow=true:=by
 unfold joinedFacts
 rw [j1,j2,j3,j4]
 kernel_rfl
theorem over:Rows.closureValidRow.holds Tryz.pinned (OpenSpec.ofChange Rows.closureValidSpec):=
 OpenClaim.holds_of_wide 6 Tryz.f6 rfl rfl rfl rfl rfl rfl rfl ⟨rfl,rfl,rfl,rfl,rfl⟩ rfl rfl rfl rfl rfl (by kernel_rfl) Tryz.func6 jf
  (of_decide_eq_true (by kernel_rfl)) (by unfold Func.isWrapper;first|(rw [if_pos (by decide+kernel)];kernel_rfl)|(rw [if_neg (by decide+kernel)];exact ⟨rfl,rfl⟩))
  (fun os started H enc _=>lifted os started H enc)
end Go.Proofs.YtkoaogkknnelaaaGreatDoor.closureValid
