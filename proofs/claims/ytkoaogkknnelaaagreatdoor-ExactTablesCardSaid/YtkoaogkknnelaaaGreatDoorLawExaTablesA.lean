import Derived.Lay
import Derived.Test.YtkoaogkknnelaaaGreatDoorFrNums
import Derived.Test.YtkoaogkknnelaaaGreatDoorTie
import Derived.Test.YtkoaogkknnelaaaGreatDoorCards
import Derived.SevenTiedAt
/- The row of the law, ahead of its card. -/
namespace Go.Proofs.YtkoaogkknnelaaaGreatDoor.exactTables
open Go.ChangeShapes Go.WideShapes Go.ChangeAt Go.RowKit
def laids:List (String × DataW Unit):=[("unicode/utf8.acceptRanges",Rows.laid_unicode_utf8_acceptRanges),("unicode/utf8.first",Rows.laid_unicode_utf8_first)]
theorem door_met (os:Os) (args:Array Value):laidMetH Tryz.prog laids ((World.laidAll Tryz.prog os laids).forCall (fun _ _=>0) ⟨#[],args,[]⟩).memory:=by
 rw [MakeChecks.laidMetH_plain _ _ _ (by kernel_rfl)]
 exact laidMet_laidAll _ (by kernel_rfl) (by kernel_rfl)
set_option maxRecDepth 100000 in
theorem lifted (os:Os) (started:os.Started) (H:Type) (enc:TypeId × Value→H):
  ReturnsInHanded {} Tryz.checked os 5 .any (fun w args=>(Rows.exactTablesSpec.pre enc Tryz.prog Tryz.f5 [] false w args∧laidMetH Tryz.prog laids w)∧sizedMet enc Tryz.prog Tryz.f5 (OpenSpec.ofChange Rows.exactTablesSpec) false w args)
   (Rows.exactTablesSpec.post enc Tryz.prog Tryz.f5 false true false false):=by
 refine GY (C:=Tryz.checked) (X:=fun w _=>laidMetH Tryz.prog laids w) (fun _ _ _ hh h=>h.of_heap hh) own started (by kernel_rfl) Tryz.func5
  (ChangeSpec.witness_shaped (enc:=enc) (C:=Tryz.checked) (os:=os) (X:=fun w _=>laidMetH Tryz.prog laids w) false (World.laidAll Tryz.prog os laids) #[.slice none 0 0,.int .i64 0] 8 (World.laidAll_os _ _ _) (World.shaped_of_ZipB (by kernel_rfl) (by kernel_rfl)) (by kernel_rfl) (by kernel_rfl) (by kernel_rfl) (door_met os _)) ?_
 intro W base args ds gs before hval0 hW hwt hL hsh
 have hval:∀(j:Nat) t v,Tryz.f5.params[j]? =some t→args[j]? =some v→Value.okWide Tryz.prog W .any base t v:=hval0
 have hW':=hW
 obtain ⟨p,q,hA0,hV,rfl,hfz,hnd⟩:=hW
 have hA:DataW.TrodAll enc Tryz.prog W 0 (fun _=>true) true Tryz.f5.params.toList args.toList ds p:=hA0
 rw [Tryz.params5] at hA hval
 obtain ⟨c0,vs0,e0,ds0,p0,q0,hargs,rfl,rfl,t0,r0⟩:=trodAll_cons hA
 obtain ⟨c1,vs1,e1,ds1,p1,q1,rfl,rfl,rfl,t1,r1⟩:=trodAll_cons r0
 obtain ⟨rfl,rfl,rfl⟩:=trodAll_nil r1
 obtain rfl:args= #[c0,c1]:=by cases args;simp_all
 obtain ⟨l0,h0⟩:=Qc (hval 0 41 c0 rfl rfl) t0
 obtain ⟨a1,rfl,rfl,rfl,w1⟩:=open_int Tryz.underlying3 (hval 1 3 c1 rfl rfl) t1
 have b1:=bounds_i64 w1
 clear hA0 hval0
 refine (Big.IV W c0 l0 a1 h0 (Big.JJ hsh)).mono fun e W' ⟨he,hg⟩=> ?_
 subst he
 exact ⟨_,rfl,P5 Sq (by kernel_rfl) rfl rfl Tryz.underlying4 hW' rfl hg⟩
theorem j1:(Rows.exactTablesRow.inPlace == Tryz.pinned.checked.prog.inPlace 5)=true:=by kernel_rfl
theorem j2:(Rows.exactTablesRow.unfollowed == Tryz.pinned.checked.prog.unfollowed 5)=true:=by kernel_rfl
theorem j3:(Rows.exactTablesRow.recurses == Tryz.pinned.checked.prog.recurses 5)=true:=by kernel_rfl
theorem j4:(Rows.exactTablesRow.named == Tryz.pinned.checked.prog.varsNamed 5)=true:=by kernel_rfl
theorem jf:joinedFacts Tryz.pinned.checked.prog 5 Tryz.f5 Rows.exactTablesSpec Rows.exactTablesRow=true:=by
 unfold joinedFacts
 rw [j1,j2,j3,j4]
 kernel_rfl
theorem over:Rows.exactTablesRow.holds Tryz.pinned (OpenSpec.ofChange Rows.exactTablesSpec):=
 OpenClaim.holds_of_wide 5 Tryz.f5 rfl rfl rfl rfl rfl rfl rfl ⟨rfl,rfl,rfl,rfl,rfl⟩ rfl rfl rfl rfl rfl (by kernel_rfl) Tryz.func5 jf
  (of_decide_eq_true (by kernel_rfl)) (by unfold Func.isWrapper;first|(rw [if_pos (by decide+kernel)];kernel_rfl)|(rw [if_neg (by decide+kernel)];exact ⟨rfl,rfl⟩))
  (fun os started H enc _=>lifted os started H enc)
end Go.Proofs.YtkoaogkknnelaaaGreatDoor.exactTables
