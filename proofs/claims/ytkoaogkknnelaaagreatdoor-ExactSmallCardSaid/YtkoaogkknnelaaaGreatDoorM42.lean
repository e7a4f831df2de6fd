import Derived.Test.YtkoaogkknnelaaaGreatDoorM41
import Derived.Lay
import Derived.Test.YtkoaogkknnelaaaGreatDoorTie
import Derived.Test.YtkoaogkknnelaaaGreatDoorCards
import Derived.SevenTiedAt
set_option linter.unusedVariables false
set_option linter.unusedSimpArgs false
set_option maxRecDepth 100000
namespace Go.Proofs.YtkoaogkknnelaaaGreatDoor
open Go.ChangeShapes Go.WideShapes Go.ChangeAt Go.RowKit
theorem Sy:Tryz.prog.cellsOf 24=2:=by kernel_rfl
section
variable {H:Type} {enc:TypeId × Value->H} {W:World} {v:Value} {d:DataW H} {p:List MemPlace} {r:Reach} {b0:Nat}
end
end Go.Proofs.YtkoaogkknnelaaaGreatDoor
namespace Go.Proofs.YtkoaogkknnelaaaGreatDoor
open Go.ChangeShapes Go.WideShapes Go.ChangeAt Go.RowKit
theorem Sx:Tryz.prog.cellsOf 26=3:=by kernel_rfl
theorem OQ:Tryz.prog.cellsOf 22=1:=by kernel_rfl
theorem TM:Tryz.prog.cellsOf 4=1:=by kernel_rfl
section
variable {H:Type} {enc:TypeId × Value->H} {W:World} {v:Value} {d:DataW H} {p:List MemPlace} {r:Reach} {b0:Nat}
theorem Vh{α:Type}{cs:Array α}(h:cs.size=3):∃c0 c1 c2,cs= #[c0,c1,c2]:=by
 obtain⟨l⟩:=cs
 match l,h with
 |[c0,c1,c2],_=>exact⟨c0,c1,c2,rfl⟩
theorem Rz(hv:Value.okWide Tryz.prog W r b0 26 v)(h:DataW.Trod enc Tryz.prog W 0 (fun _=>true) true 26 v d p):∃neg m xs u ys,v= .agg #[.bool neg,m,u]/\Big.Arr W m xs/\Big.Arr W u ys:=by
 obtain⟨cs,rfl,bK⟩:=okWide_struct Tryz.underlying26 hv;obtain⟨c0,c1,c2,rfl⟩:=Vh (bK.trans Sx);obtain⟨fuel,hf⟩:=h;obtain⟨y0,y1,n,_,_,h0,h1⟩:=trod_struct2 Tryz.underlying26 hf;simp only[Sy,OQ,Value.cells]at h0 h1;obtain⟨z0,z1,m,_,_,g0,g1⟩:=trod_struct2 Tryz.underlying24 h0;simp only[TM,OQ]at g0 g1;obtain⟨b,rfl⟩:=Lx (v:=c0) g0;obtain⟨xs,hxs⟩:=Iw (v:=c1) g1;obtain⟨ys,kN⟩:=Iw (v:=c2) h1;exact⟨b,c1,xs,c2,ys,rfl,hxs,kN⟩
end
end Go.Proofs.YtkoaogkknnelaaaGreatDoor
namespace Go.Proofs.YtkoaogkknnelaaaGreatDoor.exactSmall
open Go.ChangeShapes Go.WideShapes Go.ChangeAt Go.RowKit
def KC:List (String × DataW Unit):=[("unicode/utf8.acceptRanges",Rows.laid_unicode_utf8_acceptRanges),("unicode/utf8.first",Rows.laid_unicode_utf8_first)]
theorem Sq(os:Os)(args:Array Value):laidMetH Tryz.prog KC ((World.laidAll Tryz.prog os KC).forCall (fun _ _=>0) ⟨#[],args,[]⟩).memory:=by
 rw[MakeChecks.laidMetH_plain _ _ _ (by kernel_rfl)];exact laidMet_laidAll _ (by kernel_rfl) (by kernel_rfl)
theorem Ut(os:Os)(started:os.Started)(H:Type)(enc:TypeId × Value->H):
  ReturnsInHanded {} Tryz.checked os 3 .any (fun w args=>(Rows.exactSmallSpec.pre enc Tryz.prog Tryz.f3 [] false w args/\laidMetH Tryz.prog KC w)/\sizedMet enc Tryz.prog Tryz.f3 (OpenSpec.ofChange Rows.exactSmallSpec) false w args)
   (Rows.exactSmallSpec.post enc Tryz.prog Tryz.f3 false true false false):=by
 refine GJ (C:=Tryz.checked) (X:=fun w _=>laidMetH Tryz.prog KC w) (fun _ _ _ hh h=>h.of_heap hh) own started (by kernel_rfl) Tryz.func3
  (ChangeSpec.witness_shaped (enc:=enc) (C:=Tryz.checked) (os:=os) (X:=fun w _=>laidMetH Tryz.prog KC w) false (World.laidAll Tryz.prog os KC) #[.int .i64 0,.int .i64 0,.agg #[.bool false,.slice none 0 0,.slice none 0 0]] 8 (World.laidAll_os _ _ _) (World.shaped_of_ZipB (by kernel_rfl) (by kernel_rfl)) (by kernel_rfl) (by kernel_rfl) (by kernel_rfl) (Sq os _)) ?_
 intro W dL args ds gs fL qa hW hwt hL yC;have bd:∀(j:Nat) t v,Tryz.f3.params[j]? =some t->args[j]? =some v->Value.okWide Tryz.prog W .any dL t v:=qa
 have zW:=hW;obtain⟨p,q,XS,hV,rfl,iD,jF⟩:=hW;have hA:DataW.TrodAll enc Tryz.prog W 0 (fun _=>true) true Tryz.f3.params.toList args.toList ds p:=XS;rw[Tryz.params3]at hA bd;obtain⟨c0,vs0,e0,ds0,p0,q0,XG,rfl,rfl,t0,r0⟩:=trodAll_cons hA;obtain⟨c1,vs1,e1,ds1,p1,q1,rfl,rfl,rfl,t1,r1⟩:=trodAll_cons r0;obtain⟨c2,vs2,e2,ds2,p2,q2,rfl,rfl,rfl,t2,r2⟩:=trodAll_cons r1;obtain⟨rfl,rfl,rfl⟩:=trodAll_nil r2;obtain rfl:args= #[c0,c1,c2]:=by cases args;simp_all
 obtain⟨a0,rfl,rfl,rfl,w0⟩:=open_int Tryz.underlying3 (bd 0 3 c0 rfl rfl) t0;have b0:=bounds_i64 w0;obtain⟨a1,rfl,rfl,rfl,w1⟩:=open_int Tryz.underlying3 (bd 1 3 c1 rfl rfl) t1;have b1:=bounds_i64 w1;obtain⟨g2,v2,x2,u2,y2,rfl,h2,k2⟩:=Rz (bd 2 26 c2 rfl rfl) t2;clear XS qa;refine(Big.JK W a0 a1 g2 v2 u2 x2 y2 b0 b1 h2 k2 (Big.Jt yC)).mono fun e W' ⟨he,hg⟩=> ?_
 subst he;exact⟨_,rfl,PO RW (by kernel_rfl) rfl rfl Tryz.underlying4 zW rfl hg⟩
theorem j1:(Rows.exactSmallRow.inPlace == Tryz.pinned.checked.prog.inPlace 3)=true:=by kernel_rfl
theorem j2:(Rows.exactSmallRow.unfollowed == Tryz.pinned.checked.prog.unfollowed 3)=true:=by kernel_rfl
theorem j3:(Rows.exactSmallRow.recurses == Tryz.pinned.checked.prog.recurses 3)=true:=by kernel_rfl
theorem j4:(Rows.exactSmallRow.named == Tryz.pinned.checked.prog.varsNamed 3)=true:=by kernel_rfl
theorem jf:joinedFacts Tryz.pinned.checked.prog 3 Tryz.f3 Rows.exactSmallSpec Rows.exactSmallRow=true:=by
 unfold joinedFacts;rw[j1,j2,j3,j4]
 kernel_rfl
theorem over:Rows.exactSmallRow.holds Tryz.pinned (OpenSpec.ofChange Rows.exactSmallSpec):=
 OpenClaim.holds_of_wide 3 Tryz.f3 rfl rfl rfl rfl rfl rfl rfl ⟨rfl,rfl,rfl,rfl,rfl⟩ rfl rfl rfl rfl rfl (by kernel_rfl) Tryz.func3 jf
  (of_decide_eq_true (by kernel_rfl)) (by unfold Func.isWrapper;first|(rw[if_pos (by decide+kernel)];kernel_rfl)|(rw[if_neg (by decide+kernel)];exact⟨rfl,rfl⟩))
  (fun os started H enc _=>Ut os started H enc)
end Go.Proofs.YtkoaogkknnelaaaGreatDoor.exactSmall
