import Derived.Test.YtkoaogkknnelaaaGreatDoorM41
import Derived.Lay
import Derived.Test.YtkoaogkknnelaaaGreatDoorTie
import Derived.Test.YtkoaogkknnelaaaGreatDoorCards
import Derived.SevenTiedAt
set_option linter.unusedVariables false
set_option linter.unusedSimpArgs false
set_option maxRecDepth 100000
namespace Go.Proofs.YtkoaogkknnelaaaGreatDoor
open Go.ChangeShapes Go.WideShapes Go.ChangeAt Go.RowKit
theorem Mr:Tryz.prog.cellsOf 3=1:=by kernel_rfl
section
variable {H:Type} {enc:TypeId × Value->H} {W:World} {v:Value} {d:DataW H} {p:List MemPlace} {r:Reach} {b0:Nat}
theorem KO{fuel:Nat}{y:DataW H × List MemPlace}(h:DataW.trod enc Tryz.prog W 0 (fun _=>true) true fuel 41 [v]=some y):∃xs,Big.DV W v xs:=by
 rcases open_ints Tryz.underlying41 Tryz.underlying3 Mr h with ⟨hv,_⟩|⟨a,len,cap,zs,hv,_,hl,hm,hz,_,hc,hw⟩
 ·injection hv with hv
  subst hv;exact⟨[],⟨(fun x hx=>by cases hx),Big.Ch.none_ W⟩⟩
 ·injection hv with hv
  subst hv;simp only[if_true]at hz;refine⟨zs.take len,fun x hx=>bounds_i64 (hw x (List.mem_of_mem_take hx)),some a,cap,by simp;omega,by simp;omega,hm,fun hp=> ?_⟩;simp only[List.length_map,List.length_take]at hp;obtain⟨b,off,rfl,aa⟩:=ints_at hc (by omega);have h0:=aa 0 (by omega);refine⟨b,off,rfl,World.block_lt_of_cell? W _ h0,fun j u hj=> ?_⟩;rw[List.getElem?_map]at hj;have ot:j<len:=by
   rcases Nat.lt_or_ge j len with h|h
   ·exact h
   ·rw[List.getElem?_eq_none (by simp;omega)]at hj;cases hj
  have pe:j<zs.length:=by omega
  rw[List.getElem?_take_of_lt ot,List.getElem?_eq_getElem pe]at hj;injection hj with hj
  subst hj;rw[aa j (by omega)];have e1:zs.getD j 0=zs[j]:=by rw[List.getD_eq_getElem?_getD,List.getElem?_eq_getElem pe];rfl
  rw[e1];rfl
theorem J4(hv:Value.okWide Tryz.prog W r b0 41 v)(h:DataW.Trod enc Tryz.prog W 0 (fun _=>true) true 41 v d p):∃xs,Big.DV W v xs:=by
 obtain⟨a,len,cap,rfl⟩:=okWide_slice Tryz.underlying41 hv;obtain⟨fuel,hf⟩:=h;obtain⟨xs,hxs⟩:=KO (by simpa [Value.cells] using hf);exact⟨xs,hxs⟩
end
end Go.Proofs.YtkoaogkknnelaaaGreatDoor
namespace Go.Proofs.YtkoaogkknnelaaaGreatDoor.exactAlone
open Go.ChangeShapes Go.WideShapes Go.ChangeAt Go.RowKit
def Kd:List (String × DataW Unit):=[("unicode/utf8.acceptRanges",Rows.laid_unicode_utf8_acceptRanges),("unicode/utf8.first",Rows.laid_unicode_utf8_first)]
theorem RP(os:Os)(args:Array Value):laidMetH Tryz.prog Kd ((World.laidAll Tryz.prog os Kd).forCall (fun _ _=>0) ⟨#[],args,[]⟩).memory:=by
 rw[MakeChecks.laidMetH_plain _ _ _ (by kernel_rfl)];exact laidMet_laidAll _ (by kernel_rfl) (by kernel_rfl)
theorem TN(os:Os)(started:os.Started)(H:Type)(enc:TypeId × Value->H):
  ReturnsInHanded {} Tryz.checked os 4 .any (fun w args=>(Rows.exactAloneSpec.pre enc Tryz.prog Tryz.f4 [] false w args/\laidMetH Tryz.prog Kd w)/\sizedMet enc Tryz.prog Tryz.f4 (OpenSpec.ofChange Rows.exactAloneSpec) false w args)
   (Rows.exactAloneSpec.post enc Tryz.prog Tryz.f4 false true false false):=by
 refine Gp (C:=Tryz.checked) (X:=fun w _=>laidMetH Tryz.prog Kd w) (fun _ _ _ hh h=>h.of_heap hh) own started (by kernel_rfl) Tryz.func4
  (ChangeSpec.witness_shaped (enc:=enc) (C:=Tryz.checked) (os:=os) (X:=fun w _=>laidMetH Tryz.prog Kd w) false (World.laidAll Tryz.prog os Kd) #[.slice none 0 0,.slice none 0 0] 8 (World.laidAll_os _ _ _) (World.shaped_of_ZipB (by kernel_rfl) (by kernel_rfl)) (by kernel_rfl) (by kernel_rfl) (by kernel_rfl) (RP os _)) ?_
 intro W eL args ds gs fd oZ hW ZW hL wY;have bj:∀(j:Nat) t v,Tryz.f4.params[j]? =some t->args[j]? =some v->Value.okWide Tryz.prog W .any eL t v:=oZ
 have yp:=hW;obtain⟨p,q,VJ,hV,rfl,gP,jN⟩:=hW;have hA:DataW.TrodAll enc Tryz.prog W 0 (fun _=>true) true Tryz.f4.params.toList args.toList ds p:=VJ;rw[Tryz.params4]at hA bj;obtain⟨c0,ZN,e0,ds0,p0,q0,Vv,rfl,rfl,t0,r0⟩:=trodAll_cons hA;obtain⟨c1,ZM,e1,ds1,p1,q1,rfl,rfl,rfl,t1,r1⟩:=trodAll_cons r0;obtain⟨rfl,rfl,rfl⟩:=trodAll_nil r1;obtain rfl:args= #[c0,c1]:=by cases args;simp_all
 obtain⟨l0,h0⟩:=J4 (bj 0 41 c0 rfl rfl) t0;obtain⟨l1,h1⟩:=J4 (bj 1 41 c1 rfl rfl) t1;clear VJ oZ;refine(Big.Jj W c0 c1 l0 l1 h0 h1 (Big.I2 wY)).mono fun e W' ⟨he,hg⟩=> ?_
 subst he;exact⟨_,rfl,Pw Rt (by kernel_rfl) rfl rfl Tryz.underlying4 yp rfl hg⟩
theorem j1:(Rows.exactAloneRow.inPlace == Tryz.pinned.checked.prog.inPlace 4)=true:=by kernel_rfl
theorem j2:(Rows.exactAloneRow.unfollowed == Tryz.pinned.checked.prog.unfollowed 4)=true:=by kernel_rfl
theorem j3:(Rows.exactAloneRow.recurses == Tryz.pinned.checked.prog.recurses 4)=true:=by kernel_rfl
theorem j4:(Rows.exactAloneRow.named == Tryz.pinned.checked.prog.varsNamed 4)=true:=by kernel_rfl
theorem jf:joinedFacts Tryz.pinned.checked.prog 4 Tryz.f4 Rows.exactAloneSpec Rows.exactAloneRow=true:=by
 unfold joinedFacts;rw[j1,j2,j3,j4]
 kernel_rfl
theorem over:Rows.exactAloneRow.holds Tryz.pinned (OpenSpec.ofChange Rows.exactAloneSpec):=
 OpenClaim.holds_of_wide 4 Tryz.f4 rfl rfl rfl rfl rfl rfl rfl ⟨rfl,rfl,rfl,rfl,rfl⟩ rfl rfl rfl rfl rfl (by kernel_rfl) Tryz.func4 jf
  (of_decide_eq_true (by kernel_rfl)) (by unfold Func.isWrapper;first|(rw[if_pos (by decide+kernel)];kernel_rfl)|(rw[if_neg (by decide+kernel)];exact⟨rfl,rfl⟩))
  (fun os started H enc _=>TN os started H enc)
end Go.Proofs.YtkoaogkknnelaaaGreatDoor.exactAlone
