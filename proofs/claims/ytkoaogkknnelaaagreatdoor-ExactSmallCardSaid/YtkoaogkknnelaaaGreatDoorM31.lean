import Derived.Test.YtkoaogkknnelaaaGreatDoorM30
set_option linter.unusedVariables false
set_option linter.unusedSimpArgs false
set_option maxHeartbeats 8000000
set_option maxRecDepth 100000
namespace Go.Proofs.YtkoaogkknnelaaaGreatDoor
namespace Big
open Lib (hid)
open Go.RowKit
theorem Nu(w:World)(v0:Value)(p:Int)(q:Nat)(h0:Ao w v0 p q)(n0:(Ac p.natAbs).length<=1000000)(m0:(Ac q).length<=1000000)(n:Int)(hn: -64<=n)(nG:n<0)(hp:p=0):
  Calls Tryz.prog 147 #[v0,.int .i64 n] w fun e w'=>∃v',e= .returned (.tuple #[v',.int .i64 2])/\Ag w.heap.size w' v' (0) (0)/\Ext w w':=by
 have H0:=hid h0;have gM:¬n< -64:=by omega
 have mc:¬64<n:=by omega
 have pf:=hid (fun W v u a b=>NA W v 1 1 a (by rw[show (1:Int).natAbs=1 from rfl,C4];simp) (by rw[C4];simp) u p q b n0 m0 hp);have cY:=hid (fun W=>DU W 1 (by decide) (by decide));obtain⟨b0,l0,A0,c0,k0,D0,e0,rfl⟩:=h0.shape;clear h0 n0 m0 hp;go_enter Tryz.func147,Tryz.ntmps147;go_upto_region 1 with fail;have hb0:=((Blk.new w 26 #[.bool b0,.slice A0 l0 c0,.slice D0 k0 e0]).alloc (.cells #[.bool false,.slice none 0 0,.slice none 0 0] 26));have al:=(Blk.new (w.alloc (.cells #[.bool b0,.slice A0 l0 c0,.slice D0 k0 e0] 26)) 26 #[.bool false,.slice none 0 0,.slice none 0 0]);have aq:=(((Ext.refl w).alloc (.cells #[.bool b0,.slice A0 l0 c0,.slice D0 k0 e0] 26)).alloc (.cells #[.bool false,.slice none 0 0,.slice none 0 0] 26));have am:w.heap.size+1+1=((w.alloc (.cells #[.bool b0,.slice A0 l0 c0,.slice D0 k0 e0] 26)).alloc (.cells #[.bool false,.slice none 0 0,.slice none 0 0] 26)).heap.size:=by simp
 simp only[World.size_alloc]at al;generalize (w.alloc (.cells #[.bool b0,.slice A0 l0 c0,.slice D0 k0 e0] 26)).alloc (.cells #[.bool false,.slice none 0 0,.slice none 0 0] 26)=wo at *;have ak:=hid hb0;have ai:=hid al;have HX:=hid aq;have HZ:Hid (w.heap.size+1+1<=wo.heap.size):=hid (by omega);clear aq am hb0 al;have QX:=hid (H0.out.ext HX.out);have av:=ak.out.three;have au:=ai.out.three;go_upto_region 4 with fail
 go_cut [6,7] from 17 to 22 (fun s6 s7 wx=>∃(gx:Nat) (f9:Bool) (g9:Nat) (G9:Option Addr) (j9 y9:Nat) (Y9:Option Addr) (z9:Nat),s6= .pointer (some ⟨gx,0,none⟩)/\s7= .int .i64 2/\Blk wx gx 26 #[.bool f9,.slice G9 g9 j9,.slice Y9 y9 z9]/\Ao wx (.agg #[.bool f9,.slice G9 g9 j9,.slice Y9 y9 z9]) (0) (0)/\Ext wo wx)
 case first=>
  have oO:=hid (Ext.refl wo).drew
  go_region_law (first
   |(go_simp;go_at_call 146;have sf:=a7;refine(pf.out _ _ _ (by first|exact i1.out.arr|exact(i1.out.arr).ext ((Ext.refl _).alloc _)) (by first|exact QX.out.ext ff.out|exact QX.out.ext (ff.out.alloc _))).mono ?_;rintro e w12 ⟨wV,rfl,dk,bE⟩;have nj:=bE.size;(try simp only[World.size_drew,World.size_alloc]at nj);have i1:=hid (by first|exact i1.out.ext bE|exact(i1.out.ext ((Ext.refl _).alloc _)).ext bE);have pH:=hid dk;have fO:Hid (Ext wo w12):=hid (by first|exact ff.out.trans bE|exact(ff.out.alloc _).trans bE);(try (have cP:=cP.ext bE));(try (have cP:=(Blk.new _ 26 #[.bool false,.slice none 0 0,.slice none 0 0]).ext bE));obtain⟨ef,dX,ea,dQ,fS,fY,fR,rfl⟩:=dk.shape;clear dk av au;have av:=(ak.out.ext fO.out).three;have au:=(ai.out.ext fO.out).three;(try (obtain⟨k0,k1,k2,q6,qZ,qY,kz⟩:=cP.three)))
   |(go_simp;go_at_call 59;refine(cY.out _).mono ?_;rintro e eB ⟨x9,rfl,eW,a7⟩;have nk:=a7.size;(try simp only[World.size_drew,World.size_alloc]at nk);have i1:=hid eW;have ff:Hid (Ext wo eB):=hid (by first|exact oO.out.trans a7|exact(oO.out.alloc _).trans a7);(try (have cP:=cP.ext a7));(try (have cP:=(Blk.new _ 26 #[.bool false,.slice none 0 0,.slice none 0 0]).ext a7));(try (have cP:=((Blk.new _ 26 #[.bool false,.slice none 0 0,.slice none 0 0]).drew).ext a7;(try simp only[World.size_drew]at cP)));obtain⟨kE,jI,jQ,jD,kq,kF,kp,rfl⟩:=eW.shape;clear eW av au;have av:=(ak.out.ext ff.out).three;have au:=(ai.out.ext ff.out).three;(try (obtain⟨k0,k1,k2,q6,qZ,qY,kz⟩:=cP.three))))
  all_goals go_wp2_with fail
  all_goals go_meet
  all_goals have zc:=fO.out.size
  all_goals first
   |(have eG:Blk w12 wo.heap.size 26 #[.bool false,.slice none 0 0,.slice none 0 0]:=cP;have hT:=((eG.set_ 0 (.bool ef)).set_ 1 (.slice ea dX dQ)).set_ 2 (.slice fY fS fR);exact⟨_,_,_,_,_,_,_,_,rfl,rfl,hT,(((pH.out.far (a:=⟨wo.heap.size,0,none⟩) (show wo.heap.size<_ by first|omega|(simp<;>omega)) (.bool ef)).far (a:=⟨wo.heap.size,1,none⟩) (show wo.heap.size<_ by first|omega|(simp<;>omega)) (.slice ea dX dQ)).far (a:=⟨wo.heap.size,2,none⟩) (show wo.heap.size<_ by first|omega|(simp<;>omega)) (.slice fY fS fR)).arr,(((fO.out.setCell (p:=⟨wo.heap.size,0,none⟩) (show wo.heap.size<=_ by (try simp only)<;>omega) (.bool ef)).setCell (p:=⟨wo.heap.size,1,none⟩) (show wo.heap.size<=_ by (try simp only)<;>omega) (.slice ea dX dQ)).setCell (p:=⟨wo.heap.size,2,none⟩) (show wo.heap.size<=_ by (try simp only)<;>omega) (.slice fY fS fR))⟩)
   |(have eG:Blk w12 eB.heap.size 26 #[.bool false,.slice none 0 0,.slice none 0 0]:=cP;have u7:=ff.out.size;have hT:=((eG.set_ 0 (.bool ef)).set_ 1 (.slice ea dX dQ)).set_ 2 (.slice fY fS fR);exact⟨_,_,_,_,_,_,_,_,rfl,rfl,hT,(((pH.out.far (a:=⟨eB.heap.size,0,none⟩) (show eB.heap.size<_ by first|omega|(simp<;>omega)) (.bool ef)).far (a:=⟨eB.heap.size,1,none⟩) (show eB.heap.size<_ by first|omega|(simp<;>omega)) (.slice ea dX dQ)).far (a:=⟨eB.heap.size,2,none⟩) (show eB.heap.size<_ by first|omega|(simp<;>omega)) (.slice fY fS fR)).arr,(((fO.out.setCell (p:=⟨eB.heap.size,0,none⟩) (show wo.heap.size<=_ by (try simp only)<;>omega) (.bool ef)).setCell (p:=⟨eB.heap.size,1,none⟩) (show wo.heap.size<=_ by (try simp only)<;>omega) (.slice ea dX dQ)).setCell (p:=⟨eB.heap.size,2,none⟩) (show wo.heap.size<=_ by (try simp only)<;>omega) (.slice fY fS fR))⟩)
   |(have hT:=Blk.new w12 26 #[.bool ef,.slice ea dX dQ,.slice fY fS fR];exact⟨_,_,_,_,_,_,_,_,rfl,rfl,hT,(pH.out.ext ((Ext.refl w12).alloc _)).arr,fO.out.alloc _⟩)
 case rest=>
 clear av au;obtain⟨a14,mm,mj,mF,lV,YP,Y14,YO,rfl,rfl,oc,oa,cn⟩:=hcut;generalize wc=w15 at *;have HX:=hid (HX.out.trans cn);have QX:=hid (QX.out.ext cn);have ak:=hid (ak.out.ext cn);have ai:=hid (ai.out.ext cn);have QY:=hid oa;have BY:=hid oc;clear oa oc cn;have av:=ak.out.three;have au:=ai.out.three;have sD:=BY.out.three;go_wp2_with fail;obtain⟨aj,ac,hr2⟩:=Ah ai.out (.bool false) (.slice none 0 0) (.slice none 0 0);refine bodyPost_ret (v:= .tuple #[.agg #[.bool false,.slice none 0 0,.slice none 0 0],.int .i64 2]) (by simp[results,Tryz.results147,go_sem,aj,ac,hr2]) rfl ?_
 exact⟨_,rfl,Ag.zero _ _,((HX.out.setCell (Nat.le_succ _) _).setCell (Nat.le_succ _) _).setCell (Nat.le_succ _) _⟩
theorem Px(w:World)(v0:Value)(p:Int)(q:Nat)(h0:Ao w v0 p q)(n0:(Ac p.natAbs).length<=1000000)(m0:(Ac q).length<=1000000)(hl:Low p q)(n:Nat)(hn:n<=64)(nG:0<n)(hp:p≠0):
  Calls Tryz.prog 147 #[v0,.int .i64 (-(n:Int))] w fun e w'=>∃v',e= .returned (.tuple #[v',.int .i64 0])/\Ag w.heap.size w' v' (CM p q ^ n) (p.natAbs ^ n)/\Ext w w':=by
 have H0:=hid h0;have tM:IntKind.i64.wrap (- -(n:Int))=(n:Int):=by rw[Int.neg_neg];exact IntWalk.i64_in _ (by omega)
 have hJ: - -(n:Int)=(n:Int):=Int.neg_neg _;have gM:¬-(n:Int)< -64:=by omega
 have mc:¬64< -(n:Int):=by omega
 have tT: -(n:Int)<0:=by omega
 have hdv:IC 1 1 (CM p q) p.natAbs=CM p q/\IB 1 1 (CM p q) p.natAbs=p.natAbs:=by
  have h2:=Ju (Ll hl hp);unfold IC IB;rw[Int.one_mul,Nat.one_mul];exact h2
 have pf:=hid (fun W v u a b=>Kn W v 1 1 a (by rw[show (1:Int).natAbs=1 from rfl,C4];simp) (by rw[C4];simp) u p q b n0 m0 (by decide) hl.1 hp);rw[hdv.1,hdv.2]at pf;have hi:=E8 n0 m0;have lN:=hid (fun W v a=>Kk W v (CM p q) p.natAbs a hi.1 hi.2 n hn);clear hdv hi hl hp;generalize CM p q=P at *;generalize hQ:p.natAbs=Q at *;clear hQ;have cY:=hid (fun W=>DU W 1 (by decide) (by decide));obtain⟨b0,l0,A0,c0,k0,D0,e0,rfl⟩:=h0.shape;clear h0 n0 m0;go_enter Tryz.func147,Tryz.ntmps147;go_upto_region 1 with fail;have hb0:=((Blk.new w 26 #[.bool b0,.slice A0 l0 c0,.slice D0 k0 e0]).alloc (.cells #[.bool false,.slice none 0 0,.slice none 0 0] 26));have al:=(Blk.new (w.alloc (.cells #[.bool b0,.slice A0 l0 c0,.slice D0 k0 e0] 26)) 26 #[.bool false,.slice none 0 0,.slice none 0 0]);have aq:=(((Ext.refl w).alloc (.cells #[.bool b0,.slice A0 l0 c0,.slice D0 k0 e0] 26)).alloc (.cells #[.bool false,.slice none 0 0,.slice none 0 0] 26));have am:w.heap.size+1+1=((w.alloc (.cells #[.bool b0,.slice A0 l0 c0,.slice D0 k0 e0] 26)).alloc (.cells #[.bool false,.slice none 0 0,.slice none 0 0] 26)).heap.size:=by simp
 simp only[World.size_alloc]at al;generalize (w.alloc (.cells #[.bool b0,.slice A0 l0 c0,.slice D0 k0 e0] 26)).alloc (.cells #[.bool false,.slice none 0 0,.slice none 0 0] 26)=wo at *;have ak:=hid hb0;have ai:=hid al;have HX:=hid aq;have HZ:Hid (w.heap.size+1+1<=wo.heap.size):=hid (by omega);clear aq am hb0 al;have QX:=hid (H0.out.ext HX.out);have av:=ak.out.three;have au:=ai.out.three;go_upto_region 4 with fail
 go_cut [6,7] from 17 to 22 (fun s6 s7 wx=>∃(gx:Nat) (f9:Bool) (g9:Nat) (G9:Option Addr) (j9 y9:Nat) (Y9:Option Addr) (z9:Nat),s6= .pointer (some ⟨gx,0,none⟩)/\s7= .int .i64 0/\Blk wx gx 26 #[.bool f9,.slice G9 g9 j9,.slice Y9 y9 z9]/\Ao wx (.agg #[.bool f9,.slice G9 g9 j9,.slice Y9 y9 z9]) (P) (Q)/\Ext wo wx)
 case first=>
  have oO:=hid (Ext.refl wo).drew
  go_region_law (first
   |(go_simp;go_at_call 146;have sf:=a7;refine(pf.out _ _ _ (by first|exact i1.out.arr|exact(i1.out.arr).ext ((Ext.refl _).alloc _)) (by first|exact QX.out.ext ff.out|exact QX.out.ext (ff.out.alloc _))).mono ?_;rintro e w12 ⟨wV,rfl,dk,bE⟩;have nj:=bE.size;(try simp only[World.size_drew,World.size_alloc]at nj);have i1:=hid (by first|exact i1.out.ext bE|exact(i1.out.ext ((Ext.refl _).alloc _)).ext bE);have pH:=hid dk;have fO:Hid (Ext wo w12):=hid (by first|exact ff.out.trans bE|exact(ff.out.alloc _).trans bE);(try (have cP:=cP.ext bE));(try (have cP:=(Blk.new _ 26 #[.bool false,.slice none 0 0,.slice none 0 0]).ext bE));obtain⟨ef,dX,ea,dQ,fS,fY,fR,rfl⟩:=dk.shape;clear dk av au;have av:=(ak.out.ext fO.out).three;have au:=(ai.out.ext fO.out).three;(try (obtain⟨k0,k1,k2,q6,qZ,qY,kz⟩:=cP.three)))
   |(go_simp;go_at_call 59;refine(cY.out _).mono ?_;rintro e eB ⟨x9,rfl,eW,a7⟩;have nk:=a7.size;(try simp only[World.size_drew,World.size_alloc]at nk);have i1:=hid eW;have ff:Hid (Ext wo eB):=hid (by first|exact oO.out.trans a7|exact(oO.out.alloc _).trans a7);(try (have cP:=cP.ext a7));(try (have cP:=(Blk.new _ 26 #[.bool false,.slice none 0 0,.slice none 0 0]).ext a7));(try (have cP:=((Blk.new _ 26 #[.bool false,.slice none 0 0,.slice none 0 0]).drew).ext a7;(try simp only[World.size_drew]at cP)));obtain⟨kE,jI,jQ,jD,kq,kF,kp,rfl⟩:=eW.shape;clear eW av au;have av:=(ak.out.ext ff.out).three;have au:=(ai.out.ext ff.out).three;(try (obtain⟨k0,k1,k2,q6,qZ,qY,kz⟩:=cP.three))))
  all_goals go_wp2_with fail
  all_goals go_meet
  all_goals have zc:=fO.out.size
  all_goals first
   |(have eG:Blk w12 wo.heap.size 26 #[.bool false,.slice none 0 0,.slice none 0 0]:=cP;have hT:=((eG.set_ 0 (.bool ef)).set_ 1 (.slice ea dX dQ)).set_ 2 (.slice fY fS fR);exact⟨_,_,_,_,_,_,_,_,rfl,rfl,hT,(((pH.out.far (a:=⟨wo.heap.size,0,none⟩) (show wo.heap.size<_ by first|omega|(simp<;>omega)) (.bool ef)).far (a:=⟨wo.heap.size,1,none⟩) (show wo.heap.size<_ by first|omega|(simp<;>omega)) (.slice ea dX dQ)).far (a:=⟨wo.heap.size,2,none⟩) (show wo.heap.size<_ by first|omega|(simp<;>omega)) (.slice fY fS fR)).arr,(((fO.out.setCell (p:=⟨wo.heap.size,0,none⟩) (show wo.heap.size<=_ by (try simp only)<;>omega) (.bool ef)).setCell (p:=⟨wo.heap.size,1,none⟩) (show wo.heap.size<=_ by (try simp only)<;>omega) (.slice ea dX dQ)).setCell (p:=⟨wo.heap.size,2,none⟩) (show wo.heap.size<=_ by (try simp only)<;>omega) (.slice fY fS fR))⟩)
   |(have eG:Blk w12 eB.heap.size 26 #[.bool false,.slice none 0 0,.slice none 0 0]:=cP;have u7:=ff.out.size;have hT:=((eG.set_ 0 (.bool ef)).set_ 1 (.slice ea dX dQ)).set_ 2 (.slice fY fS fR);exact⟨_,_,_,_,_,_,_,_,rfl,rfl,hT,(((pH.out.far (a:=⟨eB.heap.size,0,none⟩) (show eB.heap.size<_ by first|omega|(simp<;>omega)) (.bool ef)).far (a:=⟨eB.heap.size,1,none⟩) (show eB.heap.size<_ by first|omega|(simp<;>omega)) (.slice ea dX dQ)).far (a:=⟨eB.heap.size,2,none⟩) (show eB.heap.size<_ by first|omega|(simp<;>omega)) (.slice fY fS fR)).arr,(((fO.out.setCell (p:=⟨eB.heap.size,0,none⟩) (show wo.heap.size<=_ by (try simp only)<;>omega) (.bool ef)).setCell (p:=⟨eB.heap.size,1,none⟩) (show wo.heap.size<=_ by (try simp only)<;>omega) (.slice ea dX dQ)).setCell (p:=⟨eB.heap.size,2,none⟩) (show wo.heap.size<=_ by (try simp only)<;>omega) (.slice fY fS fR))⟩)
   |(have hT:=Blk.new w12 26 #[.bool ef,.slice ea dX dQ,.slice fY fS fR];exact⟨_,_,_,_,_,_,_,_,rfl,rfl,hT,(pH.out.ext ((Ext.refl w12).alloc _)).arr,fO.out.alloc _⟩)
 case rest=>
 clear av au;obtain⟨a14,mm,mj,mF,lV,YP,Y14,YO,rfl,rfl,oc,oa,cn⟩:=hcut;generalize wc=w15 at *;have HX:=hid (HX.out.trans cn);have QX:=hid (QX.out.ext cn);have ak:=hid (ak.out.ext cn);have ai:=hid (ai.out.ext cn);have QY:=hid oa;have BY:=hid oc;clear oa oc cn;have av:=ak.out.three;have au:=ai.out.three;have sD:=BY.out.three;go_wp2_with fail;clear av au sD;have HLB:=hid ai.out.lt;refine(lN.out _ _ QY.out).mono ?_
 rintro e w16 ⟨r15,rfl,rV,dg⟩;have HX:=hid (HX.out.trans dg);have QX:=hid (QX.out.ext dg);have QY:=hid (QY.out.ext dg);have ak:=hid (ak.out.ext dg);have ai:=hid (ai.out.ext dg);have BY:=hid (BY.out.ext dg);have QR:=hid rV;obtain⟨XY,XX,YM,WX,WP,X8,WN,rfl⟩:=rV.shape;clear rV;clear dg;have av:=ak.out.three;have au:=ai.out.three;have sD:=BY.out.three;go_wp2_with fail;obtain⟨aj,ac,hr2⟩:=Ah ai.out (.bool XY) (.slice YM XX WX) (.slice X8 WP WN);refine bodyPost_ret (v:= .tuple #[.agg #[.bool XY,.slice YM XX WX,.slice X8 WP WN],.int .i64 0]) (by simp[results,Tryz.results147,go_sem,aj,ac,hr2]) rfl ?_
 have eP:=HLB.out;exact⟨_,rfl,QR.out.put (by omega) (by omega),((HX.out.setCell (Nat.le_succ _) _).setCell (Nat.le_succ _) _).setCell (Nat.le_succ _) _⟩
open Go.RowKit Go.ChangeMaps
def U6(p:Int)(q:Nat)(n:Int)(w:World)(e:Ending)(w':World):Prop:=
 ∃v' c P Q,e= .returned (.tuple #[v',.int .i64 c])/\Ag 0 w' v' P Q/\Ext w w'/\(Ac P.natAbs).length<=100000/\(Ac Q).length<=100000/\((c=0/\Gv p q n=AJ P Q)\/(c=2/\Gv p q n=X2.U/\P=0/\Q=0))
theorem IJ{p:Int}{L n:Nat}(h:(Ac p.natAbs).length<=32)(hn:n<=64):(Ac (p ^ n).natAbs).length<=100000:=by
 rw[Ii];have:=EQ h n;have:n*32<=64*32:=Nat.mul_le_mul_right _ hn;omega
theorem IK{q n:Nat}(h:(Ac q).length<=32)(hn:n<=64):(Ac (q ^ n)).length<=100000:=by
 have:=EQ h n;have:n*32<=64*32:=Nat.mul_le_mul_right _ hn;omega
theorem T1(w:World)(v:Value)(p:Int)(q:Nat)(h:Ag 0 w v p q)(hp:(Ac p.natAbs).length<=32)(hq:(Ac q).length<=32)(n:Int)(h1: -64<=n)(h2:n<=64):Calls Tryz.prog 217 #[v,.int .i64 n] w (U6 p q n w):=by
 have aE:(Ac 0).length<=100000:=by rw[Bb];exact Nat.zero_le _
 by_cases hn:0<=n
 ·obtain⟨m,rfl⟩:=Int.eq_ofNat_of_zero_le hn;refine(PM w v p q h.arr (by omega) (by omega) m (by omega)).mono ?_
  rintro e w' ⟨v',rfl,hi,hx⟩;exact⟨v',0,_,_,rfl,hi.low0,hx,IJ (L:=0) hp (by omega),IK hq (by omega),.inl ⟨rfl,by unfold Gv;rw[if_pos hn,Int.toNat_natCast]⟩⟩
 ·by_cases hp0:p=0
  ·refine(NG w v p q h.arr (by omega) (by omega) n h1 (by omega) hp0).mono ?_
   rintro e w' ⟨v',rfl,hi,hx⟩;exact⟨v',2,0,0,rfl,hi.low0,hx,aE,aE,.inr ⟨rfl,by unfold Gv;rw[if_neg hn,if_pos hp0],rfl,rfl⟩⟩
  ·obtain⟨m,hm⟩:∃m:Nat,n= -(m:Int):=⟨n.natAbs,by omega⟩;subst hm;refine(PN w v p q h.arr (by omega) (by omega) m (by omega) (by omega) hp0).mono ?_
   rintro e w' ⟨v',rfl,hi,hx⟩;have ax:=E8 hp hq;exact⟨v',0,_,_,rfl,hi.low0,hx,IJ (L:=0) ax.1 (by omega),IK ax.2 (by omega),.inl ⟨rfl,by unfold Gv;rw[if_neg hn,if_neg hp0,Int.neg_neg,Int.toNat_natCast]⟩⟩
theorem UT(w:World)(v:Value)(p:Int)(q:Nat)(h:Ag 0 w v p q)(hp:(Ac p.natAbs).length<=32)(hq:(Ac q).length<=32)(hl:Low p q)(n:Int)(h1: -64<=n)(h2:n<=64):Calls Tryz.prog 147 #[v,.int .i64 n] w (U6 p q n w):=by
 have aE:(Ac 0).length<=100000:=by rw[Bb];exact Nat.zero_le _
 by_cases hn:0<=n
 ·obtain⟨m,rfl⟩:=Int.eq_ofNat_of_zero_le hn;refine(Kk w v p q h.arr (by omega) (by omega) m (by omega)).mono ?_
  rintro e w' ⟨v',rfl,hi,hx⟩;exact⟨v',0,_,_,rfl,hi.low0,hx,IJ (L:=0) hp (by omega),IK hq (by omega),.inl ⟨rfl,by unfold Gv;rw[if_pos hn,Int.toNat_natCast]⟩⟩
 ·by_cases hp0:p=0
  ·refine(Nu w v p q h.arr (by omega) (by omega) n h1 (by omega) hp0).mono ?_
   rintro e w' ⟨v',rfl,hi,hx⟩;exact⟨v',2,0,0,rfl,hi.low0,hx,aE,aE,.inr ⟨rfl,by unfold Gv;rw[if_neg hn,if_pos hp0],rfl,rfl⟩⟩
  ·obtain⟨m,hm⟩:∃m:Nat,n= -(m:Int):=⟨n.natAbs,by omega⟩;subst hm;refine(Px w v p q h.arr (by omega) (by omega) hl m (by omega) (by omega) hp0).mono ?_
   rintro e w' ⟨v',rfl,hi,hx⟩;have ax:=E8 hp hq;exact⟨v',0,_,_,rfl,hi.low0,hx,IJ (L:=0) ax.1 (by omega),IK ax.2 (by omega),.inl ⟨rfl,by unfold Gv;rw[if_neg hn,if_neg hp0,Int.neg_neg,Int.toNat_natCast]⟩⟩
def U4(p:Int)(q:Nat)(w:World)(e:Ending)(w':World):Prop:=
 ∃v' b P Q,e= .returned (.tuple #[v',.bool b])/\Ag 0 w' v' P Q/\Ext w w'/\(Ac P.natAbs).length<=100000/\(Ac Q).length<=100000/\((b=true/\sqX p q=AJ P Q)\/(b=false/\sqX p q=X2.O/\P=0/\Q=0))
theorem T0{p:Int}{q:Nat}(hp:(Ac p.natAbs).length<=32)(hq:(Ac q).length<=32){w w':World}{e:Ending}(h:Ea p q w e w'):U4 p q w e w':=by
 obtain⟨v',hx,⟨r,s,rfl,rfl,rfl,hi⟩|⟨ma,rfl,hi⟩⟩:=h
 ·refine⟨v',true,r,s,rfl,hi.low0,hx,?_,?_,.inl ⟨rfl,IX⟩⟩
  ·rw[Int.natAbs_natCast]at hp ⊢;rcases Nat.eq_zero_or_pos r with h|h
   ·subst h;rw[Bb];exact Nat.zero_le _
   ·have:=Ar (Nat.le_mul_of_pos_left r h);omega
  ·rcases Nat.eq_zero_or_pos s with h|h
   ·subst h;rw[Bb];exact Nat.zero_le _
   ·have:=Ar (Nat.le_mul_of_pos_left s h);omega
 ·exact⟨v',false,0,0,rfl,hi.low0,hx,by rw[Int.natAbs_zero,Bb];exact Nat.zero_le _,by rw[Bb];exact Nat.zero_le _,.inr ⟨rfl,LQ ma,rfl,rfl⟩⟩
structure Op4 (g:Nat) (w:World) (nc xc yc rc:Array Value):Prop where
 n:Blk w g 95 nc
 x:Blk w (g+1) 26 xc
 y:Blk w (g+2) 26 yc
 r:Blk w (g+3) 26 rc
theorem Op4.ext{g:Nat}{w w':World}{nc xc yc rc:Array Value}(h:Op4 g w nc xc yc rc)(hx:Ext w w'):Op4 g w' nc xc yc rc:=⟨h.n.ext hx,h.x.ext hx,h.y.ext hx,h.r.ext hx⟩
theorem Op4.made(w:World)(nc xc yc rc:Array Value):Op4 w.heap.size ((((w.alloc (.cells nc 95)).alloc (.cells xc 26)).alloc (.cells yc 26)).alloc (.cells rc 26)) nc xc yc rc:=by
 have h2:=(Blk.new (w.alloc (.cells nc 95)) 26 xc);have h3:=(Blk.new ((w.alloc (.cells nc 95)).alloc (.cells xc 26)) 26 yc);have h4:=(Blk.new (((w.alloc (.cells nc 95)).alloc (.cells xc 26)).alloc (.cells yc 26)) 26 rc);simp only[World.size_alloc]at h2 h3 h4;exact⟨(((Blk.new w _ nc).alloc _).alloc _).alloc _,(h2.alloc _).alloc _,h3.alloc _,h4⟩
section
variable {g:Nat} {w:World} {n0 n1 n2 n3 n4 x0 x1 x2 y0 y1 y2 r0 r1 r2:Value}
theorem Op4.cells(h:Op4 g w #[n0,n1,n2,n3,n4] #[x0,x1,x2] #[y0,y1,y2] #[r0,r1,r2]):
  (w.cell? ⟨g,0,none⟩=some n0/\w.cell? ⟨g,1,none⟩=some n1/\w.cell? ⟨g,2,none⟩=some n2/\w.cell? ⟨g,3,none⟩=some n3/\w.cell? ⟨g,4,none⟩=some n4)/\
  (w.cell? ⟨g+1,0,none⟩=some x0/\w.cell? ⟨g+1,1,none⟩=some x1/\w.cell? ⟨g+1,2,none⟩=some x2)/\(w.cell? ⟨g+2,0,none⟩=some y0/\w.cell? ⟨g+2,1,none⟩=some y1/\w.cell? ⟨g+2,2,none⟩=some y2)/\
  (w.cell? ⟨g+3,0,none⟩=some r0/\w.cell? ⟨g+3,1,none⟩=some r1/\w.cell? ⟨g+3,2,none⟩=some r2)/\(w.frozen? ⟨g+3,0,none⟩=false/\w.frozen? ⟨g+3,1,none⟩=false/\w.frozen? ⟨g+3,2,none⟩=false)/\g+3<w.heap.size:=
 ⟨⟨h.n.cell 0,h.n.cell 1,h.n.cell 2,h.n.cell 3,h.n.cell 4⟩,⟨h.x.cell 0,h.x.cell 1,h.x.cell 2⟩,⟨h.y.cell 0,h.y.cell 1,h.y.cell 2⟩,⟨h.r.cell 0,h.r.cell 1,h.r.cell 2⟩,⟨h.r.frozen 0,h.r.frozen 1,h.r.frozen 2⟩,h.r.lt⟩
theorem Op4.far{g:Nat}{w:World}{nc xc yc rc:Array Value}(h:Op4 g w nc xc yc rc){a:Addr}(ha:g+3<a.block)(u:Value):Op4 g (w.setCell a u) nc xc yc rc:=⟨h.n.far (by omega) u,h.x.far (by omega) u,h.y.far (by omega) u,h.r.far (by omega) u⟩
theorem FH:(Ac (1:Int).natAbs).length<=1000000/\(Ac 1).length<=1000000:=by
 refine⟨?_,?_⟩<;>decide+kernel
theorem OP(p:Int)(q:Nat):decide (p=(q:Int))=(ED (p*((1:Nat):Int)) (1*(q:Int)) == 0):=by
 rw[show p*((1:Nat):Int)=p by simp,Int.one_mul];unfold ED;by_cases h:p=(q:Int)
 ·subst h;simp
 ·rw[decide_eq_false h];split
  ·rfl
  ·split
   ·rfl
   ·omega
theorem KU.three{g:Nat}{w:World}{cs:Array Value}(hb:Blk w g 26 cs)(a b c:Value):KU w (((w.setCell ⟨g,0,none⟩ a).setCell ⟨g,1,none⟩ b).setCell ⟨g,2,none⟩ c):=by
 have ht:26≠183:=by decide
 exact((KU.set hb ht (a:=⟨g,0,none⟩) rfl a).trans (KU.set (hb.set_ 0 a) ht (a:=⟨g,1,none⟩) rfl b)).trans (KU.set ((hb.set_ 0 a).set_ 1 b) ht (a:=⟨g,2,none⟩) rfl c)
theorem Ext.three{g:Nat}{w0 w:World}(hx:Ext w0 w)(hg:w0.heap.size<=g)(a b c:Value):Ext w0 (((w.setCell ⟨g,0,none⟩ a).setCell ⟨g,1,none⟩ b).setCell ⟨g,2,none⟩ c):=
 ((hx.setCell (p:=⟨g,0,none⟩) hg a).setCell (p:=⟨g,1,none⟩) hg b).setCell (p:=⟨g,2,none⟩) hg c
end
def LG(x:X2)(w:World)(e:Ending)(w':World):Prop:=
 ∃v' st P Q,e= .returned (.tuple #[v',.int .i64 st])/\Ag 0 w' v' P Q/\Ext w w'/\(Ac P.natAbs).length<=100000/\(Ac Q).length<=100000/\((st=1/\x=AJ P Q)\/(st=2/\x=X2.U/\P=0/\Q=0)\/(st=0/\x=X2.O/\P=0/\Q=0))
noncomputable def opX(x:Nd)(p:Int)(q:Nat)(r:Int)(s:Nat):X2:=if 6<=x.kind/\x.kind<=9 then biX x.kind p q r s else unX x.kind x.n p q
theorem Ax:(Ac (0:Int).natAbs).length<=100000/\(Ac 0).length<=100000/\(Ac 1).length<=100000/\(Ac (1:Int).natAbs).length<=100000:=by
 refine⟨?_,?_,?_,?_⟩<;>decide+kernel
def Gf(w:World)(b:Nat)(E:List (Int × Value)):Prop:=∃es clock,w.heap[b]? =some (.map es clock)/\es.toList.map (fun e=>(e.key,e.val))=E.map fun p=>(.int .i64 p.1,p.2)
theorem Gf.made(w:World):Gf (w.alloc (.map #[] 0)) w.heap.size []:=⟨#[],0,(MapKept.heap_alloc w _).1,rfl⟩
theorem EA{n:Int}(hn:(Lit.int .i64 n).wf=true):keyOf Tryz.prog 3 (.int .i64 n)=some (.int .i64 n):=by
 unfold keyOf;rw[Tryz.underlying3];simp[mapKey,Tryz.underlying3,hn]
theorem FI:Maps.Keyed Tryz.prog 3:=Maps.int_keyed Tryz.underlying3
theorem Gf.keys{es:Array MapEntry}{E:List (Int × Value)}(h:es.toList.map (fun e=>(e.key,e.val))=E.map fun p=>((.int .i64 p.1:Value),p.2))(hw:∀p∈E,(Lit.int .i64 p.1).wf=true):∀e∈es.toList,∃l,keyOf Tryz.prog 3 e.key=some l:=by
 intro e he;have h2:(e.key,e.val)∈es.toList.map (fun e=>(e.key,e.val)):=List.mem_map_of_mem he;rw[h]at h2;obtain⟨p,hp,hq⟩:=List.mem_map.1 h2;rw[<-(Prod.mk.inj hq).1];exact⟨_,EA (hw p hp)⟩
theorem Gf.entry{es:Array MapEntry}{E:List (Int × Value)}(h:es.toList.map (fun e=>(e.key,e.val))=E.map fun p=>((.int .i64 p.1:Value),p.2)){e:MapEntry}(he:e∈es.toList):∃p∈E,e.key= .int .i64 p.1/\e.val=p.2:=by
 have h2:(e.key,e.val)∈es.toList.map (fun e=>(e.key,e.val)):=List.mem_map_of_mem he;rw[h]at h2;obtain⟨p,hp,hq⟩:=List.mem_map.1 h2;exact⟨p,hp,(Prod.mk.inj hq).1.symm,(Prod.mk.inj hq).2.symm⟩
theorem Gf.store{w:World}{b:Nat}{E:List (Int × Value)}(h:Gf w b E)(hw:∀p∈E,(Lit.int .i64 p.1).wf=true)(n:Int)(val:Value)(hn:(Lit.int .i64 n).wf=true)(ma:∀p∈E,p.1≠n){t e:TypeId}(ht:Tryz.prog.underlying t=some (.map 3 e)):
  ∃w',(Instr.mapUpdate t (.map (some b)) (.int .i64 n) val).run Tryz.prog w= .ok () w'/\Gf w' b (E++[(n,val)])/\w.grownBy w' (some b):=by
 obtain⟨es,clock,hb,he⟩:=h;rcases FI.find w (EA hn) es.toList (Gf.keys he hw) with ⟨h1,h2⟩|⟨j,e0,h1,h2,h3⟩
 ·refine⟨setBlock w b (.map (es.push ⟨.int .i64 n,val,clock⟩) (clock+1)),?_,⟨_,_,ChangeMaps.heap_setBlock_same hb _,?_⟩,⟨rfl,rfl,rfl,by simp[setBlock],fun i _ hi=>ChangeMaps.heap_setBlock_other hb _ (fun e=>hi (by rw[e]))⟩⟩
  ·simp[Instr.mapUpdate,run_underlying ht,MapKept.run_getObj_map hb,FI.check w false (EA hn),h1,MapKept.run_setObj_map _ hb,Result.andThen,setBlock]
  ·rw[Array.toList_push,List.map_append,he,List.map_append];rfl
 ·obtain⟨p,hp,q1,_⟩:=Gf.entry he (List.mem_of_getElem? h2);rw[h3]at q1;injection q1 with _ q1
  exact absurd q1.symm (ma p hp)
theorem Gf.look{w:World}{b:Nat}{E:List (Int × Value)}(h:Gf w b E)(hw:∀p∈E,(Lit.int .i64 p.1).wf=true)(n:Int)(val:Value)(hin:(n,val)∈E)(hone:∀p∈E,p.1=n->p.2=val){t e:TypeId}(ht:Tryz.prog.underlying t=some (.map 3 e)){z:Value}(hz:(zeroValue e).run Tryz.prog w= .ok z w):
  (Instr.lookup t (.map (some b)) (.int .i64 n) false).run Tryz.prog w= .ok val w:=by
 obtain⟨es,clock,hb,he⟩:=h;have hn:=hw _ hin;rcases FI.find w (EA hn) es.toList (Gf.keys he hw) with ⟨h1,h2⟩|⟨j,e0,h1,h2,h3⟩
 ·have h4:((.int .i64 n:Value),val)∈es.toList.map (fun e=>(e.key,e.val)):=by rw[he];exact List.mem_map.2 ⟨_,hin,rfl⟩
  obtain⟨e,h5,h6⟩:=List.mem_map.1 h4;exact absurd (Prod.mk.inj h6).1 (h2 e h5)
 ·obtain⟨p,hp,q1,q2⟩:=Gf.entry he (List.mem_of_getElem? h2);rw[h3]at q1;injection q1 with _ q1
  have h4:e0.val=val:=q2.trans (hone p hp q1.symm);clear hone hin q1 q2 he hw;simp[h4,Instr.lookup,run_underlying ht,MapKept.run_getObj_map hb,FI.check w _ (EA hn),h1,hz,Result.andThen]
theorem IV(w:World):∃w1 w2 w3,(Instr.mapUpdate 270 (.map (some w.heap.size)) (.int .i64 6) (.func (.func 257) #[] #[])).run Tryz.prog (w.alloc (.map #[] 0))= .ok () w1/\
  (Instr.mapUpdate 270 (.map (some w.heap.size)) (.int .i64 7) (.func (.func 258) #[] #[])).run Tryz.prog w1= .ok () w2/\
  (Instr.mapUpdate 270 (.map (some w.heap.size)) (.int .i64 8) (.func (.func 253) #[] #[])).run Tryz.prog w2= .ok () w3/\
  Gf w3 w.heap.size [(6,.func (.func 257) #[] #[]),(7,.func (.func 258) #[] #[]),(8,.func (.func 253) #[] #[])]/\Ext w w3:=by
 have ht:Tryz.prog.underlying 270=some (.map 3 246):=Tryz.underlying270;obtain⟨w1,r1,m1,g1⟩:=(Gf.made w).store (fun p hp=>by cases hp) 6 (.func (.func 257) #[] #[]) (by decide) (fun p hp=>by cases hp) ht;obtain⟨w2,r2,m2,g2⟩:=m1.store (fun p hp=>by simp only[List.nil_append,List.mem_singleton]at hp;rw[hp];decide) 7 (.func (.func 258) #[] #[]) (by decide) (fun p hp=>by simp only[List.nil_append,List.mem_singleton]at hp;rw[hp];decide) ht;obtain⟨w3,r3,m3,g3⟩:=m2.store (fun p hp=>by simp only[List.nil_append,List.cons_append,List.mem_cons,List.not_mem_nil,or_false]at hp;rcases hp with rfl|rfl<;>decide) 8 (.func (.func 253) #[] #[]) (by decide) (fun p hp=>by simp only[List.nil_append,List.cons_append,List.mem_cons,List.not_mem_nil,or_false]at hp;rcases hp with rfl|rfl<;>decide) ht;refine⟨w1,w2,w3,r1,r2,r3,m3,?_⟩;have hr:∀k,some w.heap.size=some k->w.heap.size<=k:=fun k hk=>by injection hk with hk;omega
 exact((((Ext.refl w).alloc (.map #[] 0)).grown g1 hr).grown g2 hr).grown g3 hr
theorem Ue(w:World):Calls Tryz.prog 221 #[.int .i64 6] w fun e w'=>e= .returned (.func (.func 257) #[] #[])/\Ext w w':=by
 obtain⟨w1,w2,w3,r1,r2,r3,hm,hx⟩:=IV w;have tV:=hm.look (fun p hp=>by simp only[List.mem_cons,List.not_mem_nil,or_false]at hp;rcases hp with rfl|rfl|rfl<;>decide) 6 (.func (.func 257) #[] #[]) (by simp) (fun p hp h=>by simp only[List.mem_cons,List.not_mem_nil,or_false]at hp;rcases hp with rfl|rfl|rfl<;>first|rfl|exact absurd h (by decide)) (t:=270) Tryz.underlying270 (z:= .nilFunc) (by kernel_rfl);have HX:=hid hx;have rE:=run_makeMap (P:=Tryz.prog);clear hm hx;go_enter Tryz.func221,Tryz.ntmps221;go_wp2_with fail;go_ret;exact⟨rfl,HX.out⟩
theorem Ud(w:World):Calls Tryz.prog 221 #[.int .i64 7] w fun e w'=>e= .returned (.func (.func 258) #[] #[])/\Ext w w':=by
 obtain⟨w1,w2,w3,r1,r2,r3,hm,hx⟩:=IV w;have tV:=hm.look (fun p hp=>by simp only[List.mem_cons,List.not_mem_nil,or_false]at hp;rcases hp with rfl|rfl|rfl<;>decide) 7 (.func (.func 258) #[] #[]) (by simp) (fun p hp h=>by simp only[List.mem_cons,List.not_mem_nil,or_false]at hp;rcases hp with rfl|rfl|rfl<;>first|rfl|exact absurd h (by decide)) (t:=270) Tryz.underlying270 (z:= .nilFunc) (by kernel_rfl);have HX:=hid hx;have rE:=run_makeMap (P:=Tryz.prog);clear hm hx;go_enter Tryz.func221,Tryz.ntmps221;go_wp2_with fail;go_ret;exact⟨rfl,HX.out⟩
theorem Uc(w:World):Calls Tryz.prog 221 #[.int .i64 8] w fun e w'=>e= .returned (.func (.func 253) #[] #[])/\Ext w w':=by
 obtain⟨w1,w2,w3,r1,r2,r3,hm,hx⟩:=IV w;have tV:=hm.look (fun p hp=>by simp only[List.mem_cons,List.not_mem_nil,or_false]at hp;rcases hp with rfl|rfl|rfl<;>decide) 8 (.func (.func 253) #[] #[]) (by simp) (fun p hp h=>by simp only[List.mem_cons,List.not_mem_nil,or_false]at hp;rcases hp with rfl|rfl|rfl<;>first|rfl|exact absurd h (by decide)) (t:=270) Tryz.underlying270 (z:= .nilFunc) (by kernel_rfl);have HX:=hid hx;have rE:=run_makeMap (P:=Tryz.prog);clear hm hx;go_enter Tryz.func221,Tryz.ntmps221;go_wp2_with fail;go_ret;exact⟨rfl,HX.out⟩
theorem Er (w:World) (k a b n:Int) (t:Tx) (hk:5<=k/\k<=16) (du: -64<=n) (hn2:n<=64) (jk:k≠10->n=0) (vx vy:Value) (p:Int) (q:Nat) (r:Int) (s:Nat) (hx:Ag 0 w vx p q) (lx:Low p q) (px:(Ac p.natAbs).length<=32) (qx:(Ac q).length<=32)
  (hy:Ag 0 w vy r s) (ly:Low r s) (py:(Ac r.natAbs).length<=32) (qy:(Ac s).length<=32) (gL:k=9->r≠0):
  Calls Tryz.prog 186 #[ndV ⟨k,a,b,n,t⟩,vx,vy] w (LG (opX ⟨k,a,b,n,t⟩ p q r s) w):=by
 have i3:=hid hx;have xy:=hid hy;have eY:=hid (fun W v a=>C1 W v p q a (by omega) (by omega));obtain⟨b0,l0,A0,c0,k0,D0,e0,rfl⟩:=hx.shape;obtain⟨b1,l1,A1,c1,k1,D1,e1,rfl⟩:=hy.shape;obtain⟨t',ht⟩:∃s:ByteArray,str t= .string s:=⟨_,rfl⟩;simp only[ndV,ht];clear hx hy ht;go_enter Tryz.func186,Tryz.ntmps186;go_wp2_with fail;have HB:=hid (Op4.made w #[.int .i64 k,.int .i64 a,.int .i64 b,.int .i64 n,.string t'] #[.bool b0,.slice A0 l0 c0,.slice D0 k0 e0] #[.bool b1,.slice A1 l1 c1,.slice D1 k1 e1] #[.bool false,.slice none 0 0,.slice none 0 0]);have HX:=hid ((((((Ext.refl w).alloc (.cells #[.int .i64 k,.int .i64 a,.int .i64 b,.int .i64 n,.string t'] 95)).alloc (.cells #[.bool b0,.slice A0 l0 c0,.slice D0 k0 e0] 26)).alloc (.cells #[.bool b1,.slice A1 l1 c1,.slice D1 k1 e1] 26)).alloc (.cells #[.bool false,.slice none 0 0,.slice none 0 0] 26)));generalize (((w.alloc (.cells #[.int .i64 k,.int .i64 a,.int .i64 b,.int .i64 n,.string t'] 95)).alloc (.cells #[.bool b0,.slice A0 l0 c0,.slice D0 k0 e0] 26)).alloc (.cells #[.bool b1,.slice A1 l1 c1,.slice D1 k1 e1] 26)).alloc (.cells #[.bool false,.slice none 0 0,.slice none 0 0] 26)=wo at *;refine(eY.out _ _ (i3.out.arr.ext HX.out)).mono ?_
 rintro e w1 ⟨rfl,ag⟩;have HB:=hid (HB.out.ext ag);have HX:=hid (HX.out.trans ag);clear ag;obtain⟨zb,eS⟩:∃zb,(sgZ p == 0)=zb:=⟨_,rfl⟩;have tW:k=5\/k=6\/k=7\/k=8\/k=9\/k=10\/k=11\/k=12\/k=13\/k=14\/k=15\/k=16:=by omega
 rcases tW with rfl|rfl|rfl|rfl|rfl|rfl|rfl|rfl|rfl|rfl|rfl|rfl
 ·obtain⟨⟨an,b9,b7,bZ,bX⟩,⟨bQ,bP,bO⟩,⟨bT,bS,bR⟩,⟨bW,bV,bU⟩,⟨cj,ch,cg⟩,cd⟩:=HB.out.cells;go_wp2_with fail;clear an b9 b7 bZ bX bQ bP bO bT bS bR bW bV bU cj ch cg cd;refine(Ml _ _ p q (i3.out.arr.ext HX.out) (by omega) (by omega)).mono ?_
  rintro e w2 ⟨v2,rfl,ax,ae⟩;have HB:=hid (HB.out.ext ae);have HX:=hid (HX.out.trans ae);have R2:=hid ax;obtain⟨f2,g2,G2,j2,y2,Y2,z2,rfl⟩:=ax.shape;clear ax;clear ae;obtain⟨⟨an,b9,b7,bZ,bX⟩,⟨bQ,bP,bO⟩,⟨bT,bS,bR⟩,⟨bW,bV,bU⟩,⟨cj,ch,cg⟩,cd⟩:=HB.out.cells;go_wp2_with fail;obtain⟨aj,ac,hr2⟩:=Ah HB.out.r (.bool f2) (.slice G2 g2 j2) (.slice Y2 y2 z2);refine bodyPost_ret (v:= .tuple #[.agg #[.bool f2,.slice G2 g2 j2,.slice Y2 y2 z2],.int .i64 1]) (by simp[results,Tryz.results186,go_sem,aj,ac,hr2]) rfl ?_
  exact⟨_,1,_,_,rfl,R2.out.low0.ku (KU.three HB.out.r _ _ _),HX.out.three (show w.heap.size<=w.heap.size+3 by omega) _ _ _,by rw[Int.natAbs_neg];omega,by omega,.inl ⟨rfl,by simp[opX,unX]⟩⟩
 ·have bK:=KW px qx py qy;have hne:∀W,(binOp .neq 246 (.func (.func 257) #[] #[]) .nilFunc).run Tryz.prog W= .ok (.bool true) W:=fun W=>by kernel_rfl
  obtain⟨⟨an,b9,b7,bZ,bX⟩,⟨bQ,bP,bO⟩,⟨bT,bS,bR⟩,⟨bW,bV,bU⟩,⟨cj,ch,cg⟩,cd⟩:=HB.out.cells;go_wp2_with fail;clear an b9 b7 bZ bX bQ bP bO bT bS bR bW bV bU cj ch cg cd;refine(Ue _).mono ?_
  rintro e w2 ⟨rfl,ae⟩;have HB:=hid (HB.out.ext ae);have HX:=hid (HX.out.trans ae);clear ae;obtain⟨⟨an,b9,b7,bZ,bX⟩,⟨bQ,bP,bO⟩,⟨bT,bS,bR⟩,⟨bW,bV,bU⟩,⟨cj,ch,cg⟩,cd⟩:=HB.out.cells;go_wp2_with fail;clear an b9 b7 bZ bX bQ bP bO bT bS bR bW bV bU cj ch cg cd;refine(MP _ _ p q (i3.out.arr.ext HX.out) (by omega) (by omega) _ r s (xy.out.arr.ext HX.out) (by omega) (by omega) lx.1 ly.1).mono ?_
  rintro e w3 ⟨v3,rfl,cB,ae⟩;have HB:=hid (HB.out.ext ae);have HX:=hid (HX.out.trans ae);have R3:=hid cB;obtain⟨f3,g3,G3,j3,y3,Y3,z3,rfl⟩:=cB.shape;clear cB;clear ae;obtain⟨⟨an,b9,b7,bZ,bX⟩,⟨bQ,bP,bO⟩,⟨bT,bS,bR⟩,⟨bW,bV,bU⟩,⟨cj,ch,cg⟩,cd⟩:=HB.out.cells;go_wp2_with fail;obtain⟨aj,ac,hr2⟩:=Ah HB.out.r (.bool f3) (.slice G3 g3 j3) (.slice Y3 y3 z3);refine bodyPost_ret (v:= .tuple #[.agg #[.bool f3,.slice G3 g3 j3,.slice Y3 y3 z3],.int .i64 1]) (by simp[results,Tryz.results186,go_sem,aj,ac,hr2]) rfl ?_
  exact⟨_,1,_,_,rfl,R3.out.low0.ku (KU.three HB.out.r _ _ _),HX.out.three (show w.heap.size<=w.heap.size+3 by omega) _ _ _,by omega,by omega,.inl ⟨rfl,by simp[opX,biX]⟩⟩
 ·have bK:=KW px qx (QU py) qy;have hne:∀W,(binOp .neq 246 (.func (.func 258) #[] #[]) .nilFunc).run Tryz.prog W= .ok (.bool true) W:=fun W=>by kernel_rfl
  obtain⟨⟨an,b9,b7,bZ,bX⟩,⟨bQ,bP,bO⟩,⟨bT,bS,bR⟩,⟨bW,bV,bU⟩,⟨cj,ch,cg⟩,cd⟩:=HB.out.cells;go_wp2_with fail;clear an b9 b7 bZ bX bQ bP bO bT bS bR bW bV bU cj ch cg cd;refine(Ud _).mono ?_
  rintro e w2 ⟨rfl,ae⟩;have HB:=hid (HB.out.ext ae);have HX:=hid (HX.out.trans ae);clear ae;obtain⟨⟨an,b9,b7,bZ,bX⟩,⟨bQ,bP,bO⟩,⟨bT,bS,bR⟩,⟨bW,bV,bU⟩,⟨cj,ch,cg⟩,cd⟩:=HB.out.cells;go_wp2_with fail;clear an b9 b7 bZ bX bQ bP bO bT bS bR bW bV bU cj ch cg cd;refine(Q1 _ _ p q (i3.out.arr.ext HX.out) (by omega) (by omega) _ r s (xy.out.arr.ext HX.out) (by omega) (by omega) lx.1 ly.1).mono ?_
  rintro e w3 ⟨v3,rfl,cB,ae⟩;have HB:=hid (HB.out.ext ae);have HX:=hid (HX.out.trans ae);have R3:=hid cB;obtain⟨f3,g3,G3,j3,y3,Y3,z3,rfl⟩:=cB.shape;clear cB;clear ae;obtain⟨⟨an,b9,b7,bZ,bX⟩,⟨bQ,bP,bO⟩,⟨bT,bS,bR⟩,⟨bW,bV,bU⟩,⟨cj,ch,cg⟩,cd⟩:=HB.out.cells;go_wp2_with fail;obtain⟨aj,ac,hr2⟩:=Ah HB.out.r (.bool f3) (.slice G3 g3 j3) (.slice Y3 y3 z3);refine bodyPost_ret (v:= .tuple #[.agg #[.bool f3,.slice G3 g3 j3,.slice Y3 y3 z3],.int .i64 1]) (by simp[results,Tryz.results186,go_sem,aj,ac,hr2]) rfl ?_
  exact⟨_,1,_,_,rfl,R3.out.low0.ku (KU.three HB.out.r _ _ _),HX.out.three (show w.heap.size<=w.heap.size+3 by omega) _ _ _,by omega,by omega,.inl ⟨rfl,by simp[opX,biX]⟩⟩
 ·have bK:=KV px qx py qy;have hne:∀W,(binOp .neq 246 (.func (.func 253) #[] #[]) .nilFunc).run Tryz.prog W= .ok (.bool true) W:=fun W=>by kernel_rfl
  obtain⟨⟨an,b9,b7,bZ,bX⟩,⟨bQ,bP,bO⟩,⟨bT,bS,bR⟩,⟨bW,bV,bU⟩,⟨cj,ch,cg⟩,cd⟩:=HB.out.cells;go_wp2_with fail;clear an b9 b7 bZ bX bQ bP bO bT bS bR bW bV bU cj ch cg cd;refine(Uc _).mono ?_
  rintro e w2 ⟨rfl,ae⟩;have HB:=hid (HB.out.ext ae);have HX:=hid (HX.out.trans ae);clear ae;obtain⟨⟨an,b9,b7,bZ,bX⟩,⟨bQ,bP,bO⟩,⟨bT,bS,bR⟩,⟨bW,bV,bU⟩,⟨cj,ch,cg⟩,cd⟩:=HB.out.cells;go_wp2_with fail;clear an b9 b7 bZ bX bQ bP bO bT bS bR bW bV bU cj ch cg cd;refine(Mn _ _ p q (i3.out.arr.ext HX.out) (by omega) (by omega) _ r s (xy.out.arr.ext HX.out) (by omega) (by omega) lx.1 ly.1).mono ?_
  rintro e w3 ⟨v3,rfl,cB,ae⟩;have HB:=hid (HB.out.ext ae);have HX:=hid (HX.out.trans ae);have R3:=hid cB;obtain⟨f3,g3,G3,j3,y3,Y3,z3,rfl⟩:=cB.shape;clear cB;clear ae;obtain⟨⟨an,b9,b7,bZ,bX⟩,⟨bQ,bP,bO⟩,⟨bT,bS,bR⟩,⟨bW,bV,bU⟩,⟨cj,ch,cg⟩,cd⟩:=HB.out.cells;go_wp2_with fail;obtain⟨aj,ac,hr2⟩:=Ah HB.out.r (.bool f3) (.slice G3 g3 j3) (.slice Y3 y3 z3);refine bodyPost_ret (v:= .tuple #[.agg #[.bool f3,.slice G3 g3 j3,.slice Y3 y3 z3],.int .i64 1]) (by simp[results,Tryz.results186,go_sem,aj,ac,hr2]) rfl ?_
  exact⟨_,1,_,_,rfl,R3.out.low0.ku (KU.three HB.out.r _ _ _),HX.out.three (show w.heap.size<=w.heap.size+3 by omega) _ _ _,by omega,by omega,.inl ⟨rfl,by simp[opX,biX]⟩⟩
 ·obtain rfl:n=0:=jk (by decide);clear jk;have hr:=gL rfl;clear gL;have bK:=KV px qx (E8 py qy).1 (E8 py qy).2;obtain⟨⟨an,b9,b7,bZ,bX⟩,⟨bQ,bP,bO⟩,⟨bT,bS,bR⟩,⟨bW,bV,bU⟩,⟨cj,ch,cg⟩,cd⟩:=HB.out.cells;go_wp2_with fail;clear an b9 b7 bZ bX bQ bP bO bT bS bR bW bV bU cj ch cg cd;refine(T1 _ _ p q (i3.out.ext HX.out) px qx 0 (by decide) (by decide)).mono ?_
  rintro e w2 ⟨v2,c2,P,Q,rfl,ax,ae,hP,hQ,eT⟩;have HB:=hid (HB.out.ext ae);have HX:=hid (HX.out.trans ae);have R2:=hid ax;obtain⟨f2,g2,G2,j2,y2,Y2,z2,rfl⟩:=ax.shape;clear ax;clear ae;clear hP hQ eT;obtain⟨⟨an,b9,b7,bZ,bX⟩,⟨bQ,bP,bO⟩,⟨bT,bS,bR⟩,⟨bW,bV,bU⟩,⟨cj,ch,cg⟩,cd⟩:=HB.out.cells;go_upto_region 11 with fail;clear an b9 b7 bZ bX bQ bP bO bT bS bR bW bV bU cj ch cg cd;have fK:=HB.out.r.lt;have hb:=Blk.new w2 26 #[.bool f2,.slice G2 g2 j2,.slice Y2 y2 z2];have fl:=(Ext.refl w2).alloc (.cells #[.bool f2,.slice G2 g2 j2,.slice Y2 y2 z2] 26);generalize w2.alloc (.cells #[.bool f2,.slice G2 g2 j2,.slice Y2 y2 z2] 26)=wa at *;have ey:=hid hb;have HB:=hid (HB.out.ext fl);have HX:=hid (HX.out.trans fl);have R2:=hid (R2.out.ext fl);have jP:=hid fK;generalize w2.heap.size=ap at *;clear hb fl fK;obtain⟨⟨an,b9,b7,bZ,bX⟩,⟨bQ,bP,bO⟩,⟨bT,bS,bR⟩,⟨bW,bV,bU⟩,⟨cj,ch,cg⟩,cd⟩:=HB.out.cells;have ks:=ey.out.three;go_wp2_with fail;clear an b9 b7 bZ bX bQ bP bO bT bS bR bW bV bU cj ch cg cd;refine(Ss _ _ p q (i3.out.arr.ext HX.out) (by omega) (by omega) _ r s (xy.out.arr.ext HX.out) (by omega) (by omega) lx.1 hr).mono ?_
  rintro e w4 ⟨v4,rfl,fi,ae⟩;have HB:=hid (HB.out.ext ae);have HX:=hid (HX.out.trans ae);have R4:=hid fi;obtain⟨f4,g4,G4,j4,y4,Y4,z4,rfl⟩:=fi.shape;clear fi;have ey:=hid (ey.out.ext ae);clear ae;clear ks;obtain⟨⟨an,b9,b7,bZ,bX⟩,⟨bQ,bP,bO⟩,⟨bT,bS,bR⟩,⟨bW,bV,bU⟩,⟨cj,ch,cg⟩,cd⟩:=HB.out.cells;have ks:=ey.out.three;go_upto_region 13 with fail;have hpb:=((ey.out.set_ 0 (.bool f4)).set_ 1 (.slice G4 g4 j4)).set_ 2 (.slice Y4 y4 z4);have dK:=((HB.out.far (a:=⟨ap,0,none⟩) jP.out (.bool f4)).far (a:=⟨ap,1,none⟩) jP.out (.slice G4 g4 j4)).far (a:=⟨ap,2,none⟩) jP.out (.slice Y4 y4 z4);have ny:=R4.out.low0.ku (KU.three ey.out (.bool f4) (.slice G4 g4 j4) (.slice Y4 y4 z4));have aH:=HX.out.three (g:=ap) (by have:=jP.out;omega) (.bool f4) (.slice G4 g4 j4) (.slice Y4 y4 z4);generalize ((w4.setCell ⟨ap,0,none⟩ (.bool f4)).setCell ⟨ap,1,none⟩ (.slice G4 g4 j4)).setCell ⟨ap,2,none⟩ (.slice Y4 y4 z4)=w5 at *;have ey:=hid hpb;have HB:=hid dK;have R4:=hid ny;have HX:=hid aH;clear hpb dK ny aH ks;clear an b9 b7 bZ bX bQ bP bO bT bS bR bW bV bU cj ch cg cd;have ks:=ey.out.three;obtain⟨⟨an,b9,b7,bZ,bX⟩,⟨bQ,bP,bO⟩,⟨bT,bS,bR⟩,⟨bW,bV,bU⟩,⟨cj,ch,cg⟩,cd⟩:=HB.out.cells;go_wp2_with fail;obtain⟨aj,ac,hr2⟩:=Ah HB.out.r (.bool f4) (.slice G4 g4 j4) (.slice Y4 y4 z4);refine bodyPost_ret (v:= .tuple #[.agg #[.bool f4,.slice G4 g4 j4,.slice Y4 y4 z4],.int .i64 1]) (by simp[results,Tryz.results186,go_sem,aj,ac,hr2]) rfl ?_
  exact⟨_,1,_,_,rfl,R4.out.low0.ku (KU.three HB.out.r _ _ _),HX.out.three (show w.heap.size<=w.heap.size+3 by omega) _ _ _,by omega,by omega,.inl ⟨rfl,by simp[opX,biX,hr]⟩⟩
 ·clear jk;obtain⟨⟨an,b9,b7,bZ,bX⟩,⟨bQ,bP,bO⟩,⟨bT,bS,bR⟩,⟨bW,bV,bU⟩,⟨cj,ch,cg⟩,cd⟩:=HB.out.cells;go_wp2_with fail;clear an b9 b7 bZ bX bQ bP bO bT bS bR bW bV bU cj ch cg cd;refine(T1 _ _ p q (i3.out.ext HX.out) px qx n du hn2).mono ?_
  rintro e w2 ⟨v2,c2,P,Q,rfl,ax,ae,hP,hQ,eT⟩;have HB:=hid (HB.out.ext ae);have HX:=hid (HX.out.trans ae);have R2:=hid ax;obtain⟨f2,g2,G2,j2,y2,Y2,z2,rfl⟩:=ax.shape;clear ax;clear ae;go_upto_region 11 with fail;have fK:=HB.out.r.lt;have hb:=Blk.new w2 26 #[.bool f2,.slice G2 g2 j2,.slice Y2 y2 z2];have fl:=(Ext.refl w2).alloc (.cells #[.bool f2,.slice G2 g2 j2,.slice Y2 y2 z2] 26);generalize w2.alloc (.cells #[.bool f2,.slice G2 g2 j2,.slice Y2 y2 z2] 26)=wa at *;have ey:=hid hb;have HB:=hid (HB.out.ext fl);have HX:=hid (HX.out.trans fl);have R2:=hid (R2.out.ext fl);have jP:=hid fK;generalize w2.heap.size=ap at *;clear hb fl fK;rcases eT with ⟨rfl,eT⟩|⟨rfl,eT,rfl,rfl⟩
  ·have ks:=ey.out.three;obtain⟨⟨an,b9,b7,bZ,bX⟩,⟨bQ,bP,bO⟩,⟨bT,bS,bR⟩,⟨bW,bV,bU⟩,⟨cj,ch,cg⟩,cd⟩:=HB.out.cells;go_wp2_with fail;obtain⟨aj,ac,hr2⟩:=Ah HB.out.r (.bool f2) (.slice G2 g2 j2) (.slice Y2 y2 z2);refine bodyPost_ret (v:= .tuple #[.agg #[.bool f2,.slice G2 g2 j2,.slice Y2 y2 z2],.int .i64 1]) (by simp[results,Tryz.results186,go_sem,aj,ac,hr2]) rfl ?_
   exact⟨_,1,_,_,rfl,R2.out.low0.ku (KU.three HB.out.r _ _ _),HX.out.three (show w.heap.size<=w.heap.size+3 by omega) _ _ _,hP,hQ,.inl ⟨rfl,by simp[opX,unX,eT]⟩⟩
  ·have ks:=ey.out.three;obtain⟨⟨an,b9,b7,bZ,bX⟩,⟨bQ,bP,bO⟩,⟨bT,bS,bR⟩,⟨bW,bV,bU⟩,⟨cj,ch,cg⟩,cd⟩:=HB.out.cells;go_wp2_with fail;obtain⟨aj,ac,hr2⟩:=Ah HB.out.r (.bool false) (.slice none 0 0) (.slice none 0 0);refine bodyPost_ret (v:= .tuple #[.agg #[.bool false,.slice none 0 0,.slice none 0 0],.int .i64 2]) (by simp[results,Tryz.results186,go_sem,aj,ac,hr2]) rfl ?_
   exact⟨_,2,_,_,rfl,Ag.zero _ _,HX.out.three (show w.heap.size<=w.heap.size+3 by omega) _ _ _,Ax.1,Ax.2.1,.inr (.inl ⟨rfl,by simp[opX,unX,eT],rfl,rfl⟩)⟩
 ·by_cases hp:p<0
  ·have hs:sgZ p= -1:=if_pos hp;rw[hs]at eY;obtain⟨⟨an,b9,b7,bZ,bX⟩,⟨bQ,bP,bO⟩,⟨bT,bS,bR⟩,⟨bW,bV,bU⟩,⟨cj,ch,cg⟩,cd⟩:=HB.out.cells;go_wp2_with fail;clear an b9 b7 bZ bX bQ bP bO bT bS bR bW bV bU cj ch cg cd;refine(eY.out _ _ (i3.out.arr.ext HX.out)).mono ?_
   rintro e w2 ⟨rfl,ae⟩;have HB:=hid (HB.out.ext ae);have HX:=hid (HX.out.trans ae);clear ae;obtain⟨⟨an,b9,b7,bZ,bX⟩,⟨bQ,bP,bO⟩,⟨bT,bS,bR⟩,⟨bW,bV,bU⟩,⟨cj,ch,cg⟩,cd⟩:=HB.out.cells;go_wp2_with fail;obtain⟨aj,ac,hr2⟩:=Ah HB.out.r (.bool false) (.slice none 0 0) (.slice none 0 0);refine bodyPost_ret (v:= .tuple #[.agg #[.bool false,.slice none 0 0,.slice none 0 0],.int .i64 2]) (by simp[results,Tryz.results186,go_sem,aj,ac,hr2]) rfl ?_
   exact⟨_,2,_,_,rfl,Ag.zero _ _,HX.out.three (show w.heap.size<=w.heap.size+3 by omega) _ _ _,Ax.1,Ax.2.1,.inr (.inl ⟨rfl,by simp[opX,unX,hp],rfl,rfl⟩)⟩
  ·have hs:decide (sgZ p<0)=false:=decide_eq_false (by unfold sgZ;split<;>(try split)<;>omega);obtain⟨⟨an,b9,b7,bZ,bX⟩,⟨bQ,bP,bO⟩,⟨bT,bS,bR⟩,⟨bW,bV,bU⟩,⟨cj,ch,cg⟩,cd⟩:=HB.out.cells;go_wp2_with fail;clear an b9 b7 bZ bX bQ bP bO bT bS bR bW bV bU cj ch cg cd;refine(eY.out _ _ (i3.out.arr.ext HX.out)).mono ?_
   rintro e w2 ⟨rfl,ae⟩;have HB:=hid (HB.out.ext ae);have HX:=hid (HX.out.trans ae);clear ae;obtain⟨⟨an,b9,b7,bZ,bX⟩,⟨bQ,bP,bO⟩,⟨bT,bS,bR⟩,⟨bW,bV,bU⟩,⟨cj,ch,cg⟩,cd⟩:=HB.out.cells;go_wp2_with fail;clear an b9 b7 bZ bX bQ bP bO bT bS bR bW bV bU cj ch cg cd;refine((Pb _ _ p q (i3.out.arr.ext HX.out) (by omega) (by omega)).mono (fun _ _ h=>T0 px qx h)).mono ?_
   rintro e w3 ⟨v3,bb,P,Q,rfl,cB,ae,hP,hQ,eT⟩;have HB:=hid (HB.out.ext ae);have HX:=hid (HX.out.trans ae);have R3:=hid cB;obtain⟨f3,g3,G3,j3,y3,Y3,z3,rfl⟩:=cB.shape;clear cB;clear ae;obtain⟨⟨an,b9,b7,bZ,bX⟩,⟨bQ,bP,bO⟩,⟨bT,bS,bR⟩,⟨bW,bV,bU⟩,⟨cj,ch,cg⟩,cd⟩:=HB.out.cells;go_upto_region 20 with fail;clear an b9 b7 bZ bX bQ bP bO bT bS bR bW bV bU cj ch cg cd;have fK:=HB.out.r.lt;have hb:=Blk.new w3 26 #[.bool f3,.slice G3 g3 j3,.slice Y3 y3 z3];have fl:=(Ext.refl w3).alloc (.cells #[.bool f3,.slice G3 g3 j3,.slice Y3 y3 z3] 26);generalize w3.alloc (.cells #[.bool f3,.slice G3 g3 j3,.slice Y3 y3 z3] 26)=wa at *;have ey:=hid hb;have HB:=hid (HB.out.ext fl);have HX:=hid (HX.out.trans fl);have R3:=hid (R3.out.ext fl);have jP:=hid fK;generalize w3.heap.size=ap at *;clear hb fl fK;rcases eT with ⟨rfl,eT⟩|⟨rfl,eT,rfl,rfl⟩
   ·have ks:=ey.out.three;obtain⟨⟨an,b9,b7,bZ,bX⟩,⟨bQ,bP,bO⟩,⟨bT,bS,bR⟩,⟨bW,bV,bU⟩,⟨cj,ch,cg⟩,cd⟩:=HB.out.cells;go_wp2_with fail;obtain⟨aj,ac,hr2⟩:=Ah HB.out.r (.bool f3) (.slice G3 g3 j3) (.slice Y3 y3 z3);refine bodyPost_ret (v:= .tuple #[.agg #[.bool f3,.slice G3 g3 j3,.slice Y3 y3 z3],.int .i64 1]) (by simp[results,Tryz.results186,go_sem,aj,ac,hr2]) rfl ?_
    exact⟨_,1,_,_,rfl,R3.out.low0.ku (KU.three HB.out.r _ _ _),HX.out.three (show w.heap.size<=w.heap.size+3 by omega) _ _ _,hP,hQ,.inl ⟨rfl,by simp[opX,unX,eT];intro h;omega⟩⟩
   ·have ks:=ey.out.three;obtain⟨⟨an,b9,b7,bZ,bX⟩,⟨bQ,bP,bO⟩,⟨bT,bS,bR⟩,⟨bW,bV,bU⟩,⟨cj,ch,cg⟩,cd⟩:=HB.out.cells;go_wp2_with fail;obtain⟨aj,ac,hr2⟩:=Ah HB.out.r (.bool false) (.slice none 0 0) (.slice none 0 0);refine bodyPost_ret (v:= .tuple #[.agg #[.bool false,.slice none 0 0,.slice none 0 0],.int .i64 0]) (by simp[results,Tryz.results186,go_sem,aj,ac,hr2]) rfl ?_
    exact⟨_,0,_,_,rfl,Ag.zero _ _,HX.out.three (show w.heap.size<=w.heap.size+3 by omega) _ _ _,Ax.1,Ax.2.1,.inr (.inr ⟨rfl,by simp[opX,unX,eT];intro h;omega,rfl,rfl⟩)⟩
 ·cases zb
  ·have hp:p≠0:=by rintro rfl;simp[sgZ]at eS
   obtain⟨⟨an,b9,b7,bZ,bX⟩,⟨bQ,bP,bO⟩,⟨bT,bS,bR⟩,⟨bW,bV,bU⟩,⟨cj,ch,cg⟩,cd⟩:=HB.out.cells;go_wp2_with fail;obtain⟨aj,ac,hr2⟩:=Ah HB.out.r (.bool false) (.slice none 0 0) (.slice none 0 0);refine bodyPost_ret (v:= .tuple #[.agg #[.bool false,.slice none 0 0,.slice none 0 0],.int .i64 0]) (by simp[results,Tryz.results186,go_sem,aj,ac,hr2]) rfl ?_
   exact⟨_,0,_,_,rfl,Ag.zero _ _,HX.out.three (show w.heap.size<=w.heap.size+3 by omega) _ _ _,Ax.1,Ax.2.1,.inr (.inr ⟨rfl,by simp[opX,unX,hp],rfl,rfl⟩)⟩
  ·have hp:p=0:=by unfold sgZ at eS;split at eS<;>(try split at eS)<;>first|omega|(simp at eS)
   obtain⟨⟨an,b9,b7,bZ,bX⟩,⟨bQ,bP,bO⟩,⟨bT,bS,bR⟩,⟨bW,bV,bU⟩,⟨cj,ch,cg⟩,cd⟩:=HB.out.cells;go_wp2_with fail;clear an b9 b7 bZ bX bQ bP bO bT bS bR bW bV bU cj ch cg cd;refine(DX _ 1 (by decide) (by decide)).mono ?_
   rintro e w2 ⟨v2,rfl,ax,ae⟩;have HB:=hid (HB.out.ext ae);have HX:=hid (HX.out.trans ae);have R2:=hid ax;obtain⟨f2,g2,G2,j2,y2,Y2,z2,rfl⟩:=ax.shape;clear ax;clear ae;obtain⟨⟨an,b9,b7,bZ,bX⟩,⟨bQ,bP,bO⟩,⟨bT,bS,bR⟩,⟨bW,bV,bU⟩,⟨cj,ch,cg⟩,cd⟩:=HB.out.cells;go_wp2_with fail;obtain⟨aj,ac,hr2⟩:=Ah HB.out.r (.bool f2) (.slice G2 g2 j2) (.slice Y2 y2 z2);refine bodyPost_ret (v:= .tuple #[.agg #[.bool f2,.slice G2 g2 j2,.slice Y2 y2 z2],.int .i64 1]) (by simp[results,Tryz.results186,go_sem,aj,ac,hr2]) rfl ?_
   exact⟨_,1,_,_,rfl,R2.out.low0.ku (KU.three HB.out.r _ _ _),HX.out.three (show w.heap.size<=w.heap.size+3 by omega) _ _ _,Ax.2.2.2,Ax.2.2.1,.inl ⟨rfl,by simp[opX,unX,hp]⟩⟩
 ·by_cases hp:p<=0
  ·have hs:decide (sgZ p<=0)=true:=decide_eq_true (by unfold sgZ;split<;>(try split)<;>omega);obtain⟨⟨an,b9,b7,bZ,bX⟩,⟨bQ,bP,bO⟩,⟨bT,bS,bR⟩,⟨bW,bV,bU⟩,⟨cj,ch,cg⟩,cd⟩:=HB.out.cells;go_wp2_with fail;clear an b9 b7 bZ bX bQ bP bO bT bS bR bW bV bU cj ch cg cd;refine(eY.out _ _ (i3.out.arr.ext HX.out)).mono ?_
   rintro e w2 ⟨rfl,ae⟩;have HB:=hid (HB.out.ext ae);have HX:=hid (HX.out.trans ae);clear ae;obtain⟨⟨an,b9,b7,bZ,bX⟩,⟨bQ,bP,bO⟩,⟨bT,bS,bR⟩,⟨bW,bV,bU⟩,⟨cj,ch,cg⟩,cd⟩:=HB.out.cells;go_wp2_with fail;obtain⟨aj,ac,hr2⟩:=Ah HB.out.r (.bool false) (.slice none 0 0) (.slice none 0 0);refine bodyPost_ret (v:= .tuple #[.agg #[.bool false,.slice none 0 0,.slice none 0 0],.int .i64 2]) (by simp[results,Tryz.results186,go_sem,aj,ac,hr2]) rfl ?_
   exact⟨_,2,_,_,rfl,Ag.zero _ _,HX.out.three (show w.heap.size<=w.heap.size+3 by omega) _ _ _,Ax.1,Ax.2.1,.inr (.inl ⟨rfl,by simp[opX,unX,hp],rfl,rfl⟩)⟩
  ·have hs:decide (sgZ p<=0)=false:=decide_eq_false (by unfold sgZ;split<;>(try split)<;>omega);obtain⟨⟨an,b9,b7,bZ,bX⟩,⟨bQ,bP,bO⟩,⟨bT,bS,bR⟩,⟨bW,bV,bU⟩,⟨cj,ch,cg⟩,cd⟩:=HB.out.cells;go_wp2_with fail;clear an b9 b7 bZ bX bQ bP bO bT bS bR bW bV bU cj ch cg cd;refine(eY.out _ _ (i3.out.arr.ext HX.out)).mono ?_
   rintro e w2 ⟨rfl,ae⟩;have HB:=hid (HB.out.ext ae);have HX:=hid (HX.out.trans ae);clear ae;have cI:=hid (fun W v u a b=>Sw W v p q a (by omega) (by omega) u 1 1 b FH.1 FH.2);have mE:=hid (OP p q);obtain⟨cb,nV⟩:∃cb,(ED (p*((1:Nat):Int)) (1*(q:Int)) == 0)=cb:=⟨_,rfl⟩;rw[nV]at mE;generalize ED (p*((1:Nat):Int)) (1*(q:Int))=cz at *;obtain⟨⟨an,b9,b7,bZ,bX⟩,⟨bQ,bP,bO⟩,⟨bT,bS,bR⟩,⟨bW,bV,bU⟩,⟨cj,ch,cg⟩,cd⟩:=HB.out.cells;go_upto_region 25 with fail
   go_region_held3 (fun w'=>Ext w2 w'/\w'.cell? ⟨w.heap.size+1,0,none⟩=some (.bool b0)/\w'.cell? ⟨w.heap.size+1,1,none⟩=some (.slice A0 l0 c0)/\w'.cell? ⟨w.heap.size+1,2,none⟩=some (.slice D0 k0 e0))
   (first|(exact⟨(Ext.refl w2).drew,bQ,bP,bO⟩)|(exact Fr (by assumption) (by assumption)))
   (first
    |(go_at_call 220;have eG:=kx;refine(cI.out _ _ _ ((i3.out.arr.ext HX.out).ext (And.left (by assumption))) R3.out.arr).mono ?_;rintro e w4 ⟨rfl,bc⟩;have pm:=bc.size)
    |(go_at_call 184;refine(DX _ 1 (by decide) (by decide)).mono ?_;rintro e w3 ⟨v3,rfl,cB,ab⟩;have kx:=ab.size;have R3:=hid cB;obtain⟨f3,g3,G3,j3,y3,Y3,z3,rfl⟩:=cB.shape;clear cB))
   rename_i hS;have HB:=hid (HB.out.ext hS.1);have HX:=hid (HX.out.trans hS.1);cases cb
   ·have he:p≠(q:Int):=of_decide_eq_false mE.out;clear an b9 b7 bZ bX bQ bP bO bT bS bR bW bV bU cj ch cg cd;obtain⟨⟨an,b9,b7,bZ,bX⟩,⟨bQ,bP,bO⟩,⟨bT,bS,bR⟩,⟨bW,bV,bU⟩,⟨cj,ch,cg⟩,cd⟩:=HB.out.cells;go_wp2_with fail;obtain⟨aj,ac,hr2⟩:=Ah HB.out.r (.bool false) (.slice none 0 0) (.slice none 0 0);refine bodyPost_ret (v:= .tuple #[.agg #[.bool false,.slice none 0 0,.slice none 0 0],.int .i64 0]) (by simp[results,Tryz.results186,go_sem,aj,ac,hr2]) rfl ?_
    exact⟨_,0,_,_,rfl,Ag.zero _ _,HX.out.three (show w.heap.size<=w.heap.size+3 by omega) _ _ _,Ax.1,Ax.2.1,.inr (.inr ⟨rfl,by simp[opX,unX,he];intro h;omega,rfl,rfl⟩)⟩
   ·have he:p=(q:Int):=of_decide_eq_true mE.out;clear an b9 b7 bZ bX bQ bP bO bT bS bR bW bV bU cj ch cg cd;obtain⟨⟨an,b9,b7,bZ,bX⟩,⟨bQ,bP,bO⟩,⟨bT,bS,bR⟩,⟨bW,bV,bU⟩,⟨cj,ch,cg⟩,cd⟩:=HB.out.cells;go_wp2_with fail;clear an b9 b7 bZ bX bQ bP bO bT bS bR bW bV bU cj ch cg cd;refine(DX _ 0 (by decide) (by decide)).mono ?_
    rintro e w5 ⟨v5,rfl,dV,ae⟩;have HB:=hid (HB.out.ext ae);have HX:=hid (HX.out.trans ae);have R5:=hid dV;obtain⟨f5,g5,G5,j5,y5,Y5,z5,rfl⟩:=dV.shape;clear dV;clear ae;obtain⟨⟨an,b9,b7,bZ,bX⟩,⟨bQ,bP,bO⟩,⟨bT,bS,bR⟩,⟨bW,bV,bU⟩,⟨cj,ch,cg⟩,cd⟩:=HB.out.cells;go_wp2_with fail;obtain⟨aj,ac,hr2⟩:=Ah HB.out.r (.bool f5) (.slice G5 g5 j5) (.slice Y5 y5 z5);refine bodyPost_ret (v:= .tuple #[.agg #[.bool f5,.slice G5 g5 j5,.slice Y5 y5 z5],.int .i64 1]) (by simp[results,Tryz.results186,go_sem,aj,ac,hr2]) rfl ?_
    exact⟨_,1,_,_,rfl,R5.out.low0.ku (KU.three HB.out.r _ _ _),HX.out.three (show w.heap.size<=w.heap.size+3 by omega) _ _ _,Ax.1,Ax.2.2.1,.inl ⟨rfl,by simp[opX,unX,he];intro h;omega⟩⟩
 ·cases zb
  ·have hp:p≠0:=by rintro rfl;simp[sgZ]at eS
   obtain⟨⟨an,b9,b7,bZ,bX⟩,⟨bQ,bP,bO⟩,⟨bT,bS,bR⟩,⟨bW,bV,bU⟩,⟨cj,ch,cg⟩,cd⟩:=HB.out.cells;go_wp2_with fail;obtain⟨aj,ac,hr2⟩:=Ah HB.out.r (.bool false) (.slice none 0 0) (.slice none 0 0);refine bodyPost_ret (v:= .tuple #[.agg #[.bool false,.slice none 0 0,.slice none 0 0],.int .i64 0]) (by simp[results,Tryz.results186,go_sem,aj,ac,hr2]) rfl ?_
   exact⟨_,0,_,_,rfl,Ag.zero _ _,HX.out.three (show w.heap.size<=w.heap.size+3 by omega) _ _ _,Ax.1,Ax.2.1,.inr (.inr ⟨rfl,by simp[opX,unX,hp],rfl,rfl⟩)⟩
  ·have hp:p=0:=by unfold sgZ at eS;split at eS<;>(try split at eS)<;>first|omega|(simp at eS)
   obtain⟨⟨an,b9,b7,bZ,bX⟩,⟨bQ,bP,bO⟩,⟨bT,bS,bR⟩,⟨bW,bV,bU⟩,⟨cj,ch,cg⟩,cd⟩:=HB.out.cells;go_wp2_with fail;clear an b9 b7 bZ bX bQ bP bO bT bS bR bW bV bU cj ch cg cd;refine(DX _ 0 (by decide) (by decide)).mono ?_
   rintro e w2 ⟨v2,rfl,ax,ae⟩;have HB:=hid (HB.out.ext ae);have HX:=hid (HX.out.trans ae);have R2:=hid ax;obtain⟨f2,g2,G2,j2,y2,Y2,z2,rfl⟩:=ax.shape;clear ax;clear ae;obtain⟨⟨an,b9,b7,bZ,bX⟩,⟨bQ,bP,bO⟩,⟨bT,bS,bR⟩,⟨bW,bV,bU⟩,⟨cj,ch,cg⟩,cd⟩:=HB.out.cells;go_wp2_with fail;obtain⟨aj,ac,hr2⟩:=Ah HB.out.r (.bool f2) (.slice G2 g2 j2) (.slice Y2 y2 z2);refine bodyPost_ret (v:= .tuple #[.agg #[.bool f2,.slice G2 g2 j2,.slice Y2 y2 z2],.int .i64 1]) (by simp[results,Tryz.results186,go_sem,aj,ac,hr2]) rfl ?_
   exact⟨_,1,_,_,rfl,R2.out.low0.ku (KU.three HB.out.r _ _ _),HX.out.three (show w.heap.size<=w.heap.size+3 by omega) _ _ _,Ax.1,Ax.2.2.1,.inl ⟨rfl,by simp[opX,unX,hp]⟩⟩
 ·cases zb
  ·have hp:p≠0:=by rintro rfl;simp[sgZ]at eS
   obtain⟨⟨an,b9,b7,bZ,bX⟩,⟨bQ,bP,bO⟩,⟨bT,bS,bR⟩,⟨bW,bV,bU⟩,⟨cj,ch,cg⟩,cd⟩:=HB.out.cells;go_wp2_with fail;obtain⟨aj,ac,hr2⟩:=Ah HB.out.r (.bool false) (.slice none 0 0) (.slice none 0 0);refine bodyPost_ret (v:= .tuple #[.agg #[.bool false,.slice none 0 0,.slice none 0 0],.int .i64 0]) (by simp[results,Tryz.results186,go_sem,aj,ac,hr2]) rfl ?_
   exact⟨_,0,_,_,rfl,Ag.zero _ _,HX.out.three (show w.heap.size<=w.heap.size+3 by omega) _ _ _,Ax.1,Ax.2.1,.inr (.inr ⟨rfl,by simp[opX,unX,hp],rfl,rfl⟩)⟩
  ·have hp:p=0:=by unfold sgZ at eS;split at eS<;>(try split at eS)<;>first|omega|(simp at eS)
   obtain⟨⟨an,b9,b7,bZ,bX⟩,⟨bQ,bP,bO⟩,⟨bT,bS,bR⟩,⟨bW,bV,bU⟩,⟨cj,ch,cg⟩,cd⟩:=HB.out.cells;go_wp2_with fail;clear an b9 b7 bZ bX bQ bP bO bT bS bR bW bV bU cj ch cg cd;refine(DX _ 1 (by decide) (by decide)).mono ?_
   rintro e w2 ⟨v2,rfl,ax,ae⟩;have HB:=hid (HB.out.ext ae);have HX:=hid (HX.out.trans ae);have R2:=hid ax;obtain⟨f2,g2,G2,j2,y2,Y2,z2,rfl⟩:=ax.shape;clear ax;clear ae;obtain⟨⟨an,b9,b7,bZ,bX⟩,⟨bQ,bP,bO⟩,⟨bT,bS,bR⟩,⟨bW,bV,bU⟩,⟨cj,ch,cg⟩,cd⟩:=HB.out.cells;go_wp2_with fail;obtain⟨aj,ac,hr2⟩:=Ah HB.out.r (.bool f2) (.slice G2 g2 j2) (.slice Y2 y2 z2);refine bodyPost_ret (v:= .tuple #[.agg #[.bool f2,.slice G2 g2 j2,.slice Y2 y2 z2],.int .i64 1]) (by simp[results,Tryz.results186,go_sem,aj,ac,hr2]) rfl ?_
   exact⟨_,1,_,_,rfl,R2.out.low0.ku (KU.three HB.out.r _ _ _),HX.out.three (show w.heap.size<=w.heap.size+3 by omega) _ _ _,Ax.2.2.2,Ax.2.2.1,.inl ⟨rfl,by simp[opX,unX,hp]⟩⟩
 ·cases zb
  ·have hp:p≠0:=by rintro rfl;simp[sgZ]at eS
   obtain⟨⟨an,b9,b7,bZ,bX⟩,⟨bQ,bP,bO⟩,⟨bT,bS,bR⟩,⟨bW,bV,bU⟩,⟨cj,ch,cg⟩,cd⟩:=HB.out.cells;go_wp2_with fail;obtain⟨aj,ac,hr2⟩:=Ah HB.out.r (.bool false) (.slice none 0 0) (.slice none 0 0);refine bodyPost_ret (v:= .tuple #[.agg #[.bool false,.slice none 0 0,.slice none 0 0],.int .i64 0]) (by simp[results,Tryz.results186,go_sem,aj,ac,hr2]) rfl ?_
   exact⟨_,0,_,_,rfl,Ag.zero _ _,HX.out.three (show w.heap.size<=w.heap.size+3 by omega) _ _ _,Ax.1,Ax.2.1,.inr (.inr ⟨rfl,by simp[opX,unX,hp],rfl,rfl⟩)⟩
  ·have hp:p=0:=by unfold sgZ at eS;split at eS<;>(try split at eS)<;>first|omega|(simp at eS)
   obtain⟨⟨an,b9,b7,bZ,bX⟩,⟨bQ,bP,bO⟩,⟨bT,bS,bR⟩,⟨bW,bV,bU⟩,⟨cj,ch,cg⟩,cd⟩:=HB.out.cells;go_wp2_with fail;clear an b9 b7 bZ bX bQ bP bO bT bS bR bW bV bU cj ch cg cd;refine(DX _ 0 (by decide) (by decide)).mono ?_
   rintro e w2 ⟨v2,rfl,ax,ae⟩;have HB:=hid (HB.out.ext ae);have HX:=hid (HX.out.trans ae);have R2:=hid ax;obtain⟨f2,g2,G2,j2,y2,Y2,z2,rfl⟩:=ax.shape;clear ax;clear ae;obtain⟨⟨an,b9,b7,bZ,bX⟩,⟨bQ,bP,bO⟩,⟨bT,bS,bR⟩,⟨bW,bV,bU⟩,⟨cj,ch,cg⟩,cd⟩:=HB.out.cells;go_wp2_with fail;obtain⟨aj,ac,hr2⟩:=Ah HB.out.r (.bool f2) (.slice G2 g2 j2) (.slice Y2 y2 z2);refine bodyPost_ret (v:= .tuple #[.agg #[.bool f2,.slice G2 g2 j2,.slice Y2 y2 z2],.int .i64 1]) (by simp[results,Tryz.results186,go_sem,aj,ac,hr2]) rfl ?_
   exact⟨_,1,_,_,rfl,R2.out.low0.ku (KU.three HB.out.r _ _ _),HX.out.three (show w.heap.size<=w.heap.size+3 by omega) _ _ _,Ax.1,Ax.2.2.1,.inl ⟨rfl,by simp[opX,unX,hp]⟩⟩
structure E5 (w:World) (c b:Nat) (T:List X2):Prop where
 blk:Blk w c 137 #[.slice (some ⟨b,0,none⟩) T.length T.length]
 row:GV w b T
theorem E5.ext{w w':World}{c b:Nat}{T:List X2}(h:E5 w c b T)(hx:Ext w w'):E5 w' c b T:=⟨h.blk.ext hx,h.row.ext hx⟩
theorem BG.shape{w:World}{v:Value}{x:X2}(h:BG w v x):∃f A n c A' n' c',v= .agg #[.bool f,.slice A n c,.slice A' n' c',.int .i64 (x.st:Int)]:=by
 obtain⟨A,n,c,A',n',c',rfl,_⟩:=h;exact⟨_,A,n,c,A',n',c',rfl⟩
theorem BG.rat{w:World}{f:Bool}{A A':Option Addr}{n c n' c':Nat}{s:Int}{x:X2}(h:BG w (.agg #[.bool f,.slice A n c,.slice A' n' c',.int .i64 s]) x):Ag 0 w (.agg #[.bool f,.slice A n c,.slice A' n' c']) x.p x.q:=by
 obtain⟨A,n,c,A',n',c',he,h⟩:=h;injection he with he
 injection he with he
 injection he with h1 he
 injection he with h2 he
 injection he with h3 he
 rw[h1,h2,h3];exact h
theorem KU.four{g:Nat}{w:World}{cs:Array Value}(hb:Blk w g 136 cs)(a b c d:Value):KU w ((((w.setCell ⟨g,0,none⟩ a).setCell ⟨g,1,none⟩ b).setCell ⟨g,2,none⟩ c).setCell ⟨g,3,none⟩ d):=by
 have ht:136≠183:=by decide
 exact(((KU.set hb ht (a:=⟨g,0,none⟩) rfl a).trans (KU.set (hb.set_ 0 a) ht (a:=⟨g,1,none⟩) rfl b)).trans (KU.set ((hb.set_ 0 a).set_ 1 b) ht (a:=⟨g,2,none⟩) rfl c)).trans (KU.set (((hb.set_ 0 a).set_ 1 b).set_ 2 c) ht (a:=⟨g,3,none⟩) rfl d)
theorem Uz(w:World)(c b:Nat)(T:List X2)(h:E5 w c b T)(j:Nat)(hj:j<T.length)(hT:T.length<=1000000):
  Calls Tryz.prog 140 #[.int .i64 (j:Int),.pointer (some ⟨c,0,none⟩)] w fun e w'=>∃v',e= .returned v'/\BG w' v' (T.getD j X2.O)/\Ext w w':=by
 have HO:=hid h;obtain⟨l,hl⟩:∃l,l=T.length:=⟨_,rfl⟩;have HL:=hid hl;have ro:T[j]? =some (T.getD j X2.O):=by rw[List.getD_eq_getElem?_getD,List.getElem?_eq_getElem hj,Option.getD_some]
 rw[<-hl]at hT hj;generalize T.getD j X2.O=y at *;have HTI:=hid ro;clear ro;have tY:(0:Int)<=(j:Int):=by omega
 have rS:(j:Int)<(l:Int):=by omega
 clear h hl;go_enter Tryz.func140,Tryz.ntmps140;go_upto_region 1 with fail;have hb:=Blk.new w 136 #[.bool false,.slice none 0 0,.slice none 0 0,.int .i64 0];have hx:=(Ext.refl w).alloc (.cells #[.bool false,.slice none 0 0,.slice none 0 0,.int .i64 0] 136);generalize w.alloc (.cells #[.bool false,.slice none 0 0,.slice none 0 0,.int .i64 0] 136)=w1 at *;have HB:=hid hb;have HX:=hid hx;have HO:=hid (HO.out.ext hx);clear hb hx;have q0:=HB.out.fourX;obtain⟨cs,ay,bK,ig⟩:=HO.out.row;obtain⟨⟨A,n,k,A',n',k',p0,p1,p2,hr⟩,p3⟩:=ig j _ HTI.out;have HR:=hid hr;have hc0:=HO.out.blk.cell 0;have hc1:w1.cell? ⟨c,0,none⟩=some (.slice (some ⟨b,0,none⟩) l l):=by rw[HL.out];exact hc0
 clear ig ay bK hr hc0;obtain⟨yf,tL⟩:∃yf,decide (y.p<0)=yf:=⟨_,rfl⟩;have HY:=hid tL;rw[tL]at p0 HR;clear tL;go_wp2_with fail;obtain⟨r0,r1,r2,r3⟩:=AF HB.out (.bool yf) (.slice A n k) (.slice A' n' k') (.int .i64 (y.st:Int));refine bodyPost_ret (v:= .agg #[.bool yf,.slice A n k,.slice A' n' k',.int .i64 (y.st:Int)]) (by simp[results,Tryz.results140,go_sem,r0,r1,r2,r3]) rfl ?_
 have bc:=(((HX.out.setCell (p:=⟨w.heap.size,0,none⟩) (Nat.le_refl _) (.bool yf)).setCell (p:=⟨w.heap.size,1,none⟩) (Nat.le_refl _) (.slice A n k)).setCell (p:=⟨w.heap.size,2,none⟩) (Nat.le_refl _) (.slice A' n' k')).setCell (p:=⟨w.heap.size,3,none⟩) (Nat.le_refl _) (.int .i64 (y.st:Int));refine⟨_,rfl,⟨A,n,k,A',n',k',by rw[HY.out],?_⟩,bc⟩;rw[HY.out];exact HR.out.ku (KU.four HB.out _ _ _ _)
theorem Su{l:List UInt8}(h:Bm l=0):l.length<=400:=by
 unfold Bm at h;split at h
 ·cases h
 ·omega
theorem Ig{l:List UInt8}(h:Bm l=0):(Ac (Hl l).natAbs).length<=1000/\(Ac (Hq l)).length<=1000:=by
 have hl:=Su h;have hall:(whole l++AY l).all Bu=true:=by
  unfold Bm CF at h;split at h
  ·cases h
  split at h
  ·rename_i hg;rw[Bool.and_eq_true]at hg;exact hg.2
  ·cases h
 have hN:=GC _ hall;have yq:(whole l++AY l).length<=400:=by
  rw[List.length_append];rcases Cd l with ⟨_,h1⟩|⟨_,h1,h2⟩
  ·have:=congrArg List.length h1;simp at this;omega
  ·rw[h2];have:=Gk l;simp;omega
 have hpl:(AY l).length<=400:=by rw[List.length_append]at yq;omega
 constructor
 ·unfold Hl;rw[Ek,Int.natAbs_natCast];exact Nat.le_trans (Ar (Nat.div_le_self _ _)) (DR hN (by omega))
 ·unfold Hq C9;refine Nat.le_trans (Ar (Nat.div_le_self _ _)) (DR (k:=(AY l).length+1) ?_ (by omega));exact Nat.pow_lt_pow_right (by decide) (by omega)
end Big
end Go.Proofs.YtkoaogkknnelaaaGreatDoor
