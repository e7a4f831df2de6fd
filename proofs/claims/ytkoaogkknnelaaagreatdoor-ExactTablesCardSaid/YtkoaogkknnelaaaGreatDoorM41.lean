import Derived.Test.YtkoaogkknnelaaaGreatDoorM40
import Derived.Test.YtkoaogkknnelaaaGreatDoorRows
import Derived.ProofKit
import Derived.LaidMore
import Derived.OpenShut
import Derived.Stop.Joined
import Derived.Lib.LaidTab
import Derived.Handed
import Derived.HandedShaped
import Derived.Deep.Strs
import Derived.ChangeMaps5
import Derived.Lib.SmallJoins
set_option linter.unusedVariables false
set_option linter.unusedSimpArgs false
set_option maxHeartbeats 16000000
set_option maxRecDepth 100000
namespace Go.Proofs.YtkoaogkknnelaaaGreatDoor
namespace Big
open Lib renaming hid → J
open Go.RowKit
section
variable {p:Nat->Option Ex × Nat} {ts:List Tok} {a b:Nat} {x:Ex}
theorem JC(h:isS ts a [45]=false):BQ p ts a=Ba p ts a:=by
 unfold BQ;rw[Vm h,Nat.add_zero];rcases Ba p ts a with ⟨_|x,b⟩<;>rfl
theorem Mr(h:isS ts a [45]=true)(hr:BQ p ts (a+1)=(none,b)):BQ p ts a=(none,b):=by
 unfold BQ at hr ⊢;rw[Uk h,show a+(Bg ts ts.length (a+1)+1)=a+1+Bg ts ts.length (a+1) by omega];rcases h2:Ba p ts (a+1+Bg ts ts.length (a+1)) with ⟨_|x,b⟩
 ·rw[h2]at hr;exact hr
 ·rw[h2]at hr;simp at hr
theorem Mq(h:isS ts a [45]=true)(hr:BQ p ts (a+1)=(some x,b)):BQ p ts a=(some (.un 5 0 x),b):=by
 unfold BQ at hr ⊢;rw[Uk h,show a+(Bg ts ts.length (a+1)+1)=a+1+Bg ts ts.length (a+1) by omega];rcases h2:Ba p ts (a+1+Bg ts ts.length (a+1)) with ⟨_|y,b'⟩
 ·rw[h2]at hr;simp at hr
 ·rw[h2]at hr;simp only[Prod.mk.injEq,Option.some.injEq]at hr ⊢;obtain⟨rfl,rfl⟩:=hr;exact⟨Qe _ _,rfl⟩
end
theorem Sd{len:Nat}:EB 5 0 0 len []=⟨5,(len:Int)-1,0,0,[]⟩:=by
 unfold EB;rw[if_pos (by decide)]
theorem Hh{k first:Int}(hk:Az k=2){len:Nat}:EB k first 0 len []=⟨k,first,(len:Int)-1,0,[]⟩:=by
 unfold EB;rw[if_neg (by rw[hk];decide),if_pos hk]
theorem NR(g:Nat)(ts:List Tok)(tv:Value)(f:Nat)(jP:∀t∈ts,CH t)(d:Nat):∀a,ts.length<=a+d->(∀a',a<a'->SZ g ts tv f a')->∀(w:World) (ns:List Nd) (lg:Bool) (nv:Value),RdR g w ts a false ns lg tv nv->
  Calls Tryz.prog 172 #[.pointer (some ⟨g,0,none⟩)] w (Ar g ts tv ns nv lg (BQ (Bk ts f) ts a) w):=by
 induction d with
 |zero=>
  intro a yk hs w ns lg nv h;have hz:isS ts a [45]=false:=by
   unfold isS;rw[List.getElem?_eq_none (by omega)]
  have HM:=J (JC (p:=Bk ts f) hz);have my:=J (CT g w ts a false ns lg tv nv [45] h);rw[show str [45]= .string ⟨#[45]⟩ from rfl,hz]at my;simp only[Bool.and_false]at my;have mv:=J (fun W h=>Jo g ts tv f a jP hs W ns lg nv h);have HR:=J h;clear h hs hz yk jP;go_enter Tryz.func172,Tryz.ntmps172;go_wp2_with fail;refine my.o.mono ?_
  rintro e w2 ⟨rfl,hd⟩;have HE:=J (And.intro (HR.o.keep hd.ext) (KR.of_ext (g:=g) (nv:=nv) hd.ext));clear hd;go_wp2_with fail;refine(mv.o w2 HE.o.1).mono ?_
  rintro e w3 an;obtain⟨rfl,ut,d9,hm⟩:=an;have WL:Hid (Ar g ts tv ns nv lg (BQ (Bk ts f) ts a) w (.returned (.tuple #[])) w3):=J (by
   rw[HM.o];exact⟨rfl,ut,HE.o.2.trans d9,hm⟩)
  clear d9 hm;go_wp2_with fail
  (try simp only[Exit.inBlock,Exit.then])
  first
   |refine bodyPost_ret (results_none rfl _ _ _) rfl ?_
   |refine bodyPost_end (results_none rfl _ _ _) rfl ?_
  exact WL.o
 |succ d ih=>
  intro a yk hs w ns lg nv h;have my:=J (CT g w ts a false ns lg tv nv [45] h);rw[show str [45]= .string ⟨#[45]⟩ from rfl]at my;simp only[Bool.not_false,Bool.true_and]at my;have HR:=J h;have fP:=J jP;obtain⟨u,hz⟩:∃u,isS ts a [45]=u:=⟨_,rfl⟩;rw[hz]at my;cases u
  ·have HM:=J (JC (p:=Bk ts f) hz);have mv:=J (fun W h=>Jo g ts tv f a jP hs W ns lg nv h);clear h hs hz yk jP ih;go_enter Tryz.func172,Tryz.ntmps172;go_wp2_with fail;refine my.o.mono ?_
   rintro e w2 ⟨rfl,hd⟩;have HE:=J (And.intro (HR.o.keep hd.ext) (KR.of_ext (g:=g) (nv:=nv) hd.ext));clear hd;go_wp2_with fail;refine(mv.o w2 HE.o.1).mono ?_
   rintro e w3 an;obtain⟨rfl,ut,d9,hm⟩:=an;have WL:Hid (Ar g ts tv ns nv lg (BQ (Bk ts f) ts a) w (.returned (.tuple #[])) w3):=J (by
    rw[HM.o];exact⟨rfl,ut,HE.o.2.trans d9,hm⟩)
   clear d9 hm;go_wp2_with fail
   (try simp only[Exit.inBlock,Exit.then])
   first
    |refine bodyPost_ret (results_none rfl _ _ _) rfl ?_
    |refine bodyPost_end (results_none rfl _ _ _) rfl ?_
   exact WL.o
  ·have hlt:=Cs hz;have fI:=h.max;have rz:=J (ih (a+1) (by omega) (fun a' h'=>hs a' (by omega)));have gE:=Fy (D4 ts f) (a+1) hlt;have HZ:=J hz;have xS:IntKind.i64.wrap ((a:Int)+1)=(a:Int)+1:=IntWalk.i64_in _ (by omega);clear h hs hz yk jP ih;go_enter Tryz.func172,Tryz.ntmps172;go_wp2_with fail;refine my.o.mono ?_
   rintro e w2 ⟨rfl,hd⟩;have hr2:=HR.o.keep hd.ext;have hJ:=J hr2;have ft:=J (KR.of_ext (g:=g) (nv:=nv) hd.ext);obtain⟨⟨k0,k1,k2,k3,k4⟩,⟨f1,f2,f3,f4⟩,sP⟩:=hr2.blk.five';clear hd hr2;go_upto_region 2 with fail;have hst:=hJ.o.stepR hlt;obtain⟨w3,fQ⟩:∃w3,w3=w2.setCell ⟨g,1,none⟩ (.int .i64 ((a:Int)+1)):=⟨_,rfl⟩;rw[<-fQ]at hst ⊢;have eJ:=J (ft.o.trans hst.2);have pW:=J (rz.o w3 ns lg nv hst.1);clear hst fQ k0 k1 k2 k3 k4 f1 f2 f3 f4;go_wp2_with fail;refine pW.o.mono ?_
   intro e w4 an;obtain⟨r,hr⟩:∃r,BQ (Bk ts f) ts (a+1)=r:=⟨_,rfl⟩;rw[hr]at gE;obtain⟨_|x,b⟩:=r
   ·obtain⟨rfl,qL,ns4,lg4,bh,hk⟩:=an.none_ hr;have HD:=J (Mr HZ.o hr);have HE:=J (And.intro (eJ.o.trans hk) bh);obtain⟨⟨k0,k1,k2,k3,k4⟩,⟨f1,f2,f3,f4⟩,sO⟩:=bh.blk.five';clear an hr bh hk gE;go_wp2_with fail
    (try simp only[Exit.inBlock,Exit.then])
    first
     |refine bodyPost_ret (results_none rfl _ _ _) rfl ?_
     |refine bodyPost_end (results_none rfl _ _ _) rfl ?_
    exact Ar.mkN HD.o HE.o.1 HE.o.2
   ·obtain⟨rfl,qL,bh,hk⟩:=an.some_ hr;have wm:=gE.2.2 x rfl;have eZ:=gE.2.1;simp only at wm eZ;have HD:=J (Mq HZ.o hr);have jC:=J (eJ.o.trans hk);have wu:(ns++Ak ns.length x).length+1<=b:=by have:=HR.o.few;rw[BC];omega
    have bG:=J (Ce g w4 ts b false _ _ tv qL 5 0 0 [] bh wu);rw[show str []= .string ⟨#[]⟩ from rfl,Sd]at bG;obtain⟨⟨k0,k1,k2,k3,k4⟩,⟨f1,f2,f3,f4⟩,sO⟩:=bh.blk.five';clear an hr bh hk gE wu;go_wp2_with fail;refine bG.o.mono ?_
    rintro e w5 ⟨ZW,rfl,mQ,dg⟩;have rQ:=x.size_pos;have hbg:(lg || x.big)=(lg || (Ex.un 5 0 x).big):=by rw[Ex.big];rfl
    have HF:Hid (RdR g w5 ts b false (ns++Ak ns.length (.un 5 0 x)) (lg || (Ex.un 5 0 x).big) tv ZW):=J (dg.as hbg (by
     rw[Ca,<-List.append_assoc,BC,show ((ns.length+x.size-1:Nat):Int)=((ns.length+x.size:Nat):Int)-1 by omega];rfl))
    have fr:=J (jC.o.trans mQ);clear mQ dg hbg;go_wp2_with fail
    (try simp only[Exit.inBlock,Exit.then])
    first
     |refine bodyPost_ret (results_none rfl _ _ _) rfl ?_
     |refine bodyPost_end (results_none rfl _ _ _) rfl ?_
    exact Ar.mkS HD.o fr.o HF.o
structure LV (g:Nat) (ts:List Tok) (tv:Value) (ns:List Nd) (nv:Value) (lg:Bool) (w:World) (C:Option Ex × Nat) (op:Nat->Option Ex × Nat) (s1 s2:List UInt8) (k1 k2 a f b:Nat) (x:Ex) (nv':Value) (wr:World):Prop where
 rd:RdR g wr ts b false (ns++Ak ns.length x) (lg || x.big) tv nv'
 kr:KR g nv nv' w wr
 eq:C=BK op ts s1 s2 k1 k2 f x b
 fuel:ts.length<=b+f
 lo:a<=b
 sz:ns.length+x.size<=b
theorem LV.next {g:Nat} {ts:List Tok} {tv nv bO nv2 ut qL:Value} {ns:List Nd} {lg:Bool} {w wr w1 w2 w3:World} {C:Option Ex × Nat} {op:Nat->Option Ex × Nat} {s1 s2:List UInt8} {k1 k2 a f b b' k n1 n2:Nat} {x y:Ex}
  (h:LV g ts tv ns nv lg w C op s1 s2 k1 k2 a f b x bO wr) (hc:C=BK op ts s1 s2 k1 k2 (f-1) (.bin k x y) b') (hb:b+1+y.size<=b') (hr:RdR g w3 ts b' false (((ns++Ak ns.length x)++Ak (ns++Ak ns.length x).length y)++[⟨(k:Int),(n1:Int)-1,(n2:Int)-1,0,[]⟩]) ((lg || x.big) || y.big) tv qL)
  (dN:n1=(ns++Ak ns.length x).length) (hn2:n2=((ns++Ak ns.length x)++Ak (ns++Ak ns.length x).length y).length)
  (fJ:KR g bO nv2 wr w1) (hk2:KR g nv2 ut w1 w2) (d9:KR g ut qL w2 w3):LV g ts tv ns nv lg w C op s1 s2 k1 k2 a (f-1) b' (.bin k x y) qL w3:=by
 subst dN;subst hn2;have hx:=x.size_pos;have hy:=y.size_pos;have h1:=h.fuel;have h2:=h.lo;have h3:=h.sz;refine⟨?_,((h.kr.trans fJ).trans hk2).trans d9,hc,by omega,by omega,by rw[Ex.size];omega⟩;refine hr.as (by rw[Ex.big,Bool.or_assoc]) ?_
 rw[SA];have e1:(ns++Ak ns.length x).length=ns.length+x.size:=BC;rw[e1];have e2:((ns++Ak ns.length x)++Ak (ns.length+x.size) y).length=ns.length+x.size+y.size:=by rw[List.length_append,e1,AD]
 rw[e2];rw[show ((ns.length+x.size-1:Nat):Int)=((ns.length+x.size:Nat):Int)-1 by omega,show ((ns.length+x.size+y.size-1:Nat):Int)=((ns.length+x.size+y.size:Nat):Int)-1 by omega];simp only[List.append_assoc]
def LoR(g:Nat)(ts:List Tok)(tv:Value)(ns:List Nd)(nv:Value)(lg:Bool)(w:World)(C:Option Ex × Nat)(op:Nat->Option Ex × Nat)(s1 s2:List UInt8)(k1 k2 a:Nat)(b:Nat)(wr:World):Prop:=
 (C=(none,b)/\∃nv' ns' lg',RdR g wr ts b true ns' lg' tv nv'/\KR g nv nv' w wr)\/∃f x nv',LV g ts tv ns nv lg w C op s1 s2 k1 k2 a f b x nv' wr
theorem O1{ts:List Tok}{b:Nat}{c d:List UInt8}(h:isS ts b c=true)(yd:(c == d)=false):isS ts b d=false:=by
 unfold isS at h ⊢;cases h2:ts[b]? with
 |none=>rfl
 |some t=>
  rw[h2]at h;simp only[Bool.and_eq_true,beq_iff_eq]at h;simp only[h.2,yd,Bool.and_false]
theorem Lj(g:Nat)(ts:List Tok)(tv:Value)(f a:Nat)(jP:∀t∈ts,CH t)(hs:∀a',a<a'->SZ g ts tv f a')(w:World)(ns:List Nd)(lg:Bool)(nv:Value)(h:RdR g w ts a false ns lg tv nv):
  Calls Tryz.prog 128 #[.pointer (some ⟨g,0,none⟩)] w (Ar g ts tv ns nv lg (F6 (Bk ts f) ts a) w):=by
 have aS:Hid (∀a',a<=a'->∀w ns lg nv,RdR g w ts a' false ns lg tv nv->Calls Tryz.prog 172 #[.pointer (some ⟨g,0,none⟩)] w (Ar g ts tv ns nv lg (BQ (Bk ts f) ts a') w)):=
  J (fun a' ha w ns lg nv h=>NR g ts tv f jP ts.length a' (by omega) (fun b hb=>hs b (by omega)) w ns lg nv h)
 have HG:=J (Fy (D4 ts f));obtain⟨C,hC⟩:∃C,C8 (BQ (Bk ts f) ts) ts [42] [47] 8 9 a=C:=⟨_,rfl⟩;rw[show F6 (Bk ts f) ts a=C8 (BQ (Bk ts f) ts) ts [42] [47] 8 9 a from rfl,hC];generalize BQ (Bk ts f) ts=op at *;clear hs jP;have iU:=J (fun W a bad ns lg nv h=>CT g W ts a bad ns lg tv nv [42] h);have ic:=J (fun W a bad ns lg nv h=>CT g W ts a bad ns lg tv nv [47] h);rw[show str [42]= .string ⟨#[42]⟩ from rfl]at iU;rw[show str [47]= .string ⟨#[47]⟩ from rfl]at ic;have cH:=h.le;have fI:=h.max;have dz:=h.few;have HC:Hid (∀r,op a=r->C=match r with|(none,b)=>(none,b)|(some x,b)=>BK op ts [42] [47] 8 9 ts.length x b):=J (fun r hr=>by rw[<-hC];unfold C8;rw[hr]<;>(obtain⟨_|x,b⟩:=r<;>rfl));have gE:=HG.o a cH;have HO:=J (aS.o a (Nat.le_refl _) w ns lg nv h);clear h hC;go_enter Tryz.func128,Tryz.ntmps128;go_wp2_with fail;refine HO.o.mono ?_
 intro e w3 an;have hst:e= .returned (.tuple #[])/\∃b,LoR g ts tv ns nv lg w C op [42] [47] 8 9 a b w3:=by
  obtain⟨r,hr⟩:∃r,op a=r:=⟨_,rfl⟩;have hC:=HC.o r hr;rw[hr]at gE;obtain⟨_|x,b⟩:=r
  ·obtain⟨rfl,bO,kZ,k7,bh,hk⟩:=an.none_ hr;exact⟨rfl,b,.inl ⟨hC,bO,kZ,k7,bh,hk⟩⟩
  ·obtain⟨rfl,bO,bh,hk⟩:=an.some_ hr;have i5:=gE.2.2 x rfl;have eZ:=gE.1;simp only at i5 eZ;exact⟨rfl,b,.inr ⟨ts.length,x,bO,bh,hk,hC,by omega,eZ,by omega⟩⟩
 obtain⟨rfl,b0,fS⟩:=hst;have fq:=J fS;clear an fS gE HO HC;go_wp2_with fail
 go_loopg [] (ts.length-b0) (fun gh wr=>∃b,gh=ts.length-b/\LoR g ts tv ns nv lg w C op [42] [47] 8 9 a b wr)
 case atStart=>exact⟨b0,rfl,fq.o⟩
 case round=>
  obtain⟨b,jO,⟨hcn,bO,kZ,k7,bh,wg⟩|⟨oQ,x,bO,a9⟩⟩:=hrel
  ·have HE:=J (And.intro wg bh);have Xk:=J hcn;have ag:=J (iU.o wr b true kZ k7 bO bh);simp only[Bool.not_true,Bool.false_and]at ag;clear jO hcn bh wg fq;go_wp2_with fail;refine ag.o.mono ?_
   rintro e w4 ⟨rfl,hd⟩;have fw:=J (And.intro (HE.o.1.trans (KR.of_ext hd.ext)) (HE.o.2.keep hd.ext));have ba:=J (ic.o w4 b true kZ k7 bO fw.o.2);simp only[Bool.not_true,Bool.false_and]at ba;clear hd;go_wp2_with fail;refine ba.o.mono ?_
   rintro e w5 ⟨rfl,hd⟩;have km:=J (And.intro (fw.o.1.trans (KR.of_ext hd.ext)) (fw.o.2.keep hd.ext));clear hd;go_wp2_with fail
   (try simp only[Exit.inBlock,Exit.then])
   first
    |refine bodyPost_ret (results_none rfl _ _ _) rfl ?_
    |refine bodyPost_end (results_none rfl _ _ _) rfl ?_
   exact Ar.mkN Xk.o km.o.1 km.o.2
  ·have jD:=J jO;have HI:=J a9;have au:=J (iU.o wr b false _ _ bO a9.rd);simp only[Bool.not_false,Bool.true_and]at au;have fd:=a9.rd.le;have VQ:=a9.fuel;clear jO a9 fq;obtain⟨u1,ej⟩:∃u,isS ts b [42]=u:=⟨_,rfl⟩;rw[ej]at au;cases u1
   ·go_wp2_with fail;refine au.o.mono ?_
    rintro e yH ⟨rfl,hd⟩;have eJ:=J (KR.of_ext (g:=g) (nv:=bO) hd.ext);have eX:=J (HI.o.rd.keep hd.ext);have aR:=J (ic.o yH b false _ _ bO eX.o);simp only[Bool.not_false,Bool.true_and]at aR;clear hd;obtain⟨u2,dU⟩:∃u,isS ts b [47]=u:=⟨_,rfl⟩;rw[dU]at aR;cases u2
    ·have eK:Hid (C=(some x,b)):=J (by rw[HI.o.eq,Hf oQ ej dU]);go_wp2_with fail;refine aR.o.mono ?_
     rintro e w4 ⟨rfl,hd⟩;have HE:=J (And.intro ((HI.o.kr.trans eJ.o).trans (KR.of_ext hd.ext)) (eX.o.keep hd.ext));clear hd;go_wp2_with fail
     (try simp only[Exit.inBlock,Exit.then])
     first
      |refine bodyPost_ret (results_none rfl _ _ _) rfl ?_
      |refine bodyPost_end (results_none rfl _ _ _) rfl ?_
     exact Ar.mkS eK.o HE.o.1 HE.o.2
    ·have iI:=Cs dU;have vj:IntKind.i64.wrap ((b:Int)+1)=(b:Int)+1:=IntWalk.i64_in _ (by omega);go_wp2_with fail;refine aR.o.mono ?_
     rintro e w4 ⟨rfl,hd⟩;have jC:=J (eJ.o.trans (KR.of_ext hd.ext));have dT:=J (eX.o.keep hd.ext);have bE:=J (ic.o w4 b false _ _ bO dT.o);simp only[Bool.not_false,Bool.true_and]at bE;rw[dU]at bE;clear hd;go_wp2_with fail;refine bE.o.mono ?_
     rintro e w5 ⟨rfl,hd⟩;have dg:=dT.o.keep hd.ext;have dr:=J dg;have fr:=J (jC.o.trans (KR.of_ext hd.ext));obtain⟨A2,c2,rfl⟩:=dg.row.shape;obtain⟨n1,dN⟩:∃n1,n1=(ns++Ak ns.length x).length:=⟨_,rfl⟩;obtain⟨⟨k0,k1,k2,k3,k4⟩,⟨f1,f2,f3,f4⟩,wt⟩:=dg.blk.five';have lz:1<=n1:=by rw[dN,BC];have:=x.size_pos;omega
     have oA:n1<=b:=by rw[dN];exact dg.few
     rw[<-dN]at k3;have jz:=J dN;have uv:IntKind.i64.wrap ((n1:Int)-1)=(n1:Int)-1:=IntWalk.i64_in _ (by omega);clear hd dg dN;go_upto_region 7 with fail;have hst:=dr.o.stepR iI;obtain⟨w6,jG⟩:∃w6,w6=w5.setCell ⟨g,1,none⟩ (.int .i64 ((b:Int)+1)):=⟨_,rfl⟩;rw[<-jG]at hst ⊢;have gk:=J (fr.o.trans hst.2);have em:=J (aS.o (b+1) (by have:=HI.o.lo;omega) w6 _ _ _ hst.1);have dP:=HG.o (b+1) iI;obtain⟨r,hr⟩:∃r,op (b+1)=r:=⟨_,rfl⟩;have nk:Hid (C=Ib op ts [42] [47] 8 9 (oQ-1) 9 x r):=J (by rw[HI.o.eq,IK (by omega) ej dU,hr]);rw[hr]at dP;clear hst jG k0 k1 k2 k3 k4 f1 f2 f3 f4;go_wp2_with fail;refine em.o.mono ?_
     intro e w7 an;obtain⟨_|y,b'⟩:=r
     ·obtain⟨rfl,lu,rI,rK,bh,hk⟩:=an.none_ hr;have eZ:=dP.1;simp only at eZ;have dA:=dP.2.1;simp only at dA;have HF:Hid (LoR g ts tv ns nv lg w C op [42] [47] 8 9 a b' w7):=J (.inl ⟨nk.o,lu,rI,rK,bh,(HI.o.kr.trans gk.o).trans hk⟩);obtain⟨⟨k0,k1,k2,k3,k4⟩,⟨f1,f2,f3,f4⟩,dC⟩:=bh.blk.five';clear an hr bh hk dP;go_wp2_with fail
      go_roundg (ts.length-b')
      case rel=>exact⟨b',rfl,HF.o⟩
      case measure=>rw[jD.o];omega
     ·obtain⟨rfl,lu,bh,hk⟩:=an.some_ hr;have mH:=dP.2.2 y rfl;have dA:=dP.2.1;simp only at mH dA;have jZ:=J hk;have iN:((ns++Ak ns.length x)++Ak (ns++Ak ns.length x).length y).length+1<=b':=by have:=HI.o.sz;rw[BC,BC];omega
      have bG:=J (Ce g w7 ts b' false _ _ tv lu 9 ((n1:Int)-1) 0 [] bh iN);rw[show str []= .string ⟨#[]⟩ from rfl,Hh (by decide)]at bG;obtain⟨n2,hn2⟩:∃n2,n2=((ns++Ak ns.length x)++Ak (ns++Ak ns.length x).length y).length:=⟨_,rfl⟩;rw[<-hn2]at bG;have eP:=J hn2;obtain⟨⟨k0,k1,k2,k3,k4⟩,⟨f1,f2,f3,f4⟩,dC⟩:=bh.blk.five';clear an hr bh hk dP hn2 iN;go_wp2_with fail;refine bG.o.mono ?_
      rintro e w8 ⟨rH,rfl,d7,cO⟩;have HF:Hid (LoR g ts tv ns nv lg w C op [42] [47] 8 9 a b' w8):=J (.inr ⟨oQ-1,.bin 9 x y,rH,HI.o.next nk.o mH cO jz.o eP.o gk.o jZ.o d7⟩);clear d7 cO;go_wp2_with fail
      go_roundg (ts.length-b')
      case rel=>exact⟨b',rfl,HF.o⟩
      case measure=>rw[jD.o];omega
   ·have iI:=Cs ej;have vj:IntKind.i64.wrap ((b:Int)+1)=(b:Int)+1:=IntWalk.i64_in _ (by omega);have dU:=O1 (d:=[47]) ej (by decide);go_wp2_with fail;refine au.o.mono ?_
    rintro e w4 ⟨rfl,hd⟩;have jC:=J (KR.of_ext (g:=g) (nv:=bO) hd.ext);have dT:=J (HI.o.rd.keep hd.ext);have bE:=J (ic.o w4 b false _ _ bO dT.o);simp only[Bool.not_false,Bool.true_and]at bE;rw[dU]at bE;clear hd;go_wp2_with fail;refine bE.o.mono ?_
    rintro e w5 ⟨rfl,hd⟩;have dg:=dT.o.keep hd.ext;have dr:=J dg;have fr:=J (jC.o.trans (KR.of_ext hd.ext));obtain⟨A2,c2,rfl⟩:=dg.row.shape;obtain⟨n1,dN⟩:∃n1,n1=(ns++Ak ns.length x).length:=⟨_,rfl⟩;obtain⟨⟨k0,k1,k2,k3,k4⟩,⟨f1,f2,f3,f4⟩,wt⟩:=dg.blk.five';have lz:1<=n1:=by rw[dN,BC];have:=x.size_pos;omega
    have oA:n1<=b:=by rw[dN];exact dg.few
    rw[<-dN]at k3;have jz:=J dN;have uv:IntKind.i64.wrap ((n1:Int)-1)=(n1:Int)-1:=IntWalk.i64_in _ (by omega);clear hd dg dN;go_upto_region 7 with fail;have hst:=dr.o.stepR iI;obtain⟨w6,jG⟩:∃w6,w6=w5.setCell ⟨g,1,none⟩ (.int .i64 ((b:Int)+1)):=⟨_,rfl⟩;rw[<-jG]at hst ⊢;have gk:=J (fr.o.trans hst.2);have em:=J (aS.o (b+1) (by have:=HI.o.lo;omega) w6 _ _ _ hst.1);have dP:=HG.o (b+1) iI;obtain⟨r,hr⟩:∃r,op (b+1)=r:=⟨_,rfl⟩;have nk:Hid (C=Ib op ts [42] [47] 8 9 (oQ-1) 8 x r):=J (by rw[HI.o.eq,IL (by omega) ej,hr]);rw[hr]at dP;clear hst jG k0 k1 k2 k3 k4 f1 f2 f3 f4;go_wp2_with fail;refine em.o.mono ?_
    intro e w7 an;obtain⟨_|y,b'⟩:=r
    ·obtain⟨rfl,lu,rI,rK,bh,hk⟩:=an.none_ hr;have eZ:=dP.1;simp only at eZ;have dA:=dP.2.1;simp only at dA;have HF:Hid (LoR g ts tv ns nv lg w C op [42] [47] 8 9 a b' w7):=J (.inl ⟨nk.o,lu,rI,rK,bh,(HI.o.kr.trans gk.o).trans hk⟩);obtain⟨⟨k0,k1,k2,k3,k4⟩,⟨f1,f2,f3,f4⟩,dC⟩:=bh.blk.five';clear an hr bh hk dP;go_wp2_with fail
     go_roundg (ts.length-b')
     case rel=>exact⟨b',rfl,HF.o⟩
     case measure=>rw[jD.o];omega
    ·obtain⟨rfl,lu,bh,hk⟩:=an.some_ hr;have mH:=dP.2.2 y rfl;have dA:=dP.2.1;simp only at mH dA;have jZ:=J hk;have iN:((ns++Ak ns.length x)++Ak (ns++Ak ns.length x).length y).length+1<=b':=by have:=HI.o.sz;rw[BC,BC];omega
     have bG:=J (Ce g w7 ts b' false _ _ tv lu 8 ((n1:Int)-1) 0 [] bh iN);rw[show str []= .string ⟨#[]⟩ from rfl,Hh (by decide)]at bG;obtain⟨n2,hn2⟩:∃n2,n2=((ns++Ak ns.length x)++Ak (ns++Ak ns.length x).length y).length:=⟨_,rfl⟩;rw[<-hn2]at bG;have eP:=J hn2;obtain⟨⟨k0,k1,k2,k3,k4⟩,⟨f1,f2,f3,f4⟩,dC⟩:=bh.blk.five';clear an hr bh hk dP hn2 iN;go_wp2_with fail;refine bG.o.mono ?_
     rintro e w8 ⟨rH,rfl,d7,cO⟩;have HF:Hid (LoR g ts tv ns nv lg w C op [42] [47] 8 9 a b' w8):=J (.inr ⟨oQ-1,.bin 8 x y,rH,HI.o.next nk.o mH cO jz.o eP.o gk.o jZ.o d7⟩);clear d7 cO;go_wp2_with fail
     go_roundg (ts.length-b')
     case rel=>exact⟨b',rfl,HF.o⟩
     case measure=>rw[jD.o];omega
theorem Rv(g:Nat)(ts:List Tok)(tv:Value)(jP:∀t∈ts,CH t)(f:Nat):∀a,ts.length<a+f->SZ g ts tv f a:=by
 induction f with
 |zero=>intro a ha w ns lg nv h;have:=h.le;omega
 |succ f ih=>
  intro a ha w ns lg nv h;have aS:Hid (∀a',a<=a'->∀w ns lg nv,RdR g w ts a' false ns lg tv nv->Calls Tryz.prog 128 #[.pointer (some ⟨g,0,none⟩)] w (Ar g ts tv ns nv lg (F6 (Bk ts f) ts a') w)):=
   J (fun a' ha w ns lg nv h=>Lj g ts tv f a' jP (fun b hb=>ih b (by omega)) w ns lg nv h)
  have HG:=J (JB (D4 ts f));obtain⟨C,hC⟩:∃C,C8 (F6 (Bk ts f) ts) ts [43] [45] 6 7 a=C:=⟨_,rfl⟩;rw[show Bk ts (f+1) a=C8 (F6 (Bk ts f) ts) ts [43] [45] 6 7 a from rfl,hC];generalize F6 (Bk ts f) ts=op at *;clear ih jP ha;have iU:=J (fun W a bad ns lg nv h=>CT g W ts a bad ns lg tv nv [43] h);have ic:=J (fun W a bad ns lg nv h=>CT g W ts a bad ns lg tv nv [45] h);rw[show str [43]= .string ⟨#[43]⟩ from rfl]at iU;rw[show str [45]= .string ⟨#[45]⟩ from rfl]at ic;have cH:=h.le;have fI:=h.max;have dz:=h.few;have HC:Hid (∀r,op a=r->C=match r with|(none,b)=>(none,b)|(some x,b)=>BK op ts [43] [45] 6 7 ts.length x b):=J (fun r hr=>by rw[<-hC];unfold C8;rw[hr]<;>(obtain⟨_|x,b⟩:=r<;>rfl));have gE:=HG.o a cH;have HO:=J (aS.o a (Nat.le_refl _) w ns lg nv h);clear h hC;go_enter Tryz.func66,Tryz.ntmps66;go_wp2_with fail;refine HO.o.mono ?_
  intro e w3 an;have hst:e= .returned (.tuple #[])/\∃b,LoR g ts tv ns nv lg w C op [43] [45] 6 7 a b w3:=by
   obtain⟨r,hr⟩:∃r,op a=r:=⟨_,rfl⟩;have hC:=HC.o r hr;rw[hr]at gE;obtain⟨_|x,b⟩:=r
   ·obtain⟨rfl,bO,kZ,k7,bh,hk⟩:=an.none_ hr;exact⟨rfl,b,.inl ⟨hC,bO,kZ,k7,bh,hk⟩⟩
   ·obtain⟨rfl,bO,bh,hk⟩:=an.some_ hr;have i5:=gE.2.2 x rfl;have eZ:=gE.1;simp only at i5 eZ;exact⟨rfl,b,.inr ⟨ts.length,x,bO,bh,hk,hC,by omega,eZ,by omega⟩⟩
  obtain⟨rfl,b0,fS⟩:=hst;have fq:=J fS;clear an fS gE HO HC;go_wp2_with fail
  go_loopg [] (ts.length-b0) (fun gh wr=>∃b,gh=ts.length-b/\LoR g ts tv ns nv lg w C op [43] [45] 6 7 a b wr)
  case atStart=>exact⟨b0,rfl,fq.o⟩
  case round=>
   obtain⟨b,jO,⟨hcn,bO,kZ,k7,bh,wg⟩|⟨oQ,x,bO,a9⟩⟩:=hrel
   ·have HE:=J (And.intro wg bh);have Xk:=J hcn;have ag:=J (iU.o wr b true kZ k7 bO bh);simp only[Bool.not_true,Bool.false_and]at ag;clear jO hcn bh wg fq;go_wp2_with fail;refine ag.o.mono ?_
    rintro e w4 ⟨rfl,hd⟩;have fw:=J (And.intro (HE.o.1.trans (KR.of_ext hd.ext)) (HE.o.2.keep hd.ext));have ba:=J (ic.o w4 b true kZ k7 bO fw.o.2);simp only[Bool.not_true,Bool.false_and]at ba;clear hd;go_wp2_with fail;refine ba.o.mono ?_
    rintro e w5 ⟨rfl,hd⟩;have km:=J (And.intro (fw.o.1.trans (KR.of_ext hd.ext)) (fw.o.2.keep hd.ext));clear hd;go_wp2_with fail
    (try simp only[Exit.inBlock,Exit.then])
    first
     |refine bodyPost_ret (results_none rfl _ _ _) rfl ?_
     |refine bodyPost_end (results_none rfl _ _ _) rfl ?_
    exact Ar.mkN Xk.o km.o.1 km.o.2
   ·have jD:=J jO;have HI:=J a9;have au:=J (iU.o wr b false _ _ bO a9.rd);simp only[Bool.not_false,Bool.true_and]at au;have fd:=a9.rd.le;have VQ:=a9.fuel;clear jO a9 fq;obtain⟨u1,ej⟩:∃u,isS ts b [43]=u:=⟨_,rfl⟩;rw[ej]at au;cases u1
    ·go_wp2_with fail;refine au.o.mono ?_
     rintro e yH ⟨rfl,hd⟩;have eJ:=J (KR.of_ext (g:=g) (nv:=bO) hd.ext);have eX:=J (HI.o.rd.keep hd.ext);have aR:=J (ic.o yH b false _ _ bO eX.o);simp only[Bool.not_false,Bool.true_and]at aR;clear hd;obtain⟨u2,dU⟩:∃u,isS ts b [45]=u:=⟨_,rfl⟩;rw[dU]at aR;cases u2
     ·have eK:Hid (C=(some x,b)):=J (by rw[HI.o.eq,Hf oQ ej dU]);go_wp2_with fail;refine aR.o.mono ?_
      rintro e w4 ⟨rfl,hd⟩;have HE:=J (And.intro ((HI.o.kr.trans eJ.o).trans (KR.of_ext hd.ext)) (eX.o.keep hd.ext));clear hd;go_wp2_with fail
      (try simp only[Exit.inBlock,Exit.then])
      first
       |refine bodyPost_ret (results_none rfl _ _ _) rfl ?_
       |refine bodyPost_end (results_none rfl _ _ _) rfl ?_
      exact Ar.mkS eK.o HE.o.1 HE.o.2
     ·have iI:=Cs dU;have vj:IntKind.i64.wrap ((b:Int)+1)=(b:Int)+1:=IntWalk.i64_in _ (by omega);go_wp2_with fail;refine aR.o.mono ?_
      rintro e w4 ⟨rfl,hd⟩;have jC:=J (eJ.o.trans (KR.of_ext hd.ext));have dT:=J (eX.o.keep hd.ext);have bE:=J (ic.o w4 b false _ _ bO dT.o);simp only[Bool.not_false,Bool.true_and]at bE;rw[dU]at bE;clear hd;go_wp2_with fail;refine bE.o.mono ?_
      rintro e w5 ⟨rfl,hd⟩;have dg:=dT.o.keep hd.ext;have dr:=J dg;have fr:=J (jC.o.trans (KR.of_ext hd.ext));obtain⟨A2,c2,rfl⟩:=dg.row.shape;obtain⟨n1,dN⟩:∃n1,n1=(ns++Ak ns.length x).length:=⟨_,rfl⟩;obtain⟨⟨k0,k1,k2,k3,k4⟩,⟨f1,f2,f3,f4⟩,wt⟩:=dg.blk.five';have lz:1<=n1:=by rw[dN,BC];have:=x.size_pos;omega
      have oA:n1<=b:=by rw[dN];exact dg.few
      rw[<-dN]at k3;have jz:=J dN;have uv:IntKind.i64.wrap ((n1:Int)-1)=(n1:Int)-1:=IntWalk.i64_in _ (by omega);clear hd dg dN;go_upto_region 7 with fail;have hst:=dr.o.stepR iI;obtain⟨w6,jG⟩:∃w6,w6=w5.setCell ⟨g,1,none⟩ (.int .i64 ((b:Int)+1)):=⟨_,rfl⟩;rw[<-jG]at hst ⊢;have gk:=J (fr.o.trans hst.2);have em:=J (aS.o (b+1) (by have:=HI.o.lo;omega) w6 _ _ _ hst.1);have dP:=HG.o (b+1) iI;obtain⟨r,hr⟩:∃r,op (b+1)=r:=⟨_,rfl⟩;have nk:Hid (C=Ib op ts [43] [45] 6 7 (oQ-1) 7 x r):=J (by rw[HI.o.eq,IK (by omega) ej dU,hr]);rw[hr]at dP;clear hst jG k0 k1 k2 k3 k4 f1 f2 f3 f4;go_wp2_with fail;refine em.o.mono ?_
      intro e w7 an;obtain⟨_|y,b'⟩:=r
      ·obtain⟨rfl,lu,rI,rK,bh,hk⟩:=an.none_ hr;have eZ:=dP.1;simp only at eZ;have dA:=dP.2.1;simp only at dA;have HF:Hid (LoR g ts tv ns nv lg w C op [43] [45] 6 7 a b' w7):=J (.inl ⟨nk.o,lu,rI,rK,bh,(HI.o.kr.trans gk.o).trans hk⟩);obtain⟨⟨k0,k1,k2,k3,k4⟩,⟨f1,f2,f3,f4⟩,dC⟩:=bh.blk.five';clear an hr bh hk dP;go_wp2_with fail
       go_roundg (ts.length-b')
       case rel=>exact⟨b',rfl,HF.o⟩
       case measure=>rw[jD.o];omega
      ·obtain⟨rfl,lu,bh,hk⟩:=an.some_ hr;have mH:=dP.2.2 y rfl;have dA:=dP.2.1;simp only at mH dA;have jZ:=J hk;have iN:((ns++Ak ns.length x)++Ak (ns++Ak ns.length x).length y).length+1<=b':=by have:=HI.o.sz;rw[BC,BC];omega
       have bG:=J (Ce g w7 ts b' false _ _ tv lu 7 ((n1:Int)-1) 0 [] bh iN);rw[show str []= .string ⟨#[]⟩ from rfl,Hh (by decide)]at bG;obtain⟨n2,hn2⟩:∃n2,n2=((ns++Ak ns.length x)++Ak (ns++Ak ns.length x).length y).length:=⟨_,rfl⟩;rw[<-hn2]at bG;have eP:=J hn2;obtain⟨⟨k0,k1,k2,k3,k4⟩,⟨f1,f2,f3,f4⟩,dC⟩:=bh.blk.five';clear an hr bh hk dP hn2 iN;go_wp2_with fail;refine bG.o.mono ?_
       rintro e w8 ⟨rH,rfl,d7,cO⟩;have HF:Hid (LoR g ts tv ns nv lg w C op [43] [45] 6 7 a b' w8):=J (.inr ⟨oQ-1,.bin 7 x y,rH,HI.o.next nk.o mH cO jz.o eP.o gk.o jZ.o d7⟩);clear d7 cO;go_wp2_with fail
       go_roundg (ts.length-b')
       case rel=>exact⟨b',rfl,HF.o⟩
       case measure=>rw[jD.o];omega
    ·have iI:=Cs ej;have vj:IntKind.i64.wrap ((b:Int)+1)=(b:Int)+1:=IntWalk.i64_in _ (by omega);have dU:=O1 (d:=[45]) ej (by decide);go_wp2_with fail;refine au.o.mono ?_
     rintro e w4 ⟨rfl,hd⟩;have jC:=J (KR.of_ext (g:=g) (nv:=bO) hd.ext);have dT:=J (HI.o.rd.keep hd.ext);have bE:=J (ic.o w4 b false _ _ bO dT.o);simp only[Bool.not_false,Bool.true_and]at bE;rw[dU]at bE;clear hd;go_wp2_with fail;refine bE.o.mono ?_
     rintro e w5 ⟨rfl,hd⟩;have dg:=dT.o.keep hd.ext;have dr:=J dg;have fr:=J (jC.o.trans (KR.of_ext hd.ext));obtain⟨A2,c2,rfl⟩:=dg.row.shape;obtain⟨n1,dN⟩:∃n1,n1=(ns++Ak ns.length x).length:=⟨_,rfl⟩;obtain⟨⟨k0,k1,k2,k3,k4⟩,⟨f1,f2,f3,f4⟩,wt⟩:=dg.blk.five';have lz:1<=n1:=by rw[dN,BC];have:=x.size_pos;omega
     have oA:n1<=b:=by rw[dN];exact dg.few
     rw[<-dN]at k3;have jz:=J dN;have uv:IntKind.i64.wrap ((n1:Int)-1)=(n1:Int)-1:=IntWalk.i64_in _ (by omega);clear hd dg dN;go_upto_region 7 with fail;have hst:=dr.o.stepR iI;obtain⟨w6,jG⟩:∃w6,w6=w5.setCell ⟨g,1,none⟩ (.int .i64 ((b:Int)+1)):=⟨_,rfl⟩;rw[<-jG]at hst ⊢;have gk:=J (fr.o.trans hst.2);have em:=J (aS.o (b+1) (by have:=HI.o.lo;omega) w6 _ _ _ hst.1);have dP:=HG.o (b+1) iI;obtain⟨r,hr⟩:∃r,op (b+1)=r:=⟨_,rfl⟩;have nk:Hid (C=Ib op ts [43] [45] 6 7 (oQ-1) 6 x r):=J (by rw[HI.o.eq,IL (by omega) ej,hr]);rw[hr]at dP;clear hst jG k0 k1 k2 k3 k4 f1 f2 f3 f4;go_wp2_with fail;refine em.o.mono ?_
     intro e w7 an;obtain⟨_|y,b'⟩:=r
     ·obtain⟨rfl,lu,rI,rK,bh,hk⟩:=an.none_ hr;have eZ:=dP.1;simp only at eZ;have dA:=dP.2.1;simp only at dA;have HF:Hid (LoR g ts tv ns nv lg w C op [43] [45] 6 7 a b' w7):=J (.inl ⟨nk.o,lu,rI,rK,bh,(HI.o.kr.trans gk.o).trans hk⟩);obtain⟨⟨k0,k1,k2,k3,k4⟩,⟨f1,f2,f3,f4⟩,dC⟩:=bh.blk.five';clear an hr bh hk dP;go_wp2_with fail
      go_roundg (ts.length-b')
      case rel=>exact⟨b',rfl,HF.o⟩
      case measure=>rw[jD.o];omega
     ·obtain⟨rfl,lu,bh,hk⟩:=an.some_ hr;have mH:=dP.2.2 y rfl;have dA:=dP.2.1;simp only at mH dA;have jZ:=J hk;have iN:((ns++Ak ns.length x)++Ak (ns++Ak ns.length x).length y).length+1<=b':=by have:=HI.o.sz;rw[BC,BC];omega
      have bG:=J (Ce g w7 ts b' false _ _ tv lu 6 ((n1:Int)-1) 0 [] bh iN);rw[show str []= .string ⟨#[]⟩ from rfl,Hh (by decide)]at bG;obtain⟨n2,hn2⟩:∃n2,n2=((ns++Ak ns.length x)++Ak (ns++Ak ns.length x).length y).length:=⟨_,rfl⟩;rw[<-hn2]at bG;have eP:=J hn2;obtain⟨⟨k0,k1,k2,k3,k4⟩,⟨f1,f2,f3,f4⟩,dC⟩:=bh.blk.five';clear an hr bh hk dP hn2 iN;go_wp2_with fail;refine bG.o.mono ?_
      rintro e w8 ⟨rH,rfl,d7,cO⟩;have HF:Hid (LoR g ts tv ns nv lg w C op [43] [45] 6 7 a b' w8):=J (.inr ⟨oQ-1,.bin 6 x y,rH,HI.o.next nk.o mH cO jz.o eP.o gk.o jZ.o d7⟩);clear d7 cO;go_wp2_with fail
      go_roundg (ts.length-b')
      case rel=>exact⟨b',rfl,HF.o⟩
      case measure=>rw[jD.o];omega
theorem NP(w:World)(s:List UInt8)(hm:B5 w):Calls Tryz.prog 15 #[str s] w (OF w s):=by
 have gL:=J (PL w s hm);have HM:=J hm;have fP:=J (Ny s);have qW:=Px s;have uR:Hid (EC s=if (Bm s).2.2≠0 then (none,(Bm s).2.1,(Bm s).2.2)
  else if (Bk (Bm s).1 ((Bm s).1.length+1) 0).2<(Bm s).1.length then (none,((Bm s).1.getD (Bk (Bm s).1 ((Bm s).1.length+1) 0).2 ⟨0,0,[]⟩).at_,6)
  else match (Bk (Bm s).1 ((Bm s).1.length+1) 0).1 with
   |none=>(none,s.length,6)
   |some x=>if x.big=false/\x.size<=200/\x.depth<=40 then (some x,s.length,0) else (none,0,7)):=J rfl
 unfold I9 at gL;unfold OF;generalize EC s=R at *;generalize (Bm s).2.1=sk at *;generalize (Bm s).2.2=se at *;generalize (Bm s).1=ts at *;clear hm;by_cases he0:se=0
 ·subst he0;have qa:(if (0:Nat)≠0 then ((none:Option Ex),sk,(0:Nat)) else if (Bk ts (ts.length+1) 0).2<ts.length then (none,(ts.getD (Bk ts (ts.length+1) 0).2 ⟨0,0,[]⟩).at_,6) else match (Bk ts (ts.length+1) 0).1 with|none=>(none,s.length,6)|some x=>if x.big=false/\x.size<=200/\x.depth<=40 then (some x,s.length,0) else (none,0,7))=(if (Bk ts (ts.length+1) 0).2<ts.length then (none,(ts.getD (Bk ts (ts.length+1) 0).2 ⟨0,0,[]⟩).at_,6) else match (Bk ts (ts.length+1) 0).1 with|none=>(none,s.length,6)|some x=>if x.big=false/\x.size<=200/\x.depth<=40 then (some x,s.length,0) else (none,0,7)):=by rw[if_neg (by simp)]
  have mY:=J (uR.o.trans qa);clear uR qa;have vh:=P8 fP.o (ts.length+1);have eD:=D4 ts (ts.length+1) 0 (Nat.zero_le _);have hz:(((0:Nat):Int))=0:=rfl;rw[hz]at gL;clear hz;obtain⟨n,hn⟩:∃n,n=ts.length:=⟨_,rfl⟩;have HN:=J hn;rw[<-hn]at gL;clear hn;go_enter Tryz.func15,Tryz.ntmps15;go_wp2_with fail;refine gL.o.mono ?_
  rintro e w1 ⟨v1,rfl,ac,ak⟩;have zp:Gt w1 v1 ts:=Gt.of (by rw[HN.o]at ac;exact ac);obtain⟨A1,c1,rfl⟩:=Aw ac;obtain⟨w2,bQ⟩:∃w2,w2=w1.alloc (.cells #[.slice A1 n c1,.int .i64 0,.bool false,.slice none 0 0,.bool false] 120):=⟨_,rfl⟩;have dm:Ext w1 w2:=by rw[bQ];exact(Ext.refl w1).alloc _
  have aR:=J (ak.trans dm);have nf:=J (HM.o.ext (ak.trans dm));have bh:RdR w1.heap.size w2 ts 0 false [] false (.slice A1 n c1) (.slice none 0 0):=⟨by rw[bQ];exact Blk.new w1 _ _,AB.nil _ _,(IQ.of zp).below dm,Nat.zero_le _,Nat.zero_le _,qW⟩;have xq:=J bh;have nE:=J ((IQ.of zp).below dm);have WE:=J (Rv w1.heap.size ts (.slice A1 n c1) fP.o (ts.length+1) 0 (by omega) w2 [] false (.slice none 0 0) bh);have ug:Hid (w.heap.size<=w1.heap.size):=J ak.size;clear ac ak zp dm bh;go_upto_region 5 with fail;rw[<-bQ];clear bQ;generalize w1.heap.size=g at *;go_wp2_with fail;refine WE.o.mono ?_
  intro e w3 an;obtain⟨r,hr⟩:∃r,Bk ts (ts.length+1) 0=r:=⟨_,rfl⟩;rw[hr]at eD;have HR:=J mY.o;rw[hr]at HR;have hall:∀b:Nat,b<ts.length->Hid (∃A:Addr,True):=fun _ _=>J ⟨⟨0,0,none⟩,trivial⟩
  clear hall;obtain⟨_|x,b⟩:=r
  ·obtain⟨rfl,bO,kZ,k7,bh,hk⟩:=an.none_ hr;have mp:=hk.below (ns:=[]) (AB.nil _ _) (Nat.le_of_lt xq.o.blk.lt);have aE:Hid (Ext w w3):=J (aR.o.more (Below.mono mp ug.o));obtain⟨⟨k0,k1,k2,k3,k4⟩,_,Ya⟩:=bh.blk.five';obtain⟨A9,c9,VB,q8⟩:=nE.o.below mp;injection VB with he1 he2 he3
   subst he1;clear he2 he3;simp only at HR;by_cases hb:b<ts.length
   ·obtain⟨bk,bW,_,_,pN⟩:=q8 (by omega);clear q8;subst bW;have q1:=(pN b hb).2.1;have mJ:(ts.getD b ⟨0,0,[]⟩).at_=ts[b].at_:=by rw[List.getD_eq_getElem?_getD,List.getElem?_eq_getElem hb];rfl
    have ki:Hid (R=(none,ts[b].at_,6)):=J (by rw[HR.o,if_pos hb,mJ]);have dA:b<n:=by rw[HN.o];exact hb
    have z1:decide (b<n)=true:=decide_eq_true dA;generalize ts[b].at_=ta at *;clear an hr bh hk mp pN mJ HR mY hb eD;go_wp2_with fail;go_region;go_wp2_with fail;go_ret3;rw[ki.o];exact⟨_,rfl,aE.o.trans (Ext.refl w3).drew,RNd.nil _⟩
   ·have ki:Hid (R=(none,s.length,6)):=J (by rw[HR.o,if_neg hb]);have dA:¬b<n:=by rw[HN.o];exact hb
    have z1:decide (b<n)=false:=decide_eq_false dA;clear an hr bh hk mp q8 HR mY hb eD;go_wp2_with fail;go_ret3;rw[ki.o];exact⟨_,rfl,aE.o,RNd.nil _⟩
  ·obtain⟨rfl,bO,bh,hk⟩:=an.some_ hr;rw[Bool.false_or]at bh;have hw:=vh _ _ _ hr;have mp:=hk.below (ns:=[]) (AB.nil _ _) (Nat.le_of_lt xq.o.blk.lt);have aE:Hid (Ext w w3):=J (aR.o.more (Below.mono mp ug.o));obtain⟨⟨k0,k1,k2,k3,k4⟩,_,Ya⟩:=bh.blk.five';obtain⟨A9,c9,VB,q8⟩:=nE.o.below mp;injection VB with he1 he2 he3
   subst he1;clear he2 he3;simp only at HR;by_cases hb:b<ts.length
   ·obtain⟨bk,bW,_,_,pN⟩:=q8 (by omega);clear q8;subst bW;have q1:=(pN b hb).2.1;have mJ:(ts.getD b ⟨0,0,[]⟩).at_=ts[b].at_:=by rw[List.getD_eq_getElem?_getD,List.getElem?_eq_getElem hb];rfl
    have ki:Hid (R=(none,ts[b].at_,6)):=J (by rw[HR.o,if_pos hb,mJ]);have dA:b<n:=by rw[HN.o];exact hb
    have z1:decide (b<n)=true:=decide_eq_true dA;generalize ts[b].at_=ta at *;clear an hr bh hk mp pN mJ HR mY hb eD;go_wp2_with fail;go_region;go_wp2_with fail;go_ret3;rw[ki.o];exact⟨_,rfl,aE.o.trans (Ext.refl w3).drew,RNd.nil _⟩
   ·have dA:¬b<n:=by rw[HN.o];exact hb
    have z1:decide (b<n)=false:=decide_eq_false dA;have bc:=bh.row;have dz:=bh.few;have hble:=bh.le;rw[List.nil_append,List.length_nil]at bc dz;have Zc:=J bc.read;cases hbg:x.big
    ·have jg:=hw.good hbg;have XK:=Ih x jg;have Zi:=J (Kr w3 bO (Ak 0 x) bc.read (by omega) (JY x hw 0));have ki:Hid (R=if Gb (Ak 0 x)=true then (some x,s.length,0) else (none,0,7)):=J (by
      rw[HR.o,if_neg hb,XK,hbg];simp)
     rw[hbg]at k4;obtain⟨A2,c2,m2,rfl,mN⟩:=bc.shape3;generalize Gb (Ak 0 x)=vb at *;clear an hr bh hk mp q8 HR mY hb eD bc dz XK mN hbg;cases vb
     ·go_wp2_with fail;refine Zi.o.mono ?_
      rintro e w4 ⟨rfl,bf⟩;have bE:=J (aE.o.trans bf);clear bf;go_wp2_with fail;go_ret3;rw[ki.o];exact⟨_,rfl,bE.o,RNd.nil _⟩
     ·go_wp2_with fail;refine Zi.o.mono ?_
      rintro e w4 ⟨rfl,bf⟩;have bE:=J (aE.o.trans bf);have WH:=J (Zc.o.ext bf);have uD:=(bf.cell (b:=g) (o:=3) Ya).trans k3;clear bf;go_wp2_with fail;go_ret3;rw[ki.o];exact⟨_,rfl,bE.o,WH.o⟩
    ·have ki:Hid (R=(none,0,7)):=J (by
      rw[HR.o,if_neg hb,hbg];simp)
     rw[hbg]at k4;clear an hr bh hk mp q8 HR mY hb eD bc dz hbg Zc;go_wp2_with fail;go_ret3;rw[ki.o];exact⟨_,rfl,aE.o,RNd.nil _⟩
 ·have hse:((se:Int) != 0)=true:=by rw[bne_iff_ne];omega
  have i9:Hid (R=(none,sk,se)):=J (by rw[uR.o,if_pos he0]);clear uR fP;obtain⟨sz,cA⟩:∃sz:Int,sz=(se:Int):=⟨_,rfl⟩;rw[<-cA]at hse gL;have oY:=J cA;clear cA he0;go_enter Tryz.func15,Tryz.ntmps15;go_wp2_with fail;refine gL.o.mono ?_
  rintro e w1 ⟨v1,rfl,ac,ak⟩;obtain⟨A1,c1,rfl⟩:=Aw ac;have au:=J ak;clear ac ak;go_wp2_with fail;go_ret3;rw[i9.o];exact⟨_,by rw[oY.o];rfl,au.o,RNd.nil _⟩
theorem DH{t:Tx}(h:Bh t=0)(h2:t.length<=400):(Ex.leaf 1 t).Good:= .inl ⟨rfl,h,h2⟩
theorem O4:(Ex.leaf 2 [120]).Good:= .inr (.inl ⟨rfl,by decide⟩)
theorem TQ:QK.Good:=⟨⟨by decide,by decide⟩,⟨.inr ⟨by decide,by decide⟩,fun _=>rfl,by decide,by decide,⟨⟨by decide,by decide⟩,DH (by kernel_rfl) (by decide),DH (by kernel_rfl) (by decide)⟩⟩,⟨⟨by decide,by decide⟩,DH (by kernel_rfl) (by decide),DH (by kernel_rfl) (by decide)⟩⟩
theorem TP:SI.Good:=⟨⟨by decide,by decide⟩,DH (by kernel_rfl) (by decide),⟨⟨by decide,by decide⟩,O4,O4⟩⟩
theorem TO:SH.Good:=⟨⟨by decide,by decide⟩,DH (by kernel_rfl) (by decide),⟨.inr ⟨by decide,by decide⟩,fun _=>rfl,by decide,by decide,DH (by kernel_rfl) (by decide)⟩⟩
theorem TN:QJ.Good:=⟨.inr ⟨by decide,by decide⟩,fun h=>absurd rfl h,by decide,by decide,DH (by kernel_rfl) (by decide)⟩
theorem GO(w:World)(t:List UInt8)(e:Ex)(n:Nat)(hp:EC t=(some e,n,0))(hg:e.Good)(cA:e.size<=200)(jR:e.depth<=40)(hm:B5 w):
  Calls Tryz.prog 57 #[str t] w (B4 (exX e) w):=by
 have HM:=J hm;have HP:=J (fun W h=>NP W t h);unfold OF at HP;rw[hp]at HP;have dG:=J (fun W v h hm=>Tc W v e h hg cA jR hm);unfold B4 at dG;unfold B4;generalize exX e=X at *;have aj:=J (Blk.new w 26 #[.bool false,.slice none 0 0,.slice none 0 0]);have bP:=J ((Ext.refl w).alloc (.cells #[.bool false,.slice none 0 0,.slice none 0 0] 26));obtain⟨w1,aT⟩:∃w1,w1=w.alloc (.cells #[.bool false,.slice none 0 0,.slice none 0 0] 26):=⟨_,rfl⟩;rw[<-aT]at aj bP;clear hm hg cA jR hp;go_enter Tryz.func57,Tryz.ntmps57;go_upto_region 1 with fail;rw[<-aT];clear aT;go_wp2_with fail;refine(HP.o w1 (HM.o.ext bP.o)).mono ?_
 rintro r w2 ⟨v2,rfl,hx,hr⟩;have HX:=J (bP.o.trans hx);have HB:=J (aj.o.ext hx);have HR:=J hr;clear hx hr;go_wp2_with fail;refine(dG.o w2 v2 HR.o (HM.o.ext HX.o)).mono ?_
 rintro r w5 ⟨v5,rfl,dO,hx⟩;have dn:=J (HX.o.trans hx);have iZ:=J (HB.o.ext hx);have R5:=J dO;obtain⟨f5,g5,G5,j5,y5,Y5,z5,rfl⟩:=dO.shape;clear dO hx;have q0:=iZ.o.three;go_wp2_with fail;obtain⟨ai,ac,hr2⟩:=Aj iZ.o (.bool f5) (.slice G5 g5 j5) (.slice Y5 y5 z5);refine bodyPost_ret (v:= .tuple #[.agg #[.bool f5,.slice G5 g5 j5,.slice Y5 y5 z5],.int .i64 (X.st:Int)]) (by simp[results,Tryz.results57,go_sem,ai,ac,hr2]) rfl ?_
 exact⟨_,rfl,R5.o.ku (KU.three iZ.o _ _ _),dn.o.three (Nat.le_refl _) _ _ _⟩
def OH(ns:List Nd)(w:World)(e:Ending)(w':World):Prop:=∃g b nv,e= .returned (.pointer (some ⟨g,0,none⟩))/\GrP w.heap.size g b w' ns nv/\Ext w w'
theorem Oh(B gr:Nat)(w:World)(ns:List Nd)(rv:Value)(h:GrR B gr w ns rv)(hm:B5 w):Calls Tryz.prog 26 #[.pointer (some ⟨gr,0,none⟩)] w (OH ns w):=by
 have fq:=J (QB _ w _ ns h.row h.ok h.few hm);obtain⟨A,c,rfl⟩:=h.row.shape;have k0:=h.blk.oneG;unfold Kb at fq;unfold OH;clear h hm;go_enter Tryz.func26,Tryz.ntmps26;go_wp2_with fail;refine fq.o.mono ?_
 rintro e w2 ⟨g,b,nv,rfl,hg,hx⟩;have HG:=J hg;have HX:=J hx;clear hg hx fq k0;go_wp2_with fail;go_ret;exact⟨g,b,nv,rfl,HG.o,HX.o⟩
theorem M4(w:World)(hm:B5 w):Calls Tryz.prog 12 #[] w fun e w'=>e= .returned (.bool true)/\Ext w w':=by
 have HM:=J hm;have HA:Hid (∀W,B5 W->Calls Tryz.prog 57 #[.string ⟨#[115,113,114,116,40,57,47,52,41,32,45,32,51,47,50]⟩] W fun e w'=>∃v',e= .returned (.tuple #[v',.int .i64 1])/\Ag 0 w' v' 0 1/\Ext W w'):=J (fun W h=>by
  have h':=GO W UT QK 15 Uy TQ (by decide) (by decide) h;rw[O7]at h';exact h')
 have HB:Hid (∀W,B5 W->Calls Tryz.prog 57 #[.string ⟨#[49,32,47,32,40,120,32,45,32,120,41]⟩] W fun e w'=>∃v',e= .returned (.tuple #[v',.int .i64 0])/\Ag 0 w' v' 0 0/\Ext W w'):=J (fun W h=>by
  have h':=GO W US SI 11 Ux TP (by decide) (by decide) h;rw[TY]at h';exact h')
 have HC:Hid (∀W,B5 W->Calls Tryz.prog 57 #[.string ⟨#[48,32,42,32,108,110,40,48,41]⟩] W fun e w'=>∃v',e= .returned (.tuple #[v',.int .i64 2])/\Ag 0 w' v' 0 0/\Ext W w'):=J (fun W h=>by
  have h':=GO W UR SH 9 Uw TO (by decide) (by decide) h;rw[TX]at h';exact h')
 have HD:Hid (∀W,B5 W->Calls Tryz.prog 57 #[.string ⟨#[48,94,48]⟩] W fun e w'=>∃v',e= .returned (.tuple #[v',.int .i64 1])/\Ag 0 w' v' 1 1/\Ext W w'):=J (fun W h=>by
  have h':=GO W UQ QJ 3 Uv TN (by decide) (by decide) h;rw[O6]at h';exact h')
 have hs:=(SF QK).size;rw[O7]at hs;have ht:=(SF QJ).size;rw[O6]at ht;have fo:=J (fun W v h=>C7 W v 0 1 h (by have:=hs.1;simp only at this;omega) (by have:=hs.2;simp only at this;omega));rw[show sgZ 0=0 from rfl]at fo;have qw:=J (fun W v u a b=>Io (p:=1) (q:=1) (N:=32) ht.1 ht.2 (by decide) W v u a b);have dG:=J (fun W=>D9 W 1 (by decide) (by decide));clear hm;go_enter Tryz.func12,Tryz.ntmps12;go_wp2_with fail;refine(HA.o _ HM.o).mono ?_
 rintro e v1 ⟨u1,rfl,aZ,ak⟩;obtain⟨f1,g1,G1,j1,y1,Y1,z1,rfl⟩:=aZ.shape;have R1:=J aZ;have YZ:=J ak;clear aZ ak;go_upto_region 2 with fail;have am:=Blk.new v1 26 #[.bool f1,.slice G1 g1 j1,.slice Y1 y1 z1];have ak:=(Ext.refl v1).alloc (.cells #[.bool f1,.slice G1 g1 j1,.slice Y1 y1 z1] 26);generalize v1.alloc (.cells #[.bool f1,.slice G1 g1 j1,.slice Y1 y1 z1] 26)=w1 at *;generalize v1.heap.size=b1 at *;have ag:=J am;have HY1:=J ak;have au:=J (YZ.o.trans ak);clear am ak YZ;have R1:=J (R1.o.ext HY1.o);go_wp2_with fail;refine(HB.o _ (HM.o.ext au.o)).mono ?_
 rintro e v2 ⟨u2,rfl,ay,ah⟩;obtain⟨f2,g2,G2,j2,y2,Y2,z2,rfl⟩:=ay.shape;have R2:=J ay;have gY:=J (au.o.trans ah);have ag:=J (ag.o.ext ah);have R1:=J (R1.o.ext ah);clear ay ah;go_upto_region 3 with fail;have hb2:=Blk.new v2 26 #[.bool f2,.slice G2 g2 j2,.slice Y2 y2 z2];have ah:=(Ext.refl v2).alloc (.cells #[.bool f2,.slice G2 g2 j2,.slice Y2 y2 z2] 26);generalize v2.alloc (.cells #[.bool f2,.slice G2 g2 j2,.slice Y2 y2 z2] 26)=w2 at *;generalize v2.heap.size=b2 at *;have ba:=J hb2;have Wt:=J ah;have aR:=J (gY.o.trans ah);clear hb2 ah gY;have R2:=J (R2.o.ext Wt.o);have ag:=J (ag.o.ext Wt.o);have R1:=J (R1.o.ext Wt.o);go_wp2_with fail;refine(HC.o _ (HM.o.ext aR.o)).mono ?_
 rintro e v3 ⟨u3,rfl,cE,ab⟩;obtain⟨f3,g3,G3,j3,y3,Y3,z3,rfl⟩:=cE.shape;have R3:=J cE;have kO:=J (aR.o.trans ab);have ag:=J (ag.o.ext ab);have R1:=J (R1.o.ext ab);clear cE ab;go_upto_region 4 with fail;have eI:=Blk.new v3 26 #[.bool f3,.slice G3 g3 j3,.slice Y3 y3 z3];have ab:=(Ext.refl v3).alloc (.cells #[.bool f3,.slice G3 g3 j3,.slice Y3 y3 z3] 26);generalize v3.alloc (.cells #[.bool f3,.slice G3 g3 j3,.slice Y3 y3 z3] 26)=w3 at *;generalize v3.heap.size=b3 at *;have be:=J eI;have Ws:=J ab;have aE:=J (kO.o.trans ab);clear eI ab kO;have R3:=J (R3.o.ext Ws.o);have ag:=J (ag.o.ext Ws.o);have R1:=J (R1.o.ext Ws.o);go_wp2_with fail;refine(HD.o _ (HM.o.ext aE.o)).mono ?_
 rintro e v4 ⟨u4,rfl,fB,bf⟩;obtain⟨f4,g4,G4,j4,y4,Y4,z4,rfl⟩:=fB.shape;have R4:=J fB;have YY:=J (aE.o.trans bf);have ag:=J (ag.o.ext bf);have R1:=J (R1.o.ext bf);clear fB bf;go_upto_region 5 with fail;have oK:=Blk.new v4 26 #[.bool f4,.slice G4 g4 j4,.slice Y4 y4 z4];have bf:=(Ext.refl v4).alloc (.cells #[.bool f4,.slice G4 g4 j4,.slice Y4 y4 z4] 26);generalize v4.alloc (.cells #[.bool f4,.slice G4 g4 j4,.slice Y4 y4 z4] 26)=w4 at *;generalize v4.heap.size=b4 at *;have ig:=J oK;have Wr:=J bf;have bE:=J (YY.o.trans bf);clear oK bf YY;have R4:=J (R4.o.ext Wr.o);have ag:=J (ag.o.ext Wr.o);have R1:=J (R1.o.ext Wr.o);have Xl:=J (fun W (hx:Ext w4 W)=>(ag.o.ext hx).three);have nl:=J (fun W (hx:Ext w4 W)=>(ig.o.ext hx).three);have HZ:=J (Ext.refl w4);refine wp_region_held_drew (S:=fun w'=>Ext w4 w') (by kernel_rfl) (by exact(Ext.refl w4).drew) (fun hHeld=> ?_);refine' tk 0 25 rfl (by kernel_rfl) (fun _ _ _ h=>h) (by rfl) hHeld ?_ ?_
 rotate_left
 ·(intro _ _;go_simp;(try with_reducible rfl))
 try simp only[pu]
 refine' tk 1 26 rfl (by kernel_rfl) (fun _ _ _ h=>h) (by rfl) hHeld ?_ ?_
 rotate_left
 ·(intro _ _;go_simp;(try with_reducible rfl))
 try simp only[pu]
 refine' tk 2 27 rfl (by kernel_rfl) (fun _ _ _ h=>h) (by rfl) hHeld ?_ ?_
 rotate_left
 ·(intro _ _;go_simp;(try with_reducible rfl))
 try simp only[pu]
 refine' tk 3 28 rfl (by kernel_rfl) (fun _ _ _ h=>h) (by rfl) hHeld ?_ ?_
 rotate_left
 ·(intro w' bj;(try dsimp only at bj);obtain⟨c0,c1,c2,_⟩:=Xl.o _ bj;go_simp;(try with_reducible rfl))
 try simp only[pu]
 refine wpAnyH_ready (rs:=[4]) (by kernel_rfl) (by simp) ?_
 refine AllReadyH.cons (i:=4) (o:=⟨some 29,_,_,_,_,_⟩) rfl (fun K hK=> ?_) AllReadyH.nil;go_simp;go_at_call 58;refine(fo.o _ _ (R1.o.ext hHeld).arr).mono ?_
 rintro e w5 ⟨rfl,hx5⟩;have zw:=Ext.trans hHeld hx5;refine hK.out _ _ ?_ (fun hHeld=> ?_)
 ·exact zw
 clear hK K;try simp only[pu]
 refine' tk 5 30 rfl (by kernel_rfl) (fun _ _ _ h=>h) (by rfl) hHeld ?_ ?_
 rotate_left
 ·(intro _ _;go_simp;(try with_reducible rfl))
 try simp only[pu]
 refine' tk 6 31 rfl (by kernel_rfl) (fun _ _ _ h=>h) (by rfl) hHeld ?_ ?_
 rotate_left
 ·(intro _ _;go_simp;(try with_reducible rfl))
 try simp only[pu]
 refine' tk 7 32 rfl (by kernel_rfl) (fun _ _ _ h=>h) (by rfl) hHeld ?_ ?_
 rotate_left
 ·(intro _ _;go_simp;(try with_reducible rfl))
 try simp only[pu]
 refine' tk 8 33 rfl (by kernel_rfl) (fun _ _ _ h=>h) (by rfl) hHeld ?_ ?_
 rotate_left
 ·(intro _ _;go_simp;(try with_reducible rfl))
 try simp only[pu]
 refine' tk 9 34 rfl (by kernel_rfl) (fun _ _ _ h=>h) (by rfl) hHeld ?_ ?_
 rotate_left
 ·(intro _ _;go_simp;(try with_reducible rfl))
 try simp only[pu]
 refine' tk 10 35 rfl (by kernel_rfl) (fun _ _ _ h=>h) (by rfl) hHeld ?_ ?_
 rotate_left
 ·(intro _ _;go_simp;(try with_reducible rfl))
 try simp only[pu]
 refine' tk 11 36 rfl (by kernel_rfl) (fun _ _ _ h=>h) (by rfl) hHeld ?_ ?_
 rotate_left
 ·(intro _ _;go_simp;(try with_reducible rfl))
 try simp only[pu]
 refine' tk 12 37 rfl (by kernel_rfl) (fun _ _ _ h=>h) (by rfl) hHeld ?_ ?_
 rotate_left
 ·(intro _ _;go_simp;(try with_reducible rfl))
 try simp only[pu]
 refine' tk 13 38 rfl (by kernel_rfl) (fun _ _ _ h=>h) (by rfl) hHeld ?_ ?_
 rotate_left
 ·(intro _ _;go_simp;(try with_reducible rfl))
 try simp only[pu]
 refine' tk 14 39 rfl (by kernel_rfl) (fun _ _ _ h=>h) (by rfl) hHeld ?_ ?_
 rotate_left
 ·(intro _ _;go_simp;(try with_reducible rfl))
 try simp only[pu]
 refine' tk 15 40 rfl (by kernel_rfl) (fun _ _ _ h=>h) (by rfl) hHeld ?_ ?_
 rotate_left
 ·(intro _ _;go_simp;(try with_reducible rfl))
 try simp only[pu]
 refine' tk 16 41 rfl (by kernel_rfl) (fun _ _ _ h=>h) (by rfl) hHeld ?_ ?_
 rotate_left
 ·(intro _ _;go_simp;(try with_reducible rfl))
 try simp only[pu]
 refine' tk 17 42 rfl (by kernel_rfl) (fun _ _ _ h=>h) (by rfl) hHeld ?_ ?_
 rotate_left
 ·(intro _ _;go_simp;(try with_reducible rfl))
 try simp only[pu]
 refine' tk 18 43 rfl (by kernel_rfl) (fun _ _ _ h=>h) (by rfl) hHeld ?_ ?_
 rotate_left
 ·(intro _ _;go_simp;(try with_reducible rfl))
 try simp only[pu]
 refine' tk 19 44 rfl (by kernel_rfl) (fun _ _ _ h=>h) (by rfl) hHeld ?_ ?_
 rotate_left
 ·(intro _ _;go_simp;(try with_reducible rfl))
 try simp only[pu]
 refine' tk 20 45 rfl (by kernel_rfl) (fun _ _ _ h=>h) (by rfl) hHeld ?_ ?_
 rotate_left
 ·(intro w' bj;(try dsimp only at bj);obtain⟨c0,c1,c2,_⟩:=nl.o _ bj;go_simp;(try with_reducible rfl))
 try simp only[pu]
 refine wpAnyH_ready (rs:=[21]) (by kernel_rfl) (by simp) ?_
 refine AllReadyH.cons (i:=21) (o:=⟨some 46,_,_,_,_,_⟩) rfl (fun K hK=> ?_) AllReadyH.nil;go_simp;go_at_call 59;refine(dG.o _).mono ?_
 rintro e w6 ⟨u6,rfl,je,dd⟩;obtain⟨f6,g6,G6,j6,y6,Y6,z6,rfl⟩:=je.shape;have R6:=J je;have XT:=Ext.trans hHeld dd;clear je dd;refine hK.out _ _ ?_ (fun hHeld=> ?_)
 ·exact XT
 clear hK K;try simp only[pu]
 refine wpAnyH_ready (rs:=[22]) (by kernel_rfl) (by simp) ?_
 refine AllReadyH.cons (i:=22) (o:=⟨some 47,_,_,_,_,_⟩) rfl (fun K hK=> ?_) AllReadyH.nil;go_simp;go_at_call 18;refine(qw.o _ _ _ (R4.o.ext hHeld).arr R6.o.arr).mono ?_
 rintro e w7 ⟨rfl,bH⟩;have ux:=Ext.trans hHeld bH;refine hK.out _ _ ?_ (fun hHeld=> ?_)
 ·exact ux
 clear hK K;try simp only[pu]
 refine' tk 23 48 rfl (by kernel_rfl) (fun _ _ _ h=>h) (by rfl) hHeld ?_ ?_
 rotate_left
 ·(intro _ _;go_simp;(try with_reducible rfl))
 try simp only[pu]
 refine' tk 24 0 rfl (by kernel_rfl) (fun _ _ _ h=>h) (by rfl) hHeld ?_ ?_
 rotate_left
 ·(intro _ _;go_simp;(try with_reducible rfl))
 try simp only[pu]
 refine wpAnyH_done (by kernel_rfl) ?_ _
 have HF:=J (bE.o.trans ux);clear hHeld zw XT ux hx5 bH;go_wp2_with fail;go_ret;exact⟨rfl,HF.o⟩
theorem X2.Ok.same{x:X2}(h:x.Ok)(W:World)(v u:Value)(a:An W v x.p x.q)(b:An W u x.p x.q):Calls Tryz.prog 18 #[v,u] W fun e w'=>e= .returned (.bool true)/\Ext W w':=
 Io (N:=32) h.size.1 h.size.2 (by decide) W v u a b
theorem IV(w:World)(v:Value)(l:List Int)(id:Int)(h:EU w v l)(hm:B5 w):
  Calls Tryz.prog 5 #[v,.int .i64 id] w fun e w'=>e= .returned (.bool true)/\Ext w w':=by
 have Xo:=J (M4 w hm);have HM:=J hm;have HL:=J h;have dH:=J (fun W hx=>Qp W v l (HL.o.ext hx));obtain⟨A0,c0,rfl,Vs,Vr,Vq⟩:=h.open;clear h hm Vs Vr Vq;by_cases hlt:120<l.length
 ·have hd:decide (l.length<=120)=false:=decide_eq_false (by omega);rw[hd]at dH;clear HL hlt hd;go_enter Tryz.func5,Tryz.ntmps5;go_wp2_with fail;refine Xo.o.mono ?_
  rintro e w1 ⟨rfl,ak⟩;have au:=J ak;clear ak;go_wp2_with fail;refine(dH.o _ au.o).mono ?_
  rintro e w2 ⟨rfl,rfl⟩;go_wp2_with fail;go_ret;exact⟨rfl,au.o⟩
 have hd:decide (l.length<=120)=true:=decide_eq_true (by omega);rw[hd]at dH;have qW:l.length<=120:=by omega
 clear hlt hd;go_enter Tryz.func5,Tryz.ntmps5;go_wp2_with fail;refine Xo.o.mono ?_
 rintro e w1 ⟨rfl,ak⟩;have au:=J ak;clear ak;go_wp2_with fail;refine(dH.o _ au.o).mono ?_
 rintro e w2 ⟨rfl,rfl⟩;go_wp2_with fail;refine(Od w1 _ l (HL.o.ext au.o) (by omega)).mono ?_
 rintro e w2 ⟨gr,ns,rv,rfl,aC,vI,ah⟩;have fu:=J aC;have aR:=J (au.o.trans ah);have fq:=J (Oh _ gr w2 ns rv aC (HM.o.ext aR.o));unfold OH at fq;have Zk:=J vI;clear aC ah vI Xo dH HL qW;go_wp2_with fail;refine fq.o.mono ?_
 rintro e w3 ⟨g,b,nv,rfl,hg,ab⟩;have Zp:=J hg;have HW:=J (fu.o.keep ab);have aE:=J (aR.o.trans ab);have nE:=J (Nl _ g b w3 ns nv hg (HM.o.ext aE.o));unfold Fi at nE;clear hg ab fq fu;go_wp2_with fail;refine nE.o.mono ?_
 rintro e w4 ⟨vv,sv,rfl,jH,iB,bf⟩;have Wx:=J (HW.o.keep bf);have xI:=J (Zp.o.keep bf);have bE:=J (aE.o.trans bf);have i7:=J jH;have i8:=J iB;have cQ:=J (Jm _ gr w4 ns rv Wx.o);unfold Fi at cQ;clear jH iB bf nE HW Zp;go_wp2_with fail;refine cQ.o.mono ?_
 rintro e w5 ⟨vr,sr,rfl,fW,qS,hx5⟩;have HW5:=J (Wx.o.keep hx5);have xH:=J (xI.o.keep hx5);have dn:=J (bE.o.trans hx5);have i7:=J (i7.o.ext hx5);have i8:=J (i8.o.ext hx5);have rl:=J fW;have ro:=J qS;clear fW qS hx5 cQ Wx xI;obtain⟨AV,cV,rfl⟩:=i7.o.shape;obtain⟨AS,cS,rfl⟩:=i8.o.shape;obtain⟨AR,cR,rfl⟩:=rl.o.shape;obtain⟨AU,cU,rfl⟩:=ro.o.shape;have jv:=J (CZ ns);rw[jv.o]at i7 i8 rl ro ⊢;obtain⟨n,dZ⟩:∃n,n=ns.length:=⟨_,rfl⟩;rw[<-dZ]at i7 i8 rl ro jv Zk ⊢;have iv:=J dZ;have hn:=Zk.o;clear dZ;go_wp2_with fail;go_loopw [53,11,12,13] (fun yM _ _ _ wr=>∃k:Nat,k<=n/\yM= .int .i64 (k:Int)/\Ext w5 wr) (fun yM _ _ _ _=>n-(intOf yM).toNat)
 case atStart=>exact⟨0,Nat.zero_le _,rfl,Ext.refl _⟩
 case round=>
  obtain⟨k,hk,rfl,hx⟩:=hrel;have iq:=J hx;clear hx;by_cases hlt:k<n
  ·have gK:=J (Hn _ g b wr ns nv (xH.o.keep iq.o) (HM.o.ext (dn.o.trans iq.o)) k (by rw[<-iv.o];exact hlt));have me:(BB ns)[k]? =some ((BB ns).getD k X2.O):=by
    rw[List.getD_eq_getElem?_getD,List.getElem?_eq_getElem (by rw[jv.o];exact hlt)];rfl
   have gN:=J (IX ns _ (List.mem_of_getElem? me));obtain⟨gv,cv,Vy,_,Vv,bb,A1,n1,k1,A2,n2,k2,sb,p9⟩:=i7.o.at (i:=k) (by rw[jv.o];exact hlt);obtain⟨gs,cs,Vz,_,i5,dY⟩:=i8.o.at (i:=k) (by rw[jv.o];exact hlt);obtain⟨gw,cw,hew,_,eU,bd,D1,m1,i1,D2,m2,i2,bh,XV⟩:=rl.o.at (i:=k) (by rw[jv.o];exact hlt);obtain⟨gu,cu,heu,_,x9,zt⟩:=ro.o.at (i:=k) (by rw[jv.o];exact hlt);generalize (BB ns).getD k X2.O=X at *;injection Vy with ev1 evn ev2
   injection Vz with es1 esn es2
   injection hew with ew1 ewn ew2
   injection heu with eu1 eun eu2
   clear evn esn ewn eun me;subst ev1;subst es1;subst ew1;subst eu1;subst ev2;subst es2;subst ew2;subst eu2;obtain⟨st,hst⟩:∃st:Int,(X.st:Int)=st:=⟨_,rfl⟩;rw[hst]at dY zt;unfold B4 at gK;rw[hst]at gK;have yz:=J (fun W (hx:Ext w5 W)=>sb.ext hx);have xq:=J (fun W (hx:Ext w5 W)=>bh.ext hx);have gL:=J (fun W (hx:Ext w5 W)=>(hx.cell i5).trans dY);have tN:=J (fun W (hx:Ext w5 W)=>(hx.cell x9).trans zt);have uQ:=J (fun W (hx:Ext w5 W)=>(p9.ext hx).arr);have Zd:=J (fun W (hx:Ext w5 W)=>(XV.ext hx).arr);have qw:=J (fun W v u a b=>gN.o.same W v u a b);have mm:(0:Int)<=(k:Int):=by omega
   have qY:(k:Int)<(n:Int):=by omega
   have vg:IntKind.i64.wrap ((k:Int)+1)=(k:Int)+1:=IntWalk.i64_in _ (by omega);clear sb bh dY zt p9 XV Vv i5 eU x9 hst;go_wp2_with fail;refine gK.o.mono ?_
   rintro e w6 ⟨v6,rfl,je,dd⟩;obtain⟨f6,g6,G6,j6,y6,Y6,z6,rfl⟩:=je.shape;have R6:=J je;have dD:=J (iq.o.trans dd);clear je dd gK;go_upto_region 17 with fail;have fD:=Blk.new w6 26 #[.bool f6,.slice G6 g6 j6,.slice Y6 y6 z6];have bH:=(Ext.refl w6).alloc (.cells #[.bool f6,.slice G6 g6 j6,.slice Y6 y6 z6] 26);generalize w6.alloc (.cells #[.bool f6,.slice G6 g6 j6,.slice Y6 y6 z6] 26)=w7 at *;generalize w6.heap.size=xb at *;have R7:=J (fun W (hx:Ext w7 W)=>((R6.o.ext bH).ext hx).arr);have db:=J (dD.o.trans bH);have fV:=J (fun W (hx:Ext w7 W)=>(fD.ext hx).three);clear fD bH R6 dD;refine wp_region_held_drew (S:=fun w'=>Ext w7 w') (by kernel_rfl) (by exact(Ext.refl w7).drew) (fun hHeld=> ?_);refine' tk 0 62 rfl (by kernel_rfl) (fun _ _ _ h=>h) (by rfl) hHeld ?_ ?_
   rotate_left
   ·(intro _ _;go_simp;(try with_reducible rfl))
   try simp only[pu]
   refine' tk 1 63 rfl (by kernel_rfl) (fun _ _ _ h=>h) (by rfl) hHeld ?_ ?_
   rotate_left
   ·(intro _ _;go_simp;(try with_reducible rfl))
   try simp only[pu]
   refine' tk 2 64 rfl (by kernel_rfl) (fun _ _ _ h=>h) (by rfl) hHeld ?_ ?_
   rotate_left
   ·(intro _ _;go_simp;(try with_reducible rfl))
   try simp only[pu]
   refine' tk 3 65 rfl (by kernel_rfl) (fun _ _ _ h=>h) (by rfl) hHeld ?_ ?_
   rotate_left
   ·(intro w' bj;(try dsimp only at bj);have pN:=gL.o _ (db.o.trans bj);go_simp;(try with_reducible rfl))
   try simp only[pu]
   refine' tk 4 66 rfl (by kernel_rfl) (fun _ _ _ h=>h) (by rfl) hHeld ?_ ?_
   rotate_left
   ·(intro _ _;go_simp;(try with_reducible rfl))
   try simp only[pu]
   refine' tk 5 67 rfl (by kernel_rfl) (fun _ _ _ h=>h) (by rfl) hHeld ?_ ?_
   rotate_left
   ·(intro _ _;go_simp;(try with_reducible rfl))
   try simp only[pu]
   refine' tk 6 68 rfl (by kernel_rfl) (fun _ _ _ h=>h) (by rfl) hHeld ?_ ?_
   rotate_left
   ·(intro _ _;go_simp;(try with_reducible rfl))
   try simp only[pu]
   refine' tk 7 69 rfl (by kernel_rfl) (fun _ _ _ h=>h) (by rfl) hHeld ?_ ?_
   rotate_left
   ·(intro w' bj;(try dsimp only at bj);have pN:=tN.o _ (db.o.trans bj);go_simp;(try with_reducible rfl))
   try simp only[pu]
   refine' tk 8 70 rfl (by kernel_rfl) (fun _ _ _ h=>h) (by rfl) hHeld ?_ ?_
   rotate_left
   ·(intro _ _;go_simp;(try with_reducible rfl))
   try simp only[pu]
   refine' tk 9 71 rfl (by kernel_rfl) (fun _ _ _ h=>h) (by rfl) hHeld ?_ ?_
   rotate_left
   ·(intro _ _;go_simp;(try with_reducible rfl))
   try simp only[pu]
   refine' tk 10 72 rfl (by kernel_rfl) (fun _ _ _ h=>h) (by rfl) hHeld ?_ ?_
   rotate_left
   ·(intro _ _;go_simp;(try with_reducible rfl))
   try simp only[pu]
   refine' tk 11 73 rfl (by kernel_rfl) (fun _ _ _ h=>h) (by rfl) hHeld ?_ ?_
   rotate_left
   ·(intro _ _;go_simp;(try with_reducible rfl))
   try simp only[pu]
   refine' tk 12 74 rfl (by kernel_rfl) (fun _ _ _ h=>h) (by rfl) hHeld ?_ ?_
   rotate_left
   ·(intro _ _;go_simp;(try with_reducible rfl))
   try simp only[pu]
   refine' tk 13 75 rfl (by kernel_rfl) (fun _ _ _ h=>h) (by rfl) hHeld ?_ ?_
   rotate_left
   ·(intro _ _;go_simp;(try with_reducible rfl))
   try simp only[pu]
   refine' tk 14 76 rfl (by kernel_rfl) (fun _ _ _ h=>h) (by rfl) hHeld ?_ ?_
   rotate_left
   ·(intro w' bj;(try dsimp only at bj);have pN:=tN.o _ (db.o.trans bj);go_simp;(try with_reducible rfl))
   try simp only[pu]
   refine' tk 15 77 rfl (by kernel_rfl) (fun _ _ _ h=>h) (by rfl) hHeld ?_ ?_
   rotate_left
   ·(intro _ _;go_simp;(try with_reducible rfl))
   try simp only[pu]
   refine' tk 16 78 rfl (by kernel_rfl) (fun _ _ _ h=>h) (by rfl) hHeld ?_ ?_
   rotate_left
   ·(intro _ _;go_simp;(try with_reducible rfl))
   try simp only[pu]
   refine' tk 17 79 rfl (by kernel_rfl) (fun _ _ _ h=>h) (by rfl) hHeld ?_ ?_
   rotate_left
   ·(intro _ _;go_simp;(try with_reducible rfl))
   try simp only[pu]
   refine' tk 18 80 rfl (by kernel_rfl) (fun _ _ _ h=>h) (by rfl) hHeld ?_ ?_
   rotate_left
   ·(intro _ _;go_simp;(try with_reducible rfl))
   try simp only[pu]
   refine' tk 19 81 rfl (by kernel_rfl) (fun _ _ _ h=>h) (by rfl) hHeld ?_ ?_
   rotate_left
   ·(intro _ _;go_simp;(try with_reducible rfl))
   try simp only[pu]
   refine' tk 20 82 rfl (by kernel_rfl) (fun _ _ _ h=>h) (by rfl) hHeld ?_ ?_
   rotate_left
   ·(intro _ _;go_simp;(try with_reducible rfl))
   try simp only[pu]
   refine' tk 21 83 rfl (by kernel_rfl) (fun _ _ _ h=>h) (by rfl) hHeld ?_ ?_
   rotate_left
   ·(intro w' bj;(try dsimp only at bj);obtain⟨c0,c1,c2⟩:=yz.o _ (db.o.trans bj);go_simp;(try with_reducible rfl))
   try simp only[pu]
   refine' tk 22 84 rfl (by kernel_rfl) (fun _ _ _ h=>h) (by rfl) hHeld ?_ ?_
   rotate_left
   ·(intro _ _;go_simp;(try with_reducible rfl))
   try simp only[pu]
   refine' tk 23 85 rfl (by kernel_rfl) (fun _ _ _ h=>h) (by rfl) hHeld ?_ ?_
   rotate_left
   ·(intro _ _;go_simp;(try with_reducible rfl))
   try simp only[pu]
   refine' tk 24 86 rfl (by kernel_rfl) (fun _ _ _ h=>h) (by rfl) hHeld ?_ ?_
   rotate_left
   ·(intro _ _;go_simp;(try with_reducible rfl))
   try simp only[pu]
   refine' tk 25 87 rfl (by kernel_rfl) (fun _ _ _ h=>h) (by rfl) hHeld ?_ ?_
   rotate_left
   ·(intro w' bj;(try dsimp only at bj);obtain⟨c0,c1,c2⟩:=xq.o _ (db.o.trans bj);go_simp;(try with_reducible rfl))
   try simp only[pu]
   refine wpAnyH_ready (rs:=[26]) (by kernel_rfl) (by simp) ?_
   refine AllReadyH.cons (i:=26) (o:=⟨some 88,_,_,_,_,_⟩) rfl (fun K hK=> ?_) AllReadyH.nil;go_simp;go_at_call 18;refine(qw.o _ _ _ (uQ.o _ (db.o.trans hHeld)) (Zd.o _ (db.o.trans hHeld))).mono ?_
   rintro e w8 ⟨rfl,bJ⟩;have zv:=Ext.trans hHeld bJ;clear bJ;refine hK.out _ _ ?_ (fun hHeld=> ?_)
   ·exact zv
   clear hK K;try simp only[pu]
   refine' tk 27 89 rfl (by kernel_rfl) (fun _ _ _ h=>h) (by rfl) hHeld ?_ ?_
   rotate_left
   ·(intro _ _;go_simp;(try with_reducible rfl))
   try simp only[pu]
   refine' tk 28 90 rfl (by kernel_rfl) (fun _ _ _ h=>h) (by rfl) hHeld ?_ ?_
   rotate_left
   ·(intro _ _;go_simp;(try with_reducible rfl))
   try simp only[pu]
   refine' tk 29 91 rfl (by kernel_rfl) (fun _ _ _ h=>h) (by rfl) hHeld ?_ ?_
   rotate_left
   ·(intro _ _;go_simp;(try with_reducible rfl))
   try simp only[pu]
   refine' tk 30 92 rfl (by kernel_rfl) (fun _ _ _ h=>h) (by rfl) hHeld ?_ ?_
   rotate_left
   ·(intro w' bj;(try dsimp only at bj);obtain⟨c0,c1,c2,_⟩:=fV.o _ bj;go_simp;(try with_reducible rfl))
   try simp only[pu]
   refine' tk 31 93 rfl (by kernel_rfl) (fun _ _ _ h=>h) (by rfl) hHeld ?_ ?_
   rotate_left
   ·(intro _ _;go_simp;(try with_reducible rfl))
   try simp only[pu]
   refine' tk 32 94 rfl (by kernel_rfl) (fun _ _ _ h=>h) (by rfl) hHeld ?_ ?_
   rotate_left
   ·(intro _ _;go_simp;(try with_reducible rfl))
   try simp only[pu]
   refine' tk 33 95 rfl (by kernel_rfl) (fun _ _ _ h=>h) (by rfl) hHeld ?_ ?_
   rotate_left
   ·(intro _ _;go_simp;(try with_reducible rfl))
   try simp only[pu]
   refine' tk 34 96 rfl (by kernel_rfl) (fun _ _ _ h=>h) (by rfl) hHeld ?_ ?_
   rotate_left
   ·(intro w' bj;(try dsimp only at bj);obtain⟨c0,c1,c2⟩:=xq.o _ (db.o.trans bj);go_simp;(try with_reducible rfl))
   try simp only[pu]
   refine wpAnyH_ready (rs:=[35]) (by kernel_rfl) (by simp) ?_
   refine AllReadyH.cons (i:=35) (o:=⟨some 97,_,_,_,_,_⟩) rfl (fun K hK=> ?_) AllReadyH.nil;go_simp;go_at_call 18;refine(qw.o _ _ _ (R7.o _ hHeld) (Zd.o _ (db.o.trans hHeld))).mono ?_
   rintro e w9 ⟨rfl,dt⟩;have zu:=Ext.trans hHeld dt;clear dt;refine hK.out _ _ ?_ (fun hHeld=> ?_)
   ·exact zu
   clear hK K;try simp only[pu]
   refine' tk 36 98 rfl (by kernel_rfl) (fun _ _ _ h=>h) (by rfl) hHeld ?_ ?_
   rotate_left
   ·(intro _ _;go_simp;(try with_reducible rfl))
   try simp only[pu]
   refine' tk 37 99 rfl (by kernel_rfl) (fun _ _ _ h=>h) (by rfl) hHeld ?_ ?_
   rotate_left
   ·(intro _ _;go_simp;(try with_reducible rfl))
   try simp only[pu]
   refine wpAnyH_done (by kernel_rfl) ?_ _
   have HF:=J (db.o.trans zu);clear hHeld zv zu;go_wp2_with fail;go_roundw
   ·exact⟨k+1,hlt,by go_num,HF.o⟩
   ·simp only[intOf];omega
  ·obtain rfl:k=n:=by omega
   have lj:=J (Nk _ g b wr ns nv (xH.o.keep iq.o) (HM.o.ext (dn.o.trans iq.o)) id);have yw:=J (fun W (hx:Ext wr W)=>NC _ gr W ns rv (HW5.o.keep (iq.o.trans hx)) id);have gN:Hid (if 0<=id then (BB ns).getD id.toNat X2.O else X2.O).Ok:=J (by
    split
    ·exact LH (IX ns) _
    ·exact X2.O_ok)
   generalize (if 0<=id then (BB ns).getD id.toNat X2.O else X2.O)=X at *;unfold B4 at lj yw;obtain⟨st,hst⟩:∃st:Int,(X.st:Int)=st:=⟨_,rfl⟩;rw[hst]at lj yw;have qw:=J (fun W v u a b=>gN.o.same W v u a b);clear hst i7 i8 rl ro;go_wp2_with fail;refine lj.o.mono ?_
   rintro e w6 ⟨v6,rfl,je,dd⟩;obtain⟨f6,g6,G6,j6,y6,Y6,z6,rfl⟩:=je.shape;have R6:=J je;have dD:=J dd;clear je dd lj;go_upto_region 21 with fail;have fD:=Blk.new w6 26 #[.bool f6,.slice G6 g6 j6,.slice Y6 y6 z6];have bH:=(Ext.refl w6).alloc (.cells #[.bool f6,.slice G6 g6 j6,.slice Y6 y6 z6] 26);generalize w6.alloc (.cells #[.bool f6,.slice G6 g6 j6,.slice Y6 y6 z6] 26)=w7 at *;generalize w6.heap.size=xb at *;have R7:=J (R6.o.ext bH);have db:=J (dD.o.trans bH);have fV:=J fD;clear fD bH R6 dD;go_wp2_with fail;refine(yw.o _ db.o).mono ?_
   rintro e w8 ⟨v8,rfl,fA,bJ⟩;obtain⟨f8,g8,G8,j8,y8,Y8,z8,rfl⟩:=fA.shape;have R8:=J fA;have dF:=J (db.o.trans bJ);have R7:=J (R7.o.ext bJ);have fV:=J (fV.o.ext bJ);clear fA bJ yw;go_upto_region 22 with fail;have mq:=Blk.new w8 26 #[.bool f8,.slice G8 g8 j8,.slice Y8 y8 z8];have dt:=(Ext.refl w8).alloc (.cells #[.bool f8,.slice G8 g8 j8,.slice Y8 y8 z8] 26);generalize w8.alloc (.cells #[.bool f8,.slice G8 g8 j8,.slice Y8 y8 z8] 26)=w9 at *;generalize w8.heap.size=yb at *;have R9:=J (R8.o.ext dt);have R7:=J (R7.o.ext dt);have eV:=J (dF.o.trans dt);obtain⟨c0,c1,c2,_⟩:=(fV.o.ext dt).three;have d0:=mq.three;clear mq dt R8 dF;go_wp2_with fail;refine(qw.o _ _ _ R7.o.arr R9.o.arr).mono ?_
   rintro e eM ⟨rfl,bg⟩;have HF:=J (((dn.o.trans iq.o).trans eV.o).trans bg);clear bg;go_wp2_with fail;go_ret;exact⟨rfl,HF.o⟩
end Big
end Go.Proofs.YtkoaogkknnelaaaGreatDoor
namespace Go.Proofs.YtkoaogkknnelaaaGreatDoor
open Go.ChangeShapes Go.WideShapes Go.ChangeAt Go.RowKit
section
variable {H:Type} {enc:TypeId × Value->H} {P:Program}
theorem F3(hl:laidOutB P=true){W W':World}(hb:Big.Ext W W'):∀(ts:List TypeId) (vs:List Value) (ds:List (DataW H)) (ps:List MemPlace),
  (∀t∈ts,P.readableRec t=true/\t<P.types.size)->DataW.TrodAll enc P W 0 (fun _=>true) true ts vs ds ps->(∀x∈ps,x.block<W.heap.size)->
  DataW.TrodAll enc P W' 0 (fun b=>decide (b<W.heap.size)) true ts vs ds ps
 |[],vs,ds,ps,_,h,_=>by
  obtain⟨rfl,rfl,rfl⟩:=trodAll_nil h;exact trodAll_mk0
 |t::ts,vs,ds,ps,ht,h,hlt=>by
  obtain⟨v,uV,d,ds',p,q,rfl,rfl,rfl,h1,h2⟩:=trodAll_cons h;exact trodAll_cons_mk (Below.trod hl (ht t (by simp)).1 (ht t (by simp)).2 h1 hb (fun x hx=>hlt x (List.mem_append_left _ hx)))
   (F3 hl hb ts uV ds' q (fun t' h'=>ht t' (by simp[h'])) h2 (fun x hx=>hlt x (List.mem_append_right _ hx)))
theorem P5 {f:Func} {s:ChangeSpec} {W W':World} {args:Array Value} {ds gs:List (DataW H)} {before:List MemPlace} {tb:TypeId} (hl:laidOutB P=true)
  (qO:(f.params.toList.all fun t=>P.readableRec t && decide (t<P.types.size))=true) (hv:s.vars=[]) (hr:f.resultTypes= #[tb]) (qP:P.underlying tb=some .bool)
  (hW:DataW.Whole enc P f.params.toList s.vars false W args.toList ds gs before) (hfn:s.fn H ds={ results:=[.lit (.bool true)],args:=ds }) (hb:Big.Ext W W'):
  s.post enc P f false true false false W args (.bool true) W':=by
 have hlt:=hW.lt;have hW':=hW;obtain⟨p,q,hA,hV,rfl,hfz,hnd⟩:=hW;rw[hv]at hV;obtain⟨rfl,rfl⟩:=trodVars_none hV;have oB:s.fn H (ds++[])={ results:=[.lit (.bool true)],args:=ds }:=by rw[List.append_nil];exact hfn
 refine⟨ds,[],p++[],[],p,[],hW',?_,?_,?_,hb.frame _,fun h=>by cases h⟩
 ·rw[oB,hr];exact trodAll_mk1 (shut_bool qP _)
 ·rw[oB];exact F3 hl hb _ _ _ _ (fun t ht=>by
   have:=List.all_eq_true.1 qO t ht
   simpa using this) hA (fun x hx=>hlt x (by simpa using hx))
 ·rw[oB,hv];rfl
end
theorem GY {H:Type} {enc:TypeId × Value->H} {a:Assume} {C:Checked} {os:Os} {f:FuncId} {fn:Func} {s:ChangeSpec} {ri:List PathCond} {apart rh mr rk:Bool} {X:World->Array Value->Prop}
  (hX:∀(w w':World) (args:Array Value),w.heap=w'.heap->X w args->X w' args)
  (own:ownKnob C.prog.godebug=none) (started:os.Started) (rJ:C.prog.inits.idxOf? f=none) (hfn:C.prog.funcs[f]? =some fn)
  (pX:∃(w:World) (tape:Tape) (i:Input),w.os=os/\(w.forCall tape i).Shaped C.prog/\i.vars=[]/\Input.okWide C.prog (w.forCall tape i) .any w.heap.size f i/\
   ((s.pre enc C.prog fn ri apart (w.forCall tape i).memory i.args/\X (w.forCall tape i).memory i.args)/\sizedMet enc C.prog fn (OpenSpec.ofChange s) apart (w.forCall tape i).memory i.args)/\a.holds C.prog (lone (Frame.enter C.prog f i.args .normal) [] (w.forCall tape i)))
  (oR:∀(W:World) (base:Nat) (args:Array Value) (ds gs:List (DataW H)) (before:List MemPlace),
   (∀(j:Nat) t v,fn.params[j]? =some t->args[j]? =some v->Value.okWide C.prog W .any base t v)->
   DataW.Whole enc C.prog fn.params.toList s.vars apart W args.toList ds gs before->
   (DataW.weightsEach C.prog (fn.params.toList++s.plain.varTypes C.prog) (ds++gs)).all (·<=reachBytes)=true->X W args->W.ShapedOpen C.prog->
   Calls C.prog f args W fun e W'=>∃v,e= .returned v/\s.post enc C.prog fn apart rh mr rk W args v W'):
  ReturnsInHanded a C os f .any (fun w args=>(s.pre enc C.prog fn ri apart w args/\X w args)/\sizedMet enc C.prog fn (OpenSpec.ofChange s) apart w args) (s.post enc C.prog fn apart rh mr rk):=by
 refine returnsInHanded_of_calls own started rJ pX ?_
 intro w tape i _ hsh _ aA zH Vp;obtain⟨_,_,_,fn',oB,_,_,_,_,hval⟩:=aA;have e:fn'=fn:=Option.some.inj (oB.symm.trans hfn);subst e;obtain⟨⟨⟨ds,gs,before,hw,hc⟩,hx⟩,hz⟩:=zH;have hw':=DataW.Whole.of_heap (w':=w.forCall tape i) (by rfl) hw;refine(oR (w.forCall tape i) w.heap.size i.args ds gs before hval hw' (hz.weights hw) (hX _ _ _ (by rfl) hx) hsh).mono fun e W' ⟨v,he,hp⟩=> ?_
 subst he;exact ChangeSpec.post_blind hp
theorem Sq:laidOutB Tryz.prog=true:=by kernel_rfl
theorem own:ownKnob Tryz.prog.godebug=none:=by kernel_rfl
section
variable {P:Program} {W:World}
end
section
variable {H:Type} {enc:TypeId × Value->H} {W:World} {fuel:Nat} {v:Value} {y:DataW H × List MemPlace}
end
section
variable {H:Type} {enc:TypeId × Value->H} {W:World} {v:Value} {d:DataW H} {p:List MemPlace} {r:Reach} {b0:Nat}
end
end Go.Proofs.YtkoaogkknnelaaaGreatDoor
