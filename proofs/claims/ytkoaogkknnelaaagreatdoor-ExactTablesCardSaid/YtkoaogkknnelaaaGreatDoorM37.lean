import Derived.Test.YtkoaogkknnelaaaGreatDoorM36
import Derived.Carry
import Derived.Test.YtkoaogkknnelaaaGreatDoorShelf5
set_option linter.unusedVariables false
set_option linter.unusedSimpArgs false
set_option maxHeartbeats 4000000
set_option maxRecDepth 100000
namespace Go.Proofs.YtkoaogkknnelaaaGreatDoor
namespace Big
open Lib renaming hid → J
open Go.RowKit
def S1(B g:Nat)(ns:List Nd)(rv:Value)(e:Ex)(w:World)(r:Ending)(w':World):Prop:=
 ∃rv',r= .returned (.tuple #[.int .i64 ((Br ns e).1:Int),.int .i64 0])/\KG g g rv rv' w w'/\GrR B g w' (Br ns e).2 rv'
theorem RL(B g:Nat)(w:World)(ns:List Nd)(rv v:Value)(e:Ex)(h:GrR B g w ns rv)(hv:DK g g rv w v (Ak 0 e))(jg:e.Good)(cA:e.size<=200)(jR:e.depth<=40)(bK:ns.length+e.size<=4096):
  Calls Tryz.prog 25 #[.pointer (some ⟨g,0,none⟩),v] w (S1 B g ns rv e w):=by
 have HID:=J (RG B g w ns rv v e h hv jg cA jR bK);obtain⟨A1,c1,rfl,_⟩:=hv;clear h jg jR bK;go_enter Tryz.func25,Tryz.ntmps25;go_wp2_with fail;refine HID.o.mono ?_
 rintro r w1 ⟨rv',gi,ci,more,rfl,hm,hc,hk,hg⟩;rw[<-hm]at cA ⊢;have HK:=J hk;have HG:=J hg;clear hm hk hg;obtain⟨kz,X5⟩:∃kz,kz=more.length:=⟨_,rfl⟩;rw[<-X5]at cA hc ⊢;clear X5;have hz1:IntKind.i64.wrap (((kz+1:Nat):Int)-1)=(kz:Int):=by rw[IntWalk.i64_in _ (by omega)];omega
 have bu:IntKind.i64.wrap ((kz:Int)+1-1)=(kz:Int):=by rw[IntWalk.i64_in _ (by omega)];omega
 have la:IntKind.i64.wrap (kz:Int)=(kz:Int):=IntWalk.i64_in _ (by omega);have pZ:(kz:Int)<(kz:Int)+1:=by omega
 have yW:(0:Int)<=(kz:Int):=by omega
 generalize hpid:(Br ns e).1=pid at *;have tU:=J hpid;clear hpid;go_wp2_with fail;go_ret2;exact⟨rv',by rw[tU.o];rfl,HK.o,HG.o⟩
def Rc(w:World)(g:Nat):Nat:=match w.cell? ⟨g,1,none⟩ with
 |some (.int _ n)=>n.toNat
 |_=>0
theorem B3.place{B g:Nat}{w:World}{L:Value}{l:List Int}{a:Nat}(h:B3 B g w L l a):Rc w g=a:=by
 unfold Rc;rw[h.blk.cell 1];simp
theorem GrR.kb{B g tg:Nat}{w w':World}{ns:List Nd}{rv:Value}(h:GrR B g w ns rv)(ht:tg<B)(hk:KB w.heap.size tg w w'):GrR B g w' ns rv:=
 ⟨(hk.block g h.lt (by have:=h.lo;omega)).trans h.blk,h.row.kbs ht hk,h.lo,h.ok,h.few⟩
theorem Od(w:World)(v:Value)(l:List Int)(h:EU w v l)(hn:l.length<=1000000):
  Calls Tryz.prog 24 #[v] w fun e w'=>∃g ns rv,e= .returned (.pointer (some ⟨g,0,none⟩))/\GrR (w.heap.size+1) g w' ns rv/\ns.length<=75/\Ext w w':=by
 have qC:=J (Tw w v l h hn);obtain⟨A0,c0,rfl,Vs,Vr,Vq⟩:=h.open;clear h Vs Vr Vq;go_enter Tryz.func24,Tryz.ntmps24;go_wp2_with fail;refine qC.o.mono ?_
 rintro e w1 ⟨rfl,ht,hx,hs⟩;have rn:=J ht;have au:=J hx;have ag:=J (Blk.new w1 71 #[.slice none 0 0]);have lw:=hs;obtain⟨tg,vq⟩:∃tg,tg=w.heap.size:=⟨_,rfl⟩;obtain⟨g,hg⟩:∃g,g=w1.heap.size:=⟨_,rfl⟩;rw[<-hg]at ag;rw[<-vq]at rn ⊢;rw[<-hg,<-vq]at lw;have HGS:=J hg;have dq:=J vq;have nB:=J lw;clear qC ht hx hs;go_upto_region 3 with fail;rw[<-hg,<-vq];have aR:=J (au.o.alloc (.cells #[.slice none 0 0] 71));have ir:=J (rn.o.below (Below.alloc (Below.refl (tg+1) w1) (by omega) (.cells #[.slice none 0 0] 71)));obtain⟨w2,bQ⟩:∃w2,w2=w1.alloc (.cells #[.slice none 0 0] 71):=⟨_,rfl⟩;rw[<-bQ]at aR ag ir;rw[<-bQ];clear bQ;have lq:Hid (GrR (tg+1) g w2 [] (.slice none 0 0)):=J ⟨ag.o,AB.nil _ _,by omega,AK.nil,by decide⟩;clear hg vq lw rn au;go_loopw [9] (fun _ wr=>∃a ns rv,B3 (tg+1) tg wr (.slice A0 l.length c0) l a/\GrR (tg+1) g wr ns rv/\ns.length<=75/\Ext w wr) (fun _ wr=>l.length-Rc wr tg)
 case atStart=>exact⟨0,[],_,ir.o,lq.o,by decide,aR.o⟩
 case round=>
  obtain⟨a,ns,rv,ht,aC,vI,hx⟩:=hrel;have HT:=J ht;have HG:=J aC;have HX:=J hx;have cI:=J ht.place;have t4:=J (MA (tg+1) tg wr (.slice A0 l.length c0) l a ht);obtain⟨A,c,rfl⟩:=aC.row.shape;have k0:=aC.blk.oneG;have XI:=hx.size;clear ht aC hx;by_cases hal:a<l.length
  ·rw[decide_eq_true hal]at t4;by_cases hn60:ns.length<60
   ·have VE:decide ((ns.length:Int)<60)=true:=decide_eq_true (by omega);have X0:(ns.length:Int)<60:=by omega
    have ew:=Cl (l:=l) (a:=a) (n:=4-1+1) (by decide);have ll:=J (fun W h=>KI (tg+1) tg W (.slice A0 l.length c0) l a 1 4 h (by decide) (by decide) (by decide));have ia:=J (fun W h=>GR (tg+1) tg W (.slice A0 l.length c0) l (Dm l a) 2 h (by decide) (by decide));have ld:Dm l a=a+1:=by unfold Dm;rw[if_pos hal]
    rw[ld]at ll ia;have qh:=GV l (a+1);generalize Dm l (a+1)=a2 at *;obtain⟨K,hK⟩:∃K:Nat,(K:Int)=1+CM l a (4-1+1):=⟨(1+CM l a (4-1+1)).toNat,by omega⟩;rw[<-hK]at ll;have Yz:1<=K:=by omega
    have hK4:K<=4:=by omega
    clear hK ew ld;obtain⟨bb,dR⟩:∃bb:Bool,bb=(CM l (a+1) 2 == 0):=⟨_,rfl⟩;generalize CM l (a+1) 2=y2 at *;go_wp2_with fail;refine t4.o.mono ?_
    rintro e w3 ⟨rfl,hd⟩;have oW:=J (HT.o.below (hd.belowN _));have kS:=J (HG.o.keep hd.ext);have aE:=J (HX.o.trans hd.ext);have xU:=hd.ext.size;have k0:=kS.o.blk.oneG;clear hd;go_wp2_with fail;refine(ll.o _ oW.o).mono ?_
    rintro e w4 ⟨rfl,XQ,er⟩;have HT4:=J XQ;have uf:=J (kS.o.kb (by have q1:=dq.o;have q2:=nB.o;omega) (er _));have bE:=J ((er w3.heap.size).to_ext aE.o (by have q1:=dq.o;have q2:=nB.o;omega) (by have q1:=dq.o;have q2:=nB.o;omega));have hs4:=(er 0).size;clear XQ er;go_wp2_with fail;refine(ia.o _ HT4.o).mono ?_
    rintro e w5 ⟨rfl,XP,mQ⟩;have Zb:=J XP;have rA:=J (uf.o.kb (by have q1:=dq.o;have q2:=nB.o;omega) (mQ _));have dn:=J ((mQ w4.heap.size).to_ext bE.o (by have q1:=dq.o;have q2:=nB.o;omega) (by have q1:=dq.o;have q2:=nB.o;omega));have zw:=(mQ 0).size;clear XP mQ;go_wp2_with fail;rw[<-dR];refine(QH K tg w5 (.slice A0 l.length c0) l a2 bb (Zb.o.mono (by have q1:=dq.o;have q2:=nB.o;omega)) Yz (by omega)).mono ?_
    rintro e w6 ⟨x,v6,a6,rfl,jg,cA,jR,al,lb,hk⟩;rw[qaU]at al;have hp4:2 ^ K<=2 ^ 4:=qbe (by omega) hK4;have hsx:x.size<=15:=by omega
    have Zs:=J (DK.newR al rA.o);have Zq:=J (rA.o.kb (by have q1:=dq.o;have q2:=nB.o;omega) hk);have dD:=J (hk.to_ext dn.o (by have q1:=dq.o;have q2:=nB.o;omega) (by have q1:=dq.o;have q2:=nB.o;omega));have tJ:Hid (B3 (tg+1) tg w6 (.slice A0 l.length c0) l a6):=J (Zb.o.kb (hk.mono (by have q1:=dq.o;have q2:=nB.o;omega)) lb.1.blk lb.1.pos);have hle6:=lb.2;clear al lb hk hp4 cA;obtain⟨A6,c6,rfl,_⟩:=Zs.o;have aH:=Na x ns;go_wp2_with fail;refine(RL (tg+1) g w6 ns _ _ x Zq.o Zs.o jg (by omega) (by omega) (by omega)).mono ?_
    rintro r w7 ⟨rv7,rfl,iK,dC⟩;have fV:=J (iK.belowR Zq.o);have pT:=J dC;have nF:=J (tJ.o.below fV.o);clear iK dC;go_wp2_with fail;go_roundw
    case rel=>exact⟨a6,_,rv7,nF.o,pT.o,by omega,dD.o.more (Below.mono fV.o (by have q1:=dq.o;have q2:=nB.o;omega))⟩
    case measure=>
     rw[nF.o.place,cI.o];omega
   ·have VE:decide ((ns.length:Int)<60)=false:=decide_eq_false (by omega);go_wp2_with fail;refine t4.o.mono ?_
    rintro e w3 ⟨rfl,hd⟩;have kS:=J (HG.o.keep hd.ext);have aE:=J (HX.o.trans hd.ext);have k0:=kS.o.blk.oneG;clear hd;go_wp2_with fail;go_ret;exact⟨g,ns,_,rfl,by rw[<-dq.o];exact kS.o,vI,aE.o⟩
  ·rw[decide_eq_false hal]at t4;go_wp2_with fail;refine t4.o.mono ?_
   rintro e w3 ⟨rfl,hd⟩;have kS:=J (HG.o.keep hd.ext);have aE:=J (HX.o.trans hd.ext);clear hd;go_wp2_with fail;go_ret;exact⟨g,ns,_,rfl,by rw[<-dq.o];exact kS.o,vI,aE.o⟩
def Ub(B g b:Nat)(ns:List Nd)(nv:Value)(e:Ex)(w:World)(r:Ending)(w':World):Prop:=
 ∃nv',r= .returned (.tuple #[.int .i64 ((Br ns e).1:Int),.int .i64 0])/\KG g b nv nv' w w'/\GrP B g b w' (Br ns e).2 nv'
theorem Q1(B g b:Nat)(w:World)(ns:List Nd)(nv v:Value)(e:Ex)(h:GrP B g b w ns nv)(hv:DK g b nv w v (Ak 0 e))(jg:e.Good)(cA:e.size<=200)(jR:e.depth<=40)(hm:B5 w)(bK:ns.length+e.size<=4096):
  Calls Tryz.prog 70 #[.pointer (some ⟨g,0,none⟩),v] w (Ub B g b ns nv e w):=by
 have jV:=J (Ju w v (Ak 0 e) hv.read (by rw[AD];omega) (H8 e jg 0) hm);rw[Ig e jg.well.1,jg.well.2,decide_eq_true ⟨cA,jR⟩]at jV;have HG:=J h;have HV:=J hv;have HM:=J hm;have mw:=J (PD e.size (by omega));obtain⟨n,hn⟩:∃n,n=e.size:=⟨_,rfl⟩;have mo:=AD e 0;obtain⟨A1,c1,rfl,_⟩:=hv;rw[mo,<-hn]at jV HV ⊢;rw[<-hn]at mw;have HN:=J hn;have jF:=J mo;have dN:1<=n:=by rw[hn];exact e.size_pos
 have hn2:n<=200:=by omega
 obtain⟨A,c,rfl⟩:=h.row.shape;have jE:=J jg;have WI:=J bK;clear h hm hn mo jg cA jR bK;go_enter Tryz.func70,Tryz.ntmps70;go_wp2_with fail;refine jV.o.mono ?_
 rintro r w1 ⟨rfl,ak⟩;have au:=J ak;obtain⟨k0,k1,f0,f1,eC⟩:=(HG.o.keep ak).blk.twoG;have dp:=mw.o w1;clear ak;have aT:∀i:Nat,i<n->IntKind.i64.wrap ((i:Int)+1)=(i:Int)+1:=fun i hi=>IntWalk.i64_in _ (by omega)
 have Wy:=J aT;clear aT;go_wp2_with fail;go_loopw [27] (fun yN wr=>∃i:Nat,i<=n/\yN= .int .i64 (i:Int)/\Gw B g b w1.heap.size ns (.slice A ns.length c) e (.slice A1 n c1) w i wr) (fun yN _=>n-(intOf yN).toNat)
 case atStart=>
  have h0:=Gw.start HG.o HV.o au.o HM.o;rw[<-HN.o]at h0;exact⟨0,qaj _,rfl,h0⟩
 case round=>
  obtain⟨i,hi,rfl,a9⟩:=hrel;by_cases hlt:i<n
  ·obtain⟨bO,lB,aC,ax,mS,m1,m2,m3,m4,oq,m5⟩:=a9;have uF:i<e.size:=by rw[<-HN.o];exact hlt
   have hl:i<(Ak 0 e).length:=by rw[AD];exact uF
   have mR:=FG.at HG.o.ok jE.o i (qaK uF);have aA:=H9 e jE.o 0 i _ (qad hl);rw[qaW]at aA;have jn:=JP mR aA;have sW:=mR.big;have aH:=mR.len;have fS:=HG.o.lo;have eU:=HG.o.lt;have ia:=J (fun nv2 w1' w2' (hx:Ext _ w1') hk hp hp0=>Gw.next (B:=B) (nv2:=nv2) (w1:=w1') (w2:=w2') jE.o HG.o.ok uF hl lB mS ax m1 m2 m3 m4 m5 oq hx hk (by omega) hp hp0);have bG:=J (fun W h hm=>MN B g b W _ bO h _ jn hm (by have:=WI.o;omega));obtain⟨A2,c2,he2,df⟩:=mS;obtain⟨q,o,hA,hq,p2,p3,p4,cZ⟩:=df (by omega);obtain⟨y0,y1,y2,y3,y4⟩:=cZ i hl;simp only[Value.slice.injEq]at he2;obtain⟨rfl,i3,rfl⟩:=he2;clear i3;subst hA;have kH:(i:Int)<(n:Int):=by omega
   have aG:(0:Int)<=(i:Int):=by omega
   have p7:=Wy.o i hlt;have HNV:=J p4;clear df cZ jn sW p4;generalize hst:BP ([],ns) (List.take i (Ak 0 e))=st at *;clear hst;obtain⟨bL,gs⟩:=st;simp only at aC ax aH ia bG mR;rw[<-HN.o]at ax;have kI:∀j,j<i->(CV (bL++List.replicate (n-i) 0))[j]? =some (.int .i64 ((bL.getD j 0:Nat):Int)):=fun j hj=>by
    rw[Gm _ _ (by rw[qac];omega),Ew _ _ (by omega)]
   have X9:(CV (bL++List.replicate (n-i) 0))[i]? =some (.int .i64 (((bL++List.replicate (n-i) 0).getD i 0:Nat):Int)):=Gm _ _ (by rw[qac,qaX];omega)
   generalize (bL++List.replicate (n-i) 0).getD i 0=old at *;generalize CV (bL++List.replicate (n-i) 0)=CC at *;generalize (Ak 0 e)[i]=x at *;have ey:=J ax;have fu:=J aC;have mz:=J kI;have Xd:=J X9;have pR:=J oq;have xz:=J lB;have jB:=J m1;have eQ:=J m2;have pS:=J m3;clear ax aC kI X9 oq lB m1 m2 m3 m5 mR;rcases aA with ⟨k,t,rfl,ho⟩|⟨k,nn,j,rfl,ho,hj⟩|⟨k,j,jq,rfl,hk,hj,wj⟩
   ·have er:(k:Int)=1\/(k:Int)=2\/(k:Int)=3\/(k:Int)=4:=by rcases ho with ⟨h,_⟩|⟨h,_⟩|⟨h,_⟩<;>omega
    have kE:B8 bL ⟨(k:Int),0,0,0,t⟩=⟨(k:Int),0,0,0,t⟩:=by
     unfold B8;rw[if_neg (by simp only;omega),if_neg (by simp only;omega)]
    rw[kE]at bG ia;have jC:=J er;clear er kE ho;simp only[ndV]at bG;simp only at y0 y1 y2 y3 y4;generalize hkk:(k:Int)=kk at *;obtain⟨s,hs⟩:∃s:ByteArray,s=⟨(t:List UInt8).toArray⟩:=⟨_,rfl⟩;have hst:str t= .string s:=by rw[hs];rfl
    rw[hst]at y4 bG;clear hs hst hkk;have dl:=J (Blk.new wr 95 #[.int .i64 kk,.int .i64 0,.int .i64 0,.int .i64 0,.string s]);have db:=J ((Ext.refl wr).alloc (.cells #[.int .i64 kk,.int .i64 0,.int .i64 0,.int .i64 0,.string s] 95));obtain⟨w7,ev⟩:∃w7,w7=wr.alloc (.cells #[.int .i64 kk,.int .i64 0,.int .i64 0,.int .i64 0,.string s] 95):=⟨_,rfl⟩;rw[<-ev]at dl db;have q0:=dl.o.five;go_upto_region 8 with fail;rw[<-ev];clear ev y0 y1 y2 y3 y4;go_wp2_with fail;refine(Dz w7 kk 0 0 0 s jC.o).mono ?_
    rintro r w8 ⟨rfl,bJ⟩;have dF:=J (db.o.trans bJ);have lR:=J (dl.o.ext bJ);clear q0 bJ;have q0:=lR.o.five;go_wp2_with fail;refine(bG.o w8 (fu.o.keep dF.o) (pR.o.ext dF.o)).mono ?_
    rintro r eM ⟨nv2,rfl,dx,eE⟩;have iH:=((KG.of_ext dF.o).trans dx).blk ey.o jB.o eQ.o pS.o;have z0:=(iH.cell i).trans Xd.o;have z1:=iH.frozen i;have iX:=J (ia.o nv2 w8 eM dF.o dx eE (fu.o.keep dF.o));clear iH dx eE q0;generalize (Bs gs _).1=pid at *;go_wp2_with fail;go_roundw
    case rel=>exact⟨i+1,hlt,by go_num,iX.o⟩
    case measure=>simp[intOf];omega
   ·have er:(k:Int)=5\/(k:Int)=10\/(k:Int)=11\/(k:Int)=12\/(k:Int)=13\/(k:Int)=14\/(k:Int)=15\/(k:Int)=16:=by have:=ho.1;omega
    have kE:B8 bL ⟨(k:Int),(j:Int),0,nn,[]⟩=⟨(k:Int),((bL.getD j 0:Nat):Int),0,nn,[]⟩:=by
     unfold B8;rw[if_pos (by simp only;omega),if_neg (by simp only;omega)];rfl
    rw[kE]at bG ia;have jC:=J er;have ue:=J (mz.o j hj);have qj:(j:Int)<(n:Int):=by omega
    have uE:(0:Int)<=(j:Int):=by omega
    clear er kE ho hj;generalize ((bL.getD j 0:Nat):Int)=va at *;simp only[ndV]at bG;simp only at y0 y1 y2 y3 y4;generalize hkk:(k:Int)=kk at *;obtain⟨s,hs⟩:∃s:ByteArray,s=⟨([]:List UInt8).toArray⟩:=⟨_,rfl⟩;have hst:str []= .string s:=by rw[hs];rfl
    rw[hst]at y4 bG;clear hs hst hkk;have dl:=J (Blk.new wr 95 #[.int .i64 kk,.int .i64 (j:Int),.int .i64 0,.int .i64 nn,.string s]);have db:=J ((Ext.refl wr).alloc (.cells #[.int .i64 kk,.int .i64 (j:Int),.int .i64 0,.int .i64 nn,.string s] 95));obtain⟨w7,ev⟩:∃w7,w7=wr.alloc (.cells #[.int .i64 kk,.int .i64 (j:Int),.int .i64 0,.int .i64 nn,.string s] 95):=⟨_,rfl⟩;rw[<-ev]at dl db;have q0:=dl.o.five;go_upto_region 8 with fail;rw[<-ev];clear ev y0 y1 y2 y3 y4;go_wp2_with fail;refine(Fz w7 kk (j:Int) 0 nn s jC.o).mono ?_
    rintro r w8 ⟨x8,rfl,_,_,_,bJ⟩;have dF:=J (db.o.trans bJ);have lR:=J (dl.o.ext bJ);clear q0 bJ;have q0:=lR.o.five;have rT:w1.heap.size<wr.heap.size:=ey.o.lt;have zQ:=ey.o.ext dF.o;have v0:=(zQ.cell j).trans ue.o;have f1:=lR.o.frozen 1;have pf:=J (lR.o.set_ 1 (.int .i64 va));have eV:=J (dF.o.setCell (p:=⟨wr.heap.size,1,none⟩) (qab _) (.int .i64 va));have r0:=Blk.five pf.o;go_wp2_with fail;refine(bG.o (w8.setCell ⟨wr.heap.size,1,none⟩ (.int .i64 va)) (fu.o.keep eV.o) (pR.o.ext eV.o)).mono ?_
    rintro r eM ⟨nv2,rfl,dx,eE⟩;have iH:=((KG.of_ext eV.o).trans dx).blk ey.o jB.o eQ.o pS.o;have z0:=(iH.cell i).trans Xd.o;have z1:=iH.frozen i;have iX:=J (ia.o nv2 (w8.setCell ⟨wr.heap.size,1,none⟩ (.int .i64 va)) eM eV.o dx eE (fu.o.keep eV.o));clear iH dx eE q0;generalize (Bs gs _).1=pid at *;go_wp2_with fail;go_roundw
    case rel=>exact⟨i+1,hlt,by go_num,iX.o⟩
    case measure=>simp[intOf];omega
   ·have er:(k:Int)=6\/(k:Int)=7\/(k:Int)=8\/(k:Int)=9:=by omega
    have kE:B8 bL ⟨(k:Int),(j:Int),(jq:Int),0,[]⟩=⟨(k:Int),((bL.getD j 0:Nat):Int),((bL.getD jq 0:Nat):Int),0,[]⟩:=by
     unfold B8;rw[if_pos (by simp only;omega),if_pos (by simp only;omega)];rfl
    rw[kE]at bG ia;have jC:=J er;have ue:=J (mz.o j hj);have Xc:=J (mz.o jq wj);have qj:(j:Int)<(n:Int):=by omega
    have uE:(0:Int)<=(j:Int):=by omega
    have i3:(jq:Int)<(n:Int):=by omega
    have mg:(0:Int)<=(jq:Int):=by omega
    clear er kE hk hj wj;generalize ((bL.getD j 0:Nat):Int)=va at *;generalize ((bL.getD jq 0:Nat):Int)=vb at *;simp only[ndV]at bG;simp only at y0 y1 y2 y3 y4;generalize hkk:(k:Int)=kk at *;obtain⟨s,hs⟩:∃s:ByteArray,s=⟨([]:List UInt8).toArray⟩:=⟨_,rfl⟩;have hst:str []= .string s:=by rw[hs];rfl
    rw[hst]at y4 bG;clear hs hst hkk;have dl:=J (Blk.new wr 95 #[.int .i64 kk,.int .i64 (j:Int),.int .i64 (jq:Int),.int .i64 0,.string s]);have db:=J ((Ext.refl wr).alloc (.cells #[.int .i64 kk,.int .i64 (j:Int),.int .i64 (jq:Int),.int .i64 0,.string s] 95));obtain⟨w7,ev⟩:∃w7,w7=wr.alloc (.cells #[.int .i64 kk,.int .i64 (j:Int),.int .i64 (jq:Int),.int .i64 0,.string s] 95):=⟨_,rfl⟩;rw[<-ev]at dl db;have q0:=dl.o.five;go_upto_region 8 with fail;rw[<-ev];clear ev y0 y1 y2 y3 y4;go_wp2_with fail;refine(GN w7 kk (j:Int) (jq:Int) 0 s jC.o).mono ?_
    rintro r w8 ⟨x8,rfl,_,_,_,_,bJ⟩;have dF:=J (db.o.trans bJ);have lR:=J (dl.o.ext bJ);clear q0 bJ;have q0:=lR.o.five;have rT:w1.heap.size<wr.heap.size:=ey.o.lt;have zQ:=ey.o.ext dF.o;have v0:=(zQ.cell j).trans ue.o;have f1:=lR.o.frozen 1;have pf:=J (lR.o.set_ 1 (.int .i64 va));have eV:=J (dF.o.setCell (p:=⟨wr.heap.size,1,none⟩) (qab _) (.int .i64 va));have r0:=Blk.five pf.o;have hm9:=ey.o.ext eV.o;have v1:=(hm9.cell jq).trans Xc.o;have f2:=pf.o.frozen 2;have tZ:=J (Blk.set_ pf.o 2 (.int .i64 vb));have eW:=J (eV.o.setCell (p:=⟨wr.heap.size,2,none⟩) (qab _) (.int .i64 vb));have t0:=Blk.five tZ.o;go_wp2_with fail;refine(bG.o ((w8.setCell ⟨wr.heap.size,1,none⟩ (.int .i64 va)).setCell ⟨wr.heap.size,2,none⟩ (.int .i64 vb)) (fu.o.keep eW.o) (pR.o.ext eW.o)).mono ?_
    rintro r eM ⟨nv2,rfl,dx,eE⟩;have iH:=((KG.of_ext eW.o).trans dx).blk ey.o jB.o eQ.o pS.o;have z0:=(iH.cell i).trans Xd.o;have z1:=iH.frozen i;have iX:=J (ia.o nv2 ((w8.setCell ⟨wr.heap.size,1,none⟩ (.int .i64 va)).setCell ⟨wr.heap.size,2,none⟩ (.int .i64 vb)) eM eW.o dx eE (fu.o.keep eW.o));clear iH dx eE q0;generalize (Bs gs _).1=pid at *;go_wp2_with fail;go_roundw
    case rel=>exact⟨i+1,hlt,by go_num,iX.o⟩
    case measure=>simp[intOf];omega
  ·obtain⟨bO,lB,aC,ax,mS,m1,m2,m3,m4,oq,m5⟩:=a9;obtain⟨more,ml,oD⟩:=K2 e jE.o ns;have hin:i=more.length+1:=by have:=HN.o;omega
   have hnk:n=more.length+1:=by have:=HN.o;omega
   rw[qaf (by rw[AD];omega),oD]at aC ax;rw[show e.size-i=0 by omega,qcm,qbH]at ax;simp only at aC ax;have aa:=(ax.cell more.length).trans (Gm _ _ (by simp));rw[Dw _ _ rfl]at aa;have xz:=J lB;have fu:=J aC;clear lB aC ax mS m1 m2 m3 m4 oq m5 oD ml;subst hin;subst hnk;generalize more.length=kz at *;have hz1:IntKind.i64.wrap (((kz+1:Nat):Int)-1)=(kz:Int):=by rw[IntWalk.i64_in _ (by omega)];omega
   have bu:IntKind.i64.wrap ((kz:Int)+1-1)=(kz:Int):=by rw[IntWalk.i64_in _ (by omega)];omega
   have la:IntKind.i64.wrap (kz:Int)=(kz:Int):=IntWalk.i64_in _ (by omega);have pZ:(kz:Int)<(kz:Int)+1:=by omega
   have yW:(0:Int)<=(kz:Int):=by omega
   generalize hpid:(Br ns e).1=pid at *;have tU:=J hpid;clear hpid;go_wp2_with fail;go_ret2;exact⟨bO,by rw[tU.o];rfl,xz.o,fu.o⟩
theorem MO(w:World)(hm:B5 w):
  Calls Tryz.prog 69 #[] w fun e w'=>∃g b,e= .returned (.pointer (some ⟨g,0,none⟩))/\GrP w.heap.size g b w' [] (.slice none 0 0)/\Ext w w':=by
 have su:=fun W=> @run_makeMap Tryz.prog 78 W
 have fS:0<w.heap.size:=by
  obtain⟨m,h⟩:=hm;exact World.block_lt_of_cell? w _ h
 have ak:Ext w (w.alloc (.map #[] 0)):=(Ext.refl w).alloc _;have ah:=ak.alloc (.cells #[.slice none 0 0,.map (some w.heap.size)] 80);have HN:=J (DY.made w);have HX:=J ah;have HB:=J (Blk.new (w.alloc (.map #[] 0)) 80 #[.slice none 0 0,.map (some w.heap.size)]);clear ak ah hm;go_enter Tryz.func69,Tryz.ntmps69;go_wp2_with fail;go_ret;refine⟨_,w.heap.size,rfl,⟨?_,AB.nil _ _,HN.o.kept (Below.heap_alloc _ _ _ HN.o.lt),by simp,qab _,AK.nil,by decide,fS⟩,HX.o⟩;have:=HB.o;simp only[World.size_alloc]at this;exact this
theorem MY(w:World)(b o n c:Nat)(l:List Nd)(hn:n=l.length)(hl:l.length<=1000000)(hc:∀j u,(BR l)[j]? =some u->w.cell? ⟨b,o+j,none⟩=some u):
  Calls Tryz.prog 106 #[.slice (some ⟨b,o,none⟩) n c] w fun e w'=>∃v',e= .returned v'/\AB w.heap.size w' v' l/\Ext w w':=by
 obtain⟨i0,hi,aD,hz1,bu⟩:=info_parts EP;have h:=AnyE.slices_Clone Tryz.cloneNodesIt i0 (.agg #[.int .i64 0,.int .i64 0,.int .i64 0,.int .i64 0,.string ⟨#[]⟩]) 5 48 hi aD hz1 bu rfl (by decide) (fun w=>by kernel_rfl) b o n c (BR l) w (by rw[Iz,hn]) (by unfold maxLen;omega) (by omega) hc (fun u hu=>by
  unfold BR at hu;obtain⟨x,_,hu⟩:=List.mem_flatMap.1 hu;simp only[ndC,qbl,qbi,or_false]at hu;rcases hu with rfl|rfl|rfl|rfl|rfl<;>rfl)
 refine h.mono ?_
 rintro e w' ⟨v',rfl,ho,_,hx⟩;refine⟨v',rfl,?_,hx⟩;unfold AB;rw[<-hn];exact ho
theorem AB.cells{B:Nat}{w:World}{v:Value}{l:List Nd}(h:AB B w v l):(l=[]/\v= .slice none 0 0)\/∃g c,v= .slice (some ⟨g,0,none⟩) l.length c/\∀j u,(BR l)[j]? =some u->w.cell? ⟨g,0+j,none⟩=some u:=by
 unfold AB at h;rcases h.2 with ⟨h1,h2⟩|⟨g,cap,cur,rfl,_⟩
 ·exact .inl ⟨qap h2,by rw[h1]⟩
 ·refine .inr ⟨g,cap,rfl,fun j u hj=> ?_⟩;have hl:j<(BR l).length:=by
   rcases qah j (BR l).length with h|h
   ·exact h
   ·rw[qav h]at hj;cases hj
  rw[Iz]at hl;rw[qaW,h.cellAt j hl,hj]
theorem Om(B:Nat)(w:World)(v:Value)(l:List Nd)(h:AB B w v l)(hl:l.length<=1000000):
  Calls Tryz.prog 106 #[v] w fun e w'=>∃v',e= .returned v'/\AB w.heap.size w' v' l/\Ext w w':=by
 rcases h.cells with ⟨rfl,rfl⟩|⟨g,c,rfl,hc⟩
 ·refine(AnyE.slices_Clone_nil Tryz.cloneNodesIt 0 0 w).mono ?_
  rintro e w' ⟨rfl,rfl⟩;exact⟨_,rfl,AB.nil _ _,Ext.refl _⟩
 ·exact MY w g 0 l.length c l rfl hl hc
theorem Gl(B g b:Nat)(w:World)(ns:List Nd)(nv:Value)(h:GrP B g b w ns nv):
  Calls Tryz.prog 40 #[.pointer (some ⟨g,0,none⟩)] w fun e w'=>∃v',e= .returned v'/\AB w.heap.size w' v' ns/\Ext w w':=by
 have l8:=J (Om B w nv ns h.row (by have:=h.few;omega));have k0:=h.blk.twoG;obtain⟨A,c,rfl⟩:=h.row.shape;clear h;go_enter Tryz.func40,Tryz.ntmps40;go_wp2_with fail;refine l8.o.mono ?_
 rintro e w1 ⟨v',rfl,ho,hx⟩;have HE:=J (And.intro ho hx);clear ho hx;go_wp2_with fail;go_ret;exact⟨v',rfl,HE.o⟩
def Kb(ns:List Nd)(w:World)(e:Ending)(w':World):Prop:=∃g b nv,e= .returned (.tuple #[.pointer (some ⟨g,0,none⟩),.int .i64 (ns.length:Int),.int .i64 0])/\GrP w.heap.size g b w' ns nv/\Ext w w'
theorem QB(B:Nat)(w:World)(v:Value)(ns:List Nd)(h:AB B w v ns)(aA:AK ns)(dz:ns.length<=4096)(hm:B5 w):
  Calls Tryz.prog 52 #[v] w (Kb ns w):=by
 have HM:=J hm;have gN:=J aA;have kj:=J (MO w hm);obtain⟨A,c,vz,kK⟩:=h.read;subst vz;have l8:=J kK;unfold Kb;obtain⟨n,dZ⟩:∃n,n=ns.length:=⟨_,rfl⟩;have HN:=J dZ;rw[<-dZ]at dz ⊢;clear h kK hm aA dZ;go_enter Tryz.func52,Tryz.ntmps52;go_wp2_with fail;refine kj.o.mono ?_
 rintro e w1 ⟨g,b,rfl,hg,hx⟩;have ug:=J hg;have au:=J hx;clear hg hx kj;go_wp2_with fail;go_loopw [13] (fun s13 wr=>∃i:Nat,i<=n/\s13= .int .i64 (i:Int)/\∃nv,GrP w.heap.size g b wr (ns.take i) nv/\Ext w wr) (fun s13 _=>n-(intOf s13).toNat)
 case atStart=>exact⟨0,qaj _,rfl,_,by rw[qbw];exact ug.o,au.o⟩
 case round=>
  clear ug au;obtain⟨i,hi,rfl,nv,hg,hx⟩:=hrel;by_cases hlt:i<n
  ·have hit:i<ns.length:=by rw[<-HN.o];exact hlt
   have aA:=gN.o.2 i _ (qad hit);have hpl:=gN.o.load hit;have hlt2:(ns.take i).length=i:=by rw[qam];omega
   have bG:=J (fun W h hm=>MN w.heap.size g b W (ns.take i) nv h ns[i] (by rw[hlt2];exact aA) hm (by omega));unfold Ja at bG;rw[hpl]at bG;have HG:=J hg;have HX:=J hx;obtain⟨gb,o,rfl,eU,hc⟩:=l8.o (by omega);obtain⟨p0,p1,p2,p3,p4⟩:=hc i hit;rw[<-hx.cell eU]at p0 p1 p2 p3 p4;have aC:gb<wr.heap.size:=qan eU hx.size;have aG:(0:Int)<=(i:Int):=by omega
   have kH:(i:Int)<(n:Int):=by omega
   have p7:IntKind.i64.wrap ((i:Int)+1)=(i:Int)+1:=IntWalk.i64_in _ (by omega);generalize ns[i]=x at *;clear hc aA hpl hit hlt2 hg hx;obtain⟨y0,y1,y2,y3,y4⟩:=x;simp only[ndV]at bG;simp only at p0 p1 p2 p3 p4;obtain⟨s,hs⟩:∃s:ByteArray,s=⟨(y4:List UInt8).toArray⟩:=⟨_,rfl⟩;have hst:str y4= .string s:=by rw[hs];rfl
   rw[hst]at p4 bG;clear hs hst;have dl:=J (Blk.new wr 95 #[.int .i64 y0,.int .i64 y1,.int .i64 y2,.int .i64 y3,.string s]);have db:=J ((Ext.refl wr).alloc (.cells #[.int .i64 y0,.int .i64 y1,.int .i64 y2,.int .i64 y3,.string s] 95));obtain⟨w7,ev⟩:∃w7,w7=wr.alloc (.cells #[.int .i64 y0,.int .i64 y1,.int .i64 y2,.int .i64 y3,.string s] 95):=⟨_,rfl⟩;rw[<-ev]at dl db;have q0:=dl.o.five;go_upto_region 5 with fail;rw[<-ev];clear ev p0 p1 p2 p3 p4;have ju:=J (HX.o.trans db.o);go_wp2_with fail;refine(bG.o w7 (HG.o.keep db.o) (HM.o.ext ju.o)).mono ?_
   rintro r w8 ⟨nv2,rfl,d7,ws⟩;have yD:=J ws;have dF:=J (ju.o.more (d7.below (HG.o.keep db.o)));clear d7 ws q0;go_wp2_with fail;go_roundw
   case rel=>exact⟨i+1,hlt,by go_num,nv2,yD.o,dF.o⟩
   case measure=>simp[intOf];omega
  ·obtain rfl:i=n:=by omega
   have lf:GrP w.heap.size g b wr ns nv:=by
    have h:=hg;rw[HN.o,List.take_length]at h;exact h
   have HG:=J lf;have HX:=J hx;clear hg lf hx;go_wp2_with fail;go_ret3;exact⟨g,b,nv,rfl,HG.o,HX.o⟩
abbrev Env:=List (Tx × Int)
def F9:Env->Tx->Int
 |[],_=> -1
 |b::l,t=>if b.1=t then b.2 else F9 l t
theorem QG{env:Env}{t:Tx}(h:F9 env t≠-1):(t,F9 env t)∈env:=by
 induction env with
 |nil=>exact absurd rfl h
 |cons b l ih=>
  rw[F9]at h ⊢;by_cases hb:b.1=t
  ·rw[if_pos hb];subst hb;exact List.mem_cons_self
  ·rw[if_neg hb]at h ⊢;exact List.mem_cons_of_mem _ (ih h)
def Vn(env:Env):Prop:=Asc (env.map (·.1))
inductive LS (ns:List Nd) (env:Env) (T:Tx->Prop):Tx->Prop where
 |here {t:Tx}:T t->LS ns env T t
 |step {t s:Tx}:LS ns env T t->0<=F9 env t->S2 ns (F9 env t).toNat s->LS ns env T s
def Ve(ns:List Nd)(env:Env)(i:Nat):Tx->Prop:=LS ns env (S2 ns i)
def UK(ns:List Nd)(env:Env)(i:Nat):Prop:=∀t,Ve ns env i t->0<=F9 env t
structure S4 (ns:List Nd) (env:Env):Prop where
 few:env.length<=64
 name:∀b∈env,DQ b.1=true
 node:∀b∈env,0<=b.2/\b.2<(ns.length:Int)
 asc:Vn env
structure Vg (ns:List Nd) (env:Env):Prop where
 ok:S4 ns env
 bound:∀b∈env,UK ns env b.2.toNat
 free:∀b∈env,¬Ve ns env b.2.toNat b.1
theorem S4.find{ns:List Nd}{env:Env}(h:S4 ns env){t:Tx}(ht:0<=F9 env t):(t,F9 env t)∈env/\(F9 env t).toNat<ns.length:=by
 have hm:=QG (env:=env) (t:=t) (by omega);have:=h.node _ hm;exact⟨hm,by simp only at this;omega⟩
theorem OB{ns ms:List Nd}(h:ns <+: ms){i:Nat}(hi:i<ns.length):CQ ms i=CQ ns i:=by
 unfold CQ;rw[qad hi,GZ h (qad hi)]
end Big
end Go.Proofs.YtkoaogkknnelaaaGreatDoor
