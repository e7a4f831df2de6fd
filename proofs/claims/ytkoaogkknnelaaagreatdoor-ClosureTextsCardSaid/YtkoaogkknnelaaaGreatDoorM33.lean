import Derived.Test.YtkoaogkknnelaaaGreatDoorM32
set_option linter.unusedVariables false
set_option linter.unusedSimpArgs false
set_option maxHeartbeats 8000000
set_option maxRecDepth 100000
namespace Go.Proofs.YtkoaogkknnelaaaGreatDoor
namespace Big
open Lib renaming hid → J
open Go.RowKit Go.Maps Go.Sort
def Bs(ns:List Nd)(i:Int)(l:List Tx):Prop:=if 0<=i/\i<(ns.length:Int) then EF ns i.toNat l else l=[]
theorem Bs.of_in{ns:List Nd}{i:Nat}{l:List Tx}(h:EF ns i l)(hi:i<ns.length):Bs ns (i:Int) l:=by
 unfold Bs;rw[if_pos ⟨by omega,by omega⟩,qaq];exact h
theorem Bs.o{ns:List Nd}{i:Int}(h:i<0\/(ns.length:Int)<=i):Bs ns i []:=by
 unfold Bs;rw[if_neg (by omega)]
theorem BB.of_row{B n:Nat}{w:World}{v:Value}{ls:List Tx}(h:w.ownsRow B 9 1 v n (ls.map Go.Proofs.encStr))(hn:ls.length=n):BB w v ls:=by
 have hE:ls.map Go.Proofs.encStr=ls.map str:=rfl;rw[hE]at h;rcases h.2 with ⟨rfl,h2⟩|⟨g,cap,cur,rfl,hb,hg,hc,hm,hs,ht⟩
 ·have:ls=[]:=qau (by omega);subst this;exact CX.none_ w
 ·refine⟨_,_,by rw[qag,hn],by rw[qag,hn];exact hc,hm,fun _=>⟨g,0,rfl,?_,fun j u hj=> ?_⟩⟩
  ·rcases qam g w.heap.size with h|h
   ·exact h
   ·rw[qba h]at hg;cases hg
  ·have nA:j<n:=by
    rcases qam j n with h|h
    ·exact h
    ·rw[qaz (by rw[qag];omega)]at hj;cases hj
   rw[qaF,h.cellAt j (by omega),hj]
theorem M7(l:List Nat)(j:Nat)(h:j<l.length):l.getD j 0=l[j]:=by rw[qac,qaa h];rfl
def E4(ns:List Nd)(i:Int)(w:World)(e:Ending)(w':World):Prop:=∃v l,e= .returned v/\BB w' v l/\Bs ns i l/\l.length<=1000000/\Ext w w'
def BN(B:Nat)(w:World)(v:Value)(ls:List Tx):Prop:=w.ownsRow B 9 1 v ls.length (ls.map str)
theorem BN.of_row{B B' n:Nat}{w:World}{v:Value}{ls:List Tx}(h:w.ownsRow B 9 1 v n (ls.map Go.Proofs.encStr))(hn:ls.length=n)(hB:B'<=B):BN B' w v ls:=by
 obtain⟨h1,h2⟩:=h;subst hn;exact⟨h1,h2.imp id (fun ⟨g,cap,cur,q1,q2,q3⟩=>⟨g,cap,cur,q1,by omega,q3⟩)⟩
def Dc(ns:List Nd)(i:Int)(w:World)(e:Ending)(w':World):Prop:=∃v l,e= .returned v/\BB w' v l/\Bs ns i l/\l.length<=1000000/\Ext w w'/\BN w.heap.size w' v l
theorem OD(B g b:Nat)(w:World)(ns:List Nd)(nv:Value)(h:GrP B g b w ns nv)(i:Nat)(hi:i<ns.length):
  Calls Tryz.prog 42 #[.pointer (some ⟨g,0,none⟩),.int .i64 (i:Int)] w (Dc ns (i:Int) w):=by
 have hfew:=h.few;have bV:=J h.ok;have kK:=J hi;obtain⟨A,c,jc,bj⟩:=h.row.read;subst jc;have cw:=J bj;have HG:=J h;clear bj h;obtain⟨m,hm⟩:∃m,m=i+1:=⟨_,rfl⟩;have jP:m<=4096:=by omega
 have wM:m<=ns.length:=by omega
 have X2:i<m:=by omega
 have zN:=J hm;have dF:=Ky m (by omega);have hmm:=fun W=> @run_makeMap Tryz.prog 151 W
 have vI:IntKind.i64.wrap ((i:Int)+1)=(m:Int):=by rw[IntWalk.i64_in _ (by omega)];omega
 have dW:(0:Int)<=(i:Int):=by omega
 have Vl:(i:Int)<(m:Int):=by omega
 obtain⟨k0,k1,f0,f1,ea⟩:=HG.o.blk.twoG;obtain⟨n,bB⟩:∃n,n=ns.length:=⟨_,rfl⟩;have HN:=J bB;rw[<-bB]at HG hfew k0 wM;have mQ:decide ((i:Int)<0)=false:=decide_eq_false (by omega);have ec:decide ((i:Int)>=(n:Int))=false:=decide_eq_false (by omega);have bE:decide ((n:Int)<=(i:Int))=false:=decide_eq_false (by omega);clear hm hi bB;have oR:decide (n<=i)=false:=decide_eq_false (by omega);have z0:=(Blk.new w 4 (Bq (List.replicate m false))).cell i;rw[Cc _ _ (by rw[qaL];omega)]at z0;have z1:=(Blk.new w 4 (Bq (List.replicate m false))).frozen i;have av:=Blk.new w 4 ((Bq (List.replicate m false)).setIfInBounds i (.bool true));have ah:=J ((Ext.refl w).alloc (.cells ((Bq (List.replicate m false)).setIfInBounds i (.bool true)) 4));go_enter Tryz.func42,Tryz.ntmps42;go_upto_region 5 with fail;obtain⟨w2,aY⟩:∃w2,w2=w.alloc (.cells ((Bq (List.replicate m false)).setIfInBounds i (.bool true)) 4):=⟨_,rfl⟩;rw[<-aY]at av ah;rw[<-aY];rw[Dv]at av;obtain⟨bm,ee⟩:∃bm,bm=w.heap.size:=⟨_,rfl⟩;rw[<-ee]at av;have gJ:=J av;have uK:Hid (w.heap.size<=bm):=J (by omega);rw[<-ee];have am:=J (ah.o.alloc (.map #[] 0));have fj:=J (gJ.o.ext ((Ext.refl w2).alloc (.map #[] 0)));have gM:=J (Do.made w2);have aF:Hid (bm<w2.heap.size):=J gJ.o.lt;obtain⟨bn,cG⟩:∃bn,bn=w2.heap.size:=⟨_,rfl⟩;rw[<-cG]at gM aF;have cO:Hid (w.heap.size<=bn):=J (by have:=ah.o.size;omega);clear aY av dF vI k0 k1 f0 f1 ee z0 z1;go_upto_region 6 with fail;rw[<-cG];obtain⟨w3,a5⟩:∃w3,w3=w2.alloc (.map #[] 0):=⟨_,rfl⟩;rw[<-a5]at am fj gM;rw[<-a5];clear a5 cG hmm ah gJ;go_wp2_with fail;go_loopw [7] (fun s7 wr=>∃(k:Nat) (z:Int),z=(k:Int)-1/\k<=m/\s7= .int .i64 z/\∃(F:List Bool) (cnt:Nat),Blk wr bm 4 (Bq F)/\CN ns i k F/\F.length=m/\Do wr bn cnt (AT ns i k)/\cnt+k<=m/\Ext w wr) (fun s7 _=>(intOf s7+1).toNat)
 case atStart=>
  refine⟨m,(i:Int),by have:=zN.o;omega,qad _,rfl,(List.replicate m false).set i true,0,fj.o,?_,by simp,gM.o.congr (fun t=> ?_),by omega,am.o⟩
  ·rw[zN.o];refine CN.start bV.o (by simp) (by simp;exact kK.o) (fun j hj=> ?_);rw[H4];simp only[qbX,qaL]at hj ⊢;have hf:(List.replicate (i+1) false).getD j false=false:=by
    rw[qac,qbZ];split<;>rfl
   rw[hf,qbv,decide_eq_true_iff];exact⟨fun h=>h.1,fun h=>⟨h,by omega⟩⟩
  ·rw[zN.o];exact⟨fun h=>h.elim,fun h=>absurd h (AT.top bV.o)⟩
 case round=>
  clear am fj gM;obtain⟨k,z,hz,XX,rfl,F,cnt,hb,dF,xE,iY,hcnt,hx⟩:=hrel;have HX:=J hx;have gC:=J hb;have pv:=J iY;have ni:=J dF;have jk:=J xE;clear hx hb iY dF xE;rcases k with _|q
  ·obtain rfl:z= -1:=by omega
   clear hz;have wO:decide ((-1:Int)>=0)=false:=by decide
   obtain⟨D,ac,hD⟩:=pv.o;have hsz:=ac.size_le;have gv:=J (fun ss hp=>Qv (ss:=ss) ac (fun t=>(hD t).trans AT.zero) hp);have gQ:Hid ((strKeys D).length<=1000000):=J (by
    obtain⟨es,rfl,_⟩:=ac.keysOf;simp only[strKeys,qag];simp only[Maps.size]at hsz;omega)
   have WT:=J (fun mb W=>callsIn_wide.1 (Tryz.maps_KeysIt mb W));have ib:=J (callsIn_wide.1 (Tryz.slices_SortedIt bn cnt D _ wr ac (by unfold maxLen;omega) (by omega)));have Wp:=J (fun l (hl:EF ns i l)=>Bs.of_in hl kK.o);clear ac hD hsz pv gC ni jk;go_wp2_with fail;refine(WT.o _ _).mono ?_
   rintro e w5 ⟨rfl,rfl⟩;go_wp2_with fail;refine ib.o.mono ?_
   rintro e w6 ⟨v,ss,rfl,hp,au,_,eM⟩;have hl:(ss.mergeSort (fun x y=>decide (x<=y))).length=ss.length:=List.length_mergeSort ss;have HE:=J (And.intro (BB.of_row au hl) (And.intro (Wp.o _ (gv.o ss hp)) (And.intro (show (ss.mergeSort (fun x y=>decide (x<=y))).length<=1000000 by rw[hl,hp.length_eq];exact gQ.o) (And.intro ((HX.o.alloc _).trans eM) (BN.of_row au hl (qaf HX.o.size (by simp)))))));clear hp au eM hl;go_wp2_with fail;go_ret;exact⟨v,_,rfl,HE.o⟩
  ·obtain rfl:z=(q:Int):=by omega
   clear hz;have sQ:q<m:=by omega
   have ol:q<ns.length:=by have:=HN.o;omega
   have an:=bV.o.2 q _ (qaa ol);have vj:=J (ni.o.here bV.o (by rw[jk.o];exact sQ));have aP:=J (ni.o.step bV.o (by rw[jk.o];exact sQ));have z0:=gC.o.cell q;rw[Cc _ _ (by rw[jk.o];exact sQ)]at z0;have aB:IntKind.i64.wrap ((q:Int)-1)=(q:Int)-1:=IntWalk.i64_in _ (by omega);have pV:(0:Int)<=(q:Int):=by omega
   have ZK:(q:Int)<(m:Int):=by omega
   have jr:decide ((q:Int)>=0)=true:=decide_eq_true pV;cases hFq:F.getD q false
   ·rw[hFq]at z0;have rC:Gs ns q F=F:=by unfold Gs;rw[if_neg (by rw[hFq];simp)]
    rw[rC]at aP;have gM:=J (pv.o.congr (AT.skip (.inl (fun h=>by rw[vj.o.2 h]at hFq;cases hFq))));clear rC hFq an;go_wp2_with fail;go_roundw
    case rel=>exact⟨q,(q:Int)-1,rfl,by omega,by go_num,F,cnt,gC.o,aP.o,jk.o,gM.o,by omega,HX.o⟩
    case measure=>simp[intOf]<;>omega
   ·rw[hFq]at z0;have k8:=J (vj.o.1 hFq);have rC:Gs ns q F=BP F (BA ns[q]):=by
     unfold Gs BQ;rw[if_pos (by rw[hFq]),qaa ol]
    rw[rC]at aP;have jZ:Hid (∀t,ns[q].kind=2->((t=ns[q].text\/AT ns i (q+1) t)↔AT ns i q t)):=J (fun t hk=>AT.add k8.o (qaa ol) hk t);have WS:Hid (∀t,ns[q].kind≠2->(AT ns i (q+1) t↔AT ns i q t)):=J (fun t hk=>AT.skip (.inr (fun x hx=>by rw[qaa ol]at hx;injection hx with hx;subst hx;exact hk)) t);have np:=J an.args_lt;have fC:=an.args_len;have aS:=J (fun W=>FU W ns[q] an);have dy:=an.text;obtain⟨gb,o,rfl,bC,hc⟩:=cw.o (by omega);obtain⟨p0,p1,p2,p3,p4⟩:=hc q ol;rw[<-HX.o.cell bC]at p0 p1 p2 p3 p4;obtain⟨k0,k1,f0,f1,ea⟩:=(HG.o.keep HX.o).blk.twoG;have UU:(q:Int)<(n:Int):=by omega
    have hgr:gb<wr.heap.size:=qaj bC HX.o.size;generalize BA ns[q]=zs at *;generalize ns[q]=x at *;clear rC hFq an hc ol;obtain⟨y0,y1,y2,y3,y4⟩:=x;simp only[ndV]at aS;simp only at p0 p1 p2 p3 p4 jZ WS dy;have t6:=J (fun W (h:Do W bn cnt (AT ns i (q+1)))=>h.store (by unfold maxLen;omega) y4 (by unfold maxLen;omega));obtain⟨s,hs⟩:∃s:ByteArray,s=⟨(y4:List UInt8).toArray⟩:=⟨_,rfl⟩;have af:str y4= .string s:=by rw[hs];rfl
    rw[af]at p4 aS t6;clear hs af;have aW:=J (Blk.new wr 95 #[.int .i64 y0,.int .i64 y1,.int .i64 y2,.int .i64 y3,.string s]);have aN:=J ((Ext.refl wr).alloc (.cells #[.int .i64 y0,.int .i64 y1,.int .i64 y2,.int .i64 y3,.string s] 95));obtain⟨w7,dk⟩:∃w7,w7=wr.alloc (.cells #[.int .i64 y0,.int .i64 y1,.int .i64 y2,.int .i64 y3,.string s] 95):=⟨_,rfl⟩;rw[<-dk]at aW aN;have q0:=aW.o.five;go_upto_region 11 with fail;rw[<-dk];clear dk p0 p1 p2 p3 p4 k0 k1 f0 f1 z0;obtain⟨wS,bq,XH,xf⟩:=t6.o w7 (pv.o.ext aN.o);have hbnw:bn<wr.heap.size:=pv.o.lt;have VO:bm<wr.heap.size:=gC.o.lt;have cX:=HX.o.size;have h7z:=aN.o.size;have fA:bm≠bn:=by have:=aF.o;omega
    have hb0:=uK.o;have av:=cO.o;obtain⟨mz,iZ⟩:∃mz,mz=zs.length:=⟨_,rfl⟩;have jj:=J iZ;rw[<-iZ]at fC;have HZ:Hid (∀j,j<mz->zs.getD j 0<q):=J (fun j hj=>by
     rw[qac,qaa (by omega)];exact np.o _ (qap _))
    have dP:Hid (∀j,j<mz->zs.take (j+1)=zs.take j++[zs.getD j 0]):=J (fun j hj=>by
     rw[qah (by omega),qac,qaa (by omega)];rfl)
    clear iZ dy;have HBR:∃w5,(y0=2->w5=wS)/\(y0≠2->w5=w7)/\Do w5 bn (cnt+1) (AT ns i q)/\Blk w5 bm 4 (Bq F)/\Blk w5 wr.heap.size 95 #[.int .i64 y0,.int .i64 y1,.int .i64 y2,.int .i64 y3,.string s]/\Ext w w5/\wr.heap.size<w5.heap.size:=by
     by_cases hk2:y0=2
     ·refine⟨wS,fun _=>rfl,fun h=>absurd hk2 h,XH.congr (fun t=>jZ.o t hk2),?_,?_,?_,?_⟩
      ·exact(xf.block bm (by omega) (fun e=>fA (qaA e))).trans (gC.o.ext aN.o)
      ·exact(xf.block _ aW.o.lt (fun e=>by have:=qaA e;omega)).trans aW.o
      ·exact Below.grown (HX.o.trans aN.o) xf (by omega) (fun k hk=>by have:=qaA hk;omega)
      ·have:=xf.size;have:=aW.o.lt;omega
     ·exact⟨w7,fun h=>absurd h hk2,fun _=>rfl,((pv.o.ext aN.o).congr (fun t=>WS.o t hk2)).mono (Nat.le_succ _),gC.o.ext aN.o,aW.o,HX.o.trans aN.o,aW.o.lt⟩
    obtain⟨w5,Yq,zB,XM,xu,wI,hx5,Z5⟩:=HBR;have ef:=J XM;have cm:=J xu;have zU:=J wI;have ba:=J hx5;have vl:=J (And.intro Yq zB);clear Yq zB XM xu wI hx5 XH xf jZ WS t6;by_cases hk2:y0=2
    ·have x9:=J (vl.o.1 hk2);subst hk2;go_upto_region 13 with fail;rw[<-x9.o];clear x9 vl bq q0;have q0:=zU.o.five;go_wp2_with fail;refine(aS.o w5).mono ?_
     rintro e w6 ⟨A3,c3,rfl,bz,bO⟩;rw[<-jj.o]at bO ⊢;have aZ:=J (ba.o.trans bz);have bK:=J (cm.o.ext bz);have i8:=J (ef.o.ext bz);have mA:Hid (∀j,j<mz->∃b3,A3=some ⟨b3,0,none⟩/\b3≠bm/\b3<w6.heap.size/\w6.cell? ⟨b3,j,none⟩=some (.int .i64 ((zs.getD j 0:Nat):Int))):=J (fun j hj=>by
      obtain⟨b3,h1,h2,h3,h4⟩:=bO (by omega);exact⟨b3,h1,by omega,h3,h4 j hj⟩)
     clear q0 bz bO aS;go_wp2_with fail;generalize wr=wa at *;go_loopw [61] (fun sn wr=>∃p:Nat,p<=mz/\sn= .int .i64 (p:Int)/\Blk wr bm 4 (Bq (BP F (zs.take p)))/\Do wr bn (cnt+1) (AT ns i q)/\Ext w wr/\(∀j,j<mz->∃b3,A3=some ⟨b3,0,none⟩/\b3≠bm/\wr.cell? ⟨b3,j,none⟩=some (.int .i64 ((zs.getD j 0:Nat):Int)))) (fun sn _=>mz-(intOf sn).toNat)
     case atStart=>exact⟨0,qal _,rfl,bK.o,i8.o,aZ.o,fun j hj=>by
      obtain⟨b3,h1,h2,_,h4⟩:=mA.o j hj;exact⟨b3,h1,h2,h4⟩⟩
     case round=>
      clear bK i8 aZ mA ba cm ef zU HX;obtain⟨p,hp,rfl,hb,iY,hx,fy⟩:=hrel;have HX:=J hx;by_cases hpz:p<mz
      ·obtain⟨b3,rfl,dA,aa⟩:=fy p hpz;have no:=J fy;have fa:=HZ.o p hpz;have hsa:=FC (zs.take p) (zs.getD p 0) F;rw[<-dP.o p hpz]at hsa;have ak:=C8 (zs.take p) F;rw[jk.o]at ak;have z1:=hb.cell (zs.getD p 0);rw[Cc _ _ (by omega)]at z1;have f1:=hb.frozen (zs.getD p 0);have hs:=hb.set_ (zs.getD p 0) (.bool true);rw[Dv,<-hsa]at hs;have HS:=J hs;have a9:=J (iY.at (w':=wr.setCell ⟨bm,zs.getD p 0,none⟩ (.bool true)) (Below.heap_setCell _ _ _ bn (fun e=>fA e.symm)));have mf:=J (hx.setCell (p:=⟨bm,zs.getD p 0,none⟩) hb0 (.bool true));have gK:Hid (∀b3 j,b3≠bm->(wr.setCell ⟨bm,zs.getD p 0,none⟩ (.bool true)).cell? ⟨b3,j,none⟩=wr.cell? ⟨b3,j,none⟩):=J (fun b3 j hne=>World.cell?_of_block (a:=⟨b3,j,none⟩) (Below.heap_setCell _ _ _ b3 hne));generalize (BP F (zs.take p)).getD (zs.getD p 0) false=old at *;generalize hza:zs.getD p 0=za at *;clear hza hb iY hx fy hs hsa ak;have hp0:(0:Int)<=(p:Int):=by omega
       have om:(p:Int)<(mz:Int):=by omega
       have nU:(0:Int)<=(za:Int):=by omega
       have nT:(za:Int)<(m:Int):=by omega
       have vH:IntKind.i64.wrap ((p:Int)+1)=(p:Int)+1:=IntWalk.i64_in _ (by omega);go_wp2_with fail;go_roundw
       case rel=>
        refine⟨p+1,hpz,by go_num,HS.o,a9.o,mf.o,fun j hj=> ?_⟩;obtain⟨b4,e4,p2,p3⟩:=no.o j hj;exact⟨b4,e4,p2,(gK.o b4 j p2).trans p3⟩
       case measure=>simp[intOf];omega
      ·obtain rfl:p=mz:=by omega
       have gn:Blk wr bm 4 (Bq (BP F zs)):=by
        have h:=hb;rw[jj.o,qbr]at h;exact h
       have uL:=J gn;have fl:=J iY;clear hb gn iY hx fy;go_wp2_with fail;go_roundw
       case rel=>exact⟨q,(q:Int)-1,rfl,by omega,by go_num,BP F zs,cnt+1,uL.o,aP.o,by rw[C8];exact jk.o,fl.o,by omega,HX.o⟩
       case measure=>simp[intOf]<;>omega
    ·have x9:=J (vl.o.2 hk2);have dq:(y0 == 2)=false:=by rw[beq_eq_false_iff_ne];exact hk2
     clear hk2;go_upto_region 13 with fail;rw[<-x9.o];clear x9 vl bq q0;have q0:=zU.o.five;go_wp2_with fail;refine(aS.o w5).mono ?_
     rintro e w6 ⟨A3,c3,rfl,bz,bO⟩;rw[<-jj.o]at bO ⊢;have aZ:=J (ba.o.trans bz);have bK:=J (cm.o.ext bz);have i8:=J (ef.o.ext bz);have mA:Hid (∀j,j<mz->∃b3,A3=some ⟨b3,0,none⟩/\b3≠bm/\b3<w6.heap.size/\w6.cell? ⟨b3,j,none⟩=some (.int .i64 ((zs.getD j 0:Nat):Int))):=J (fun j hj=>by
      obtain⟨b3,h1,h2,h3,h4⟩:=bO (by omega);exact⟨b3,h1,by omega,h3,h4 j hj⟩)
     clear q0 bz bO aS;go_wp2_with fail;generalize wr=wa at *;go_loopw [61] (fun sn wr=>∃p:Nat,p<=mz/\sn= .int .i64 (p:Int)/\Blk wr bm 4 (Bq (BP F (zs.take p)))/\Do wr bn (cnt+1) (AT ns i q)/\Ext w wr/\(∀j,j<mz->∃b3,A3=some ⟨b3,0,none⟩/\b3≠bm/\wr.cell? ⟨b3,j,none⟩=some (.int .i64 ((zs.getD j 0:Nat):Int)))) (fun sn _=>mz-(intOf sn).toNat)
     case atStart=>exact⟨0,qal _,rfl,bK.o,i8.o,aZ.o,fun j hj=>by
      obtain⟨b3,h1,h2,_,h4⟩:=mA.o j hj;exact⟨b3,h1,h2,h4⟩⟩
     case round=>
      clear bK i8 aZ mA ba cm ef zU HX;obtain⟨p,hp,rfl,hb,iY,hx,fy⟩:=hrel;have HX:=J hx;by_cases hpz:p<mz
      ·obtain⟨b3,rfl,dA,aa⟩:=fy p hpz;have no:=J fy;have fa:=HZ.o p hpz;have hsa:=FC (zs.take p) (zs.getD p 0) F;rw[<-dP.o p hpz]at hsa;have ak:=C8 (zs.take p) F;rw[jk.o]at ak;have z1:=hb.cell (zs.getD p 0);rw[Cc _ _ (by omega)]at z1;have f1:=hb.frozen (zs.getD p 0);have hs:=hb.set_ (zs.getD p 0) (.bool true);rw[Dv,<-hsa]at hs;have HS:=J hs;have a9:=J (iY.at (w':=wr.setCell ⟨bm,zs.getD p 0,none⟩ (.bool true)) (Below.heap_setCell _ _ _ bn (fun e=>fA e.symm)));have mf:=J (hx.setCell (p:=⟨bm,zs.getD p 0,none⟩) hb0 (.bool true));have gK:Hid (∀b3 j,b3≠bm->(wr.setCell ⟨bm,zs.getD p 0,none⟩ (.bool true)).cell? ⟨b3,j,none⟩=wr.cell? ⟨b3,j,none⟩):=J (fun b3 j hne=>World.cell?_of_block (a:=⟨b3,j,none⟩) (Below.heap_setCell _ _ _ b3 hne));generalize (BP F (zs.take p)).getD (zs.getD p 0) false=old at *;generalize hza:zs.getD p 0=za at *;clear hza hb iY hx fy hs hsa ak;have hp0:(0:Int)<=(p:Int):=by omega
       have om:(p:Int)<(mz:Int):=by omega
       have nU:(0:Int)<=(za:Int):=by omega
       have nT:(za:Int)<(m:Int):=by omega
       have vH:IntKind.i64.wrap ((p:Int)+1)=(p:Int)+1:=IntWalk.i64_in _ (by omega);go_wp2_with fail;go_roundw
       case rel=>
        refine⟨p+1,hpz,by go_num,HS.o,a9.o,mf.o,fun j hj=> ?_⟩;obtain⟨b4,e4,p2,p3⟩:=no.o j hj;exact⟨b4,e4,p2,(gK.o b4 j p2).trans p3⟩
       case measure=>simp[intOf];omega
      ·obtain rfl:p=mz:=by omega
       have gn:Blk wr bm 4 (Bq (BP F zs)):=by
        have h:=hb;rw[jj.o,qbr]at h;exact h
       have uL:=J gn;have fl:=J iY;clear hb gn iY hx fy;go_wp2_with fail;go_roundw
       case rel=>exact⟨q,(q:Int)-1,rfl,by omega,by go_num,BP F zs,cnt+1,uL.o,aP.o,by rw[C8];exact jk.o,fl.o,by omega,HX.o⟩
       case measure=>simp[intOf]<;>omega
open Go.RowKit
theorem PX(l:List Bool)(i:Nat):l.set i (l.getD i false)=l:=by
 apply qcb;intro j;rw[List.getElem?_set];split
 ·rename_i h;subst h;split
  ·rename_i h;rw[qac,qaa h];rfl
  ·rename_i h;rw[qaz (by omega)]
 ·rfl
def O4(ns:List Nd)(i:Nat)(w:World)(e:Ending)(w':World):Prop:=∃v L,e= .returned v/\Ka w' v L/\(∀j,j∈L↔Bn ns i j)/\L.length<=ns.length/\Ext w w'
theorem Ls(p:Nat->Bool)(k:Nat):(List.range (k+1)).filter p=(List.range k).filter p++(if p k then [k] else []):=by
 rw[List.range_succ,List.filter_append]
 congr 1
 cases h:p k<;>simp[h]
theorem P6(B g:Nat)(w:World)(ns:List Nd)(rv:Value)(h:GrR B g w ns rv)(i:Nat)(hi:i<ns.length):
  Calls Tryz.prog 111 #[.pointer (some ⟨g,0,none⟩),.int .i64 (i:Int)] w (O4 ns i w):=by
 have hfew:=h.few;have bV:=J h.ok;have kK:=J hi;have ig:=J (Fh B g w ns rv h (i:Int));rw[decide_eq_true (⟨by omega,by omega⟩:0<=(i:Int)/\(i:Int)<(ns.length:Int))]at ig;obtain⟨A,c,jc,bj⟩:=h.row.read;subst jc;have cw:=J bj;have HG:=J h;clear bj h;have dW:(0:Int)<=(i:Int):=by omega
 obtain⟨n,bB⟩:∃n,n=ns.length:=⟨_,rfl⟩;have HN:=J bB;rw[<-bB]at HG hfew;have hin:i<n:=by omega
 have Vl:(i:Int)<(n:Int):=by omega
 have dF:=Ky n (by omega);clear hi bB;go_enter Tryz.func111,Tryz.ntmps111;go_wp2_with fail;refine ig.o.mono ?_
 rintro e w1 ⟨rfl,ar⟩;have ah:=J ar;have k0:=(HG.o.keep ar).blk.oneG;have z0:=(Blk.new w1 4 (Bq (List.replicate n false))).cell i;rw[Cc _ _ (by rw[qaL];omega)]at z0;have z1:=(Blk.new w1 4 (Bq (List.replicate n false))).frozen i;have av:=Blk.new w1 4 ((Bq (List.replicate n false)).setIfInBounds i (.bool true));have am:=J (ah.o.alloc (.cells ((Bq (List.replicate n false)).setIfInBounds i (.bool true)) 4));go_upto_region 5 with fail;obtain⟨w2,aY⟩:∃w2,w2=w1.alloc (.cells ((Bq (List.replicate n false)).setIfInBounds i (.bool true)) 4):=⟨_,rfl⟩;rw[<-aY]at av am;rw[<-aY];rw[Dv]at av;obtain⟨bm,ee⟩:∃bm,bm=w1.heap.size:=⟨_,rfl⟩;rw[<-ee]at av;have fj:=J av;have uK:Hid (w.heap.size<=bm):=J (by have:=ar.size;omega);rw[<-ee];clear aY av dF k0 ee z0 z1 ar ah ig;go_wp2_with fail;go_loopw [6] (fun s6 wr=>∃(k:Nat) (z:Int),z=(k:Int)-1/\k<=i+1/\s6= .int .i64 z/\∃(F:List Bool),Blk wr bm 4 (Bq F)/\CN ns i k F/\F.length=n/\Ext w wr) (fun s6 _=>(intOf s6+1).toNat)
 case atStart=>
  refine⟨i+1,(i:Int),by omega,qad _,rfl,(List.replicate n false).set i true,fj.o,?_,by simp,am.o⟩;refine CN.start bV.o (by simp;exact hin) (by simp;rw[HN.o];exact qad _) (fun j hj=> ?_);rw[H4];simp only[qbX,qaL]at hj ⊢;have hf:(List.replicate n false).getD j false=false:=by
   rw[qac,qbZ];split<;>rfl
  rw[hf,qbv,decide_eq_true_iff];exact⟨fun h=>h.1,fun h=>⟨h,by omega⟩⟩
 case round=>
  clear am fj;obtain⟨k,z,hz,XX,rfl,F,hb,dF,xE,hx⟩:=hrel;have HX:=J hx;have gC:=J hb;have ni:=J dF;have jk:=J xE;clear hx hb dF xE;rcases k with _|q
  ·obtain rfl:z= -1:=by omega
   clear hz;have wO:decide ((-1:Int)>=0)=false:=by decide
   have dC:=J ni.o.done;have cX:=HX.o.size;have hbz:bm<wr.heap.size:=gC.o.lt;clear ni;go_wp2_with fail;generalize wr=wa at *;go_loopw [9,59] (fun s9 so wr=>∃k:Nat,k<=n/\so= .int .i64 (k:Int)/\IL wa.heap.size wr s9 ((List.range k).filter (fun j=>F.getD j false))/\Ext wa wr) (fun _ so _=>n-(intOf so).toNat)
   case atStart=>exact⟨0,qal _,rfl,IL.nil _ _,Ext.refl wa⟩
   case round=>
    obtain⟨k,hk,rfl,ac,hx⟩:=hrel;have HO:=J ac;have fT:=J hx;have gZ:((List.range k).filter (fun j=>F.getD j false)).length<=k:=by
     have:=List.length_filter_le (fun j=>F.getD j false) (List.range k);rw[List.length_range]at this;exact this
    obtain⟨m9,A9,c9,rfl⟩:=ac.arr.shape;by_cases hlt:k<n
    ·have z0:=(gC.o.ext hx).cell k;rw[Cc _ _ (by rw[jk.o];exact hlt)]at z0;have zL:=J (Ls (fun j=>F.getD j false) k);have g3:(0:Int)<=(k:Int):=by omega
     have eS:(k:Int)<(n:Int):=by omega
     have jn:IntKind.i64.wrap ((k:Int)+1)=(k:Int)+1:=IntWalk.i64_in _ (by omega);have rH:wa.heap.size<=wr.heap.size:=hx.size;clear ac hx;cases hFk:F.getD k false
     ·rw[hFk]at z0;have i1:(if F.getD k false=true then [k] else [])=([]:List Nat):=by rw[hFk];rfl
      rw[i1,qaW]at zL;clear i1 hFk;go_wp2_with fail;go_roundw
      case rel=>exact⟨k+1,hlt,by go_num,by rw[zL.o];exact HO.o,fT.o⟩
      case measure=>simp[intOf];omega
     ·rw[hFk]at z0;have i1:(if F.getD k false=true then [k] else [])=[k]:=by rw[hFk];rfl
      rw[i1]at zL;clear i1 hFk;have nK:Hid (((List.range k).filter (fun j=>F.getD j false)).length+[k].length<=2147483648):=J (by rw[qae];omega);go_wp2_with (at_builtin;go_must (refine IW (B:=wa.heap.size) rfl _ _ rfl rfl (HO.o.ext ((Ext.refl _).alloc _)) rfl (Ka.fresh1 _ _) nK.o (by simp;omega) ?_;intro v' w' bf hgr o6;have HE:=J (And.intro bf ((fT.o.alloc _).more o6));clear bf hgr o6));go_roundw
      case rel=>exact⟨k+1,hlt,by go_num,by rw[zL.o];exact HE.o.1,HE.o.2⟩
      case measure=>simp[intOf];omega
    ·obtain rfl:k=n:=by omega
     have gO:Hid (∀j,j∈(List.range k).filter (fun j=>F.getD j false)↔Bn ns i j):=J (fun j=>by
      rw[List.mem_filter,List.mem_range];constructor
      ·rintro⟨h1,h2⟩;exact(dC.o j (by rw[jk.o];exact h1)).1 h2
      ·intro h1;have h2:=h1.le bV.o;have h3:=kK.o;exact⟨by have:=HN.o;omega,(dC.o j (by rw[jk.o];have:=HN.o;omega)).2 h1⟩)
     have gH:=J (HX.o.trans fT.o);clear ac hx;go_wp2_with fail;go_ret;exact⟨_,_,rfl,HO.o.arr,gO.o,by rw[<-HN.o];exact gZ,gH.o⟩
  ·obtain rfl:z=(q:Int):=by omega
   clear hz;have ol:q<ns.length:=by have:=HN.o;omega
   have an:=bV.o.2 q _ (qaa ol);have XB:q<F.length:=by rw[jk.o];omega
   have aP:=J (ni.o.step bV.o XB);have aB:IntKind.i64.wrap ((q:Int)-1)=(q:Int)-1:=IntWalk.i64_in _ (by omega);have pV:(0:Int)<=(q:Int):=by omega
   have UU:(q:Int)<(n:Int):=by omega
   have jr:decide ((q:Int)>=0)=true:=decide_eq_true pV;have rC:Gs ns q F=if F.getD q false then BP F (BA ns[q]) else F:=by
    unfold Gs BQ;rw[qaa ol]
   rw[rC]at aP;have np:=J an.args_lt;have fC:=an.args_len;have aS:=J (fun W=>D4 W ns[q] an);obtain⟨gb,o,rfl,bC,hc⟩:=cw.o (by have:=HN.o;omega);obtain⟨p0,p1,p2,p3,p4⟩:=hc q ol;rw[<-HX.o.cell bC]at p0 p1 p2 p3 p4;have k0:=(HG.o.keep HX.o).blk.oneG;have hgr:gb<wr.heap.size:=qaj bC HX.o.size;generalize BA ns[q]=zs at *;generalize ns[q]=x at *;clear rC an hc ol;obtain⟨y0,y1,y2,y3,y4⟩:=x;simp only[ndV]at aS;simp only at p0 p1 p2 p3 p4;obtain⟨s,hs⟩:∃s:ByteArray,s=⟨(y4:List UInt8).toArray⟩:=⟨_,rfl⟩;have af:str y4= .string s:=by rw[hs];rfl
   rw[af]at p4 aS;clear hs af;have VO:bm<wr.heap.size:=gC.o.lt;have cX:=HX.o.size;have hb0:=uK.o;obtain⟨mz,iZ⟩:∃mz,mz=zs.length:=⟨_,rfl⟩;have jj:=J iZ;rw[<-iZ]at fC;have HZ:Hid (∀j,j<mz->zs.getD j 0<q):=J (fun j hj=>by
    rw[qac,qaa (by omega)];exact np.o _ (qap _))
   have dP:Hid (∀j,j<mz->zs.take (j+1)=zs.take j++[zs.getD j 0]):=J (fun j hj=>by
    rw[qah (by omega),qac,qaa (by omega)];rfl)
   clear iZ;go_wp2_with fail;refine(aS.o wr).mono ?_
   rintro e w6 ⟨A3,c3,rfl,bz,bO⟩;rw[<-jj.o]at bO ⊢;have aZ:=J (HX.o.trans bz);have bK:=J (gC.o.ext bz);have mA:Hid (∀j,j<mz->∃b3,A3=some ⟨b3,0,none⟩/\b3≠bm/\b3<w6.heap.size/\w6.cell? ⟨b3,j,none⟩=some (.int .i64 ((zs.getD j 0:Nat):Int))):=J (fun j hj=>by
    obtain⟨b3,h1,h2,h3,h4⟩:=bO (by omega);exact⟨b3,h1,by omega,h3,h4 j hj⟩)
   clear p0 p1 p2 p3 p4 k0 bz bO aS HX gC ni;cases hFq:F.getD q false
   ·rw[hFq]at aP;have tT:=hFq;clear hFq;simp only[if_true,qbg,if_false]at aP;go_wp2_with fail;generalize wr=wa at *;go_loopw [39] (fun jm wr=>∃p:Nat,p<=mz/\jm= .int .i64 (p:Int)/\Blk wr bm 4 (Bq F)/\Ext w wr/\(∀j,j<mz->∃b3,A3=some ⟨b3,0,none⟩/\b3≠bm/\wr.cell? ⟨b3,j,none⟩=some (.int .i64 ((zs.getD j 0:Nat):Int)))) (fun jm _=>mz-(intOf jm).toNat)
    case atStart=>exact⟨0,qal _,rfl,bK.o,aZ.o,fun j hj=>by
     obtain⟨b3,h1,h2,_,h4⟩:=mA.o j hj;exact⟨b3,h1,h2,h4⟩⟩
    case round=>
     clear bK aZ mA;obtain⟨p,hp,rfl,hb,hx,fy⟩:=hrel;have HX:=J hx;by_cases hpz:p<mz
     ·obtain⟨b3,rfl,dA,aa⟩:=fy p hpz;have no:=J fy;have fa:=HZ.o p hpz;have ak:=jk.o;have z1:=hb.cell (zs.getD p 0);rw[Cc _ _ (by omega)]at z1;have z2:=hb.cell q;rw[Cc _ _ (by omega),tT]at z2;have f1:=hb.frozen (zs.getD p 0);have hs:=hb.set_ (zs.getD p 0) (.bool (F.getD (zs.getD p 0) false));rw[Dv,PX]at hs;have HS:=J hs;have mf:=J (hx.setCell (p:=⟨bm,zs.getD p 0,none⟩) hb0 (.bool (F.getD (zs.getD p 0) false)));have gK:Hid (∀b3 j,b3≠bm->(wr.setCell ⟨bm,zs.getD p 0,none⟩ (.bool (F.getD (zs.getD p 0) false))).cell? ⟨b3,j,none⟩=wr.cell? ⟨b3,j,none⟩):=J (fun b3 j hne=>World.cell?_of_block (a:=⟨b3,j,none⟩) (Below.heap_setCell _ _ _ b3 hne));generalize F.getD (zs.getD p 0) false=old at *;generalize hza:zs.getD p 0=za at *;clear hza hb hx fy hs ak;have hp0:(0:Int)<=(p:Int):=by omega
      have om:(p:Int)<(mz:Int):=by omega
      have nU:(0:Int)<=(za:Int):=by omega
      have nT:(za:Int)<(n:Int):=by omega
      have vH:IntKind.i64.wrap ((p:Int)+1)=(p:Int)+1:=IntWalk.i64_in _ (by omega);cases old
      all_goals
       go_wp2_with fail;go_roundw
       case rel=>
        refine⟨p+1,hpz,by go_num,HS.o,mf.o,fun j hj=> ?_⟩;obtain⟨b4,e4,p2,p3⟩:=no.o j hj;exact⟨b4,e4,p2,(gK.o b4 j p2).trans p3⟩
       case measure=>simp[intOf];omega
     ·obtain rfl:p=mz:=by omega
      have gn:Blk wr bm 4 (Bq F):=by
       have h:=hb;exact h
      have uL:=J gn;clear hb gn hx fy;go_wp2_with fail;go_roundw
      case rel=>exact⟨q,(q:Int)-1,rfl,by omega,by go_num,F,uL.o,aP.o,by exact jk.o,HX.o⟩
      case measure=>simp[intOf]<;>omega
   ·rw[hFq]at aP;have tT:=hFq;clear hFq;simp only[if_true,qbg,if_false]at aP;go_wp2_with fail;generalize wr=wa at *;go_loopw [39] (fun jm wr=>∃p:Nat,p<=mz/\jm= .int .i64 (p:Int)/\Blk wr bm 4 (Bq (BP F (zs.take p)))/\Ext w wr/\(∀j,j<mz->∃b3,A3=some ⟨b3,0,none⟩/\b3≠bm/\wr.cell? ⟨b3,j,none⟩=some (.int .i64 ((zs.getD j 0:Nat):Int)))) (fun jm _=>mz-(intOf jm).toNat)
    case atStart=>exact⟨0,qal _,rfl,bK.o,aZ.o,fun j hj=>by
     obtain⟨b3,h1,h2,_,h4⟩:=mA.o j hj;exact⟨b3,h1,h2,h4⟩⟩
    case round=>
     clear bK aZ mA;obtain⟨p,hp,rfl,hb,hx,fy⟩:=hrel;have HX:=J hx;by_cases hpz:p<mz
     ·obtain⟨b3,rfl,dA,aa⟩:=fy p hpz;have no:=J fy;have fa:=HZ.o p hpz;have hsa:=FC (zs.take p) (zs.getD p 0) F;rw[<-dP.o p hpz]at hsa;have ak:=C8 (zs.take p) F;rw[jk.o]at ak;have XA:(BP F (zs.take p)).getD q false=true:=by rw[Ix _ _ _ XB,tT,Bool.or_true]
      have z1:=hb.cell (zs.getD p 0);rw[Cc _ _ (by omega)]at z1;have z2:=hb.cell q;rw[Cc _ _ (by omega),XA]at z2;have f1:=hb.frozen (zs.getD p 0);have hs:=hb.set_ (zs.getD p 0) (.bool true);rw[Dv,<-hsa]at hs;have HS:=J hs;have mf:=J (hx.setCell (p:=⟨bm,zs.getD p 0,none⟩) hb0 (.bool true));have gK:Hid (∀b3 j,b3≠bm->(wr.setCell ⟨bm,zs.getD p 0,none⟩ (.bool true)).cell? ⟨b3,j,none⟩=wr.cell? ⟨b3,j,none⟩):=J (fun b3 j hne=>World.cell?_of_block (a:=⟨b3,j,none⟩) (Below.heap_setCell _ _ _ b3 hne));generalize (BP F (zs.take p)).getD (zs.getD p 0) false=old at *;generalize hza:zs.getD p 0=za at *;clear hza hb hx fy hs ak hsa XA;have hp0:(0:Int)<=(p:Int):=by omega
      have om:(p:Int)<(mz:Int):=by omega
      have nU:(0:Int)<=(za:Int):=by omega
      have nT:(za:Int)<(n:Int):=by omega
      have vH:IntKind.i64.wrap ((p:Int)+1)=(p:Int)+1:=IntWalk.i64_in _ (by omega);cases old
      all_goals
       go_wp2_with fail;go_roundw
       case rel=>
        refine⟨p+1,hpz,by go_num,HS.o,mf.o,fun j hj=> ?_⟩;obtain⟨b4,e4,p2,p3⟩:=no.o j hj;exact⟨b4,e4,p2,(gK.o b4 j p2).trans p3⟩
       case measure=>simp[intOf];omega
     ·obtain rfl:p=mz:=by omega
      have gn:Blk wr bm 4 (Bq (BP F zs)):=by
       have h:=hb;rw[jj.o,qbr]at h;exact h
      have uL:=J gn;clear hb gn hx fy;go_wp2_with fail;go_roundw
      case rel=>exact⟨q,(q:Int)-1,rfl,by omega,by go_num,(BP F zs),uL.o,aP.o,by rw[C8];exact jk.o,HX.o⟩
      case measure=>simp[intOf]<;>omega
def CM(ns:List Nd)(L:List Nat)(T:List Tx):Prop:=(∀t,t∈T↔∃j∈L,∃x,ns[j]? =some x/\x.kind=2/\x.text=t)/\T.length<=L.length/\∀t∈T,t.length<=400
theorem CM.nil(ns:List Nd):CM ns [] []:=⟨fun t=>by simp,qad _,fun t ht=>by cases ht⟩
theorem CM.add{ns:List Nd}{L:List Nat}{T:List Tx}(h:CM ns L T){j:Nat}{x:Nd}(hx:ns[j]? =some x)(hk:x.kind=2)(hl:x.text.length<=400):CM ns (L++[j]) (T++[x.text]):=by
 refine⟨fun t=> ?_,by simp only[qab,qae];have:=h.2.1;omega,fun t ht=> ?_⟩
 ·rw[qax,qav,h.1 t];constructor
  ·rintro(⟨q,hq,r⟩|rfl)
   ·exact⟨q,qaT _ hq,r⟩
   ·exact⟨j,by simp,x,hx,hk,rfl⟩
  ·rintro⟨q,hq,y,h1,h2,h3⟩;rcases qax.1 hq with h4|h4
   ·exact .inl ⟨q,h4,y,h1,h2,h3⟩
   ·rw[qav.1 h4,hx]at h1;injection h1 with h1
    subst h1;exact .inr h3.symm
 ·rcases qax.1 ht with h4|h4
  ·exact h.2.2 t h4
  ·rw[qav.1 h4];exact hl
theorem CM.skip{ns:List Nd}{L:List Nat}{T:List Tx}(h:CM ns L T){j:Nat}{x:Nd}(hx:ns[j]? =some x)(hk:x.kind≠2):CM ns (L++[j]) T:=by
 refine⟨fun t=> ?_,by simp only[qab,qae];have:=h.2.1;omega,h.2.2⟩;rw[h.1 t];constructor
 ·rintro⟨q,hq,r⟩;exact⟨q,qaT _ hq,r⟩
 ·rintro⟨q,hq,y,h1,h2,h3⟩;rcases qax.1 hq with h4|h4
  ·exact⟨q,h4,y,h1,h2,h3⟩
  ·rw[qav.1 h4,hx]at h1;injection h1 with h1
   subst h1;exact absurd h2 hk
theorem CM.names{ns:List Nd}{i:Nat}{L:List Nat}{T:List Tx}(h:CM ns L T)(hL:∀j,j∈L↔Bn ns i j):EF ns i (BZ T):=by
 refine⟨Gg T,fun t=> ?_⟩;rw[Cn,h.1 t];exact⟨fun ⟨j,hj,x,r⟩=>⟨j,x,(hL j).1 hj,r⟩,fun ⟨j,x,hj,r⟩=>⟨j,(hL j).2 hj,x,r⟩⟩
theorem NY(B g:Nat)(w:World)(ns:List Nd)(rv:Value)(h:GrR B g w ns rv)(i:Nat)(hi:i<ns.length):
  Calls Tryz.prog 50 #[.pointer (some ⟨g,0,none⟩),.int .i64 (i:Int)] w (E4 ns (i:Int) w):=by
 have ug:=J (P6 B g w ns rv h i hi);have hfew:=h.few;have bV:=J h.ok;have Wp:=J (fun l (hl:EF ns i l)=>Bs.of_in hl hi);have ub:=J (fun j (hj:Bn ns i j)=>qbD (hj.le h.ok) hi);obtain⟨A,c,jc,bj⟩:=h.row.read;subst jc;have cw:=J bj;have HG:=J h;clear bj h hi;obtain⟨n,bB⟩:∃n,n=ns.length:=⟨_,rfl⟩;have HN:=J bB;rw[<-bB]at HG hfew;clear bB;go_enter Tryz.func50,Tryz.ntmps50;go_wp2_with fail;refine ug.o.mono ?_
 rintro e w1 ⟨v1,L,rfl,hL,e9,ak,ar⟩;have ah:=J ar;have gO:=J e9;obtain⟨AL,cL,rfl,Ya⟩:=hL.open;have ri:=J Ya;have k0:=(HG.o.keep ar).blk.oneG;obtain⟨m,hm⟩:∃m,m=L.length:=⟨_,rfl⟩;have HM:=J hm;rw[<-hm]at ak ⊢;have kU:m<=4096:=by have:=HN.o;omega
 have cX:=ar.size;clear hL Ya ar e9 hm ak ug;go_wp2_with fail;go_loopw [5,12] (fun s5 s12 wr=>∃k:Nat,k<=m/\s12= .int .i64 (k:Int)/\∃T,Ce w1.heap.size wr s5 T/\CM ns (L.take k) T/\Ext w1 wr) (fun _ s12 _=>m-(intOf s12).toNat)
 case atStart=>exact⟨0,qal _,rfl,[],Ce.none_ _ _,by rw[qaK];exact CM.nil ns,Ext.refl w1⟩
 case round=>
  obtain⟨k,hk,rfl,T,ac,dy,hx⟩:=hrel;have HO:=J ac;have HX:=J hx;have hTl:T.length<=k:=by
   have h1:=dy.2.1;rw[qas]at h1;omega
  obtain⟨m5,A5,c5,rfl⟩:=ac.arr.shape;have rH:w1.heap.size<=wr.heap.size:=hx.size;by_cases hlt:k<m
  ·have wV:k<L.length:=by rw[<-HM.o];exact hlt
   obtain⟨bL,oL,rfl,hbL,aa⟩:=ri.o (by omega);have z1:=(hx.cell hbL).trans (aa k wV);have XZ:L.getD k 0∈L:=by rw[M7 _ _ wV];exact qap wV
   have gU:L.take (k+1)=L.take k++[L.getD k 0]:=by rw[qah wV,M7 _ _ wV]
   have jg:=ub.o _ ((gO.o _).1 XZ);generalize L.getD k 0=j at *;have rn:ns[j]? =some ns[j]:=qaa jg
   have an:=bV.o.2 j _ rn;have sj:=J (fun hk2=>dy.add rn hk2 an.text);have Wv:=J (fun hk2=>dy.skip rn hk2);rw[<-gU]at sj Wv;obtain⟨gb,o,rfl,bC,hc⟩:=cw.o (by omega);obtain⟨p0,p1,p2,p3,p4⟩:=hc j jg;have pQ:=ah.o.trans hx;rw[<-pQ.cell bC]at p0 p1 p2 p3 p4;have mO:(0:Int)<=(j:Int):=by omega
   have hjn2:(j:Int)<(n:Int):=by have:=HN.o;omega
   have g3:(0:Int)<=(k:Int):=by omega
   have XX:(k:Int)<(m:Int):=by omega
   have jn:IntKind.i64.wrap ((k:Int)+1)=(k:Int)+1:=IntWalk.i64_in _ (by omega);have k0:=(HG.o.keep pQ).blk.oneG;generalize ns[j]=x at *;clear an rn jg hc aa pQ XZ gU ac dy hx;obtain⟨y0,y1,y2,y3,y4⟩:=x;simp only at p0 p1 p2 p3 p4 sj Wv;obtain⟨tb,ze⟩:∃tb:ByteArray,tb=⟨y4.toArray⟩:=⟨_,rfl⟩;have af:str y4= .string tb:=by rw[ze];rfl
   have lN:Hid (BB (wr.alloc (.cells #[.string tb] 9)) (.slice (some ⟨wr.heap.size,0,none⟩) 1 1) [y4]):=J (by
    rw[<-af];exact BB.fresh1 wr y4)
   rw[af]at p4;clear af ze;have nK:Hid (T.length+[y4].length<=2147483648):=J (by rw[qae];omega);by_cases h2:y0=2
   ·subst h2;have HAE:=J (sj.o rfl);go_wp2_with (at_builtin;go_must (refine Dh (B:=w1.heap.size) rfl _ _ rfl rfl (HO.o.ext ((Ext.refl _).alloc _)) rfl lN.o nK.o (by simp;omega) ?_;intro v' w' bf hgr av;have HE:=J (And.intro bf ((HX.o.alloc _).more av));clear bf hgr av));go_roundw
    case rel=>exact⟨k+1,hlt,by go_num,_,HE.o.1,HAE.o,HE.o.2⟩
    case measure=>simp[intOf];omega
   ·have hb:(y0 == 2)=false:=by rw[beq_eq_false_iff_ne];exact h2
    have mX:=J (Wv.o h2);clear h2;go_wp2_with fail;go_roundw
    case rel=>exact⟨k+1,hlt,by go_num,T,HO.o,mX.o,HX.o⟩
    case measure=>simp[intOf];omega
  ·obtain rfl:k=m:=by omega
   have sM:CM ns L T:=by
    have h:=dy;rw[HM.o,qbr]at h;exact h
   have db:=J (Wp.o _ (sM.names gO.o));have qU:=J (fun t ht=>qaf (sM.2.2 t ht) (show 400<=1073741824 by decide));have pT:=Hp T;have kY:=J (ah.o.trans hx);clear ac dy sM hx;go_wp2_with fail;refine(Du wr _ T HO.o.arr (by omega) qU.o).mono ?_
   rintro e w5 ⟨v5,rfl,eI,hx5⟩;have HE:=J (And.intro eI.arr (kY.o.trans hx5));clear eI hx5;go_wp2_with fail;go_ret;exact⟨v5,_,rfl,HE.o.1,db.o,by omega,HE.o.2⟩
theorem FH(B g:Nat)(w:World)(ns:List Nd)(rv:Value)(h:GrR B g w ns rv)(i:Int):
  Calls Tryz.prog 50 #[.pointer (some ⟨g,0,none⟩),.int .i64 i] w (E4 ns i w):=by
 by_cases hi:0<=i/\i<(ns.length:Int)
 ·obtain⟨k,rfl⟩:∃k:Nat,(k:Int)=i:=⟨i.toNat,by omega⟩;exact NY B g w ns rv h k (by omega)
 have HO:=J (Bs.o (ns:=ns) (i:=i) (by omega));have ig:=J (Fh B g w ns rv h i);rw[decide_eq_false hi]at ig;have ug:Hid (Calls Tryz.prog 111 #[.pointer (some ⟨g,0,none⟩),.int .i64 i] w fun e w'=>e= .returned (.slice none 0 0)/\Ext w w'):=J (by
  clear h hi HO;go_enter Tryz.func111,Tryz.ntmps111;go_wp2_with fail;refine ig.o.mono ?_
  rintro e w1 ⟨rfl,ar⟩;have ah:=J ar;clear ar;go_wp2_with fail;go_ret;exact⟨rfl,ah.o⟩)
 clear h hi ig;go_enter Tryz.func50,Tryz.ntmps50;go_wp2_with fail;refine ug.o.mono ?_
 rintro e w1 ⟨rfl,ar⟩;have ah:=J ar;clear ar;go_wp2_with fail;go_loopw [5,12] (fun s5 s12 wr=>s5= .slice none 0 0/\s12= .int .i64 0/\Ext w1 wr) (fun _ s12 _=>0-(intOf s12).toNat)
 case atStart=>exact⟨rfl,rfl,Ext.refl w1⟩
 case round=>
  obtain⟨rfl,rfl,hx⟩:=hrel;have HX:=J (ah.o.trans hx);clear hx;have qU:Hid (∀t∈([]:List Tx),t.length<=1073741824):=J (fun t ht=>by cases ht);go_wp2_with fail;refine(Du wr _ [] (Ce.none_ wr.heap.size wr).arr (by decide) qU.o).mono ?_
  rintro e w5 ⟨v5,rfl,eI,hx5⟩;have HE:=J (And.intro eI.arr (HX.o.trans hx5));clear eI hx5;go_wp2_with fail;go_ret;exact⟨v5,_,rfl,HE.o.1,HO.o,by decide,HE.o.2⟩
theorem QF(w:World)(u v:Value)(ls:List Tx)(env:Env)(hu:BB w u ls)(hl:ls.length<=1000000)(he:RdE w v env)(hn:env.length<=1000000):
  Calls Tryz.prog 93 #[u,v] w fun e w'=>∃d:Bool,e= .returned (.bool d)/\Ext w w':=by
 obtain⟨A,c,rfl,_,_,qI⟩:=hu.open;obtain⟨A2,c2,rfl,hce⟩:=he;have HCS:=J qI;have kM:=J hce;obtain⟨n,bB⟩:∃n,n=ls.length:=⟨_,rfl⟩;obtain⟨m,hmm⟩:∃m,m=env.length:=⟨_,rfl⟩;have HN:=J bB;have HM:=J hmm;rw[<-bB]at hl;rw[<-hmm]at hn;rw[<-bB,<-hmm];clear hu qI hce bB hmm;go_enter Tryz.func93,Tryz.ntmps93;go_wp2_with fail;go_loopw [6,7,9,12,18] (fun _ _ _ s12 _ wr=>∃k:Nat,k<=n/\s12= .int .i64 (k:Int)/\Ext w wr) (fun _ _ _ s12 _ _=>n-(intOf s12).toNat)
 case atStart=>exact⟨0,qal _,rfl,Ext.refl w⟩
 case round=>
  obtain⟨k,hk,rfl,hx⟩:=hrel;generalize wr=wa at *;have HX:=J hx;by_cases hlt:k<n
  ·have bT:k<ls.length:=by rw[<-HN.o];exact hlt
   obtain⟨gb,o,rfl,bC,hc⟩:=HCS.o (by rw[<-HN.o];omega);have p0:=(hx.cell bC).trans (hc k bT);have g3:(0:Int)<=(k:Int):=by omega
   have oC:(k:Int)<(n:Int):=by omega
   have jn:IntKind.i64.wrap ((k:Int)+1)=(k:Int)+1:=IntWalk.i64_in _ (by omega);clear hc hx;generalize ls[k]=t at *;clear bT;obtain⟨s,hs⟩:∃s:ByteArray,str t= .string s:=⟨_,rfl⟩;rw[hs]at p0;clear hs;go_wp2_with fail;go_loopw [7,9,18] (fun s7 _ s18 wr=>∃(d:Bool) (j:Nat),j<=m/\s7= .bool d/\s18= .int .i64 (j:Int)/\Ext w wr) (fun _ _ s18 _=>m-(intOf s18).toNat)
   case atStart=>exact⟨false,0,qal _,rfl,rfl,HX.o⟩
   case round=>
    obtain⟨d,j,hj,rfl,rfl,hx⟩:=hrel;have pf:=J hx;by_cases hlt2:j<m
    ·have jg:j<env.length:=by rw[<-HM.o];exact hlt2
     obtain⟨ge,oe,rfl,fh,hc⟩:=kM.o (by rw[<-HM.o];omega);obtain⟨r0,r1⟩:=hc j jg;rw[<-hx.cell fh]at r0 r1;have hgr:ge<wr.heap.size:=qaj fh hx.size;have mO:(0:Int)<=(j:Int):=by omega
     have nA:(j:Int)<(m:Int):=by omega
     have y9:IntKind.i64.wrap ((j:Int)+1)=(j:Int)+1:=IntWalk.i64_in _ (by omega);clear hc hx;generalize env[j]=y at *;clear jg;obtain⟨t2,z⟩:=y;simp only at r0 r1;obtain⟨s2,cn⟩:∃s2:ByteArray,str t2= .string s2:=⟨_,rfl⟩;rw[cn]at r0;clear cn;go_upto_region 8 with fail;have gl:=Blk.new wr 62 #[.string s2,.int .i64 z];have bG:=(Ext.refl wr).alloc (.cells #[.string s2,.int .i64 z] 62);generalize wr.alloc (.cells #[.string s2,.int .i64 z] 62)=w7 at *;generalize wr.heap.size=nb at *;obtain⟨q0,q1⟩:=gl.twoB;have aN:=J (pf.o.trans bG);clear gl bG r0 r1 hgr;obtain⟨dd,hdd⟩:∃dd,(s2.toList == s.toList)=dd:=⟨_,rfl⟩;cases d
     ·go_wp2_with fail;go_roundw
      case rel=>exact⟨dd,j+1,by omega,rfl,by go_num,aN.o⟩
      case measure=>simp[intOf];omega
     ·go_wp2_with fail;go_roundw
      case rel=>exact⟨true,j+1,by omega,rfl,by go_num,aN.o⟩
      case measure=>simp[intOf];omega
    ·obtain rfl:j=m:=by omega
     clear hx;cases d
     ·go_wp2_with fail;go_ret;exact⟨false,rfl,pf.o⟩
     ·go_wp2_with fail;go_roundw
      case rel=>exact⟨k+1,by omega,by go_num,pf.o⟩
      case measure=>simp[intOf];omega
  ·obtain rfl:k=n:=by omega
   clear hx;go_wp2_with fail;go_ret;exact⟨true,rfl,HX.o⟩
theorem BG.kbs{B g:Nat}{w w':World}{v:Value}{l:Env}(h:BG B w v l)(hg:g<B)(hk:KB w.heap.size g w w'):BG B w' v l:=
 AD h (fun k hk2=>hk.block k (Aj h hk2) (by have:=Ay h k hk2;omega))
def LY(w:World)(e:Ending)(w':World):Prop:=∃v env,e= .returned v/\BG w.heap.size w' v env/\env.length<=5/\TxE env/\Ext w w'
theorem Nb{env:Env}(h:TxE env){t:Tx}{z:Int}(ht:t.length<=1000)(hz:0<=z/\z<=100000):TxE (env++[(t,z)]):=by
 intro b hb;rcases qax.1 hb with hb|hb
 ·exact h b hb
 ·rw[qav]at hb;subst hb;refine⟨by simp only;omega,?_⟩;have e1:IntKind.i64.min= -9223372036854775808:=by decide
  have e2:IntKind.i64.max=9223372036854775807:=by decide
  simp only[Lit.wf,e1,e2,qaM,decide_eq_true_eq];omega
theorem Sq(B g:Nat)(w:World)(ns:List Nd)(rv:Value)(h:GrR B g w ns rv)(v:Value)(l:List Int)(hl:D1 w v l)(gZ:l.length<=1000000):
  Calls Tryz.prog 33 #[v,.pointer (some ⟨g,0,none⟩)] w (LY w):=by
 have HG:=J h;have fE:=J (Pg w v l hl gZ);have db:=J (fun W (hx:Ext w W) z=>FH B g W ns rv (HG.o.keep hx) z);unfold E4 at db;unfold LY;have hfew:=h.few;obtain⟨A0,c0,rfl,xb,xa,wZ⟩:=hl.open;obtain⟨k0,f0,ea⟩:=h.blk.oneG;have yF:=J k0;obtain⟨AR,cR,jc⟩:=h.row.shape;obtain⟨n,hn⟩:∃n,n=ns.length:=⟨_,rfl⟩;have HN:=J hn;rw[<-hn]at jc hfew;subst jc;obtain⟨bt,tH⟩:∃bt,bt=w.heap.size:=⟨_,rfl⟩;rw[<-tH]at fE;have Xb:=J tH;clear h hl xb xa wZ k0 f0 hn tH ea;go_enter Tryz.func33,Tryz.ntmps33;go_wp2_with fail;refine fE.o.mono ?_
 rintro e w1 ⟨rfl,ht,hx,hs⟩;have ph:=J ht;have ah:=J hx;have gJ:=J hs;clear ht hx hs fE;go_wp2_with fail;refine(Hx w1).mono ?_
 rintro e w2 ⟨rfl,hb,hx⟩;have j5:Hid (BB w2 (.slice (some ⟨w1.heap.size,0,none⟩) 5 5) DA):=J (by
  refine⟨_,_,rfl,by decide,by decide,fun _=>⟨w1.heap.size,0,rfl,hb.lt,fun j u hj=> ?_⟩⟩;rw[qaF,hb.cell j]
  simpa using hj)
 have am:=J (ah.o.trans hx);have fU:=J (ph.o.below (Below.mono hx (by rw[gJ.o];exact qad _)));have hall:∀t∈DA,t.length<=5:=by decide
 have ib:=J (Du w2 _ DA j5.o (by decide) (fun t ht=>by have:=hall t ht;omega));have np:Hid (∀t∈BZ DA,t.length<=5):=J (fun t ht=>hall t (Cn.1 ht));have YU:Hid ((BZ DA).length<=5):=J (Hp DA);have UP:=hx.size;obtain⟨g5,kp⟩:∃g5,g5=w1.heap.size:=⟨_,rfl⟩;rw[<-kp]at ib ⊢;generalize BZ DA=S5 at *;clear hb hx hall kp j5;go_wp2_with fail;refine ib.o.mono ?_
 rintro e w3 ⟨v3,rfl,ek,ae⟩;have kH:=J ek.arr;have ag:=J (am.o.trans ae);have mh:=J (fU.o.below (Below.mono ae (by have:=gJ.o;omega)));have p9:Hid (bt+1<=w3.heap.size):=J (by have:=gJ.o;have:=ae.size;omega);have cr:Hid (∃A3 c3,v3= .slice A3 S5.length c3/\(0<S5.length->∃q,A3=some ⟨q,0,none⟩/\q≠bt/\q<w3.heap.size/\∀j (hj:j<S5.length),w3.cell? ⟨q,j,none⟩=some (str S5[j]))):=J (by
  obtain⟨A,c,rfl,_,_,lV⟩:=ek;refine⟨A,c,by rw[qag],fun hp=> ?_⟩;rcases lV with ⟨h1,_⟩|⟨q,cur,rfl,hq,hb,_,ht⟩
  ·have h2:S5=[]:=by simpa using h1
   rw[h2]at hp;simp at hp
  ·refine⟨q,rfl,?_,hb.lt,fun j hj=> ?_⟩
   ·have h1:=gJ.o;have h2:=am.o.size;have h3:=UP;omega
   ·rw[hb.cell j];have h1:(S5.map str)[j]? =some (str S5[j]):=by rw[qaD,qaa hj];rfl
    rw[<-ht,qcm,if_pos (by rw[qag];exact hj),qcc]at h1;exact h1)
 obtain⟨A3,c3,rfl,fQ⟩:=cr.o;obtain⟨m5,U9⟩:∃m5,m5=S5.length:=⟨_,rfl⟩;have qZ:=J U9;rw[<-U9]at YU ⊢;have iU:=J fQ;have Z2:=YU.o;clear ek ae U9 fQ ib ph fU ah am cr kH;go_wp2_with fail;go_loopw [6,7,8,9,10,16] (fun s6 _ _ _ _ s16 wr=>∃(i a:Nat) (env:Env),i<=m5/\s16= .int .i64 (i:Int)/\BR (bt+1) bt wr (.slice A0 l.length c0) l a/\BG w3.heap.size wr s6 env/\env.length<=i/\TxE env/\KB w3.heap.size bt w3 wr) (fun _ _ _ _ _ s16 _=>m5-(intOf s16).toNat)
 case atStart=>exact⟨0,0,[],qal _,rfl,mh.o,BG.nil _ _,qad _,(fun b hb=>by cases hb),KB.refl _ _ _⟩
 case round=>
  clear mh;obtain⟨i,a,env,hi,rfl,ht,ho,hel,dy,mN⟩:=hrel;have HT:=J ht;have HO:=J ho;have fb:=J dy;have qb:=J mN;have HX:=J (mN.to_ext ag.o ag.o.size (by rw[Xb.o];exact qad _));obtain⟨A6,c6,rfl⟩:=ho.shape;have cX:=mN.size;obtain⟨me,hme⟩:∃me,me=env.length:=⟨_,rfl⟩;have gO:=J hme;rw[<-hme]at HO hel ⊢;clear ht ho dy hme;by_cases hlt:i<m5
  ·have Vm:i<S5.length:=by rw[<-qZ.o];exact hlt
   obtain⟨q,rfl,ZM,Xz,hqc⟩:=iU.o (by rw[<-qZ.o];omega);have p0:wr.cell? ⟨q,i,none⟩=some (str S5[i]):=(World.cell?_of_block (a:=⟨q,i,none⟩) (mN.block q Xz ZM)).trans (hqc i Vm);have qU:=J (np.o _ (qap Vm));have dW:(0:Int)<=(i:Int):=by omega
   have hil:(i:Int)<(m5:Int):=by omega
   have lS:IntKind.i64.wrap ((i:Int)+1)=(i:Int)+1:=IntWalk.i64_in _ (by omega);have ZJ:q<wr.heap.size:=qaj Xz cX;have k0:=HX.o.keep yF.o;clear hqc mN;generalize S5[i]=t at *;clear Vm;obtain⟨s,hs⟩:∃s:ByteArray,str t= .string s:=⟨_,rfl⟩;rw[hs]at p0;have i5:=J hs;clear hs;by_cases hn0:n=0
   ·subst hn0;go_wp2_with fail;go_roundw
    case rel=>exact⟨i+1,a,env,by omega,by go_num,HT.o,HO.o,by have:=gO.o;omega,fb.o,qb.o⟩
    case measure=>simp[intOf];omega
   ·have rA:((n:Int) == 0)=false:=by rw[beq_eq_false_iff_ne];omega
    have wv:(n == 0)=false:=by rw[beq_eq_false_iff_ne];omega
    have ef:=J (DH (bt+1) bt wr (.slice A0 l.length c0) l a 5 HT.o (by decide) (by decide));generalize Cm l a 5=v5 at *;generalize CP l a=a1 at *;by_cases h4:v5=4
    ·have p8:(v5 == 4)=true:=by rw[h4];rfl
     clear h4;go_wp2_with fail;refine ef.o.mono ?_
     rintro e w5 ⟨rfl,qm,bM⟩;have vi:=J qm;have ic:=J (HO.o.kbs (by have:=p9.o;omega) (bM _));have b9:=J (qb.o.trans (bM _));clear qm bM;go_wp2_with fail;go_roundw
     case rel=>exact⟨i+1,a1,env,by omega,by go_num,vi.o,ic.o,by have:=gO.o;omega,fb.o,b9.o⟩
     case measure=>simp[intOf];omega
    ·have p8:(v5 == 4)=false:=by rw[beq_eq_false_iff_ne];exact h4
     clear h4;go_wp2_with fail;refine ef.o.mono ?_
     rintro e w5 ⟨rfl,qm,bM⟩;have vi:=J qm;have ic:=J (HO.o.kbs (by have:=p9.o;omega) (bM _));have b9:=J (qb.o.trans (bM _));have ba:=J (b9.o.to_ext ag.o ag.o.size (by rw[Xb.o];exact qad _));have k0:=ba.o.keep yF.o;have i8:=J (DH (bt+1) bt w5 (.slice A0 l.length c0) l a1 (n:Int) qm (by omega) (by omega));have iu:=B5 (l:=l) (a:=a1) (n:=(n:Int)) (by omega);generalize Cm l a1 (n:Int)=v6 at *;generalize CP l a1=a2 at *;clear qm bM ef HT HO qb HX;go_wp2_with fail;refine i8.o.mono ?_
     rintro e w6 ⟨rfl,vV,dp⟩;have r6:=J vV;have cj:=J (ic.o.kbs (by have:=p9.o;omega) (dp _));have cN:=J (b9.o.trans (dp _));have aZ:=J (cN.o.to_ext ag.o ag.o.size (by rw[Xb.o];exact qad _));have dY:Hid (bt+1<=w6.heap.size/\w3.heap.size<=w6.heap.size):=J (by have:=p9.o;have:=cN.o.size;omega);clear vV dp i8 vi ic b9 ba k0 p0 ZJ cX;generalize wr=wa at *;go_wp2_with fail;go_loopw [9,10] (fun s9 s10 wr=>∃(z:Int) (j:Nat),0<=z/\z<(n:Int)/\j<=n/\s9= .int .i64 z/\s10= .int .i64 (j:Int)/\Ext w6 wr) (fun _ s10 _=>n-(intOf s10).toNat)
     case atStart=>exact⟨v6,0,iu.1,iu.2,qal _,rfl,rfl,Ext.refl w6⟩
     case round=>
      clear iu;obtain⟨z,j,aR,hz1,hj,rfl,rfl,rn⟩:=hrel;have pf:=J rn;have k0:=(aZ.o.trans rn).keep yF.o;clear rn;by_cases hlt2:j<n
      ·have mO:(0:Int)<=(j:Int):=by omega
       have nA:(j:Int)<(n:Int):=by omega
       have y9:IntKind.i64.wrap ((j:Int)+1)=(j:Int)+1:=IntWalk.i64_in _ (by omega);have Zq:IntKind.i64.wrap (z+(j:Int))=z+(j:Int):=IntWalk.i64_in _ (by omega);obtain⟨r,hr⟩:∃r,(z+(j:Int)).tmod (n:Int)=r:=⟨_,rfl⟩;have uS:0<=r/\r<(n:Int):=by
        rw[Int.tmod_eq_emod_of_nonneg (by omega)]at hr;rw[<-hr];exact⟨qcz _ (by omega),qcq _ (by omega)⟩
       have fO:IntKind.i64.wrap r=r:=IntWalk.i64_in _ (by omega);have gv:=J (db.o wr (aZ.o.trans pf.o) r);go_wp2_with fail;refine gv.o.mono ?_
       rintro e w8 ⟨v8,l8,rfl,tP,_,el,bS⟩;have cp:=J (pf.o.trans bS);have YY:=J (QF w8 v8 _ l8 env tP el ((cj.o.ext cp.o).read) (by have:=gO.o;omega));obtain⟨m8,A8,c8,rfl⟩:=tP.shape;have k0:=(aZ.o.trans cp.o).keep yF.o;clear tP el bS gv;go_wp2_with fail;refine YY.o.mono ?_
       rintro e w9 ⟨d,rfl,ja⟩;have dI:=J (cp.o.trans ja);have k0:=(aZ.o.trans dI.o).keep yF.o;clear ja YY cp pf;cases d
       ·clear hr uS fO;go_wp2_with fail;go_roundw
        case rel=>exact⟨z,j+1,aR,hz1,by omega,rfl,by go_num,dI.o⟩
        case measure=>simp[intOf];omega
       ·go_wp2_with fail;have qT:=J (r6.o.below (Below.mono dI.o dY.o.1));have gK:=J (cj.o.ext dI.o);have yB:=J (cN.o.ext dI.o dY.o.2);have yg:Hid (w3.heap.size<=w9.heap.size):=J (qaf dY.o.2 dI.o.size);have fl:=J (DH (bt+1) bt w9 (.slice A0 l.length c0) l a2 9 qT.o (by decide) (by decide));generalize Cm l a2 9=v9 at *;generalize CP l a2=a3 at *;have lb:Hid (0<=r/\r<=100000):=J (by omega);obtain⟨b1,av⟩:∃b1,(v9 != 8)=b1:=⟨_,rfl⟩;obtain⟨b2,hb2⟩:∃b2,decide ((i:Int)>3)=b2:=⟨_,rfl⟩;clear r6 cj cN aZ dY;go_wp2_with fail;refine fl.o.mono ?_
        rintro e wz ⟨rfl,rp,iD⟩;have k6:=J rp;have mZ:=J (gK.o.kbs (by have:=p9.o;omega) (iD _));have q6:=J (yB.o.trans (iD _));have fV:Hid (w3.heap.size<=wz.heap.size):=J (qaf yg.o (iD 0).size);clear rp iD qT gK yB yg fl;have ly:(b1=false/\b2=false)\/b1=true\/(b1=false/\b2=true):=by cases b1<;>cases b2<;>simp
        rcases ly with ⟨rfl,rfl⟩|ly
        ·go_wp2_with fail;go_roundw
         case rel=>exact⟨i+1,a3,env,by omega,by go_num,k6.o,mZ.o,by have:=gO.o;omega,fb.o,q6.o⟩
         case measure=>simp[intOf];omega
        ·have a9:Hid (∀j q,(D0 [(t,r)])[j]? =some q->(wz.alloc (.cells #[.string s,.int .i64 (r)] 62)).cell? ((⟨wz.heap.size,0,none⟩:Addr).add j)=some q):=J (by
          rw[JY];unfold bdC;rw[i5.o];exact AS wz 62 [.string s,.int .i64 (r)])
         have yt:Hid (BG w3.heap.size (wz.alloc (.cells #[.string s,.int .i64 (r)] 62)) (.slice A6 me c6) env):=J (mZ.o.ext ((Ext.refl wz).alloc _));have zH:=J (Nb fb.o (t:=t) (z:=r) (by have:=qU.o;omega) lb.o);have fm:Hid (env.length+([(t,r)]:Env).length<=1000000):=J (by rw[<-gO.o,qae];omega);have WQ:Hid ((env++[(t,r)]).length<=i+1):=J (by rw[qab,qae,<-gO.o];omega);have Xd:=J (k6.o.below (Below.alloc (Below.refl (bt+1) wz) (qaf p9.o fV.o) (.cells #[.string s,.int .i64 (r)] 62)));have WU:=J (q6.o.ext ((Ext.refl wz).alloc (.cells #[.string s,.int .i64 (r)] 62)) fV.o);have jX:Hid (w3.heap.size<=(wz.alloc (.cells #[.string s,.int .i64 (r)] 62)).heap.size):=J (by have:=fV.o;simp;omega);clear k6 q6 mZ;rcases ly with rfl|⟨rfl,rfl⟩
         all_goals
          go_wp2_with (at_builtin;go_must (refine Fz (B:=w3.heap.size) (xs:=env) (ys:=[(t,r)]) rfl _ _ rfl rfl yt.o ⟨wz.heap.size,0,none⟩ 1 rfl a9.o fm.o jX.o ?_;intro v' w' bf hgr p6));have lO:=J (And.intro bf (And.intro (Xd.o.below (Below.mono p6 p9.o)) (WU.o.below p6)));clear bf hgr p6;go_roundw
          case rel=>exact⟨i+1,a3,_,by omega,by go_num,lO.o.2.1,lO.o.1,WQ.o,zH.o,lO.o.2.2⟩
          case measure=>simp[intOf];omega
      ·obtain rfl:j=n:=by omega
       have qT:=J (r6.o.below (Below.mono pf.o dY.o.1));have gK:=J (cj.o.ext pf.o);have yB:=J (cN.o.ext pf.o dY.o.2);have yg:Hid (w3.heap.size<=wr.heap.size):=J (qaf dY.o.2 pf.o.size);have fl:=J (DH (bt+1) bt wr (.slice A0 l.length c0) l a2 9 qT.o (by decide) (by decide));generalize Cm l a2 9=v9 at *;generalize CP l a2=a3 at *;have lb:Hid (0<=z/\z<=100000):=J (by omega);obtain⟨b1,av⟩:∃b1,(v9 != 8)=b1:=⟨_,rfl⟩;obtain⟨b2,hb2⟩:∃b2,decide ((i:Int)>3)=b2:=⟨_,rfl⟩;clear r6 cj cN aZ dY;go_wp2_with fail;refine fl.o.mono ?_
       rintro e wz ⟨rfl,rp,iD⟩;have k6:=J rp;have mZ:=J (gK.o.kbs (by have:=p9.o;omega) (iD _));have q6:=J (yB.o.trans (iD _));have fV:Hid (w3.heap.size<=wz.heap.size):=J (qaf yg.o (iD 0).size);clear rp iD qT gK yB yg fl;have ly:(b1=false/\b2=false)\/b1=true\/(b1=false/\b2=true):=by cases b1<;>cases b2<;>simp
       rcases ly with ⟨rfl,rfl⟩|ly
       ·go_wp2_with fail;go_roundw
        case rel=>exact⟨i+1,a3,env,by omega,by go_num,k6.o,mZ.o,by have:=gO.o;omega,fb.o,q6.o⟩
        case measure=>simp[intOf];omega
       ·have a9:Hid (∀j q,(D0 [(t,z)])[j]? =some q->(wz.alloc (.cells #[.string s,.int .i64 (z)] 62)).cell? ((⟨wz.heap.size,0,none⟩:Addr).add j)=some q):=J (by
         rw[JY];unfold bdC;rw[i5.o];exact AS wz 62 [.string s,.int .i64 (z)])
        have yt:Hid (BG w3.heap.size (wz.alloc (.cells #[.string s,.int .i64 (z)] 62)) (.slice A6 me c6) env):=J (mZ.o.ext ((Ext.refl wz).alloc _));have zH:=J (Nb fb.o (t:=t) (z:=z) (by have:=qU.o;omega) lb.o);have fm:Hid (env.length+([(t,z)]:Env).length<=1000000):=J (by rw[<-gO.o,qae];omega);have WQ:Hid ((env++[(t,z)]).length<=i+1):=J (by rw[qab,qae,<-gO.o];omega);have Xd:=J (k6.o.below (Below.alloc (Below.refl (bt+1) wz) (qaf p9.o fV.o) (.cells #[.string s,.int .i64 (z)] 62)));have WU:=J (q6.o.ext ((Ext.refl wz).alloc (.cells #[.string s,.int .i64 (z)] 62)) fV.o);have jX:Hid (w3.heap.size<=(wz.alloc (.cells #[.string s,.int .i64 (z)] 62)).heap.size):=J (by have:=fV.o;simp;omega);clear k6 q6 mZ;rcases ly with rfl|⟨rfl,rfl⟩
        all_goals
         go_wp2_with (at_builtin;go_must (refine Fz (B:=w3.heap.size) (xs:=env) (ys:=[(t,z)]) rfl _ _ rfl rfl yt.o ⟨wz.heap.size,0,none⟩ 1 rfl a9.o fm.o jX.o ?_;intro v' w' bf hgr p6));have lO:=J (And.intro bf (And.intro (Xd.o.below (Below.mono p6 p9.o)) (WU.o.below p6)));clear bf hgr p6;go_roundw
         case rel=>exact⟨i+1,a3,_,by omega,by go_num,lO.o.2.1,lO.o.1,WQ.o,zH.o,lO.o.2.2⟩
         case measure=>simp[intOf];omega
  ·obtain rfl:i=m5:=by omega
   have HE:Hid (BG w.heap.size wr (.slice A6 me c6) env):=J (HO.o.mono ag.o.size);clear mN;go_wp2_with fail;go_ret;exact⟨_,env,rfl,HE.o,by have:=gO.o;omega,fb.o,HX.o⟩
inductive Bt (ns:List Nd) (env:Env):Nat->Ex->Prop where
 |leaf {i k:Nat} {t:Tx}:ns[i]? =some ⟨(k:Int),0,0,0,t⟩->k≠2->Es k t->Bt ns env i (.leaf k t)
 |name {i n:Nat} {t:Tx} {e:Ex}:ns[i]? =some ⟨2,0,0,0,t⟩->AH env t=(n:Int)->Bt ns env n e->Bt ns env i e
 |un {i j k:Nat} {n:Int} {x:Ex}:ns[i]? =some ⟨(k:Int),(j:Int),0,n,[]⟩->Nv k n->Bt ns env j x->Bt ns env i (.un k n x)
 |bin {i j q k:Nat} {x y:Ex}:ns[i]? =some ⟨(k:Int),(j:Int),(q:Int),0,[]⟩->6<=k/\k<=9->Bt ns env j x->Bt ns env q y->Bt ns env i (.bin k x y)
section
variable {ns:List Nd} {env:Env}
theorem Es.few{k:Nat}{t:Tx}(h:Es k t):1<=k/\k<=4:=by rcases h with ⟨h,_⟩|⟨h,_⟩|⟨h,_⟩<;>omega
theorem Nv.kinds{k:Nat}{n:Int}(h:Nv k n):k=5\/(10<=k/\k<=16):=h.1
theorem Bt.lt{i:Nat}{e:Ex}(h:Bt ns env i e):i<ns.length:=by
 cases h<;>exact(qai.1 ‹_›).1
theorem DT{i:Nat}{x y:Nd}(h:ns[i]? =some x)(h':ns[i]? =some y):x.kind=y.kind/\x.a=y.a/\x.b=y.b/\x.n=y.n/\x.text=y.text:=by
 rw[h]at h';injection h' with h'
 subst h';exact⟨rfl,rfl,rfl,rfl,rfl⟩
theorem Bt.uniq{i:Nat}{e:Ex}(h:Bt ns env i e):∀{e':Ex},Bt ns env i e'->e=e':=by
 induction h with
 | @leaf i k t hx hk ho=>
   intro e' h';have h1:=ho.few;cases h' with
   | @leaf _ k' t' hx' hk' ho'=>
     obtain⟨e1,_,_,_,e5⟩:=DT hx hx';simp only at e1 e5;rw[show k=k' by omega,e5]
   | @name _ n t' _ hx' _ _=>
     obtain⟨e1,_⟩:=DT hx hx';simp only at e1;omega
   | @un _ j k' n x hx' ho' _=>
     obtain⟨e1,_⟩:=DT hx hx';simp only at e1;have:=ho'.kinds;omega
   | @bin _ j q k' x y hx' ho' _ _=>
     obtain⟨e1,_⟩:=DT hx hx';simp only at e1;omega
 | @name i n t e hx hf _ ih=>
   intro e' h';cases h' with
   | @leaf _ k' t' hx' hk' ho'=>
     obtain⟨e1,_⟩:=DT hx hx';simp only at e1;omega
   | @name _ n' t' _ hx' hf' hc'=>
     obtain⟨_,_,_,_,e5⟩:=DT hx hx';simp only at e5;subst e5;have hn:n=n':=by omega
     subst hn;exact ih hc'
   | @un _ j k' n x hx' ho' _=>
     obtain⟨e1,_⟩:=DT hx hx';simp only at e1;have:=ho'.kinds;omega
   | @bin _ j q k' x y hx' ho' _ _=>
     obtain⟨e1,_⟩:=DT hx hx';simp only at e1;omega
 | @un i j k n x hx ho _ ih=>
   intro e' h';have h1:=ho.kinds;cases h' with
   | @leaf _ k' t' hx' hk' ho'=>
     obtain⟨e1,_⟩:=DT hx hx';simp only at e1;have:=ho'.few;omega
   | @name _ n' t' _ hx' hf' hc'=>
     obtain⟨e1,_⟩:=DT hx hx';simp only at e1;omega
   | @un _ j' k' n' x' hx' ho' hc'=>
     obtain⟨e1,e2,_,e4,_⟩:=DT hx hx';simp only at e1 e2 e4;have hj:j=j':=by omega
     subst hj;rw[ih hc',show k=k' by omega,e4]
   | @bin _ j' q k' x' y' hx' ho' _ _=>
     obtain⟨e1,_⟩:=DT hx hx';simp only at e1;omega
 | @bin i j q k x y hx ho _ _ ihx ihy=>
   intro e' h';cases h' with
   | @leaf _ k' t' hx' hk' ho'=>
     obtain⟨e1,_⟩:=DT hx hx';simp only at e1;have:=ho'.few;omega
   | @name _ n' t' _ hx' hf' hc'=>
     obtain⟨e1,_⟩:=DT hx hx';simp only at e1;omega
   | @un _ j' k' n' x' hx' ho' hc'=>
     obtain⟨e1,_⟩:=DT hx hx';simp only at e1;have:=ho'.kinds;omega
   | @bin _ j' q' k' x' y' hx' ho' hcx hcy=>
     obtain⟨e1,e2,e3,_,_⟩:=DT hx hx';simp only at e1 e2 e3;have hj:j=j':=by omega
     have hq:q=q':=by omega
     subst hj;subst hq;rw[ihx hcx,ihy hcy,show k=k' by omega]
theorem Bt.good{i:Nat}{e:Ex}(h:Bt ns env i e):e.Good:=by
 induction h with
 |leaf _ _ ho=>exact ho
 |name _ _ _ ih=>exact ih
 |un _ ho _ ih=>exact⟨ho.1,ho.2.1,ho.2.2.1,ho.2.2.2,ih⟩
 |bin _ ho _ _ ihx ihy=>exact⟨ho,ihx,ihy⟩
theorem Bt.free{i:Nat}{e:Ex}(h:Bt ns env i e):BV e=[]:=by
 induction h with
 |leaf _ hk _=>rw[BV,if_neg hk]
 |name _ _ _ ih=>exact ih
 |un _ _ _ ih=>exact ih
 |bin _ _ _ _ ihx ihy=>rw[BV,ihx,ihy];rfl
theorem Bt.pre{ms:List Nd}(hp:ns <+: ms){i:Nat}{e:Ex}(h:Bt ns env i e):Bt ms env i e:=by
 induction h with
 |leaf h1 h2 h3=>exact .leaf (BD hp h1) h2 h3
 |name h1 h2 _ ih=>exact .name (BD hp h1) h2 ih
 |un h1 h2 _ ih=>exact .un (BD hp h1) h2 ih
 |bin h1 h2 _ _ ihx ihy=>exact .bin (BD hp h1) h2 ihx ihy
theorem Bt.rep:∀{e:Ex} {i:Nat},e.Good->Rep ns i e->BV e=[]->Bt ns env i e:=by
 intro e
 induction e with
 |leaf k t=>
  intro i hg hr hn;refine .leaf hr (fun hk=> ?_) hg;rw[BV,if_pos hk]at hn;cases hn
 |un k n x ih=>
  rintro i hg ⟨j,hj,hx⟩ hn;exact .un hx ⟨hg.1,hg.2.1,hg.2.2.1,hg.2.2.2.1⟩ (ih hg.2.2.2.2 hj hn)
 |bin k x y ihx ihy=>
  rintro i hg ⟨j,q,hj,hq,hx⟩ hn;rw[BV,List.append_eq_nil_iff]at hn;exact .bin hx hg.1 (ihx hg.2.1 hj hn.1) (ihy hg.2.2 hq hn.2)
open Classical in
noncomputable def LN(env:Env)(P:Tx->Prop):Nat:=(env.filter fun b=>decide (P b.1)).length
theorem Ha{P Q:Tx->Prop}(h:∀t,P t->Q t):LN env P<=LN env Q:=by
 unfold LN
 induction env with
 |nil=>exact qad _
 |cons b l ih=>
  by_cases hp:P b.1
  ·rw[qaJ (by simp[hp]),qaJ (by simp[h _ hp])];exact Nat.succ_le_succ ih
  ·rw[qaP (by simp[hp])];by_cases hq:Q b.1
   ·rw[qaJ (by simp[hq])];exact Nat.le_succ_of_le ih
   ·rw[qaP (by simp[hq])];exact ih
theorem Px{P Q:Tx->Prop}(h:∀t,P t->Q t){b:Tx × Int}(hb:b∈env)(hq:Q b.1)(hp:¬P b.1):LN env P<LN env Q:=by
 induction env with
 |nil=>cases hb
 |cons c l ih=>
  have hle:=Ha (env:=l) h;unfold LN at ih hle ⊢;rcases qay.1 hb with rfl|hb
  ·rw[qaP (by simp[hp]),qaJ (by simp[hq]),qat];omega
  ·have h2:=ih hb;by_cases hpc:P c.1
   ·rw[qaJ (by simp[hpc]),qaJ (by simp[h _ hpc]),qat,qat];omega
   ·rw[qaP (by simp[hpc])];by_cases hqc:Q c.1
    ·rw[qaJ (by simp[hqc]),qat];omega
    ·rw[qaP (by simp[hqc])];exact h2
theorem AK.arg{i a:Nat}(ha:a∈BQ ns i){t:Tx}(h:AK ns a t):AK ns i t:=by
 obtain⟨j,x,hr,hx,h1,h2⟩:=h;exact⟨j,x,(Bn.here.down ha).trans hr,hx,h1,h2⟩
theorem AK.self{i:Nat}{t:Tx}(h:ns[i]? =some ⟨2,0,0,0,t⟩):AK ns i t:=⟨i,_,.here,h,rfl,rfl⟩
theorem BO.arg{i a:Nat}(ha:a∈BQ ns i){t:Tx}(h:BO ns env a t):BO ns env i t:=AO.mono (fun _=>AK.arg ha) h
theorem BO.bind{i n:Nat}{t:Tx}(h:ns[i]? =some ⟨2,0,0,0,t⟩)(hf:AH env t=(n:Int)){s:Tx}(hs:BO ns env n s):BO ns env i s:=by
 refine AO.trans (fun u hu=> ?_) hs;refine .step (.here (AK.self h)) (by omega) ?_
 rw[hf,qaq];exact hu
theorem Bv.closed(hs:Ax ns)(he:Bv ns env):∀i,i<ns.length->CY ns env i->∃e,Bt ns env i e:=by
 have key:∀m i,LN env (BO ns env i)=m->i<ns.length->CY ns env i->∃e,Bt ns env i e:=by
  intro m
  induction m using Nat.strongRecOn with
  |_ m ihm=>
   intro i
   induction i using Nat.strongRecOn with
   |_ i ihi=>
    intro hm hi hb;have vE:=qaa hi;have fP:∀j,j∈BQ ns i->∃x,Bt ns env j x:=fun j ha=>by
     have hj:=hs.args_lt ha;have hle:=Ha (env:=env) (P:=BO ns env j) (Q:=BO ns env i) (fun _=>BO.arg (env:=env) ha);have Yb:CY ns env j:=fun t ht=>hb t (BO.arg ha ht)
     rcases Nat.lt_or_eq_of_le hle with h|h
     ·exact ihm _ (by omega) j rfl (by omega) Yb
     ·exact ihi j hj (by omega) (by omega) Yb
    rcases hs.2 i _ vE with ⟨k,t,hx,ho⟩|⟨k,n,j,hx,ho,hj⟩|⟨k,j,q,hx,hk,hj,hq⟩
    ·by_cases hk2:k=2
     ·subst hk2;have al:ns[i]? =some ⟨2,0,0,0,t⟩:=vE.trans (congrArg some hx)
      have hd:BO ns env i t:= .here (AK.self al);obtain⟨e9,hlt⟩:=he.ok.find (hb t hd);have hf:AH env t=((AH env t).toNat:Int):=(Int.toNat_of_nonneg (hb t hd)).symm;have h1:=Px (env:=env) (P:=BO ns env (AH env t).toNat) (Q:=BO ns env i) (fun _=>BO.bind al hf) e9 hd (he.free _ e9);obtain⟨e,h2⟩:=ihm _ (by omega) (AH env t).toNat rfl hlt (he.bound _ e9);exact⟨e,.name al hf h2⟩
     ·exact⟨_,.leaf (vE.trans (congrArg some hx)) hk2 ho⟩
    ·have al:=vE.trans (congrArg some hx);obtain⟨x,h1⟩:=fP j (by rw[LT al ho.1];simp);exact⟨_,.un al ho h1⟩
    ·have al:=vE.trans (congrArg some hx);obtain⟨x,h1⟩:=fP j (by rw[Hf al hk];simp);obtain⟨y,h2⟩:=fP q (by rw[Hf al hk];simp);exact⟨_,.bin al hk h1 h2⟩
 intro i hi hb;exact key _ i rfl hi hb
def Dd(ns:List Nd)(env:Env)(ms:List Nd):Prop:=ns <+: ms/\∀k,ns.length<=k->k<ms.length->∃i e,Bt ns env i e/\Rep ms k e
theorem Dd.start:Dd ns env ns:=⟨qcf _,fun k h1 h2=>by omega⟩
theorem Dd.put{ms:List Nd}(h:Dd ns env ms){i:Nat}{e:Ex}(hc:Bt ns env i e){x:Nd}(hr:Rep (Bc ms x).2 (Bc ms x).1 e):Dd ns env (Bc ms x).2:=by
 refine⟨h.1.trans (Cv ms x),fun k h1 h2=> ?_⟩;rcases qam k ms.length with hk|hk
 ·obtain⟨i,e,h3,h4⟩:=h.2 k h1 hk;exact⟨i,e,h3,h4.pre (Cv ms x)⟩
 ·unfold Bc at h2 hr ⊢;split at h2
  ·have h3:k<ms.length:=h2;omega
  ·rename_i hno;rw[if_neg hno]at hr ⊢;rw[qab,qae]at h2;have hk2:k=ms.length:=by omega
   subst hk2;exact⟨i,e,hc,hr⟩
theorem Dd.add{i:Nat}{e:Ex}(hc:Bt ns env i e):∀{ms:List Nd},Dd ns env ms->Dd ns env (AC ms e).2:=by
 induction hc with
 |leaf h1 h2 h3=>intro ms h;exact h.put (.leaf h1 h2 h3) (GU _ _)
 |name _ _ _ ih=>intro ms h;exact ih h
 |un h1 h2 h3 ih=>
  intro ms h;exact(ih h).put (.un h1 h2 h3) (Ep (.un _ _ _) ms)
 |bin h1 h2 h3 h4 ihx ihy=>
  intro ms h;exact(ihy (ihx h)).put (.bin h1 h2 h3 h4) (Ep (.bin _ _ _) ms)
theorem Dd.len{ms:List Nd}(h:Dd ns env ms)(hn:ms.Nodup):ms.length<=2*ns.length:=by
 have hle:=h.1.length_le;have zt:∀k:Fin (ms.length-ns.length),∃i,i<ns.length/\∃e,Bt ns env i e/\Rep ms (ns.length+k.1) e:=fun k=>by
  obtain⟨i,e,h1,h2⟩:=h.2 (ns.length+k.1) (by omega) (by omega);exact⟨i,h1.lt,e,h1,h2⟩
 have key:∀(n:Nat) (f:Fin n->Nat) (m:Nat),(∀k,f k<m)->(∀k k',f k=f k'->k=k')->n<=m:=by
  intro n f m h1 h2;have hl:(List.ofFn f).Nodup:=by
   rw[List.nodup_iff_pairwise_ne,qcr];intro i j hi hj hij;rw[List.getElem_ofFn,List.getElem_ofFn];intro e;have:=h2 _ _ e;injection this with this
   omega
  have h3:=D7 hl (m:=List.range m) (fun x hx=>by
   obtain⟨i,hi,rfl⟩:=qby hx;rw[List.getElem_ofFn];exact List.mem_range.2 (h1 _))
  rw[List.length_ofFn,List.length_range]at h3;exact h3
 have h3:=key (ms.length-ns.length) (fun k=>(zt k).choose) ns.length (fun k=>(zt k).choose_spec.1) (fun k k' e=>by
  obtain⟨_,e1,c1,r1⟩:=(zt k).choose_spec;obtain⟨_,e2,c2,r2⟩:=(zt k').choose_spec;rw[e]at c1;obtain rfl:=c1.uniq c2;have:=Rep.one hn r1 r2;exact Fin.ext (by omega))
 omega
def Bb(f:Tx->Ex):Ex->Ex
 | .leaf k t=>if k=2 then f t else .leaf k t
 | .un k n x=> .un k n (Bb f x)
 | .bin k x y=> .bin k (Bb f x) (Bb f y)
def DW(f:Tx->Ex):Nat->Ex->Ex
 |0,e=>e
 |m+1,e=>DW f m (Bb f e)
theorem Pb(f:Tx->Ex)(k:Nat)(n:Int):∀(m:Nat) (x:Ex),DW f m (.un k n x)= .un k n (DW f m x)
 |0,_=>rfl
 |m+1,x=>by rw[DW,Bb,Pb f k n m,DW]
theorem Mr(f:Tx->Ex)(k:Nat):∀(m:Nat) (x y:Ex),DW f m (.bin k x y)= .bin k (DW f m x) (DW f m y)
 |0,_,_=>rfl
 |m+1,x,y=>by rw[DW,Bb,Mr f k m,DW,DW]
theorem KH(f:Tx->Ex){k:Nat}(hk:k≠2)(t:Tx):∀m:Nat,DW f m (.leaf k t)= .leaf k t
 |0=>rfl
 |m+1=>by rw[DW,Bb,if_neg hk,KH f hk t m]
theorem KF(f:Tx->Ex):∀(m:Nat) (e:Ex),DW f (m+1) e=Bb f (DW f m e)
 |0,_=>rfl
 |m+1,e=>by rw[DW,KF f m,DW]
theorem Mq(hs:Ax ns)(he:Bv ns env){f:Tx->Ex}(hf:∀t,0<=AH env t->(f t).Good/\Rep ns (AH env t).toNat (f t)):
  ∀{i:Nat} {c:Ex},Bt ns env i c->∀{e:Ex},e.Good->Rep ns i e->∀m,LN env (BO ns env i)<=m->DW f m e=c:=by
 intro i c hc
 induction hc with
 | @leaf i k t h1 h2 h3=>
   intro e hg hr m _;have he:e= .leaf k t:=Rep.same hg h3 hr h1;subst he;exact KH f h2 t m
 | @name i n t c h1 h2 h3 ih=>
   intro e hg hr m hm;have hl:(Ex.leaf 2 t).Good:=by
    rcases hs.2 i _ h1 with ⟨k',t',hx,ho⟩|⟨k',n',j,hx,ho,hj⟩|⟨k',j,q,hx,hk,hj,hq⟩
    ·simp only[Nd.mk.injEq]at hx;have hk:k'=2:=by omega
     subst hk;rw[hx.2.2.2.2];exact ho
    ·simp only[Nd.mk.injEq]at hx;have:=ho.kinds;omega
    ·simp only[Nd.mk.injEq]at hx;omega
   have xn:e= .leaf 2 t:=Rep.same hg hl hr h1;subst xn;have hd:BO ns env i t:= .here (AK.self h1);obtain⟨e9,_⟩:=he.ok.find (env:=env) (t:=t) (by omega);have rK:=he.free _ e9;simp only[h2,qaq]at rK;have hlt:=Px (env:=env) (P:=BO ns env n) (Q:=BO ns env i) (fun _=>BO.bind h1 h2) e9 hd rK;obtain⟨m',rfl⟩:∃m',m=m'+1:=⟨m-1,by omega⟩;have h4:=hf t (by omega);rw[h2,qaq]at h4;rw[DW,Bb,if_pos rfl];exact ih h4.1 h4.2 m' (by omega)
 | @un i j k n x h1 h2 h3 ih=>
   intro e hg hr m hm;obtain⟨y,rH,uR⟩:=hs.rep j (by have:=h3.lt;exact this);have xn:e= .un k n y:=Rep.same hg ⟨h2.1,h2.2.1,h2.2.2.1,h2.2.2.2,rH⟩ hr ⟨j,uR,h1⟩;subst xn;have ha:j∈BQ ns i:=by rw[LT h1 h2.1];simp
   rw[Pb,ih rH uR m (qaf (Ha (P:=BO ns env j) (Q:=BO ns env i) fun _=>BO.arg ha) hm)]
 | @bin i j q k x y h1 h2 h3 h4 ihx ihy=>
   intro e hg hr m hm;obtain⟨x',hJ,UQ⟩:=hs.rep j (by have:=h3.lt;exact this);obtain⟨y',rH,uR⟩:=hs.rep q (by have:=h4.lt;exact this);have xn:e= .bin k x' y':=Rep.same hg ⟨h2,hJ,rH⟩ hr ⟨j,q,UQ,uR,h1⟩;subst xn;have ha:j∈BQ ns i/\q∈BQ ns i:=by rw[Hf h1 h2];simp
   rw[Mr,ihx hJ UQ m (qaf (Ha (P:=BO ns env j) (Q:=BO ns env i) fun _=>BO.arg ha.1) hm),ihy rH uR m (qaf (Ha (P:=BO ns env q) (Q:=BO ns env i) fun _=>BO.arg ha.2) hm)]
end
end Big
end Go.Proofs.YtkoaogkknnelaaaGreatDoor
