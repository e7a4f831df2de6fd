import Derived.Test.YtkoaogkknnelaaaGreatDoorM32
set_option linter.unusedVariables false
set_option linter.unusedSimpArgs false
set_option maxHeartbeats 8000000
set_option maxRecDepth 100000
namespace Go.Proofs.YtkoaogkknnelaaaGreatDoor
namespace Big
open Lib renaming hid → J
open Go.RowKit Go.Maps Go.Sort
def AQ(ns:List Nd)(i:Int)(l:List Tx):Prop:=if 0<=i/\i<(ns.length:Int) then Dw ns i.toNat l else l=[]
theorem AQ.uniq{ns:List Nd}{i:Int}{l m:List Tx}(h:AQ ns i l)(h':AQ ns i m):l=m:=by
 unfold AQ at h h';split at h
 ·rw[if_pos (by assumption)]at h';exact h.uniq h'
 ·rw[if_neg (by assumption)]at h';rw[h,h']
theorem AQ.of_in{ns:List Nd}{i:Nat}{l:List Tx}(h:Dw ns i l)(hi:i<ns.length):AQ ns (i:Int) l:=by
 unfold AQ;rw[if_pos ⟨by omega,by omega⟩,Int.toNat_natCast];exact h
theorem AQ.o{ns:List Nd}{i:Int}(h:i<0\/(ns.length:Int)<=i):AQ ns i []:=by
 unfold AQ;rw[if_neg (by omega)]
theorem Bl.of_row{B n:Nat}{w:World}{v:Value}{ls:List Tx}(h:w.ownsRow B 9 1 v n (ls.map Go.Proofs.encStr))(hn:ls.length=n):Bl w v ls:=by
 have hE:ls.map Go.Proofs.encStr=ls.map str:=rfl;rw[hE]at h;rcases h.2 with ⟨rfl,h2⟩|⟨g,cap,cur,rfl,hb,hg,hc,hm,hs,ht⟩
 ·have:ls=[]:=List.eq_nil_of_length_eq_zero (by omega);subst this;exact BS.none_ w
 ·refine⟨_,_,by rw[List.length_map,hn],by rw[List.length_map,hn];exact hc,hm,fun _=>⟨g,0,rfl,?_,fun j u hj=> ?_⟩⟩
  ·rcases Nat.lt_or_ge g w.heap.size with h|h
   ·exact h
   ·rw[Array.getElem?_eq_none h]at hg;cases hg
  ·have oZ:j<n:=by
    rcases Nat.lt_or_ge j n with h|h
    ·exact h
    ·rw[List.getElem?_eq_none (by rw[List.length_map];omega)]at hj;cases hj
   rw[Nat.zero_add,h.cellAt j (by omega),hj]
theorem MZ(l:List Nat)(j:Nat)(h:j<l.length):l.getD j 0=l[j]:=by rw[List.getD_eq_getElem?_getD,List.getElem?_eq_getElem h];rfl
def CQ(ns:List Nd)(i:Int)(w:World)(e:Ending)(w':World):Prop:=∃v l,e= .returned v/\Bl w' v l/\AQ ns i l/\l.length<=1000000/\Ext w w'
def BK(B:Nat)(w:World)(v:Value)(ls:List Tx):Prop:=w.ownsRow B 9 1 v ls.length (ls.map str)
theorem BK.of_row{B B' n:Nat}{w:World}{v:Value}{ls:List Tx}(h:w.ownsRow B 9 1 v n (ls.map Go.Proofs.encStr))(hn:ls.length=n)(hB:B'<=B):BK B' w v ls:=by
 obtain⟨h1,h2⟩:=h;subst hn;exact⟨h1,h2.imp id (fun ⟨g,cap,cur,q1,q2,q3⟩=>⟨g,cap,cur,q1,by omega,q3⟩)⟩
def CF(ns:List Nd)(i:Int)(w:World)(e:Ending)(w':World):Prop:=∃v l,e= .returned v/\Bl w' v l/\AQ ns i l/\l.length<=1000000/\Ext w w'/\BK w.heap.size w' v l
theorem Oi(B g b:Nat)(w:World)(ns:List Nd)(nv:Value)(h:GrP B g b w ns nv)(i:Nat)(hi:i<ns.length):
  Calls Tryz.prog 42 #[.pointer (some ⟨g,0,none⟩),.int .i64 (i:Int)] w (CF ns (i:Int) w):=by
 have hfew:=h.few;have cD:=J h.ok;have gV:=J hi;obtain⟨A,c,e7,aB⟩:=h.row.read;subst e7;have bH:=J aB;have HG:=J h;clear aB h;obtain⟨m,hm⟩:∃m,m=i+1:=⟨_,rfl⟩;have kO:m<=4096:=by omega
 have Yp:m<=ns.length:=by omega
 have him:i<m:=by omega
 have Va:=J hm;have dZ:=KA m (by omega);have hmm:=fun W=> @run_makeMap Tryz.prog 151 W
 have XS:IntKind.i64.wrap ((i:Int)+1)=(m:Int):=by rw[IntWalk.i64_in _ (by omega)];omega
 have gA:(0:Int)<=(i:Int):=by omega
 have zA:(i:Int)<(m:Int):=by omega
 obtain⟨k0,k1,f0,f1,fA⟩:=HG.o.blk.twoG;obtain⟨n,bh⟩:∃n,n=ns.length:=⟨_,rfl⟩;have HN:=J bh;rw[<-bh]at HG hfew k0 Yp;have o9:decide ((i:Int)<0)=false:=decide_eq_false (by omega);have cx:decide ((i:Int)>=(n:Int))=false:=decide_eq_false (by omega);have ba:decide ((n:Int)<=(i:Int))=false:=decide_eq_false (by omega);clear hm hi bh;have kT:decide (n<=i)=false:=decide_eq_false (by omega);have z0:=(Blk.new w 4 (Bn (List.replicate m false))).cell i;rw[B6 _ _ (by rw[List.length_replicate];omega)]at z0;have z1:=(Blk.new w 4 (Bn (List.replicate m false))).frozen i;have aX:=Blk.new w 4 ((Bn (List.replicate m false)).setIfInBounds i (.bool true));have ah:=J ((Ext.refl w).alloc (.cells ((Bn (List.replicate m false)).setIfInBounds i (.bool true)) 4));go_enter Tryz.func42,Tryz.ntmps42;go_upto_region 5 with fail;obtain⟨w2,aY⟩:∃w2,w2=w.alloc (.cells ((Bn (List.replicate m false)).setIfInBounds i (.bool true)) 4):=⟨_,rfl⟩;rw[<-aY]at aX ah;rw[<-aY];rw[DF]at aX;obtain⟨bm,ea⟩:∃bm,bm=w.heap.size:=⟨_,rfl⟩;rw[<-ea]at aX;have iP:=J aX;have tC:Hid (w.heap.size<=bm):=J (by omega);rw[<-ea];have aq:=J (ah.o.alloc (.map #[] 0));have iG:=J (iP.o.ext ((Ext.refl w2).alloc (.map #[] 0)));have eH:=J (Dx.made w2);have aP:Hid (bm<w2.heap.size):=J iP.o.lt;obtain⟨bn,fJ⟩:∃bn,bn=w2.heap.size:=⟨_,rfl⟩;rw[<-fJ]at eH aP;have cG:Hid (w.heap.size<=bn):=J (by have:=ah.o.size;omega);clear aY aX dZ XS k0 k1 f0 f1 ea z0 z1;go_upto_region 6 with fail;rw[<-fJ];obtain⟨w3,bf⟩:∃w3,w3=w2.alloc (.map #[] 0):=⟨_,rfl⟩;rw[<-bf]at aq iG eH;rw[<-bf];clear bf fJ hmm ah iP;go_wp2_with fail;go_loopw [7] (fun s7 wr=>∃(k:Nat) (z:Int),z=(k:Int)-1/\k<=m/\s7= .int .i64 z/\∃(F:List Bool) (cnt:Nat),Blk wr bm 4 (Bn F)/\CR ns i k F/\F.length=m/\Dx wr bn cnt (AV ns i k)/\cnt+k<=m/\Ext w wr) (fun s7 _=>(intOf s7+1).toNat)
 case atStart=>
  refine⟨m,(i:Int),by have:=Va.o;omega,Nat.le_refl _,rfl,(List.replicate m false).set i true,0,iG.o,?_,by simp,eH.o.congr (fun t=> ?_),by omega,aq.o⟩
  ·rw[Va.o];refine CR.start cD.o (by simp) (by simp;exact gV.o) (fun j hj=> ?_);rw[H6];simp only[List.length_set,List.length_replicate]at hj ⊢;have hf:(List.replicate (i+1) false).getD j false=false:=by
    rw[List.getD_eq_getElem?_getD,List.getElem?_replicate];split<;>rfl
   rw[hf,Bool.or_false,decide_eq_true_iff];exact⟨fun h=>h.1,fun h=>⟨h,by omega⟩⟩
  ·rw[Va.o];exact⟨fun h=>h.elim,fun h=>absurd h (AV.top cD.o)⟩
 case round=>
  clear aq iG eH;obtain⟨k,z,hz,Wi,rfl,F,cnt,hb,dZ,vZ,fx,YW,hx⟩:=hrel;have HX:=J hx;have fZ:=J hb;have kG:=J fx;have mF:=J dZ;have iz:=J vZ;clear hx hb fx dZ vZ;rcases k with _|q
  ·obtain rfl:z= -1:=by omega
   clear hz;have rS:decide ((-1:Int)>=0)=false:=by decide
   obtain⟨D,ag,hD⟩:=kG.o;have cQ:=ag.size_le;have cF:=J (fun ss hp=>P2 (ss:=ss) ag (fun t=>(hD t).trans AV.zero) hp);have gI:Hid ((strKeys D).length<=1000000):=J (by
    obtain⟨es,rfl,_⟩:=ag.keysOf;simp only[strKeys,List.length_map];simp only[Maps.size]at cQ;omega)
   have Vh:=J (fun mb W=>callsIn_wide.1 (Tryz.maps_KeysIt mb W));have gS:=J (callsIn_wide.1 (Tryz.slices_SortedIt bn cnt D _ wr ag (by unfold maxLen;omega) (by omega)));have UL:=J (fun l (hl:Dw ns i l)=>AQ.of_in hl gV.o);clear ag hD cQ kG fZ mF iz;go_wp2_with fail;refine(Vh.o _ _).mono ?_
   rintro e w5 ⟨rfl,rfl⟩;go_wp2_with fail;refine gS.o.mono ?_
   rintro e w6 ⟨v,ss,rfl,hp,aH,_,fh⟩;have hl:(ss.mergeSort (fun x y=>decide (x<=y))).length=ss.length:=List.length_mergeSort ss;have HE:=J (And.intro (Bl.of_row aH hl) (And.intro (UL.o _ (cF.o ss hp)) (And.intro (show (ss.mergeSort (fun x y=>decide (x<=y))).length<=1000000 by rw[hl,hp.length_eq];exact gI.o) (And.intro ((HX.o.alloc _).trans fh) (BK.of_row aH hl (Nat.le_trans HX.o.size (by simp)))))));clear hp aH fh hl;go_wp2_with fail;go_ret;exact⟨v,_,rfl,HE.o⟩
  ·obtain rfl:z=(q:Int):=by omega
   clear hz;have uQ:q<m:=by omega
   have nG:q<ns.length:=by have:=HN.o;omega
   have av:=cD.o.2 q _ (List.getElem?_eq_getElem nG);have lM:=J (mF.o.here cD.o (by rw[iz.o];exact uQ));have aF:=J (mF.o.step cD.o (by rw[iz.o];exact uQ));have z0:=fZ.o.cell q;rw[B6 _ _ (by rw[iz.o];exact uQ)]at z0;have aL:IntKind.i64.wrap ((q:Int)-1)=(q:Int)-1:=IntWalk.i64_in _ (by omega);have rI:(0:Int)<=(q:Int):=by omega
   have Yb:(q:Int)<(m:Int):=by omega
   have jb:decide ((q:Int)>=0)=true:=decide_eq_true rI;cases hFq:F.getD q false
   ·rw[hFq]at z0;have qC:Gv ns q F=F:=by unfold Gv;rw[if_neg (by rw[hFq];simp)]
    rw[qC]at aF;have eH:=J (kG.o.congr (AV.skip (.inl (fun h=>by rw[lM.o.2 h]at hFq;cases hFq))));clear qC hFq av;go_wp2_with fail;go_roundw
    case rel=>exact⟨q,(q:Int)-1,rfl,by omega,by go_num,F,cnt,fZ.o,aF.o,iz.o,eH.o,by omega,HX.o⟩
    case measure=>simp[intOf]<;>omega
   ·rw[hFq]at z0;have ZX:=J (lM.o.1 hFq);have qC:Gv ns q F=BL F (Cf ns[q]):=by
     unfold Gv B7;rw[if_pos (by rw[hFq]),List.getElem?_eq_getElem nG]
    rw[qC]at aF;have fj:Hid (∀t,ns[q].kind=2->((t=ns[q].text\/AV ns i (q+1) t)↔AV ns i q t)):=J (fun t hk=>AV.add ZX.o (List.getElem?_eq_getElem nG) hk t);have Vg:Hid (∀t,ns[q].kind≠2->(AV ns i (q+1) t↔AV ns i q t)):=J (fun t hk=>AV.skip (.inr (fun x hx=>by rw[List.getElem?_eq_getElem nG]at hx;injection hx with hx;subst hx;exact hk)) t);have qp:=J av.args_lt;have iO:=av.args_len;have dD:=J (fun W=>RM W ns[q] av);have cd:=av.text;obtain⟨gb,o,rfl,bO,hc⟩:=bH.o (by omega);obtain⟨p0,p1,p2,p3,p4⟩:=hc q nG;rw[<-HX.o.cell bO]at p0 p1 p2 p3 p4;obtain⟨k0,k1,f0,f1,fA⟩:=(HG.o.keep HX.o).blk.twoG;have zb:(q:Int)<(n:Int):=by omega
    have al:gb<wr.heap.size:=Nat.lt_of_lt_of_le bO HX.o.size;generalize Cf ns[q]=zs at *;generalize ns[q]=x at *;clear qC hFq av hc nG;obtain⟨y0,y1,y2,y3,y4⟩:=x;simp only[ndV]at dD;simp only at p0 p1 p2 p3 p4 fj Vg cd;have sJ:=J (fun W (h:Dx W bn cnt (AV ns i (q+1)))=>h.store (by unfold maxLen;omega) y4 (by unfold maxLen;omega));obtain⟨s,hs⟩:∃s:ByteArray,s=⟨(y4:List UInt8).toArray⟩:=⟨_,rfl⟩;have ai:str y4= .string s:=by rw[hs];rfl
    rw[ai]at p4 dD sJ;clear hs ai;have aQ:=J (Blk.new wr 95 #[.int .i64 y0,.int .i64 y1,.int .i64 y2,.int .i64 y3,.string s]);have ay:=J ((Ext.refl wr).alloc (.cells #[.int .i64 y0,.int .i64 y1,.int .i64 y2,.int .i64 y3,.string s] 95));obtain⟨w7,cU⟩:∃w7,w7=wr.alloc (.cells #[.int .i64 y0,.int .i64 y1,.int .i64 y2,.int .i64 y3,.string s] 95):=⟨_,rfl⟩;rw[<-cU]at aQ ay;have q0:=aQ.o.five;go_upto_region 11 with fail;rw[<-cU];clear cU p0 p1 p2 p3 p4 k0 k1 f0 f1 z0;obtain⟨wS,aV,V9,vw⟩:=sJ.o w7 (kG.o.ext ay.o);have YZ:bn<wr.heap.size:=kG.o.lt;have Lo:bm<wr.heap.size:=fZ.o.lt;have bU:=HX.o.size;have h7z:=ay.o.size;have fW:bm≠bn:=by have:=aP.o;omega
    have hb0:=tC.o;have aX:=cG.o;obtain⟨mz,mg⟩:∃mz,mz=zs.length:=⟨_,rfl⟩;have mD:=J mg;rw[<-mg]at iO;have HZ:Hid (∀j,j<mz->zs.getD j 0<q):=J (fun j hj=>by
     rw[List.getD_eq_getElem?_getD,List.getElem?_eq_getElem (by omega)];exact qp.o _ (List.getElem_mem _))
    have cA:Hid (∀j,j<mz->zs.take (j+1)=zs.take j++[zs.getD j 0]):=J (fun j hj=>by
     rw[List.take_succ_eq_append_getElem (by omega),List.getD_eq_getElem?_getD,List.getElem?_eq_getElem (by omega)];rfl)
    clear mg cd;have HBR:∃w5,(y0=2->w5=wS)/\(y0≠2->w5=w7)/\Dx w5 bn (cnt+1) (AV ns i q)/\Blk w5 bm 4 (Bn F)/\Blk w5 wr.heap.size 95 #[.int .i64 y0,.int .i64 y1,.int .i64 y2,.int .i64 y3,.string s]/\Ext w w5/\wr.heap.size<w5.heap.size:=by
     by_cases hk2:y0=2
     ·refine⟨wS,fun _=>rfl,fun h=>absurd hk2 h,V9.congr (fun t=>fj.o t hk2),?_,?_,?_,?_⟩
      ·exact(vw.block bm (by omega) (fun e=>fW (Option.some.inj e))).trans (fZ.o.ext ay.o)
      ·exact(vw.block _ aQ.o.lt (fun e=>by have:=Option.some.inj e;omega)).trans aQ.o
      ·exact Below.grown (HX.o.trans ay.o) vw (by omega) (fun k hk=>by have:=Option.some.inj hk;omega)
      ·have:=vw.size;have:=aQ.o.lt;omega
     ·exact⟨w7,fun h=>absurd h hk2,fun _=>rfl,((kG.o.ext ay.o).congr (fun t=>Vg.o t hk2)).mono (Nat.le_succ _),fZ.o.ext ay.o,aQ.o,HX.o.trans ay.o,aQ.o.lt⟩
    obtain⟨w5,WH,xU,We,vM,u6,hx5,YA⟩:=HBR;have ef:=J We;have dP:=J vM;have yk:=J u6;have bg:=J hx5;have ll:=J (And.intro WH xU);clear WH xU We vM u6 hx5 V9 vw fj Vg sJ;by_cases hk2:y0=2
    ·have wH:=J (ll.o.1 hk2);subst hk2;go_upto_region 13 with fail;rw[<-wH.o];clear wH ll aV q0;have q0:=yk.o.five;go_wp2_with fail;refine(dD.o w5).mono ?_
     rintro e w6 ⟨A3,c3,rfl,be,i1⟩;rw[<-mD.o]at i1 ⊢;have aO:=J (bg.o.trans be);have bv:=J (dP.o.ext be);have iQ:=J (ef.o.ext be);have kj:Hid (∀j,j<mz->∃b3,A3=some ⟨b3,0,none⟩/\b3≠bm/\b3<w6.heap.size/\w6.cell? ⟨b3,j,none⟩=some (.int .i64 ((zs.getD j 0:Nat):Int))):=J (fun j hj=>by
      obtain⟨b3,h1,h2,h3,h4⟩:=i1 (by omega);exact⟨b3,h1,by omega,h3,h4 j hj⟩)
     clear q0 be i1 dD;go_wp2_with fail;generalize wr=wa at *;go_loopw [61] (fun ri wr=>∃p:Nat,p<=mz/\ri= .int .i64 (p:Int)/\Blk wr bm 4 (Bn (BL F (zs.take p)))/\Dx wr bn (cnt+1) (AV ns i q)/\Ext w wr/\(∀j,j<mz->∃b3,A3=some ⟨b3,0,none⟩/\b3≠bm/\wr.cell? ⟨b3,j,none⟩=some (.int .i64 ((zs.getD j 0:Nat):Int)))) (fun ri _=>mz-(intOf ri).toNat)
     case atStart=>exact⟨0,Nat.zero_le _,rfl,bv.o,iQ.o,aO.o,fun j hj=>by
      obtain⟨b3,h1,h2,_,h4⟩:=kj.o j hj;exact⟨b3,h1,h2,h4⟩⟩
     case round=>
      clear bv iQ aO kj bg dP ef yk HX;obtain⟨p,hp,rfl,hb,fx,hx,ji⟩:=hrel;have HX:=J hx;by_cases hpz:p<mz
      ·obtain⟨b3,rfl,dT,ac⟩:=ji p hpz;have qn:=J ji;have iJ:=HZ.o p hpz;have nD:=FH (zs.take p) (zs.getD p 0) F;rw[<-cA.o p hpz]at nD;have ao:=C7 (zs.take p) F;rw[iz.o]at ao;have z1:=hb.cell (zs.getD p 0);rw[B6 _ _ (by omega)]at z1;have f1:=hb.frozen (zs.getD p 0);have hs:=hb.set_ (zs.getD p 0) (.bool true);rw[DF,<-nD]at hs;have HS:=J hs;have bC:=J (fx.at (w':=wr.setCell ⟨bm,zs.getD p 0,none⟩ (.bool true)) (Below.heap_setCell _ _ _ bn (fun e=>fW e.symm)));have lJ:=J (hx.setCell (p:=⟨bm,zs.getD p 0,none⟩) hb0 (.bool true));have gF:Hid (∀b3 j,b3≠bm->(wr.setCell ⟨bm,zs.getD p 0,none⟩ (.bool true)).cell? ⟨b3,j,none⟩=wr.cell? ⟨b3,j,none⟩):=J (fun b3 j hne=>World.cell?_of_block (a:=⟨b3,j,none⟩) (Below.heap_setCell _ _ _ b3 hne));generalize (BL F (zs.take p)).getD (zs.getD p 0) false=old at *;generalize hza:zs.getD p 0=za at *;clear hza hb fx hx ji hs nD ao;have hp0:(0:Int)<=(p:Int):=by omega
       have nH:(p:Int)<(mz:Int):=by omega
       have rq:(0:Int)<=(za:Int):=by omega
       have rp:(za:Int)<(m:Int):=by omega
       have uq:IntKind.i64.wrap ((p:Int)+1)=(p:Int)+1:=IntWalk.i64_in _ (by omega);go_wp2_with fail;go_roundw
       case rel=>
        refine⟨p+1,hpz,by go_num,HS.o,bC.o,lJ.o,fun j hj=> ?_⟩;obtain⟨b4,e4,p2,p3⟩:=qn.o j hj;exact⟨b4,e4,p2,(gF.o b4 j p2).trans p3⟩
       case measure=>simp[intOf];omega
      ·obtain rfl:p=mz:=by omega
       have fX:Blk wr bm 4 (Bn (BL F zs)):=by
        have h:=hb;rw[mD.o,List.take_length]at h;exact h
       have tD:=J fX;have dk:=J fx;clear hb fX fx hx ji;go_wp2_with fail;go_roundw
       case rel=>exact⟨q,(q:Int)-1,rfl,by omega,by go_num,BL F zs,cnt+1,tD.o,aF.o,by rw[C7];exact iz.o,dk.o,by omega,HX.o⟩
       case measure=>simp[intOf]<;>omega
    ·have wH:=J (ll.o.2 hk2);have dG:(y0 == 2)=false:=by rw[beq_eq_false_iff_ne];exact hk2
     clear hk2;go_upto_region 13 with fail;rw[<-wH.o];clear wH ll aV q0;have q0:=yk.o.five;go_wp2_with fail;refine(dD.o w5).mono ?_
     rintro e w6 ⟨A3,c3,rfl,be,i1⟩;rw[<-mD.o]at i1 ⊢;have aO:=J (bg.o.trans be);have bv:=J (dP.o.ext be);have iQ:=J (ef.o.ext be);have kj:Hid (∀j,j<mz->∃b3,A3=some ⟨b3,0,none⟩/\b3≠bm/\b3<w6.heap.size/\w6.cell? ⟨b3,j,none⟩=some (.int .i64 ((zs.getD j 0:Nat):Int))):=J (fun j hj=>by
      obtain⟨b3,h1,h2,h3,h4⟩:=i1 (by omega);exact⟨b3,h1,by omega,h3,h4 j hj⟩)
     clear q0 be i1 dD;go_wp2_with fail;generalize wr=wa at *;go_loopw [61] (fun ri wr=>∃p:Nat,p<=mz/\ri= .int .i64 (p:Int)/\Blk wr bm 4 (Bn (BL F (zs.take p)))/\Dx wr bn (cnt+1) (AV ns i q)/\Ext w wr/\(∀j,j<mz->∃b3,A3=some ⟨b3,0,none⟩/\b3≠bm/\wr.cell? ⟨b3,j,none⟩=some (.int .i64 ((zs.getD j 0:Nat):Int)))) (fun ri _=>mz-(intOf ri).toNat)
     case atStart=>exact⟨0,Nat.zero_le _,rfl,bv.o,iQ.o,aO.o,fun j hj=>by
      obtain⟨b3,h1,h2,_,h4⟩:=kj.o j hj;exact⟨b3,h1,h2,h4⟩⟩
     case round=>
      clear bv iQ aO kj bg dP ef yk HX;obtain⟨p,hp,rfl,hb,fx,hx,ji⟩:=hrel;have HX:=J hx;by_cases hpz:p<mz
      ·obtain⟨b3,rfl,dT,ac⟩:=ji p hpz;have qn:=J ji;have iJ:=HZ.o p hpz;have nD:=FH (zs.take p) (zs.getD p 0) F;rw[<-cA.o p hpz]at nD;have ao:=C7 (zs.take p) F;rw[iz.o]at ao;have z1:=hb.cell (zs.getD p 0);rw[B6 _ _ (by omega)]at z1;have f1:=hb.frozen (zs.getD p 0);have hs:=hb.set_ (zs.getD p 0) (.bool true);rw[DF,<-nD]at hs;have HS:=J hs;have bC:=J (fx.at (w':=wr.setCell ⟨bm,zs.getD p 0,none⟩ (.bool true)) (Below.heap_setCell _ _ _ bn (fun e=>fW e.symm)));have lJ:=J (hx.setCell (p:=⟨bm,zs.getD p 0,none⟩) hb0 (.bool true));have gF:Hid (∀b3 j,b3≠bm->(wr.setCell ⟨bm,zs.getD p 0,none⟩ (.bool true)).cell? ⟨b3,j,none⟩=wr.cell? ⟨b3,j,none⟩):=J (fun b3 j hne=>World.cell?_of_block (a:=⟨b3,j,none⟩) (Below.heap_setCell _ _ _ b3 hne));generalize (BL F (zs.take p)).getD (zs.getD p 0) false=old at *;generalize hza:zs.getD p 0=za at *;clear hza hb fx hx ji hs nD ao;have hp0:(0:Int)<=(p:Int):=by omega
       have nH:(p:Int)<(mz:Int):=by omega
       have rq:(0:Int)<=(za:Int):=by omega
       have rp:(za:Int)<(m:Int):=by omega
       have uq:IntKind.i64.wrap ((p:Int)+1)=(p:Int)+1:=IntWalk.i64_in _ (by omega);go_wp2_with fail;go_roundw
       case rel=>
        refine⟨p+1,hpz,by go_num,HS.o,bC.o,lJ.o,fun j hj=> ?_⟩;obtain⟨b4,e4,p2,p3⟩:=qn.o j hj;exact⟨b4,e4,p2,(gF.o b4 j p2).trans p3⟩
       case measure=>simp[intOf];omega
      ·obtain rfl:p=mz:=by omega
       have fX:Blk wr bm 4 (Bn (BL F zs)):=by
        have h:=hb;rw[mD.o,List.take_length]at h;exact h
       have tD:=J fX;have dk:=J fx;clear hb fX fx hx ji;go_wp2_with fail;go_roundw
       case rel=>exact⟨q,(q:Int)-1,rfl,by omega,by go_num,BL F zs,cnt+1,tD.o,aF.o,by rw[C7];exact iz.o,dk.o,by omega,HX.o⟩
       case measure=>simp[intOf]<;>omega
open Go.RowKit
theorem Px(l:List Bool)(i:Nat):l.set i (l.getD i false)=l:=by
 apply List.ext_getElem?;intro j;rw[List.getElem?_set];split
 ·rename_i h;subst h;split
  ·rename_i h;rw[List.getD_eq_getElem?_getD,List.getElem?_eq_getElem h];rfl
  ·rename_i h;rw[List.getElem?_eq_none (by omega)]
 ·rfl
def OK(ns:List Nd)(i:Nat)(w:World)(e:Ending)(w':World):Prop:=∃v L,e= .returned v/\Hp w' v L/\(∀j,j∈L↔Bj ns i j)/\L.length<=ns.length/\Ext w w'
theorem Lt(p:Nat->Bool)(k:Nat):(List.range (k+1)).filter p=(List.range k).filter p++(if p k then [k] else []):=by
 rw[List.range_succ,List.filter_append]
 congr 1
 cases h:p k<;>simp[h]
theorem PH(B g:Nat)(w:World)(ns:List Nd)(rv:Value)(h:GrR B g w ns rv)(i:Nat)(hi:i<ns.length):
  Calls Tryz.prog 111 #[.pointer (some ⟨g,0,none⟩),.int .i64 (i:Int)] w (OK ns i w):=by
 have hfew:=h.few;have cD:=J h.ok;have gV:=J hi;have kc:=J (G9 B g w ns rv h (i:Int));rw[decide_eq_true (⟨by omega,by omega⟩:0<=(i:Int)/\(i:Int)<(ns.length:Int))]at kc;obtain⟨A,c,e7,aB⟩:=h.row.read;subst e7;have bH:=J aB;have HG:=J h;clear aB h;have gA:(0:Int)<=(i:Int):=by omega
 obtain⟨n,bh⟩:∃n,n=ns.length:=⟨_,rfl⟩;have HN:=J bh;rw[<-bh]at HG hfew;have hin:i<n:=by omega
 have zA:(i:Int)<(n:Int):=by omega
 have dZ:=KA n (by omega);clear hi bh;go_enter Tryz.func111,Tryz.ntmps111;go_wp2_with fail;refine kc.o.mono ?_
 rintro e w1 ⟨rfl,am⟩;have ah:=J am;have k0:=(HG.o.keep am).blk.oneG;have z0:=(Blk.new w1 4 (Bn (List.replicate n false))).cell i;rw[B6 _ _ (by rw[List.length_replicate];omega)]at z0;have z1:=(Blk.new w1 4 (Bn (List.replicate n false))).frozen i;have aX:=Blk.new w1 4 ((Bn (List.replicate n false)).setIfInBounds i (.bool true));have aq:=J (ah.o.alloc (.cells ((Bn (List.replicate n false)).setIfInBounds i (.bool true)) 4));go_upto_region 5 with fail;obtain⟨w2,aY⟩:∃w2,w2=w1.alloc (.cells ((Bn (List.replicate n false)).setIfInBounds i (.bool true)) 4):=⟨_,rfl⟩;rw[<-aY]at aX aq;rw[<-aY];rw[DF]at aX;obtain⟨bm,ea⟩:∃bm,bm=w1.heap.size:=⟨_,rfl⟩;rw[<-ea]at aX;have iG:=J aX;have tC:Hid (w.heap.size<=bm):=J (by have:=am.size;omega);rw[<-ea];clear aY aX dZ k0 ea z0 z1 am ah kc;go_wp2_with fail;go_loopw [6] (fun s6 wr=>∃(k:Nat) (z:Int),z=(k:Int)-1/\k<=i+1/\s6= .int .i64 z/\∃(F:List Bool),Blk wr bm 4 (Bn F)/\CR ns i k F/\F.length=n/\Ext w wr) (fun s6 _=>(intOf s6+1).toNat)
 case atStart=>
  refine⟨i+1,(i:Int),by omega,Nat.le_refl _,rfl,(List.replicate n false).set i true,iG.o,?_,by simp,aq.o⟩;refine CR.start cD.o (by simp;exact hin) (by simp;rw[HN.o];exact Nat.le_refl _) (fun j hj=> ?_);rw[H6];simp only[List.length_set,List.length_replicate]at hj ⊢;have hf:(List.replicate n false).getD j false=false:=by
   rw[List.getD_eq_getElem?_getD,List.getElem?_replicate];split<;>rfl
  rw[hf,Bool.or_false,decide_eq_true_iff];exact⟨fun h=>h.1,fun h=>⟨h,by omega⟩⟩
 case round=>
  clear aq iG;obtain⟨k,z,hz,Wi,rfl,F,hb,dZ,vZ,hx⟩:=hrel;have HX:=J hx;have fZ:=J hb;have mF:=J dZ;have iz:=J vZ;clear hx hb dZ vZ;rcases k with _|q
  ·obtain rfl:z= -1:=by omega
   clear hz;have rS:decide ((-1:Int)>=0)=false:=by decide
   have dV:=J mF.o.done;have bU:=HX.o.size;have z5:bm<wr.heap.size:=fZ.o.lt;clear mF;go_wp2_with fail;generalize wr=wa at *;go_loopw [9,59] (fun s9 nj wr=>∃k:Nat,k<=n/\nj= .int .i64 (k:Int)/\IS wa.heap.size wr s9 ((List.range k).filter (fun j=>F.getD j false))/\Ext wa wr) (fun _ nj _=>n-(intOf nj).toNat)
   case atStart=>exact⟨0,Nat.zero_le _,rfl,IS.nil _ _,Ext.refl wa⟩
   case round=>
    obtain⟨k,hk,rfl,ag,hx⟩:=hrel;have HO:=J ag;have mW:=J hx;have fG:((List.range k).filter (fun j=>F.getD j false)).length<=k:=by
     have:=List.length_filter_le (fun j=>F.getD j false) (List.range k);rw[List.length_range]at this;exact this
    obtain⟨m9,A9,c9,rfl⟩:=ag.arr.shape;by_cases hlt:k<n
    ·have z0:=(fZ.o.ext hx).cell k;rw[B6 _ _ (by rw[iz.o];exact hlt)]at z0;have x7:=J (Lt (fun j=>F.getD j false) k);have fy:(0:Int)<=(k:Int):=by omega
     have fg:(k:Int)<(n:Int):=by omega
     have iW:IntKind.i64.wrap ((k:Int)+1)=(k:Int)+1:=IntWalk.i64_in _ (by omega);have xN:wa.heap.size<=wr.heap.size:=hx.size;clear ag hx;cases hFk:F.getD k false
     ·rw[hFk]at z0;have pL:(if F.getD k false=true then [k] else [])=([]:List Nat):=by rw[hFk];rfl
      rw[pL,List.append_nil]at x7;clear pL hFk;go_wp2_with fail;go_roundw
      case rel=>exact⟨k+1,hlt,by go_num,by rw[x7.o];exact HO.o,mW.o⟩
      case measure=>simp[intOf];omega
     ·rw[hFk]at z0;have pL:(if F.getD k false=true then [k] else [])=[k]:=by rw[hFk];rfl
      rw[pL]at x7;clear pL hFk;have lR:Hid (((List.range k).filter (fun j=>F.getD j false)).length+[k].length<=2147483648):=J (by rw[List.length_singleton];omega);go_wp2_with (at_builtin;go_must (refine I4 (B:=wa.heap.size) rfl _ _ rfl rfl (HO.o.ext ((Ext.refl _).alloc _)) rfl (Hp.fresh1 _ _) lR.o (by simp;omega) ?_;intro v' w' aA al vQ;have HE:=J (And.intro aA ((mW.o.alloc _).more vQ));clear aA al vQ));go_roundw
      case rel=>exact⟨k+1,hlt,by go_num,by rw[x7.o];exact HE.o.1,HE.o.2⟩
      case measure=>simp[intOf];omega
    ·obtain rfl:k=n:=by omega
     have dB:Hid (∀j,j∈(List.range k).filter (fun j=>F.getD j false)↔Bj ns i j):=J (fun j=>by
      rw[List.mem_filter,List.mem_range];constructor
      ·rintro⟨h1,h2⟩;exact(dV.o j (by rw[iz.o];exact h1)).1 h2
      ·intro h1;have h2:=h1.le cD.o;have h3:=gV.o;exact⟨by have:=HN.o;omega,(dV.o j (by rw[iz.o];have:=HN.o;omega)).2 h1⟩)
     have gC:=J (HX.o.trans mW.o);clear ag hx;go_wp2_with fail;go_ret;exact⟨_,_,rfl,HO.o.arr,dB.o,by rw[<-HN.o];exact fG,gC.o⟩
  ·obtain rfl:z=(q:Int):=by omega
   clear hz;have nG:q<ns.length:=by have:=HN.o;omega
   have av:=cD.o.2 q _ (List.getElem?_eq_getElem nG);have VZ:q<F.length:=by rw[iz.o];omega
   have aF:=J (mF.o.step cD.o VZ);have aL:IntKind.i64.wrap ((q:Int)-1)=(q:Int)-1:=IntWalk.i64_in _ (by omega);have rI:(0:Int)<=(q:Int):=by omega
   have zb:(q:Int)<(n:Int):=by omega
   have jb:decide ((q:Int)>=0)=true:=decide_eq_true rI;have qC:Gv ns q F=if F.getD q false then BL F (Cf ns[q]) else F:=by
    unfold Gv B7;rw[List.getElem?_eq_getElem nG]
   rw[qC]at aF;have qp:=J av.args_lt;have iO:=av.args_len;have dD:=J (fun W=>EU W ns[q] av);obtain⟨gb,o,rfl,bO,hc⟩:=bH.o (by have:=HN.o;omega);obtain⟨p0,p1,p2,p3,p4⟩:=hc q nG;rw[<-HX.o.cell bO]at p0 p1 p2 p3 p4;have k0:=(HG.o.keep HX.o).blk.oneG;have al:gb<wr.heap.size:=Nat.lt_of_lt_of_le bO HX.o.size;generalize Cf ns[q]=zs at *;generalize ns[q]=x at *;clear qC av hc nG;obtain⟨y0,y1,y2,y3,y4⟩:=x;simp only[ndV]at dD;simp only at p0 p1 p2 p3 p4;obtain⟨s,hs⟩:∃s:ByteArray,s=⟨(y4:List UInt8).toArray⟩:=⟨_,rfl⟩;have ai:str y4= .string s:=by rw[hs];rfl
   rw[ai]at p4 dD;clear hs ai;have Lo:bm<wr.heap.size:=fZ.o.lt;have bU:=HX.o.size;have hb0:=tC.o;obtain⟨mz,mg⟩:∃mz,mz=zs.length:=⟨_,rfl⟩;have mD:=J mg;rw[<-mg]at iO;have HZ:Hid (∀j,j<mz->zs.getD j 0<q):=J (fun j hj=>by
    rw[List.getD_eq_getElem?_getD,List.getElem?_eq_getElem (by omega)];exact qp.o _ (List.getElem_mem _))
   have cA:Hid (∀j,j<mz->zs.take (j+1)=zs.take j++[zs.getD j 0]):=J (fun j hj=>by
    rw[List.take_succ_eq_append_getElem (by omega),List.getD_eq_getElem?_getD,List.getElem?_eq_getElem (by omega)];rfl)
   clear mg;go_wp2_with fail;refine(dD.o wr).mono ?_
   rintro e w6 ⟨A3,c3,rfl,be,i1⟩;rw[<-mD.o]at i1 ⊢;have aO:=J (HX.o.trans be);have bv:=J (fZ.o.ext be);have kj:Hid (∀j,j<mz->∃b3,A3=some ⟨b3,0,none⟩/\b3≠bm/\b3<w6.heap.size/\w6.cell? ⟨b3,j,none⟩=some (.int .i64 ((zs.getD j 0:Nat):Int))):=J (fun j hj=>by
    obtain⟨b3,h1,h2,h3,h4⟩:=i1 (by omega);exact⟨b3,h1,by omega,h3,h4 j hj⟩)
   clear p0 p1 p2 p3 p4 k0 be i1 dD HX fZ mF;cases hFq:F.getD q false
   ·rw[hFq]at aF;have sy:=hFq;clear hFq;simp only[if_true,Bool.false_eq_true,if_false]at aF;go_wp2_with fail;generalize wr=wa at *;go_loopw [39] (fun i8 wr=>∃p:Nat,p<=mz/\i8= .int .i64 (p:Int)/\Blk wr bm 4 (Bn F)/\Ext w wr/\(∀j,j<mz->∃b3,A3=some ⟨b3,0,none⟩/\b3≠bm/\wr.cell? ⟨b3,j,none⟩=some (.int .i64 ((zs.getD j 0:Nat):Int)))) (fun i8 _=>mz-(intOf i8).toNat)
    case atStart=>exact⟨0,Nat.zero_le _,rfl,bv.o,aO.o,fun j hj=>by
     obtain⟨b3,h1,h2,_,h4⟩:=kj.o j hj;exact⟨b3,h1,h2,h4⟩⟩
    case round=>
     clear bv aO kj;obtain⟨p,hp,rfl,hb,hx,ji⟩:=hrel;have HX:=J hx;by_cases hpz:p<mz
     ·obtain⟨b3,rfl,dT,ac⟩:=ji p hpz;have qn:=J ji;have iJ:=HZ.o p hpz;have ao:=iz.o;have z1:=hb.cell (zs.getD p 0);rw[B6 _ _ (by omega)]at z1;have z2:=hb.cell q;rw[B6 _ _ (by omega),sy]at z2;have f1:=hb.frozen (zs.getD p 0);have hs:=hb.set_ (zs.getD p 0) (.bool (F.getD (zs.getD p 0) false));rw[DF,Px]at hs;have HS:=J hs;have lJ:=J (hx.setCell (p:=⟨bm,zs.getD p 0,none⟩) hb0 (.bool (F.getD (zs.getD p 0) false)));have gF:Hid (∀b3 j,b3≠bm->(wr.setCell ⟨bm,zs.getD p 0,none⟩ (.bool (F.getD (zs.getD p 0) false))).cell? ⟨b3,j,none⟩=wr.cell? ⟨b3,j,none⟩):=J (fun b3 j hne=>World.cell?_of_block (a:=⟨b3,j,none⟩) (Below.heap_setCell _ _ _ b3 hne));generalize F.getD (zs.getD p 0) false=old at *;generalize hza:zs.getD p 0=za at *;clear hza hb hx ji hs ao;have hp0:(0:Int)<=(p:Int):=by omega
      have nH:(p:Int)<(mz:Int):=by omega
      have rq:(0:Int)<=(za:Int):=by omega
      have rp:(za:Int)<(n:Int):=by omega
      have uq:IntKind.i64.wrap ((p:Int)+1)=(p:Int)+1:=IntWalk.i64_in _ (by omega);cases old
      all_goals
       go_wp2_with fail;go_roundw
       case rel=>
        refine⟨p+1,hpz,by go_num,HS.o,lJ.o,fun j hj=> ?_⟩;obtain⟨b4,e4,p2,p3⟩:=qn.o j hj;exact⟨b4,e4,p2,(gF.o b4 j p2).trans p3⟩
       case measure=>simp[intOf];omega
     ·obtain rfl:p=mz:=by omega
      have fX:Blk wr bm 4 (Bn F):=by
       have h:=hb;exact h
      have tD:=J fX;clear hb fX hx ji;go_wp2_with fail;go_roundw
      case rel=>exact⟨q,(q:Int)-1,rfl,by omega,by go_num,F,tD.o,aF.o,by exact iz.o,HX.o⟩
      case measure=>simp[intOf]<;>omega
   ·rw[hFq]at aF;have sy:=hFq;clear hFq;simp only[if_true,Bool.false_eq_true,if_false]at aF;go_wp2_with fail;generalize wr=wa at *;go_loopw [39] (fun i8 wr=>∃p:Nat,p<=mz/\i8= .int .i64 (p:Int)/\Blk wr bm 4 (Bn (BL F (zs.take p)))/\Ext w wr/\(∀j,j<mz->∃b3,A3=some ⟨b3,0,none⟩/\b3≠bm/\wr.cell? ⟨b3,j,none⟩=some (.int .i64 ((zs.getD j 0:Nat):Int)))) (fun i8 _=>mz-(intOf i8).toNat)
    case atStart=>exact⟨0,Nat.zero_le _,rfl,bv.o,aO.o,fun j hj=>by
     obtain⟨b3,h1,h2,_,h4⟩:=kj.o j hj;exact⟨b3,h1,h2,h4⟩⟩
    case round=>
     clear bv aO kj;obtain⟨p,hp,rfl,hb,hx,ji⟩:=hrel;have HX:=J hx;by_cases hpz:p<mz
     ·obtain⟨b3,rfl,dT,ac⟩:=ji p hpz;have qn:=J ji;have iJ:=HZ.o p hpz;have nD:=FH (zs.take p) (zs.getD p 0) F;rw[<-cA.o p hpz]at nD;have ao:=C7 (zs.take p) F;rw[iz.o]at ao;have VY:(BL F (zs.take p)).getD q false=true:=by rw[IC _ _ _ VZ,sy,Bool.or_true]
      have z1:=hb.cell (zs.getD p 0);rw[B6 _ _ (by omega)]at z1;have z2:=hb.cell q;rw[B6 _ _ (by omega),VY]at z2;have f1:=hb.frozen (zs.getD p 0);have hs:=hb.set_ (zs.getD p 0) (.bool true);rw[DF,<-nD]at hs;have HS:=J hs;have lJ:=J (hx.setCell (p:=⟨bm,zs.getD p 0,none⟩) hb0 (.bool true));have gF:Hid (∀b3 j,b3≠bm->(wr.setCell ⟨bm,zs.getD p 0,none⟩ (.bool true)).cell? ⟨b3,j,none⟩=wr.cell? ⟨b3,j,none⟩):=J (fun b3 j hne=>World.cell?_of_block (a:=⟨b3,j,none⟩) (Below.heap_setCell _ _ _ b3 hne));generalize (BL F (zs.take p)).getD (zs.getD p 0) false=old at *;generalize hza:zs.getD p 0=za at *;clear hza hb hx ji hs ao nD VY;have hp0:(0:Int)<=(p:Int):=by omega
      have nH:(p:Int)<(mz:Int):=by omega
      have rq:(0:Int)<=(za:Int):=by omega
      have rp:(za:Int)<(n:Int):=by omega
      have uq:IntKind.i64.wrap ((p:Int)+1)=(p:Int)+1:=IntWalk.i64_in _ (by omega);cases old
      all_goals
       go_wp2_with fail;go_roundw
       case rel=>
        refine⟨p+1,hpz,by go_num,HS.o,lJ.o,fun j hj=> ?_⟩;obtain⟨b4,e4,p2,p3⟩:=qn.o j hj;exact⟨b4,e4,p2,(gF.o b4 j p2).trans p3⟩
       case measure=>simp[intOf];omega
     ·obtain rfl:p=mz:=by omega
      have fX:Blk wr bm 4 (Bn (BL F zs)):=by
       have h:=hb;rw[mD.o,List.take_length]at h;exact h
      have tD:=J fX;clear hb fX hx ji;go_wp2_with fail;go_roundw
      case rel=>exact⟨q,(q:Int)-1,rfl,by omega,by go_num,(BL F zs),tD.o,aF.o,by rw[C7];exact iz.o,HX.o⟩
      case measure=>simp[intOf]<;>omega
def CO(ns:List Nd)(L:List Nat)(T:List Tx):Prop:=(∀t,t∈T↔∃j∈L,∃x,ns[j]? =some x/\x.kind=2/\x.text=t)/\T.length<=L.length/\∀t∈T,t.length<=400
theorem CO.nil(ns:List Nd):CO ns [] []:=⟨fun t=>by simp,Nat.le_refl _,fun t ht=>by cases ht⟩
theorem CO.add{ns:List Nd}{L:List Nat}{T:List Tx}(h:CO ns L T){j:Nat}{x:Nd}(hx:ns[j]? =some x)(hk:x.kind=2)(hl:x.text.length<=400):CO ns (L++[j]) (T++[x.text]):=by
 refine⟨fun t=> ?_,by simp only[List.length_append,List.length_singleton];have:=h.2.1;omega,fun t ht=> ?_⟩
 ·rw[List.mem_append,List.mem_singleton,h.1 t];constructor
  ·rintro(⟨q,hq,r⟩|rfl)
   ·exact⟨q,List.mem_append_left _ hq,r⟩
   ·exact⟨j,by simp,x,hx,hk,rfl⟩
  ·rintro⟨q,hq,y,h1,h2,h3⟩;rcases List.mem_append.1 hq with h4|h4
   ·exact .inl ⟨q,h4,y,h1,h2,h3⟩
   ·rw[List.mem_singleton.1 h4,hx]at h1;injection h1 with h1
    subst h1;exact .inr h3.symm
 ·rcases List.mem_append.1 ht with h4|h4
  ·exact h.2.2 t h4
  ·rw[List.mem_singleton.1 h4];exact hl
theorem CO.skip{ns:List Nd}{L:List Nat}{T:List Tx}(h:CO ns L T){j:Nat}{x:Nd}(hx:ns[j]? =some x)(hk:x.kind≠2):CO ns (L++[j]) T:=by
 refine⟨fun t=> ?_,by simp only[List.length_append,List.length_singleton];have:=h.2.1;omega,h.2.2⟩;rw[h.1 t];constructor
 ·rintro⟨q,hq,r⟩;exact⟨q,List.mem_append_left _ hq,r⟩
 ·rintro⟨q,hq,y,h1,h2,h3⟩;rcases List.mem_append.1 hq with h4|h4
  ·exact⟨q,h4,y,h1,h2,h3⟩
  ·rw[List.mem_singleton.1 h4,hx]at h1;injection h1 with h1
   subst h1;exact absurd h2 hk
theorem CO.names{ns:List Nd}{i:Nat}{L:List Nat}{T:List Tx}(h:CO ns L T)(hL:∀j,j∈L↔Bj ns i j):Dw ns i (BQ T):=by
 refine⟨Gj T,fun t=> ?_⟩;rw[Ce,h.1 t];exact⟨fun ⟨j,hj,x,r⟩=>⟨j,x,(hL j).1 hj,r⟩,fun ⟨j,x,hj,r⟩=>⟨j,(hL j).2 hj,x,r⟩⟩
theorem NL(B g:Nat)(w:World)(ns:List Nd)(rv:Value)(h:GrR B g w ns rv)(i:Nat)(hi:i<ns.length):
  Calls Tryz.prog 50 #[.pointer (some ⟨g,0,none⟩),.int .i64 (i:Int)] w (CQ ns (i:Int) w):=by
 have sT:=J (PH B g w ns rv h i hi);have hfew:=h.few;have cD:=J h.ok;have UL:=J (fun l (hl:Dw ns i l)=>AQ.of_in hl hi);have kY:=J (fun j (hj:Bj ns i j)=>Nat.lt_of_le_of_lt (hj.le h.ok) hi);obtain⟨A,c,e7,aB⟩:=h.row.read;subst e7;have bH:=J aB;have HG:=J h;clear aB h hi;obtain⟨n,bh⟩:∃n,n=ns.length:=⟨_,rfl⟩;have HN:=J bh;rw[<-bh]at HG hfew;clear bh;go_enter Tryz.func50,Tryz.ntmps50;go_wp2_with fail;refine sT.o.mono ?_
 rintro e w1 ⟨v1,L,rfl,hL,d7,ao,am⟩;have ah:=J am;have dB:=J d7;obtain⟨AL,cL,rfl,Wu⟩:=hL.open;have qm:=J Wu;have k0:=(HG.o.keep am).blk.oneG;obtain⟨m,hm⟩:∃m,m=L.length:=⟨_,rfl⟩;have HM:=J hm;rw[<-hm]at ao ⊢;have mh:m<=4096:=by have:=HN.o;omega
 have bU:=am.size;clear hL Wu am d7 hm ao sT;go_wp2_with fail;go_loopw [5,12] (fun s5 s12 wr=>∃k:Nat,k<=m/\s12= .int .i64 (k:Int)/\∃T,BP w1.heap.size wr s5 T/\CO ns (L.take k) T/\Ext w1 wr) (fun _ s12 _=>m-(intOf s12).toNat)
 case atStart=>exact⟨0,Nat.zero_le _,rfl,[],BP.none_ _ _,by rw[List.take_zero];exact CO.nil ns,Ext.refl w1⟩
 case round=>
  obtain⟨k,hk,rfl,T,ag,cd,hx⟩:=hrel;have HO:=J ag;have HX:=J hx;have hTl:T.length<=k:=by
   have h1:=cd.2.1;rw[List.length_take]at h1;omega
  obtain⟨m5,A5,c5,rfl⟩:=ag.arr.shape;have xN:w1.heap.size<=wr.heap.size:=hx.size;by_cases hlt:k<m
  ·have oY:k<L.length:=by rw[<-HM.o];exact hlt
   obtain⟨bL,oL,rfl,Y3,ac⟩:=qm.o (by omega);have z1:=(hx.cell Y3).trans (ac k oY);have Wk:L.getD k 0∈L:=by rw[MZ _ _ oY];exact List.getElem_mem oY
   have gL:L.take (k+1)=L.take k++[L.getD k 0]:=by rw[List.take_succ_eq_append_getElem oY,MZ _ _ oY]
   have iZ:=kY.o _ ((dB.o _).1 Wk);generalize L.getD k 0=j at *;have qu:ns[j]? =some ns[j]:=List.getElem?_eq_getElem iZ
   have av:=cD.o.2 j _ qu;have mL:=J (fun hk2=>cd.add qu hk2 av.text);have US:=J (fun hk2=>cd.skip qu hk2);rw[<-gL]at mL US;obtain⟨gb,o,rfl,bO,hc⟩:=bH.o (by omega);obtain⟨p0,p1,p2,p3,p4⟩:=hc j iZ;have oT:=ah.o.trans hx;rw[<-oT.cell bO]at p0 p1 p2 p3 p4;have o3:(0:Int)<=(j:Int):=by omega
   have YH:(j:Int)<(n:Int):=by have:=HN.o;omega
   have fy:(0:Int)<=(k:Int):=by omega
   have Wi:(k:Int)<(m:Int):=by omega
   have iW:IntKind.i64.wrap ((k:Int)+1)=(k:Int)+1:=IntWalk.i64_in _ (by omega);have k0:=(HG.o.keep oT).blk.oneG;generalize ns[j]=x at *;clear av qu iZ hc ac oT Wk gL ag cd hx;obtain⟨y0,y1,y2,y3,y4⟩:=x;simp only at p0 p1 p2 p3 p4 mL US;obtain⟨tb,xF⟩:∃tb:ByteArray,tb=⟨y4.toArray⟩:=⟨_,rfl⟩;have ai:str y4= .string tb:=by rw[xF];rfl
   have ke:Hid (Bl (wr.alloc (.cells #[.string tb] 9)) (.slice (some ⟨wr.heap.size,0,none⟩) 1 1) [y4]):=J (by
    rw[<-ai];exact Bl.fresh1 wr y4)
   rw[ai]at p4;clear ai xF;have lR:Hid (T.length+[y4].length<=2147483648):=J (by rw[List.length_singleton];omega);by_cases h2:y0=2
   ·subst h2;have HAE:=J (mL.o rfl);go_wp2_with (at_builtin;go_must (refine Cu (B:=w1.heap.size) rfl _ _ rfl rfl (HO.o.ext ((Ext.refl _).alloc _)) rfl ke.o lR.o (by simp;omega) ?_;intro v' w' aA al aX;have HE:=J (And.intro aA ((HX.o.alloc _).more aX));clear aA al aX));go_roundw
    case rel=>exact⟨k+1,hlt,by go_num,_,HE.o.1,HAE.o,HE.o.2⟩
    case measure=>simp[intOf];omega
   ·have hb:(y0 == 2)=false:=by rw[beq_eq_false_iff_ne];exact h2
    have mu:=J (US.o h2);clear h2;go_wp2_with fail;go_roundw
    case rel=>exact⟨k+1,hlt,by go_num,T,HO.o,mu.o,HX.o⟩
    case measure=>simp[intOf];omega
  ·obtain rfl:k=m:=by omega
   have rE:CO ns L T:=by
    have h:=cd;rw[HM.o,List.take_length]at h;exact h
   have bG:=J (UL.o _ (rE.names dB.o));have mZ:=J (fun t ht=>Nat.le_trans (rE.2.2 t ht) (show 400<=1073741824 by decide));have oV:=Hs T;have kC:=J (ah.o.trans hx);clear ag cd rE hx;go_wp2_with fail;refine(DE wr _ T HO.o.arr (by omega) mZ.o).mono ?_
   rintro e w5 ⟨v5,rfl,cY,hx5⟩;have HE:=J (And.intro cY.arr (kC.o.trans hx5));clear cY hx5;go_wp2_with fail;go_ret;exact⟨v5,_,rfl,HE.o.1,bG.o,by omega,HE.o.2⟩
theorem Cv(B g:Nat)(w:World)(ns:List Nd)(rv:Value)(h:GrR B g w ns rv)(i:Int):
  Calls Tryz.prog 50 #[.pointer (some ⟨g,0,none⟩),.int .i64 i] w (CQ ns i w):=by
 by_cases hi:0<=i/\i<(ns.length:Int)
 ·obtain⟨k,rfl⟩:∃k:Nat,(k:Int)=i:=⟨i.toNat,by omega⟩;exact NL B g w ns rv h k (by omega)
 have HO:=J (AQ.o (ns:=ns) (i:=i) (by omega));have kc:=J (G9 B g w ns rv h i);rw[decide_eq_false hi]at kc;have sT:Hid (Calls Tryz.prog 111 #[.pointer (some ⟨g,0,none⟩),.int .i64 i] w fun e w'=>e= .returned (.slice none 0 0)/\Ext w w'):=J (by
  clear h hi HO;go_enter Tryz.func111,Tryz.ntmps111;go_wp2_with fail;refine kc.o.mono ?_
  rintro e w1 ⟨rfl,am⟩;have ah:=J am;clear am;go_wp2_with fail;go_ret;exact⟨rfl,ah.o⟩)
 clear h hi kc;go_enter Tryz.func50,Tryz.ntmps50;go_wp2_with fail;refine sT.o.mono ?_
 rintro e w1 ⟨rfl,am⟩;have ah:=J am;clear am;go_wp2_with fail;go_loopw [5,12] (fun s5 s12 wr=>s5= .slice none 0 0/\s12= .int .i64 0/\Ext w1 wr) (fun _ s12 _=>0-(intOf s12).toNat)
 case atStart=>exact⟨rfl,rfl,Ext.refl w1⟩
 case round=>
  obtain⟨rfl,rfl,hx⟩:=hrel;have HX:=J (ah.o.trans hx);clear hx;have mZ:Hid (∀t∈([]:List Tx),t.length<=1073741824):=J (fun t ht=>by cases ht);go_wp2_with fail;refine(DE wr _ [] (BP.none_ wr.heap.size wr).arr (by decide) mZ.o).mono ?_
  rintro e w5 ⟨v5,rfl,cY,hx5⟩;have HE:=J (And.intro cY.arr (HX.o.trans hx5));clear cY hx5;go_wp2_with fail;go_ret;exact⟨v5,_,rfl,HE.o.1,HO.o,by decide,HE.o.2⟩
theorem Qb(w:World)(u v:Value)(ls:List Tx)(env:Env)(hu:Bl w u ls)(hl:ls.length<=1000000)(he:RdE w v env)(hn:env.length<=1000000):
  Calls Tryz.prog 93 #[u,v] w fun e w'=>∃d:Bool,e= .returned (.bool d)/\Ext w w':=by
 obtain⟨A,c,rfl,_,_,pQ⟩:=hu.open;obtain⟨A2,c2,rfl,hce⟩:=he;have HCS:=J pQ;have i6:=J hce;obtain⟨n,bh⟩:∃n,n=ls.length:=⟨_,rfl⟩;obtain⟨m,hmm⟩:∃m,m=env.length:=⟨_,rfl⟩;have HN:=J bh;have HM:=J hmm;rw[<-bh]at hl;rw[<-hmm]at hn;rw[<-bh,<-hmm];clear hu pQ hce bh hmm;go_enter Tryz.func93,Tryz.ntmps93;go_wp2_with fail;go_loopw [6,7,9,12,18] (fun _ _ _ s12 _ wr=>∃k:Nat,k<=n/\s12= .int .i64 (k:Int)/\Ext w wr) (fun _ _ _ s12 _ _=>n-(intOf s12).toNat)
 case atStart=>exact⟨0,Nat.zero_le _,rfl,Ext.refl w⟩
 case round=>
  obtain⟨k,hk,rfl,hx⟩:=hrel;generalize wr=wa at *;have HX:=J hx;by_cases hlt:k<n
  ·have bB:k<ls.length:=by rw[<-HN.o];exact hlt
   obtain⟨gb,o,rfl,bO,hc⟩:=HCS.o (by rw[<-HN.o];omega);have p0:=(hx.cell bO).trans (hc k bB);have fy:(0:Int)<=(k:Int):=by omega
   have lD:(k:Int)<(n:Int):=by omega
   have iW:IntKind.i64.wrap ((k:Int)+1)=(k:Int)+1:=IntWalk.i64_in _ (by omega);clear hc hx;generalize ls[k]=t at *;clear bB;obtain⟨s,hs⟩:∃s:ByteArray,str t= .string s:=⟨_,rfl⟩;rw[hs]at p0;clear hs;go_wp2_with fail;go_loopw [7,9,18] (fun s7 _ s18 wr=>∃(d:Bool) (j:Nat),j<=m/\s7= .bool d/\s18= .int .i64 (j:Int)/\Ext w wr) (fun _ _ s18 _=>m-(intOf s18).toNat)
   case atStart=>exact⟨false,0,Nat.zero_le _,rfl,rfl,HX.o⟩
   case round=>
    obtain⟨d,j,hj,rfl,rfl,hx⟩:=hrel;have ov:=J hx;by_cases hlt2:j<m
    ·have iZ:j<env.length:=by rw[<-HM.o];exact hlt2
     obtain⟨ge,oe,rfl,dU,hc⟩:=i6.o (by rw[<-HM.o];omega);obtain⟨r0,r1⟩:=hc j iZ;rw[<-hx.cell dU]at r0 r1;have al:ge<wr.heap.size:=Nat.lt_of_lt_of_le dU hx.size;have o3:(0:Int)<=(j:Int):=by omega
     have oZ:(j:Int)<(m:Int):=by omega
     have yQ:IntKind.i64.wrap ((j:Int)+1)=(j:Int)+1:=IntWalk.i64_in _ (by omega);clear hc hx;generalize env[j]=y at *;clear iZ;obtain⟨t2,z⟩:=y;simp only at r0 r1;obtain⟨s2,gk⟩:∃s2:ByteArray,str t2= .string s2:=⟨_,rfl⟩;rw[gk]at r0;clear gk;go_upto_region 8 with fail;have dx:=Blk.new wr 62 #[.string s2,.int .i64 z];have bq:=(Ext.refl wr).alloc (.cells #[.string s2,.int .i64 z] 62);generalize wr.alloc (.cells #[.string s2,.int .i64 z] 62)=w7 at *;generalize wr.heap.size=nb at *;obtain⟨q0,q1⟩:=dx.twoB;have ay:=J (ov.o.trans bq);clear dx bq r0 r1 al;obtain⟨dd,qI⟩:∃dd,(s2.toList == s.toList)=dd:=⟨_,rfl⟩;cases d
     ·go_wp2_with fail;go_roundw
      case rel=>exact⟨dd,j+1,by omega,rfl,by go_num,ay.o⟩
      case measure=>simp[intOf];omega
     ·go_wp2_with fail;go_roundw
      case rel=>exact⟨true,j+1,by omega,rfl,by go_num,ay.o⟩
      case measure=>simp[intOf];omega
    ·obtain rfl:j=m:=by omega
     clear hx;cases d
     ·go_wp2_with fail;go_ret;exact⟨false,rfl,ov.o⟩
     ·go_wp2_with fail;go_roundw
      case rel=>exact⟨k+1,by omega,by go_num,ov.o⟩
      case measure=>simp[intOf];omega
  ·obtain rfl:k=n:=by omega
   clear hx;go_wp2_with fail;go_ret;exact⟨true,rfl,HX.o⟩
theorem AG.kbs{B g:Nat}{w w':World}{v:Value}{l:Env}(h:AG B w v l)(hg:g<B)(hk:KB w.heap.size g w w'):AG B w' v l:=
 AU h (fun k hk2=>hk.block k (Ax h hk2) (by have:=AC h k hk2;omega))
def I1(w:World)(e:Ending)(w':World):Prop:=∃v env,e= .returned v/\AG w.heap.size w' v env/\env.length<=5/\TxE env/\Ext w w'
theorem JV{env:Env}(h:TxE env){t:Tx}{z:Int}(ht:t.length<=1000)(hz:0<=z/\z<=100000):TxE (env++[(t,z)]):=by
 intro b hb;rcases List.mem_append.1 hb with hb|hb
 ·exact h b hb
 ·rw[List.mem_singleton]at hb;subst hb;refine⟨by simp only;omega,?_⟩;have e1:IntKind.i64.min= -9223372036854775808:=by decide
  have e2:IntKind.i64.max=9223372036854775807:=by decide
  simp only[Lit.wf,e1,e2,Bool.and_eq_true,decide_eq_true_eq];omega
theorem MG(B g:Nat)(w:World)(ns:List Nd)(rv:Value)(h:GrR B g w ns rv)(v:Value)(l:List Int)(hl:De w v l)(fG:l.length<=1000000):
  Calls Tryz.prog 33 #[v,.pointer (some ⟨g,0,none⟩)] w (I1 w):=by
 have HG:=J h;have fw:=J (OX w v l hl fG);have bG:=J (fun W (hx:Ext w W) z=>Cv B g W ns rv (HG.o.keep hx) z);unfold CQ at bG;unfold I1;have hfew:=h.few;obtain⟨A0,c0,rfl,vq,vp,vo⟩:=hl.open;obtain⟨k0,f0,fA⟩:=h.blk.oneG;have xk:=J k0;obtain⟨AR,cR,e7⟩:=h.row.shape;obtain⟨n,hn⟩:∃n,n=ns.length:=⟨_,rfl⟩;have HN:=J hn;rw[<-hn]at e7 hfew;subst e7;obtain⟨bt,si⟩:∃bt,bt=w.heap.size:=⟨_,rfl⟩;rw[<-si]at fw;have Vu:=J si;clear h hl vq vp vo k0 f0 hn si fA;go_enter Tryz.func33,Tryz.ntmps33;go_wp2_with fail;refine fw.o.mono ?_
 rintro e w1 ⟨rfl,ht,hx,hs⟩;have oy:=J ht;have ah:=J hx;have iP:=J hs;clear ht hx hs fw;go_wp2_with fail;refine(HH w1).mono ?_
 rintro e w2 ⟨rfl,hb,hx⟩;have nh:Hid (Bl w2 (.slice (some ⟨w1.heap.size,0,none⟩) 5 5) DK):=J (by
  refine⟨_,_,rfl,by decide,by decide,fun _=>⟨w1.heap.size,0,rfl,hb.lt,fun j u hj=> ?_⟩⟩;rw[Nat.zero_add,hb.cell j]
  simpa using hj)
 have aq:=J (ah.o.trans hx);have eM:=J (oy.o.below (Below.mono hx (by rw[iP.o];exact Nat.le_refl _)));have hall:∀t∈DK,t.length<=5:=by decide
 have gS:=J (DE w2 _ DK nh.o (by decide) (fun t ht=>by have:=hall t ht;omega));have qp:Hid (∀t∈BQ DK,t.length<=5):=J (fun t ht=>hall t (Ce.1 ht));have Xa:Hid ((BQ DK).length<=5):=J (Hs DK);have y6:=hx.size;obtain⟨g5,fT⟩:∃g5,g5=w1.heap.size:=⟨_,rfl⟩;rw[<-fT]at gS ⊢;generalize BQ DK=S5 at *;clear hb hx hall fT nh;go_wp2_with fail;refine gS.o.mono ?_
 rintro e w3 ⟨v3,rfl,dr,ae⟩;have j7:=J dr.arr;have aj:=J (aq.o.trans ae);have kW:=J (eM.o.below (Below.mono ae (by have:=iP.o;omega)));have pe:Hid (bt+1<=w3.heap.size):=J (by have:=iP.o;have:=ae.size;omega);have eV:Hid (∃A3 c3,v3= .slice A3 S5.length c3/\(0<S5.length->∃q,A3=some ⟨q,0,none⟩/\q≠bt/\q<w3.heap.size/\∀j (hj:j<S5.length),w3.cell? ⟨q,j,none⟩=some (str S5[j]))):=J (by
  obtain⟨A,c,rfl,_,_,lx⟩:=dr;refine⟨A,c,by rw[List.length_map],fun hp=> ?_⟩;rcases lx with ⟨h1,_⟩|⟨q,cur,rfl,hq,hb,_,ht⟩
  ·have h2:S5=[]:=by simpa using h1
   rw[h2]at hp;simp at hp
  ·refine⟨q,rfl,?_,hb.lt,fun j hj=> ?_⟩
   ·have h1:=iP.o;have h2:=aq.o.size;have h3:=y6;omega
   ·rw[hb.cell j];have h1:(S5.map str)[j]? =some (str S5[j]):=by rw[List.getElem?_map,List.getElem?_eq_getElem hj];rfl
    rw[<-ht,List.getElem?_take,if_pos (by rw[List.length_map];exact hj),Array.getElem?_toList]at h1;exact h1)
 obtain⟨A3,c3,rfl,pv⟩:=eV.o;obtain⟨m5,zp⟩:∃m5,m5=S5.length:=⟨_,rfl⟩;have qd:=J zp;rw[<-zp]at Xa ⊢;have i3:=J pv;have Yw:=Xa.o;clear dr ae zp pv gS oy eM ah aq eV j7;go_wp2_with fail;go_loopw [6,7,8,9,10,16] (fun s6 _ _ _ _ s16 wr=>∃(i a:Nat) (env:Env),i<=m5/\s16= .int .i64 (i:Int)/\BI (bt+1) bt wr (.slice A0 l.length c0) l a/\AG w3.heap.size wr s6 env/\env.length<=i/\TxE env/\KB w3.heap.size bt w3 wr) (fun _ _ _ _ _ s16 _=>m5-(intOf s16).toNat)
 case atStart=>exact⟨0,0,[],Nat.zero_le _,rfl,kW.o,AG.nil _ _,Nat.le_refl _,(fun b hb=>by cases hb),KB.refl _ _ _⟩
 case round=>
  clear kW;obtain⟨i,a,env,hi,rfl,ht,ho,YS,cd,mj⟩:=hrel;have HT:=J ht;have HO:=J ho;have eD:=J cd;have iI:=J mj;have HX:=J (mj.to_ext aj.o aj.o.size (by rw[Vu.o];exact Nat.le_refl _));obtain⟨A6,c6,rfl⟩:=ho.shape;have bU:=mj.size;obtain⟨me,hme⟩:∃me,me=env.length:=⟨_,rfl⟩;have dB:=J hme;rw[<-hme]at HO YS ⊢;clear ht ho cd hme;by_cases hlt:i<m5
  ·have zB:i<S5.length:=by rw[<-qd.o];exact hlt
   obtain⟨q,rfl,Yd,VX,hqc⟩:=i3.o (by rw[<-qd.o];omega);have p0:wr.cell? ⟨q,i,none⟩=some (str S5[i]):=(World.cell?_of_block (a:=⟨q,i,none⟩) (mj.block q VX Yd)).trans (hqc i zB);have mZ:=J (qp.o _ (List.getElem_mem zB));have gA:(0:Int)<=(i:Int):=by omega
   have hil:(i:Int)<(m5:Int):=by omega
   have lr:IntKind.i64.wrap ((i:Int)+1)=(i:Int)+1:=IntWalk.i64_in _ (by omega);have Ya:q<wr.heap.size:=Nat.lt_of_lt_of_le VX bU;have k0:=HX.o.keep xk.o;clear hqc mj;generalize S5[i]=t at *;clear zB;obtain⟨s,hs⟩:∃s:ByteArray,str t= .string s:=⟨_,rfl⟩;rw[hs]at p0;have i2:=J hs;clear hs;by_cases hn0:n=0
   ·subst hn0;go_wp2_with fail;go_roundw
    case rel=>exact⟨i+1,a,env,by omega,by go_num,HT.o,HO.o,by have:=dB.o;omega,eD.o,iI.o⟩
    case measure=>simp[intOf];omega
   ·have V5:((n:Int) == 0)=false:=by rw[beq_eq_false_iff_ne];omega
    have uW:(n == 0)=false:=by rw[beq_eq_false_iff_ne];omega
    have ef:=J (DU (bt+1) bt wr (.slice A0 l.length c0) l a 5 HT.o (by decide) (by decide));generalize Cd l a 5=v5 at *;generalize CT l a=a1 at *;by_cases h4:v5=4
    ·have pd:(v5 == 4)=true:=by rw[h4];rfl
     clear h4;go_wp2_with fail;refine ef.o.mono ?_
     rintro e w5 ⟨rfl,pt,eK⟩;have t6:=J pt;have gT:=J (HO.o.kbs (by have:=pe.o;omega) (eK _));have en:=J (iI.o.trans (eK _));clear pt eK;go_wp2_with fail;go_roundw
     case rel=>exact⟨i+1,a1,env,by omega,by go_num,t6.o,gT.o,by have:=dB.o;omega,eD.o,en.o⟩
     case measure=>simp[intOf];omega
    ·have pd:(v5 == 4)=false:=by rw[beq_eq_false_iff_ne];exact h4
     clear h4;go_wp2_with fail;refine ef.o.mono ?_
     rintro e w5 ⟨rfl,pt,eK⟩;have t6:=J pt;have gT:=J (HO.o.kbs (by have:=pe.o;omega) (eK _));have en:=J (iI.o.trans (eK _));have bg:=J (en.o.to_ext aj.o aj.o.size (by rw[Vu.o];exact Nat.le_refl _));have k0:=bg.o.keep xk.o;have iQ:=J (DU (bt+1) bt w5 (.slice A0 l.length c0) l a1 (n:Int) pt (by omega) (by omega));have gl:=BV (l:=l) (a:=a1) (n:=(n:Int)) (by omega);generalize Cd l a1 (n:Int)=v6 at *;generalize CT l a1=a2 at *;clear pt eK ef HT HO iI HX;go_wp2_with fail;refine iQ.o.mono ?_
     rintro e w6 ⟨rfl,uG,bK⟩;have qU:=J uG;have dj:=J (gT.o.kbs (by have:=pe.o;omega) (bK _));have bT:=J (en.o.trans (bK _));have aO:=J (bT.o.to_ext aj.o aj.o.size (by rw[Vu.o];exact Nat.le_refl _));have cC:Hid (bt+1<=w6.heap.size/\w3.heap.size<=w6.heap.size):=J (by have:=pe.o;have:=bT.o.size;omega);clear uG bK iQ t6 gT en bg k0 p0 Ya bU;generalize wr=wa at *;go_wp2_with fail;go_loopw [9,10] (fun s9 s10 wr=>∃(z:Int) (j:Nat),0<=z/\z<(n:Int)/\j<=n/\s9= .int .i64 z/\s10= .int .i64 (j:Int)/\Ext w6 wr) (fun _ s10 _=>n-(intOf s10).toNat)
     case atStart=>exact⟨v6,0,gl.1,gl.2,Nat.zero_le _,rfl,rfl,Ext.refl w6⟩
     case round=>
      clear gl;obtain⟨z,j,aU,hz1,hj,rfl,rfl,qu⟩:=hrel;have ov:=J qu;have k0:=(aO.o.trans qu).keep xk.o;clear qu;by_cases hlt2:j<n
      ·have o3:(0:Int)<=(j:Int):=by omega
       have oZ:(j:Int)<(n:Int):=by omega
       have yQ:IntKind.i64.wrap ((j:Int)+1)=(j:Int)+1:=IntWalk.i64_in _ (by omega);have XN:IntKind.i64.wrap (z+(j:Int))=z+(j:Int):=IntWalk.i64_in _ (by omega);obtain⟨r,hr⟩:∃r,(z+(j:Int)).tmod (n:Int)=r:=⟨_,rfl⟩;have tL:0<=r/\r<(n:Int):=by
        rw[Int.tmod_eq_emod_of_nonneg (by omega)]at hr;rw[<-hr];exact⟨Int.emod_nonneg _ (by omega),Int.emod_lt_of_pos _ (by omega)⟩
       have tI:IntKind.i64.wrap r=r:=IntWalk.i64_in _ (by omega);have cF:=J (bG.o wr (aO.o.trans ov.o) r);go_wp2_with fail;refine cF.o.mono ?_
       rintro e w8 ⟨v8,l8,rfl,om,_,dI,bI⟩;have bV:=J (ov.o.trans bI);have yi:=J (Qb w8 v8 _ l8 env om dI ((dj.o.ext bV.o).read) (by have:=dB.o;omega));obtain⟨m8,A8,c8,rfl⟩:=om.shape;have k0:=(aO.o.trans bV.o).keep xk.o;clear om dI bI cF;go_wp2_with fail;refine yi.o.mono ?_
       rintro e w9 ⟨d,rfl,iV⟩;have dz:=J (bV.o.trans iV);have k0:=(aO.o.trans dz.o).keep xk.o;clear iV yi bV ov;cases d
       ·clear hr tL tI;go_wp2_with fail;go_roundw
        case rel=>exact⟨z,j+1,aU,hz1,by omega,rfl,by go_num,dz.o⟩
        case measure=>simp[intOf];omega
       ·go_wp2_with fail;have p7:=J (qU.o.below (Below.mono dz.o cC.o.1));have gF:=J (dj.o.ext dz.o);have xg:=J (bT.o.ext dz.o cC.o.2);have sI:Hid (w3.heap.size<=w9.heap.size):=J (Nat.le_trans cC.o.2 dz.o.size);have dk:=J (DU (bt+1) bt w9 (.slice A0 l.length c0) l a2 9 p7.o (by decide) (by decide));generalize Cd l a2 9=v9 at *;generalize CT l a2=a3 at *;have xl:Hid (0<=r/\r<=100000):=J (by omega);obtain⟨b1,aX⟩:∃b1,(v9 != 8)=b1:=⟨_,rfl⟩;obtain⟨b2,hb2⟩:∃b2,decide ((i:Int)>3)=b2:=⟨_,rfl⟩;clear qU dj bT aO cC;go_wp2_with fail;refine dk.o.mono ?_
        rintro e wz ⟨rfl,qv,jK⟩;have kE:=J qv;have j5:=J (gF.o.kbs (by have:=pe.o;omega) (jK _));have qg:=J (xg.o.trans (jK _));have fK:Hid (w3.heap.size<=wz.heap.size):=J (Nat.le_trans sI.o (jK 0).size);clear qv jK p7 gF xg sI dk;have kV:(b1=false/\b2=false)\/b1=true\/(b1=false/\b2=true):=by cases b1<;>cases b2<;>simp
        rcases kV with ⟨rfl,rfl⟩|kV
        ·go_wp2_with fail;go_roundw
         case rel=>exact⟨i+1,a3,env,by omega,by go_num,kE.o,j5.o,by have:=dB.o;omega,eD.o,qg.o⟩
         case measure=>simp[intOf];omega
        ·have bC:Hid (∀j q,(Dn [(t,r)])[j]? =some q->(wz.alloc (.cells #[.string s,.int .i64 (r)] 62)).cell? ((⟨wz.heap.size,0,none⟩:Addr).add j)=some q):=J (by
          rw[EA];unfold bdC;rw[i2.o];exact Bw wz 62 [.string s,.int .i64 (r)])
         have lN:Hid (AG w3.heap.size (wz.alloc (.cells #[.string s,.int .i64 (r)] 62)) (.slice A6 me c6) env):=J (j5.o.ext ((Ext.refl wz).alloc _));have nc:=J (JV eD.o (t:=t) (z:=r) (by have:=mZ.o;omega) xl.o);have dN:Hid (env.length+([(t,r)]:Env).length<=1000000):=J (by rw[<-dB.o,List.length_singleton];omega);have Ve:Hid ((env++[(t,r)]).length<=i+1):=J (by rw[List.length_append,List.length_singleton,<-dB.o];omega);have Vx:=J (kE.o.below (Below.alloc (Below.refl (bt+1) wz) (Nat.le_trans pe.o fK.o) (.cells #[.string s,.int .i64 (r)] 62)));have Vi:=J (qg.o.ext ((Ext.refl wz).alloc (.cells #[.string s,.int .i64 (r)] 62)) fK.o);have jx:Hid (w3.heap.size<=(wz.alloc (.cells #[.string s,.int .i64 (r)] 62)).heap.size):=J (by have:=fK.o;simp;omega);clear kE qg j5;rcases kV with rfl|⟨rfl,rfl⟩
         all_goals
          go_wp2_with (at_builtin;go_must (refine BO (B:=w3.heap.size) (xs:=env) (ys:=[(t,r)]) rfl _ _ rfl rfl lN.o ⟨wz.heap.size,0,none⟩ 1 rfl bC.o dN.o jx.o ?_;intro v' w' aA al jk));have iT:=J (And.intro aA (And.intro (Vx.o.below (Below.mono jk pe.o)) (Vi.o.below jk)));clear aA al jk;go_roundw
          case rel=>exact⟨i+1,a3,_,by omega,by go_num,iT.o.2.1,iT.o.1,Ve.o,nc.o,iT.o.2.2⟩
          case measure=>simp[intOf];omega
      ·obtain rfl:j=n:=by omega
       have p7:=J (qU.o.below (Below.mono ov.o cC.o.1));have gF:=J (dj.o.ext ov.o);have xg:=J (bT.o.ext ov.o cC.o.2);have sI:Hid (w3.heap.size<=wr.heap.size):=J (Nat.le_trans cC.o.2 ov.o.size);have dk:=J (DU (bt+1) bt wr (.slice A0 l.length c0) l a2 9 p7.o (by decide) (by decide));generalize Cd l a2 9=v9 at *;generalize CT l a2=a3 at *;have xl:Hid (0<=z/\z<=100000):=J (by omega);obtain⟨b1,aX⟩:∃b1,(v9 != 8)=b1:=⟨_,rfl⟩;obtain⟨b2,hb2⟩:∃b2,decide ((i:Int)>3)=b2:=⟨_,rfl⟩;clear qU dj bT aO cC;go_wp2_with fail;refine dk.o.mono ?_
       rintro e wz ⟨rfl,qv,jK⟩;have kE:=J qv;have j5:=J (gF.o.kbs (by have:=pe.o;omega) (jK _));have qg:=J (xg.o.trans (jK _));have fK:Hid (w3.heap.size<=wz.heap.size):=J (Nat.le_trans sI.o (jK 0).size);clear qv jK p7 gF xg sI dk;have kV:(b1=false/\b2=false)\/b1=true\/(b1=false/\b2=true):=by cases b1<;>cases b2<;>simp
       rcases kV with ⟨rfl,rfl⟩|kV
       ·go_wp2_with fail;go_roundw
        case rel=>exact⟨i+1,a3,env,by omega,by go_num,kE.o,j5.o,by have:=dB.o;omega,eD.o,qg.o⟩
        case measure=>simp[intOf];omega
       ·have bC:Hid (∀j q,(Dn [(t,z)])[j]? =some q->(wz.alloc (.cells #[.string s,.int .i64 (z)] 62)).cell? ((⟨wz.heap.size,0,none⟩:Addr).add j)=some q):=J (by
         rw[EA];unfold bdC;rw[i2.o];exact Bw wz 62 [.string s,.int .i64 (z)])
        have lN:Hid (AG w3.heap.size (wz.alloc (.cells #[.string s,.int .i64 (z)] 62)) (.slice A6 me c6) env):=J (j5.o.ext ((Ext.refl wz).alloc _));have nc:=J (JV eD.o (t:=t) (z:=z) (by have:=mZ.o;omega) xl.o);have dN:Hid (env.length+([(t,z)]:Env).length<=1000000):=J (by rw[<-dB.o,List.length_singleton];omega);have Ve:Hid ((env++[(t,z)]).length<=i+1):=J (by rw[List.length_append,List.length_singleton,<-dB.o];omega);have Vx:=J (kE.o.below (Below.alloc (Below.refl (bt+1) wz) (Nat.le_trans pe.o fK.o) (.cells #[.string s,.int .i64 (z)] 62)));have Vi:=J (qg.o.ext ((Ext.refl wz).alloc (.cells #[.string s,.int .i64 (z)] 62)) fK.o);have jx:Hid (w3.heap.size<=(wz.alloc (.cells #[.string s,.int .i64 (z)] 62)).heap.size):=J (by have:=fK.o;simp;omega);clear kE qg j5;rcases kV with rfl|⟨rfl,rfl⟩
        all_goals
         go_wp2_with (at_builtin;go_must (refine BO (B:=w3.heap.size) (xs:=env) (ys:=[(t,z)]) rfl _ _ rfl rfl lN.o ⟨wz.heap.size,0,none⟩ 1 rfl bC.o dN.o jx.o ?_;intro v' w' aA al jk));have iT:=J (And.intro aA (And.intro (Vx.o.below (Below.mono jk pe.o)) (Vi.o.below jk)));clear aA al jk;go_roundw
         case rel=>exact⟨i+1,a3,_,by omega,by go_num,iT.o.2.1,iT.o.1,Ve.o,nc.o,iT.o.2.2⟩
         case measure=>simp[intOf];omega
  ·obtain rfl:i=m5:=by omega
   have HE:Hid (AG w.heap.size wr (.slice A6 me c6) env):=J (HO.o.mono aj.o.size);clear mj;go_wp2_with fail;go_ret;exact⟨_,env,rfl,HE.o,by have:=dB.o;omega,eD.o,HX.o⟩
inductive AM (ns:List Nd) (env:Env):Nat->Ex->Prop where
 |leaf {i k:Nat} {t:Tx}:ns[i]? =some ⟨(k:Int),0,0,0,t⟩->k≠2->ES k t->AM ns env i (.leaf k t)
 |name {i n:Nat} {t:Tx} {e:Ex}:ns[i]? =some ⟨2,0,0,0,t⟩->Ao env t=(n:Int)->AM ns env n e->AM ns env i e
 |un {i j k:Nat} {n:Int} {x:Ex}:ns[i]? =some ⟨(k:Int),(j:Int),0,n,[]⟩->OI k n->AM ns env j x->AM ns env i (.un k n x)
 |bin {i j q k:Nat} {x y:Ex}:ns[i]? =some ⟨(k:Int),(j:Int),(q:Int),0,[]⟩->6<=k/\k<=9->AM ns env j x->AM ns env q y->AM ns env i (.bin k x y)
section
variable {ns:List Nd} {env:Env}
theorem ES.few{k:Nat}{t:Tx}(h:ES k t):1<=k/\k<=4:=by rcases h with ⟨h,_⟩|⟨h,_⟩|⟨h,_⟩<;>omega
theorem OI.kinds{k:Nat}{n:Int}(h:OI k n):k=5\/(10<=k/\k<=16):=h.1
theorem AM.lt{i:Nat}{e:Ex}(h:AM ns env i e):i<ns.length:=by
 cases h<;>exact(List.getElem?_eq_some_iff.1 ‹_›).1
theorem Eb{i:Nat}{x y:Nd}(h:ns[i]? =some x)(h':ns[i]? =some y):x.kind=y.kind/\x.a=y.a/\x.b=y.b/\x.n=y.n/\x.text=y.text:=by
 rw[h]at h';injection h' with h'
 subst h';exact⟨rfl,rfl,rfl,rfl,rfl⟩
theorem AM.uniq{i:Nat}{e:Ex}(h:AM ns env i e):∀{e':Ex},AM ns env i e'->e=e':=by
 induction h with
 | @leaf i k t hx hk ho=>
   intro e' h';have h1:=ho.few;cases h' with
   | @leaf _ k' t' hx' hk' ho'=>
     obtain⟨e1,_,_,_,e5⟩:=Eb hx hx';simp only at e1 e5;rw[show k=k' by omega,e5]
   | @name _ n t' _ hx' _ _=>
     obtain⟨e1,_⟩:=Eb hx hx';simp only at e1;omega
   | @un _ j k' n x hx' ho' _=>
     obtain⟨e1,_⟩:=Eb hx hx';simp only at e1;have:=ho'.kinds;omega
   | @bin _ j q k' x y hx' ho' _ _=>
     obtain⟨e1,_⟩:=Eb hx hx';simp only at e1;omega
 | @name i n t e hx hf _ ih=>
   intro e' h';cases h' with
   | @leaf _ k' t' hx' hk' ho'=>
     obtain⟨e1,_⟩:=Eb hx hx';simp only at e1;omega
   | @name _ n' t' _ hx' hf' hc'=>
     obtain⟨_,_,_,_,e5⟩:=Eb hx hx';simp only at e5;subst e5;have hn:n=n':=by omega
     subst hn;exact ih hc'
   | @un _ j k' n x hx' ho' _=>
     obtain⟨e1,_⟩:=Eb hx hx';simp only at e1;have:=ho'.kinds;omega
   | @bin _ j q k' x y hx' ho' _ _=>
     obtain⟨e1,_⟩:=Eb hx hx';simp only at e1;omega
 | @un i j k n x hx ho _ ih=>
   intro e' h';have h1:=ho.kinds;cases h' with
   | @leaf _ k' t' hx' hk' ho'=>
     obtain⟨e1,_⟩:=Eb hx hx';simp only at e1;have:=ho'.few;omega
   | @name _ n' t' _ hx' hf' hc'=>
     obtain⟨e1,_⟩:=Eb hx hx';simp only at e1;omega
   | @un _ j' k' n' x' hx' ho' hc'=>
     obtain⟨e1,e2,_,e4,_⟩:=Eb hx hx';simp only at e1 e2 e4;have hj:j=j':=by omega
     subst hj;rw[ih hc',show k=k' by omega,e4]
   | @bin _ j' q k' x' y' hx' ho' _ _=>
     obtain⟨e1,_⟩:=Eb hx hx';simp only at e1;omega
 | @bin i j q k x y hx ho _ _ ihx ihy=>
   intro e' h';cases h' with
   | @leaf _ k' t' hx' hk' ho'=>
     obtain⟨e1,_⟩:=Eb hx hx';simp only at e1;have:=ho'.few;omega
   | @name _ n' t' _ hx' hf' hc'=>
     obtain⟨e1,_⟩:=Eb hx hx';simp only at e1;omega
   | @un _ j' k' n' x' hx' ho' hc'=>
     obtain⟨e1,_⟩:=Eb hx hx';simp only at e1;have:=ho'.kinds;omega
   | @bin _ j' q' k' x' y' hx' ho' hcx hcy=>
     obtain⟨e1,e2,e3,_,_⟩:=Eb hx hx';simp only at e1 e2 e3;have hj:j=j':=by omega
     have hq:q=q':=by omega
     subst hj;subst hq;rw[ihx hcx,ihy hcy,show k=k' by omega]
theorem AM.good{i:Nat}{e:Ex}(h:AM ns env i e):e.Good:=by
 induction h with
 |leaf _ _ ho=>exact ho
 |name _ _ _ ih=>exact ih
 |un _ ho _ ih=>exact⟨ho.1,ho.2.1,ho.2.2.1,ho.2.2.2,ih⟩
 |bin _ ho _ _ ihx ihy=>exact⟨ho,ihx,ihy⟩
theorem AM.free{i:Nat}{e:Ex}(h:AM ns env i e):Cr e=[]:=by
 induction h with
 |leaf _ hk _=>rw[Cr,if_neg hk]
 |name _ _ _ ih=>exact ih
 |un _ _ _ ih=>exact ih
 |bin _ _ _ _ ihx ihy=>rw[Cr,ihx,ihy];rfl
theorem AM.pre{ms:List Nd}(hp:ns <+: ms){i:Nat}{e:Ex}(h:AM ns env i e):AM ms env i e:=by
 induction h with
 |leaf h1 h2 h3=>exact .leaf (AJ hp h1) h2 h3
 |name h1 h2 _ ih=>exact .name (AJ hp h1) h2 ih
 |un h1 h2 _ ih=>exact .un (AJ hp h1) h2 ih
 |bin h1 h2 _ _ ihx ihy=>exact .bin (AJ hp h1) h2 ihx ihy
theorem AM.rep:∀{e:Ex} {i:Nat},e.Good->Rep ns i e->Cr e=[]->AM ns env i e:=by
 intro e
 induction e with
 |leaf k t=>
  intro i hg hr hn;refine .leaf hr (fun hk=> ?_) hg;rw[Cr,if_pos hk]at hn;cases hn
 |un k n x ih=>
  rintro i hg ⟨j,hj,hx⟩ hn;exact .un hx ⟨hg.1,hg.2.1,hg.2.2.1,hg.2.2.2.1⟩ (ih hg.2.2.2.2 hj hn)
 |bin k x y ihx ihy=>
  rintro i hg ⟨j,q,hj,hq,hx⟩ hn;rw[Cr,List.append_eq_nil_iff]at hn;exact .bin hx hg.1 (ihx hg.2.1 hj hn.1) (ihy hg.2.2 hq hn.2)
open Classical in
noncomputable def Oy(env:Env)(P:Tx->Prop):Nat:=(env.filter fun b=>decide (P b.1)).length
theorem Pb{P Q:Tx->Prop}(h:∀t,P t->Q t):Oy env P<=Oy env Q:=by
 unfold Oy
 induction env with
 |nil=>exact Nat.le_refl _
 |cons b l ih=>
  by_cases hp:P b.1
  ·rw[List.filter_cons_of_pos (by simp[hp]),List.filter_cons_of_pos (by simp[h _ hp])];exact Nat.succ_le_succ ih
  ·rw[List.filter_cons_of_neg (by simp[hp])];by_cases hq:Q b.1
   ·rw[List.filter_cons_of_pos (by simp[hq])];exact Nat.le_succ_of_le ih
   ·rw[List.filter_cons_of_neg (by simp[hq])];exact ih
theorem S0{P Q:Tx->Prop}(h:∀t,P t->Q t){b:Tx × Int}(hb:b∈env)(hq:Q b.1)(hp:¬P b.1):Oy env P<Oy env Q:=by
 induction env with
 |nil=>cases hb
 |cons c l ih=>
  have hle:=Pb (env:=l) h;unfold Oy at ih hle ⊢;rcases List.mem_cons.1 hb with rfl|hb
  ·rw[List.filter_cons_of_neg (by simp[hp]),List.filter_cons_of_pos (by simp[hq]),List.length_cons];omega
  ·have h2:=ih hb;by_cases hpc:P c.1
   ·rw[List.filter_cons_of_pos (by simp[hpc]),List.filter_cons_of_pos (by simp[h _ hpc]),List.length_cons,List.length_cons];omega
   ·rw[List.filter_cons_of_neg (by simp[hpc])];by_cases hqc:Q c.1
    ·rw[List.filter_cons_of_pos (by simp[hqc]),List.length_cons];omega
    ·rw[List.filter_cons_of_neg (by simp[hqc])];exact h2
theorem AB.arg{i a:Nat}(ha:a∈B7 ns i){t:Tx}(h:AB ns a t):AB ns i t:=by
 obtain⟨j,x,hr,hx,h1,h2⟩:=h;exact⟨j,x,(Bj.here.down ha).trans hr,hx,h1,h2⟩
theorem AB.self{i:Nat}{t:Tx}(h:ns[i]? =some ⟨2,0,0,0,t⟩):AB ns i t:=⟨i,_,.here,h,rfl,rfl⟩
theorem B2.arg{i a:Nat}(ha:a∈B7 ns i){t:Tx}(h:B2 ns env a t):B2 ns env i t:=AA.mono (fun _=>AB.arg ha) h
theorem B2.bind{i n:Nat}{t:Tx}(h:ns[i]? =some ⟨2,0,0,0,t⟩)(hf:Ao env t=(n:Int)){s:Tx}(hs:B2 ns env n s):B2 ns env i s:=by
 refine AA.trans (fun u hu=> ?_) hs;refine .step (.here (AB.self h)) (by omega) ?_
 rw[hf,Int.toNat_natCast];exact hu
theorem AO.closed(hs:Aw ns)(he:AO ns env):∀i,i<ns.length->B8 ns env i->∃e,AM ns env i e:=by
 have key:∀m i,Oy env (B2 ns env i)=m->i<ns.length->B8 ns env i->∃e,AM ns env i e:=by
  intro m
  induction m using Nat.strongRecOn with
  |_ m ihm=>
   intro i
   induction i using Nat.strongRecOn with
   |_ i ihi=>
    intro hm hi hb;have uk:=List.getElem?_eq_getElem hi;have fE:∀j,j∈B7 ns i->∃x,AM ns env j x:=fun j ha=>by
     have hj:=hs.args_lt ha;have hle:=Pb (env:=env) (P:=B2 ns env j) (Q:=B2 ns env i) (fun _=>B2.arg (env:=env) ha);have Wv:B8 ns env j:=fun t ht=>hb t (B2.arg ha ht)
     rcases Nat.lt_or_eq_of_le hle with h|h
     ·exact ihm _ (by omega) j rfl (by omega) Wv
     ·exact ihi j hj (by omega) (by omega) Wv
    rcases hs.2 i _ uk with ⟨k,t,hx,ho⟩|⟨k,n,j,hx,ho,hj⟩|⟨k,j,q,hx,hk,hj,hq⟩
    ·by_cases hk2:k=2
     ·subst hk2;have au:ns[i]? =some ⟨2,0,0,0,t⟩:=uk.trans (congrArg some hx)
      have hd:B2 ns env i t:= .here (AB.self au);obtain⟨d7,hlt⟩:=he.ok.find (hb t hd);have hf:Ao env t=((Ao env t).toNat:Int):=(Int.toNat_of_nonneg (hb t hd)).symm;have h1:=S0 (env:=env) (P:=B2 ns env (Ao env t).toNat) (Q:=B2 ns env i) (fun _=>B2.bind au hf) d7 hd (he.free _ d7);obtain⟨e,h2⟩:=ihm _ (by omega) (Ao env t).toNat rfl hlt (he.bound _ d7);exact⟨e,.name au hf h2⟩
     ·exact⟨_,.leaf (uk.trans (congrArg some hx)) hk2 ho⟩
    ·have au:=uk.trans (congrArg some hx);obtain⟨x,h1⟩:=fE j (by rw[Pg au ho.1];simp);exact⟨_,.un au ho h1⟩
    ·have au:=uk.trans (congrArg some hx);obtain⟨x,h1⟩:=fE j (by rw[J3 au hk];simp);obtain⟨y,h2⟩:=fE q (by rw[J3 au hk];simp);exact⟨_,.bin au hk h1 h2⟩
 intro i hi hb;exact key _ i rfl hi hb
def Cl(ns:List Nd)(env:Env)(ms:List Nd):Prop:=ns <+: ms/\∀k,ns.length<=k->k<ms.length->∃i e,AM ns env i e/\Rep ms k e
theorem Cl.start:Cl ns env ns:=⟨List.prefix_refl _,fun k h1 h2=>by omega⟩
theorem Cl.put{ms:List Nd}(h:Cl ns env ms){i:Nat}{e:Ex}(hc:AM ns env i e){x:Nd}(hr:Rep (AN ms x).2 (AN ms x).1 e):Cl ns env (AN ms x).2:=by
 refine⟨h.1.trans (BA ms x),fun k h1 h2=> ?_⟩;rcases Nat.lt_or_ge k ms.length with hk|hk
 ·obtain⟨i,e,h3,h4⟩:=h.2 k h1 hk;exact⟨i,e,h3,h4.pre (BA ms x)⟩
 ·unfold AN at h2 hr ⊢;split at h2
  ·have h3:k<ms.length:=h2;omega
  ·rename_i hno;rw[if_neg hno]at hr ⊢;rw[List.length_append,List.length_singleton]at h2;have hk2:k=ms.length:=by omega
   subst hk2;exact⟨i,e,hc,hr⟩
theorem Cl.add{i:Nat}{e:Ex}(hc:AM ns env i e):∀{ms:List Nd},Cl ns env ms->Cl ns env (Ai ms e).2:=by
 induction hc with
 |leaf h1 h2 h3=>intro ms h;exact h.put (.leaf h1 h2 h3) (G0 _ _)
 |name _ _ _ ih=>intro ms h;exact ih h
 |un h1 h2 h3 ih=>
  intro ms h;exact(ih h).put (.un h1 h2 h3) (CE (.un _ _ _) ms)
 |bin h1 h2 h3 h4 ihx ihy=>
  intro ms h;exact(ihy (ihx h)).put (.bin h1 h2 h3 h4) (CE (.bin _ _ _) ms)
theorem Cl.len{ms:List Nd}(h:Cl ns env ms)(hn:ms.Nodup):ms.length<=2*ns.length:=by
 have hle:=h.1.length_le;have xO:∀k:Fin (ms.length-ns.length),∃i,i<ns.length/\∃e,AM ns env i e/\Rep ms (ns.length+k.1) e:=fun k=>by
  obtain⟨i,e,h1,h2⟩:=h.2 (ns.length+k.1) (by omega) (by omega);exact⟨i,h1.lt,e,h1,h2⟩
 have key:∀(n:Nat) (f:Fin n->Nat) (m:Nat),(∀k,f k<m)->(∀k k',f k=f k'->k=k')->n<=m:=by
  intro n f m h1 h2;have hl:(List.ofFn f).Nodup:=by
   rw[List.nodup_iff_pairwise_ne,List.pairwise_iff_getElem];intro i j hi hj hij;rw[List.getElem_ofFn,List.getElem_ofFn];intro e;have:=h2 _ _ e;injection this with this
   omega
  have h3:=En hl (m:=List.range m) (fun x hx=>by
   obtain⟨i,hi,rfl⟩:=List.getElem_of_mem hx;rw[List.getElem_ofFn];exact List.mem_range.2 (h1 _))
  rw[List.length_ofFn,List.length_range]at h3;exact h3
 have h3:=key (ms.length-ns.length) (fun k=>(xO k).choose) ns.length (fun k=>(xO k).choose_spec.1) (fun k k' e=>by
  obtain⟨_,e1,c1,r1⟩:=(xO k).choose_spec;obtain⟨_,e2,c2,r2⟩:=(xO k').choose_spec;rw[e]at c1;obtain rfl:=c1.uniq c2;have:=Rep.one hn r1 r2;exact Fin.ext (by omega))
 omega
def SF(f:Tx->Ex):Ex->Ex
 | .leaf k t=>if k=2 then f t else .leaf k t
 | .un k n x=> .un k n (SF f x)
 | .bin k x y=> .bin k (SF f x) (SF f y)
def TW(f:Tx->Ex):Nat->Ex->Ex
 |0,e=>e
 |m+1,e=>TW f m (SF f e)
end
end Big
end Go.Proofs.YtkoaogkknnelaaaGreatDoor
