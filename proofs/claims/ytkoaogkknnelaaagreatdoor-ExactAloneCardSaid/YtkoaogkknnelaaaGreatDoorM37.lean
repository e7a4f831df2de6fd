import Derived.Carry
import Derived.Test.YtkoaogkknnelaaaGreatDoorM36
set_option linter.unusedVariables false
set_option linter.unusedSimpArgs false
set_option maxHeartbeats 8000000
set_option maxRecDepth 100000
namespace Go.Proofs.YtkoaogkknnelaaaGreatDoor
namespace Big
open Lib (hid)
open Go.RowKit
def To(B g b:Nat)(ns:List Nd)(nv:Value)(e:Ex)(w:World)(r:Ending)(w':World):Prop:=
 ∃nv',r= .returned (.tuple #[.int .i64 ((Ba ns e).1:Int),.int .i64 0])/\KG g b nv nv' w w'/\GrP B g b w' (Ba ns e).2 nv'
theorem Qo(B g b:Nat)(w:World)(ns:List Nd)(nv v:Value)(e:Ex)(h:GrP B g b w ns nv)(hv:CD g b nv w v (Ah 0 e))(hJ:e.Good)(cB:e.size<=200)(gQ:e.depth<=40)(hm:BW w)(cn:ns.length+e.size<=4096):
  Calls Tryz.prog 70 #[.pointer (some ⟨g,0,none⟩),v] w (To B g b ns nv e w):=by
 have mN:=hid (IL w v (Ah 0 e) hv.read (by rw[AE];omega) (GT e hJ 0) hm);rw[Hc e hJ.well.1,hJ.well.2,decide_eq_true ⟨cB,gQ⟩]at mN;have HG:=hid h;have HV:=hid hv;have HM:=hid hm;have oK:=hid (O6 e.size (by omega));obtain⟨n,hn⟩:∃n,n=e.size:=⟨_,rfl⟩;have kD:=AE e 0;obtain⟨A1,c1,rfl,_⟩:=hv;rw[kD,<-hn]at mN HV ⊢;rw[<-hn]at oK;have HN:=hid hn;have ix:=hid kD;have dH:1<=n:=by rw[hn];exact e.size_pos
 have hn2:n<=200:=by omega
 obtain⟨A,c,rfl⟩:=h.row.shape;have fM:=hid hJ;have ze:=hid cn;clear h hm hn kD hJ cB gQ cn;go_enter Tryz.func70,Tryz.ntmps70;go_wp2_with fail;refine mN.out.mono ?_
 rintro r w1 ⟨rfl,aj⟩;have ar:=hid aj;obtain⟨k0,k1,f0,f1,eC⟩:=(HG.out.keep aj).blk.twoG;have cS:=oK.out w1;clear aj;have a5:∀i:Nat,i<n->IntKind.i64.wrap ((i:Int)+1)=(i:Int)+1:=fun i hi=>IntWalk.i64_in _ (by omega)
 have yQ:=hid a5;clear a5;go_wp2_with fail;go_loopw [27] (fun wv wr=>∃i:Nat,i<=n/\wv= .int .i64 (i:Int)/\F2 B g b w1.heap.size ns (.slice A ns.length c) e (.slice A1 n c1) w i wr) (fun wv _=>n-(intOf wv).toNat)
 case atStart=>
  have h0:=F2.start HG.out HV.out ar.out HM.out;rw[<-HN.out]at h0;exact⟨0,Nat.zero_le _,rfl,h0⟩
 case round=>
  obtain⟨i,hi,rfl,aX⟩:=hrel;by_cases hlt:i<n
  ·obtain⟨bC,jO,au,ao,lc,m1,m2,m3,m4,mi,m5⟩:=aX;have sj:i<e.size:=by rw[<-HN.out];exact hlt
   have hl:i<(Ah 0 e).length:=by rw[AE];exact sj
   have lb:=FG.at HG.out.ok fM.out i (Nat.le_of_lt sj);have ax:=GU e fM.out 0 i _ (List.getElem?_eq_getElem hl);rw[Nat.zero_add]at ax;have ik:=I9 lb ax;have qM:=lb.big;have aB:=lb.len;have iE:=HG.out.lo;have eR:=HG.out.lt;have fK:=hid (fun nv2 w1' w2' (hx:Ext _ w1') hk hp hp0=>F2.next (B:=B) (nv2:=nv2) (w1:=w1') (w2:=w2') fM.out HG.out.ok sj hl jO lc ao m1 m2 m3 m4 m5 mi hx hk (by omega) hp hp0);have bq:=hid (fun W h hm=>Mi B g b W _ bC h _ ik hm (by have:=ze.out;omega));obtain⟨A2,c2,he2,dK⟩:=lc;obtain⟨q,o,hA,hq,p2,p3,p4,cD⟩:=dK (by omega);obtain⟨y0,y1,y2,y3,y4⟩:=cD i hl;simp only[Value.slice.injEq]at he2;obtain⟨rfl,ii,rfl⟩:=he2;clear ii;subst hA;have i7:(i:Int)<(n:Int):=by omega
   have aQ:(0:Int)<=(i:Int):=by omega
   have nZ:=yQ.out i hlt;have HNV:=hid p4;clear dK cD ik qM p4;generalize ac:Bx ([],ns) (List.take i (Ah 0 e))=st at *;clear ac;obtain⟨bw,gs⟩:=st;simp only at au ao aB fK bq lb;rw[<-HN.out]at ao;have i9:∀j,j<i->(CG (bw++List.replicate (n-i) 0))[j]? =some (.int .i64 ((bw.getD j 0:Nat):Int)):=fun j hj=>by
    rw[FX _ _ (by rw[List.length_append];omega),D4 _ _ (by omega)]
   have Vj:(CG (bw++List.replicate (n-i) 0))[i]? =some (.int .i64 (((bw++List.replicate (n-i) 0).getD i 0:Nat):Int)):=FX _ _ (by rw[List.length_append,List.length_replicate];omega)
   generalize (bw++List.replicate (n-i) 0).getD i 0=old at *;generalize CG (bw++List.replicate (n-i) 0)=CC at *;generalize (Ah 0 e)[i]=x at *;have dR:=hid ao;have ez:=hid au;have kN:=hid i9;have zL:=hid Vj;have nQ:=hid mi;have uZ:=hid jO;have kL:=hid m1;have eg:=hid m2;have nR:=hid m3;clear ao au i9 Vj mi jO m1 m2 m3 m5 lb;rcases ax with ⟨k,t,rfl,ho⟩|⟨k,nn,j,rfl,ho,hj⟩|⟨k,j,jq,rfl,hk,hj,tU⟩
   ·have dJ:(k:Int)=1\/(k:Int)=2\/(k:Int)=3\/(k:Int)=4:=by rcases ho with ⟨h,_⟩|⟨h,_⟩|⟨h,_⟩<;>omega
    have i3:BO bw ⟨(k:Int),0,0,0,t⟩=⟨(k:Int),0,0,0,t⟩:=by
     unfold BO;rw[if_neg (by simp only;omega),if_neg (by simp only;omega)]
    rw[i3]at bq fK;have iv:=hid dJ;clear dJ i3 ho;simp only[ndV]at bq;simp only at y0 y1 y2 y3 y4;generalize hkk:(k:Int)=kk at *;obtain⟨s,hs⟩:∃s:ByteArray,s=⟨(t:List UInt8).toArray⟩:=⟨_,rfl⟩;have ac:str t= .string s:=by rw[hs];rfl
    rw[ac]at y4 bq;clear hs ac hkk;have dd:=hid (Blk.new wr 95 #[.int .i64 kk,.int .i64 0,.int .i64 0,.int .i64 0,.string s]);have cU:=hid ((Ext.refl wr).alloc (.cells #[.int .i64 kk,.int .i64 0,.int .i64 0,.int .i64 0,.string s] 95));obtain⟨w7,dN⟩:∃w7,w7=wr.alloc (.cells #[.int .i64 kk,.int .i64 0,.int .i64 0,.int .i64 0,.string s] 95):=⟨_,rfl⟩;rw[<-dN]at dd cU;have q0:=dd.out.five;go_upto_region 8 with fail;rw[<-dN];clear dN y0 y1 y2 y3 y4;go_wp2_with fail;refine(Dh w7 kk 0 0 0 s iv.out).mono ?_
    rintro r w8 ⟨rfl,cp⟩;have df:=hid (cU.out.trans cp);have mX:=hid (dd.out.ext cp);clear q0 cp;have q0:=mX.out.five;go_wp2_with fail;refine(bq.out w8 (ez.out.keep df.out) (nQ.out.ext df.out)).mono ?_
    rintro r w10 ⟨nv2,rfl,cO,dW⟩;have gp:=((KG.of_ext df.out).trans cO).blk dR.out kL.out eg.out nR.out;have z0:=(gp.cell i).trans zL.out;have z1:=gp.frozen i;have gK:=hid (fK.out nv2 w8 w10 df.out cO dW (ez.out.keep df.out));clear gp cO dW q0;generalize (Bg gs _).1=pid at *;go_wp2_with fail;go_roundw
    case rel=>exact⟨i+1,hlt,by go_num,gK.out⟩
    case measure=>simp[intOf];omega
   ·have dJ:(k:Int)=5\/(k:Int)=10\/(k:Int)=11\/(k:Int)=12\/(k:Int)=13\/(k:Int)=14\/(k:Int)=15\/(k:Int)=16:=by have:=ho.1;omega
    have i3:BO bw ⟨(k:Int),(j:Int),0,nn,[]⟩=⟨(k:Int),((bw.getD j 0:Nat):Int),0,nn,[]⟩:=by
     unfold BO;rw[if_pos (by simp only;omega),if_neg (by simp only;omega)];rfl
    rw[i3]at bq fK;have iv:=hid dJ;have rM:=hid (kN.out j hj);have ou:(j:Int)<(n:Int):=by omega
    have si:(0:Int)<=(j:Int):=by omega
    clear dJ i3 ho hj;generalize ((bw.getD j 0:Nat):Int)=va at *;simp only[ndV]at bq;simp only at y0 y1 y2 y3 y4;generalize hkk:(k:Int)=kk at *;obtain⟨s,hs⟩:∃s:ByteArray,s=⟨([]:List UInt8).toArray⟩:=⟨_,rfl⟩;have ac:str []= .string s:=by rw[hs];rfl
    rw[ac]at y4 bq;clear hs ac hkk;have dd:=hid (Blk.new wr 95 #[.int .i64 kk,.int .i64 (j:Int),.int .i64 0,.int .i64 nn,.string s]);have cU:=hid ((Ext.refl wr).alloc (.cells #[.int .i64 kk,.int .i64 (j:Int),.int .i64 0,.int .i64 nn,.string s] 95));obtain⟨w7,dN⟩:∃w7,w7=wr.alloc (.cells #[.int .i64 kk,.int .i64 (j:Int),.int .i64 0,.int .i64 nn,.string s] 95):=⟨_,rfl⟩;rw[<-dN]at dd cU;have q0:=dd.out.five;go_upto_region 8 with fail;rw[<-dN];clear dN y0 y1 y2 y3 y4;go_wp2_with fail;refine(Fa w7 kk (j:Int) 0 nn s iv.out).mono ?_
    rintro r w8 ⟨x8,rfl,_,_,_,cp⟩;have df:=hid (cU.out.trans cp);have mX:=hid (dd.out.ext cp);clear q0 cp;have q0:=mX.out.five;have sb:w1.heap.size<wr.heap.size:=dR.out.lt;have xw:=dR.out.ext df.out;have v0:=(xw.cell j).trans rM.out;have f1:=mX.out.frozen 1;have mW:=hid (mX.out.set_ 1 (.int .i64 va));have eD:=hid (df.out.setCell (p:=⟨wr.heap.size,1,none⟩) (Nat.le_refl _) (.int .i64 va));have r0:=Blk.five mW.out;go_wp2_with fail;refine(bq.out (w8.setCell ⟨wr.heap.size,1,none⟩ (.int .i64 va)) (ez.out.keep eD.out) (nQ.out.ext eD.out)).mono ?_
    rintro r w10 ⟨nv2,rfl,cO,dW⟩;have gp:=((KG.of_ext eD.out).trans cO).blk dR.out kL.out eg.out nR.out;have z0:=(gp.cell i).trans zL.out;have z1:=gp.frozen i;have gK:=hid (fK.out nv2 (w8.setCell ⟨wr.heap.size,1,none⟩ (.int .i64 va)) w10 eD.out cO dW (ez.out.keep eD.out));clear gp cO dW q0;generalize (Bg gs _).1=pid at *;go_wp2_with fail;go_roundw
    case rel=>exact⟨i+1,hlt,by go_num,gK.out⟩
    case measure=>simp[intOf];omega
   ·have dJ:(k:Int)=6\/(k:Int)=7\/(k:Int)=8\/(k:Int)=9:=by omega
    have i3:BO bw ⟨(k:Int),(j:Int),(jq:Int),0,[]⟩=⟨(k:Int),((bw.getD j 0:Nat):Int),((bw.getD jq 0:Nat):Int),0,[]⟩:=by
     unfold BO;rw[if_pos (by simp only;omega),if_pos (by simp only;omega)];rfl
    rw[i3]at bq fK;have iv:=hid dJ;have rM:=hid (kN.out j hj);have zK:=hid (kN.out jq tU);have ou:(j:Int)<(n:Int):=by omega
    have si:(0:Int)<=(j:Int):=by omega
    have ii:(jq:Int)<(n:Int):=by omega
    have oe:(0:Int)<=(jq:Int):=by omega
    clear dJ i3 hk hj tU;generalize ((bw.getD j 0:Nat):Int)=va at *;generalize ((bw.getD jq 0:Nat):Int)=vb at *;simp only[ndV]at bq;simp only at y0 y1 y2 y3 y4;generalize hkk:(k:Int)=kk at *;obtain⟨s,hs⟩:∃s:ByteArray,s=⟨([]:List UInt8).toArray⟩:=⟨_,rfl⟩;have ac:str []= .string s:=by rw[hs];rfl
    rw[ac]at y4 bq;clear hs ac hkk;have dd:=hid (Blk.new wr 95 #[.int .i64 kk,.int .i64 (j:Int),.int .i64 (jq:Int),.int .i64 0,.string s]);have cU:=hid ((Ext.refl wr).alloc (.cells #[.int .i64 kk,.int .i64 (j:Int),.int .i64 (jq:Int),.int .i64 0,.string s] 95));obtain⟨w7,dN⟩:∃w7,w7=wr.alloc (.cells #[.int .i64 kk,.int .i64 (j:Int),.int .i64 (jq:Int),.int .i64 0,.string s] 95):=⟨_,rfl⟩;rw[<-dN]at dd cU;have q0:=dd.out.five;go_upto_region 8 with fail;rw[<-dN];clear dN y0 y1 y2 y3 y4;go_wp2_with fail;refine(Ge w7 kk (j:Int) (jq:Int) 0 s iv.out).mono ?_
    rintro r w8 ⟨x8,rfl,_,_,_,_,cp⟩;have df:=hid (cU.out.trans cp);have mX:=hid (dd.out.ext cp);clear q0 cp;have q0:=mX.out.five;have sb:w1.heap.size<wr.heap.size:=dR.out.lt;have xw:=dR.out.ext df.out;have v0:=(xw.cell j).trans rM.out;have f1:=mX.out.frozen 1;have mW:=hid (mX.out.set_ 1 (.int .i64 va));have eD:=hid (df.out.setCell (p:=⟨wr.heap.size,1,none⟩) (Nat.le_refl _) (.int .i64 va));have r0:=Blk.five mW.out;have XA:=dR.out.ext eD.out;have v1:=(XA.cell jq).trans zK.out;have f2:=mW.out.frozen 2;have rB:=hid (Blk.set_ mW.out 2 (.int .i64 vb));have gF:=hid (eD.out.setCell (p:=⟨wr.heap.size,2,none⟩) (Nat.le_refl _) (.int .i64 vb));have t0:=Blk.five rB.out;go_wp2_with fail;refine(bq.out ((w8.setCell ⟨wr.heap.size,1,none⟩ (.int .i64 va)).setCell ⟨wr.heap.size,2,none⟩ (.int .i64 vb)) (ez.out.keep gF.out) (nQ.out.ext gF.out)).mono ?_
    rintro r w10 ⟨nv2,rfl,cO,dW⟩;have gp:=((KG.of_ext gF.out).trans cO).blk dR.out kL.out eg.out nR.out;have z0:=(gp.cell i).trans zL.out;have z1:=gp.frozen i;have gK:=hid (fK.out nv2 ((w8.setCell ⟨wr.heap.size,1,none⟩ (.int .i64 va)).setCell ⟨wr.heap.size,2,none⟩ (.int .i64 vb)) w10 gF.out cO dW (ez.out.keep gF.out));clear gp cO dW q0;generalize (Bg gs _).1=pid at *;go_wp2_with fail;go_roundw
    case rel=>exact⟨i+1,hlt,by go_num,gK.out⟩
    case measure=>simp[intOf];omega
  ·obtain⟨bC,jO,au,ao,lc,m1,m2,m3,m4,mi,m5⟩:=aX;obtain⟨more,kA,mw⟩:=Kh e fM.out ns;have hin:i=more.length+1:=by have:=HN.out;omega
   have Xr:n=more.length+1:=by have:=HN.out;omega
   rw[List.take_of_length_le (by rw[AE];omega),mw]at au ao;rw[show e.size-i=0 by omega,List.replicate_zero,List.append_nil]at ao;simp only at au ao;have aa:=(ao.cell more.length).trans (FX _ _ (by simp));rw[Dd _ _ rfl]at aa;have uZ:=hid jO;have ez:=hid au;clear jO au ao lc m1 m2 m3 m4 mi m5 mw kA;subst hin;subst Xr;generalize more.length=kz at *;have hz1:IntKind.i64.wrap (((kz+1:Nat):Int)-1)=(kz:Int):=by rw[IntWalk.i64_in _ (by omega)];omega
   have bx:IntKind.i64.wrap ((kz:Int)+1-1)=(kz:Int):=by rw[IntWalk.i64_in _ (by omega)];omega
   have oX:IntKind.i64.wrap (kz:Int)=(kz:Int):=IntWalk.i64_in _ (by omega);have sN:(kz:Int)<(kz:Int)+1:=by omega
   have wH:(0:Int)<=(kz:Int):=by omega
   generalize hpid:(Ba ns e).1=pid at *;have rq:=hid hpid;clear hpid;go_wp2_with fail;go_ret2;exact⟨bC,by rw[rq.out];rfl,uZ.out,ez.out⟩
theorem Mj(w:World)(hm:BW w):
  Calls Tryz.prog 69 #[] w fun e w'=>∃g b,e= .returned (.pointer (some ⟨g,0,none⟩))/\GrP w.heap.size g b w' [] (.slice none 0 0)/\Ext w w':=by
 have qo:=fun W=> @run_makeMap Tryz.prog 78 W
 have iE:0<w.heap.size:=by
  obtain⟨m,h⟩:=hm;exact World.block_lt_of_cell? w _ h
 have aj:Ext w (w.alloc (.map #[] 0)):=(Ext.refl w).alloc _;have ah:=aj.alloc (.cells #[.slice none 0 0,.map (some w.heap.size)] 80);have HN:=hid (DC.made w);have HX:=hid ah;have HB:=hid (Blk.new (w.alloc (.map #[] 0)) 80 #[.slice none 0 0,.map (some w.heap.size)]);clear aj ah hm;go_enter Tryz.func69,Tryz.ntmps69;go_wp2_with fail;go_ret;refine⟨_,w.heap.size,rfl,⟨?_,AB.nil _ _,HN.out.kept (Below.heap_alloc _ _ _ HN.out.lt),by simp,Nat.le_refl _,AC.nil,by decide,iE⟩,HX.out⟩;have:=HB.out;simp only[World.size_alloc]at this;exact this
theorem Mq(w:World)(b o n c:Nat)(l:List Nd)(hn:n=l.length)(hl:l.length<=1000000)(hc:∀j u,(Bz l)[j]? =some u->w.cell? ⟨b,o+j,none⟩=some u):
  Calls Tryz.prog 106 #[.slice (some ⟨b,o,none⟩) n c] w fun e w'=>∃v',e= .returned v'/\AB w.heap.size w' v' l/\Ext w w':=by
 obtain⟨i0,hi,aE,hz1,bx⟩:=info_parts Eo;have h:=AnyE.slices_Clone Tryz.cloneNodesIt i0 (.agg #[.int .i64 0,.int .i64 0,.int .i64 0,.int .i64 0,.string ⟨#[]⟩]) 5 48 hi aE hz1 bx rfl (by decide) (fun w=>by kernel_rfl) b o n c (Bz l) w (by rw[Hu,hn]) (by unfold maxLen;omega) (by omega) hc (fun u hu=>by
  unfold Bz at hu;obtain⟨x,_,hu⟩:=List.mem_flatMap.1 hu;simp only[ndC,List.mem_cons,List.not_mem_nil,or_false]at hu;rcases hu with rfl|rfl|rfl|rfl|rfl<;>rfl)
 refine h.mono ?_
 rintro e w' ⟨v',rfl,ho,_,hx⟩;refine⟨v',rfl,?_,hx⟩;unfold AB;rw[<-hn];exact ho
theorem AB.cells{B:Nat}{w:World}{v:Value}{l:List Nd}(h:AB B w v l):(l=[]/\v= .slice none 0 0)\/∃g c,v= .slice (some ⟨g,0,none⟩) l.length c/\∀j u,(Bz l)[j]? =some u->w.cell? ⟨g,0+j,none⟩=some u:=by
 unfold AB at h;rcases h.2 with ⟨h1,h2⟩|⟨g,cap,cur,rfl,_⟩
 ·exact .inl ⟨List.eq_nil_of_length_eq_zero h2,by rw[h1]⟩
 ·refine .inr ⟨g,cap,rfl,fun j u hj=> ?_⟩;have hl:j<(Bz l).length:=by
   rcases Nat.lt_or_ge j (Bz l).length with h|h
   ·exact h
   ·rw[List.getElem?_eq_none h]at hj;cases hj
  rw[Hu]at hl;rw[Nat.zero_add,h.cellAt j hl,hj]
theorem NI(B:Nat)(w:World)(v:Value)(l:List Nd)(h:AB B w v l)(hl:l.length<=1000000):
  Calls Tryz.prog 106 #[v] w fun e w'=>∃v',e= .returned v'/\AB w.heap.size w' v' l/\Ext w w':=by
 rcases h.cells with ⟨rfl,rfl⟩|⟨g,c,rfl,hc⟩
 ·refine(AnyE.slices_Clone_nil Tryz.cloneNodesIt 0 0 w).mono ?_
  rintro e w' ⟨rfl,rfl⟩;exact⟨_,rfl,AB.nil _ _,Ext.refl _⟩
 ·exact Mq w g 0 l.length c l rfl hl hc
theorem NH(B g b:Nat)(w:World)(ns:List Nd)(nv:Value)(h:GrP B g b w ns nv):
  Calls Tryz.prog 40 #[.pointer (some ⟨g,0,none⟩)] w fun e w'=>∃v',e= .returned v'/\AB w.heap.size w' v' ns/\Ext w w':=by
 have lC:=hid (NI B w nv ns h.row (by have:=h.few;omega));have k0:=h.blk.twoG;obtain⟨A,c,rfl⟩:=h.row.shape;clear h;go_enter Tryz.func40,Tryz.ntmps40;go_wp2_with fail;refine lC.out.mono ?_
 rintro e w1 ⟨v',rfl,ho,hx⟩;have HE:=hid (And.intro ho hx);clear ho hx;go_wp2_with fail;go_ret;exact⟨v',rfl,HE.out⟩
def Jv(ns:List Nd)(w:World)(e:Ending)(w':World):Prop:=∃g b nv,e= .returned (.tuple #[.pointer (some ⟨g,0,none⟩),.int .i64 (ns.length:Int),.int .i64 0])/\GrP w.heap.size g b w' ns nv/\Ext w w'
theorem P5(B:Nat)(w:World)(v:Value)(ns:List Nd)(h:AB B w v ns)(ax:AC ns)(ei:ns.length<=4096)(hm:BW w):
  Calls Tryz.prog 52 #[v] w (Jv ns w):=by
 have HM:=hid hm;have jA:=hid ax;have iS:=hid (Mj w hm);obtain⟨A,c,xd,my⟩:=h.read;subst xd;have lC:=hid my;unfold Jv;obtain⟨n,gO⟩:∃n,n=ns.length:=⟨_,rfl⟩;have HN:=hid gO;rw[<-gO]at ei ⊢;clear h my hm ax gO;go_enter Tryz.func52,Tryz.ntmps52;go_wp2_with fail;refine iS.out.mono ?_
 rintro e w1 ⟨g,b,rfl,hg,hx⟩;have rO:=hid hg;have ar:=hid hx;clear hg hx iS;go_wp2_with fail;go_loopw [13] (fun s13 wr=>∃i:Nat,i<=n/\s13= .int .i64 (i:Int)/\∃nv,GrP w.heap.size g b wr (ns.take i) nv/\Ext w wr) (fun s13 _=>n-(intOf s13).toNat)
 case atStart=>exact⟨0,Nat.zero_le _,rfl,_,by rw[List.take_zero];exact rO.out,ar.out⟩
 case round=>
  clear rO ar;obtain⟨i,hi,rfl,nv,hg,hx⟩:=hrel;by_cases hlt:i<n
  ·have hit:i<ns.length:=by rw[<-HN.out];exact hlt
   have ax:=jA.out.2 i _ (List.getElem?_eq_getElem hit);have hpl:=jA.out.load hit;have hlt2:(ns.take i).length=i:=by rw[List.length_take];omega
   have bq:=hid (fun W h hm=>Mi w.heap.size g b W (ns.take i) nv h ns[i] (by rw[hlt2];exact ax) hm (by omega));unfold It at bq;rw[hpl]at bq;have HG:=hid hg;have HX:=hid hx;obtain⟨gb,o,rfl,eR,hc⟩:=lC.out (by omega);obtain⟨p0,p1,p2,p3,p4⟩:=hc i hit;rw[<-hx.cell eR]at p0 p1 p2 p3 p4;have au:gb<wr.heap.size:=Nat.lt_of_lt_of_le eR hx.size;have aQ:(0:Int)<=(i:Int):=by omega
   have i7:(i:Int)<(n:Int):=by omega
   have nZ:IntKind.i64.wrap ((i:Int)+1)=(i:Int)+1:=IntWalk.i64_in _ (by omega);generalize ns[i]=x at *;clear hc ax hpl hit hlt2 hg hx;obtain⟨y0,y1,y2,y3,y4⟩:=x;simp only[ndV]at bq;simp only at p0 p1 p2 p3 p4;obtain⟨s,hs⟩:∃s:ByteArray,s=⟨(y4:List UInt8).toArray⟩:=⟨_,rfl⟩;have ac:str y4= .string s:=by rw[hs];rfl
   rw[ac]at p4 bq;clear hs ac;have dd:=hid (Blk.new wr 95 #[.int .i64 y0,.int .i64 y1,.int .i64 y2,.int .i64 y3,.string s]);have cU:=hid ((Ext.refl wr).alloc (.cells #[.int .i64 y0,.int .i64 y1,.int .i64 y2,.int .i64 y3,.string s] 95));obtain⟨w7,dN⟩:∃w7,w7=wr.alloc (.cells #[.int .i64 y0,.int .i64 y1,.int .i64 y2,.int .i64 y3,.string s] 95):=⟨_,rfl⟩;rw[<-dN]at dd cU;have q0:=dd.out.five;go_upto_region 5 with fail;rw[<-dN];clear dN p0 p1 p2 p3 p4;have iQ:=hid (HX.out.trans cU.out);go_wp2_with fail;refine(bq.out w7 (HG.out.keep cU.out) (HM.out.ext iQ.out)).mono ?_
   rintro r w8 ⟨nv2,rfl,dw,t3⟩;have wg:=hid t3;have df:=hid (iQ.out.more (dw.below (HG.out.keep cU.out)));clear dw t3 q0;go_wp2_with fail;go_roundw
   case rel=>exact⟨i+1,hlt,by go_num,nv2,wg.out,df.out⟩
   case measure=>simp[intOf];omega
  ·obtain rfl:i=n:=by omega
   have jw:GrP w.heap.size g b wr ns nv:=by
    have h:=hg;rw[HN.out,List.take_length]at h;exact h
   have HG:=hid jw;have HX:=hid hx;clear hg jw hx;go_wp2_with fail;go_ret3;exact⟨g,b,nv,rfl,HG.out,HX.out⟩
abbrev Env:=List (Tx × Int)
def FK:Env->Tx->Int
 |[],_=> -1
 |b::l,t=>if b.1=t then b.2 else FK l t
theorem Qa{env:Env}{t:Tx}(h:FK env t≠-1):(t,FK env t)∈env:=by
 induction env with
 |nil=>exact absurd rfl h
 |cons b l ih=>
  rw[FK]at h ⊢;by_cases hb:b.1=t
  ·rw[if_pos hb];subst hb;exact List.mem_cons_self
  ·rw[if_neg hb]at h ⊢;exact List.mem_cons_of_mem _ (ih h)
def Ul(env:Env):Prop:=Asc (env.map (·.1))
inductive Cd (ns:List Nd) (env:Env) (T:Tx->Prop):Tx->Prop where
 |here {t:Tx}:T t->Cd ns env T t
 |step {t s:Tx}:Cd ns env T t->0<=FK env t->Dg ns (FK env t).toNat s->Cd ns env T s
theorem Cd.mono{ns:List Nd}{env:Env}{T T':Tx->Prop}(h:∀t,T t->T' t){t:Tx}(hr:Cd ns env T t):Cd ns env T' t:=by
 induction hr with
 |here ht=>exact .here (h _ ht)
 |step _ h1 h2 ih=>exact .step ih h1 h2
theorem Cd.trans{ns:List Nd}{env:Env}{T T':Tx->Prop}(h:∀t,T t->Cd ns env T' t){t:Tx}(hr:Cd ns env T t):Cd ns env T' t:=by
 induction hr with
 |here ht=>exact h _ ht
 |step _ h1 h2 ih=>exact .step ih h1 h2
def MH(ns:List Nd)(env:Env)(i:Nat):Tx->Prop:=Cd ns env (Dg ns i)
def TY(ns:List Nd)(env:Env)(i:Nat):Prop:=∀t,MH ns env i t->0<=FK env t
structure Fp (ns:List Nd) (env:Env):Prop where
 few:env.length<=64
 name:∀b∈env,Dv b.1=true
 node:∀b∈env,0<=b.2/\b.2<(ns.length:Int)
 asc:Ul env
structure GE (ns:List Nd) (env:Env):Prop where
 ok:Fp ns env
 bound:∀b∈env,TY ns env b.2.toNat
 free:∀b∈env,¬MH ns env b.2.toNat b.1
theorem Fp.find{ns:List Nd}{env:Env}(h:Fp ns env){t:Tx}(ht:0<=FK env t):(t,FK env t)∈env/\(FK env t).toNat<ns.length:=by
 have hm:=Qa (env:=env) (t:=t) (by omega);have:=h.node _ hm;exact⟨hm,by simp only at this;omega⟩
theorem Fp.nil(ns:List Nd):Fp ns []:=⟨by simp,(fun b h=>by cases h),(fun b h=>by cases h),by simp[Ul,Asc]⟩
theorem GE.nil(ns:List Nd):GE ns []:=⟨Fp.nil ns,(fun b h=>by cases h),(fun b h=>by cases h)⟩
theorem F0{ns ms:List Nd}(h:ns <+: ms){i:Nat}(hi:i<ns.length):Cv ms i=Cv ns i:=by
 unfold Cv;rw[List.getElem?_eq_getElem hi,EJ h (List.getElem?_eq_getElem hi)]
theorem B6.pre{ns ms:List Nd}(hs:AC ns)(h:ns <+: ms){i j:Nat}(hi:i<ns.length):B6 ms i j↔B6 ns i j:=by
 constructor
 ·intro hr
  induction hr with
  |here=>exact .here
  | @down q a _ ha ih=>
    have:=ih.le hs;exact ih.down (by rw[F0 h (by omega)]at ha;exact ha)
 ·intro hr
  induction hr with
  |here=>exact .here
  | @down q a hq ha ih=>
    have:=hq.le hs;exact ih.down (by rw[F0 h (by omega)];exact ha)
theorem Dg.pre{ns ms:List Nd}(hs:AC ns)(h:ns <+: ms){i:Nat}(hi:i<ns.length)(t:Tx):Dg ms i t↔Dg ns i t:=by
 unfold Dg;constructor
 ·rintro⟨j,x,hr,hx,h1,h2⟩;have hr2:=(B6.pre hs h hi).1 hr;have:=hr2.le hs;have hj:j<ns.length:=by omega
  refine⟨j,x,hr2,?_,h1,h2⟩;rw[EJ h (List.getElem?_eq_getElem hj)]at hx;rw[List.getElem?_eq_getElem hj,hx]
 ·rintro⟨j,x,hr,hx,h1,h2⟩;exact⟨j,x,(B6.pre hs h hi).2 hr,EJ h hx,h1,h2⟩
theorem Cd.pre{ns ms:List Nd}{env:Env}(hs:AC ns)(h:ns <+: ms)(he:Fp ns env){T:Tx->Prop}(t:Tx):Cd ms env T t↔Cd ns env T t:=by
 constructor
 ·intro hr
  induction hr with
  |here ht=>exact .here ht
  |step _ h1 h2 ih=>exact .step ih h1 ((Dg.pre hs h (he.find h1).2 _).1 h2)
 ·intro hr
  induction hr with
  |here ht=>exact .here ht
  |step _ h1 h2 ih=>exact .step ih h1 ((Dg.pre hs h (he.find h1).2 _).2 h2)
theorem MH.pre{ns ms:List Nd}{env:Env}(hs:AC ns)(h:ns <+: ms)(he:Fp ns env){i:Nat}(hi:i<ns.length)(t:Tx):MH ms env i t↔MH ns env i t:=by
 unfold MH;rw[Cd.pre hs h he];exact⟨Cd.mono fun t=>(Dg.pre hs h hi t).1,Cd.mono fun t=>(Dg.pre hs h hi t).2⟩
theorem Fp.pre{ns ms:List Nd}{env:Env}(h:ns <+: ms)(he:Fp ns env):Fp ms env:=
 ⟨he.few,he.name,fun b hb=>by have:=he.node b hb;have:=h.length_le;omega,he.asc⟩
theorem GE.pre{ns ms:List Nd}{env:Env}(hs:AC ns)(h:ns <+: ms)(he:GE ns env):GE ms env:=by
 refine⟨he.ok.pre h,fun b hb t ht=> ?_,fun b hb ht=> ?_⟩
 ·have:=he.ok.node b hb;exact he.bound b hb t ((MH.pre hs h he.ok (by omega) t).1 ht)
 ·have:=he.ok.node b hb;exact he.free b hb ((MH.pre hs h he.ok (by omega) _).1 ht)
theorem PC{α:Type}[BEq α][LawfulBEq α]{l:List α}(hn:l.Nodup):∀{m:List α},(∀x∈l,x∈m)->l.length<=m.length:=by
 induction l with
 |nil=>intro m _;exact Nat.zero_le _
 |cons x l ih=>
  intro m h;rw[List.nodup_cons]at hn;have hx:x∈m:=h x (by simp);have h2:=ih hn.2 (m:=m.erase x) (fun y hy=>by
   have hne:y≠x:=fun e=>hn.1 (e ▸ hy)
   exact(List.mem_erase_of_ne hne).2 (h y (List.mem_cons_of_mem _ hy)))
  rw[List.length_erase_of_mem hx]at h2;have:0<m.length:=List.length_pos_of_mem hx;rw[List.length_cons];omega
theorem Asc.nodup{l:List Tx}(h:Asc l):l.Nodup:=List.Pairwise.imp (fun {a b} (up:a<b) e=>by subst e;exact Ft _ up) h
def KY(ns:List Nd):List Tx:=ns.map (·.text)
theorem Dg.mem{ns:List Nd}{i:Nat}{t:Tx}(h:Dg ns i t):t∈KY ns:=by
 obtain⟨j,x,_,hx,_,rfl⟩:=h;exact List.mem_map_of_mem (List.mem_of_getElem? hx)
theorem GC.len{ns:List Nd}{i:Nat}{l:List Tx}(h:GC ns i l):l.length<=ns.length:=by
 have:=PC h.1.nodup (m:=KY ns) (fun t ht=>((h.2 t).1 ht).mem);unfold KY at this;rw[List.length_map]at this;exact this
theorem Cd.mem{ns:List Nd}{env:Env}{T:Tx->Prop}{t:Tx}(h:Cd ns env T t):T t\/t∈KY ns:=by
 cases h with
 |here h=>exact .inl h
 |step _ _ h=>exact .inr h.mem
theorem Ty(W:World)(cb b m:Nat)(F:List Bool)(hc:Blk W cb 133 #[.slice (some ⟨b,0,none⟩) m m])(hb:Blk W b 4 (CH F))(hF:F.length=m)(hm:m<=4096)(i:Nat)(hi:i<m):
  Calls Tryz.prog 82 #[.int .i64 (i:Int),.pointer (some ⟨cb,0,none⟩)] W fun e w'=>e= .returned (.bool (F.getD i false))/\Ext W w':=by
 have hc0:=hc.cell 0;have z0:=hb.cell i;rw[Cc _ _ (by omega)]at z0;have aQ:(0:Int)<=(i:Int):=by omega
 have vE:(i:Int)<(m:Int):=by omega
 have HE:=hid (Ext.refl W);clear hc hb hF;go_enter Tryz.func82,Tryz.ntmps82;go_wp2_with fail;go_ret;exact⟨rfl,HE.out⟩
theorem AB.capX{B:Nat}{w:World}{v:Value}{l:List Nd}(h:AB B w v l)(hp:0<l.length):∃g c,v= .slice (some ⟨g,0,none⟩) l.length c/\l.length<=c:=by
 unfold AB at h;rcases h.2 with ⟨_,h2⟩|⟨g,cap,cur,hv,_,_,h3,_⟩
 ·omega
 ·exact⟨g,cap,hv,h3⟩
def DB(x:X2)(w:World)(e:Ending)(w':World):Prop:=∃v',e= .returned (.tuple #[v',.int .i64 (x.st:Int)])/\Aj 0 w' v' x.p x.q/\Ext w w'
theorem RNd.take{w:World}{A:Option Addr}{n c:Nat}{ns:List Nd}(h:RNd w (.slice A n c) ns)(i:Nat)(hi:i<=ns.length):RNd w (.slice A i c) (ns.take i):=by
 obtain⟨A',c',he,h⟩:=h;injection he with e1 e2 e3
 subst e1;have hl:(ns.take i).length=i:=by rw[List.length_take];omega
 refine⟨A,c,by rw[hl],fun hp=> ?_⟩;obtain⟨b,o,hA,hb,hc⟩:=h (by omega);refine⟨b,o,hA,hb,fun j hj=> ?_⟩;have:=hc j (by omega);rw[List.getElem_take];exact this
theorem OS{ns:List Nd}(hs:AC ns){i:Nat}(hi:i<ns.length){F:List Bool}(hF:F.length=i+1)(h:∀j,j<i+1->(F.getD j false=true↔B6 ns i j)):(CE (fun j=>F.getD j false) (ns.take (i+1))).getD i X2.O=(DI ns).getD i X2.O:=by
 have hl:(ns.take (i+1)).length=i+1:=by rw[List.length_take];omega
 rw[OR (fun j=>F.getD j false) (hs.take (i+1)) (fun j a hj ha=> ?_) i (by omega) ((h i (by omega)).2 .here)]
 ·exact OO (by omega) (by omega)
 ·have ot:j<i+1:=by
   rcases Nat.lt_or_ge j (i+1) with h|h
   ·exact h
   ·rw[List.getD_eq_getElem?_getD,List.getElem?_eq_none (by omega)]at hj;cases hj
  have hp:ns.take (i+1) <+: ns:=List.take_prefix _ _;rw[<-F0 hp (by omega)]at ha;have hal:=hs.args_lt ha;exact(h a (by omega)).2 (((h j ot).1 hj).down ha)
theorem JK(B g b:Nat)(w:World)(ns:List Nd)(nv:Value)(h:GrP B g b w ns nv)(hm:BW w)(i:Nat)(hi:i<ns.length):
  Calls Tryz.prog 27 #[.pointer (some ⟨g,0,none⟩),.int .i64 (i:Int)] w (DB ((DI ns).getD i X2.O) w):=by
 have dd:=hid (fun W hx=>NH B g b W ns nv (h.keep (w':=W) hx));have HM:=hid hm;have HS:=hid h.ok;have ei:=h.few;obtain⟨n,gO⟩:∃n,n=ns.length:=⟨_,rfl⟩;have HI:=hid hi;rw[<-gO]at hi ei;have HN:=hid gO;obtain⟨m,qo⟩:∃m,m=i+1:=⟨_,rfl⟩;have sF:=hid qo;have UU:IntKind.i64.wrap ((i:Int)+1)=(m:Int):=by rw[IntWalk.i64_in _ (by omega)];omega
 have XE:(0:Int)<=(m:Int):=by omega
 have hmn:(m:Int)<=(n:Int):=by omega
 have vE:(i:Int)<(m:Int):=by omega
 have aQ:(0:Int)<=(i:Int):=by omega
 generalize hX:(DI ns).getD i X2.O=X at *;have iQ:=hid hX;clear h gO hm qo hX;unfold DB;have am:=hid (Blk.new w 26 #[.bool false,.slice none 0 0,.slice none 0 0]);have cX:=hid ((Ext.refl w).alloc (.cells #[.bool false,.slice none 0 0,.slice none 0 0] 26));obtain⟨w1,a5⟩:∃w1,w1=w.alloc (.cells #[.bool false,.slice none 0 0,.slice none 0 0] 26):=⟨_,rfl⟩;rw[<-a5]at am cX;have h0:decide ((i:Int)<0)=false:=decide_eq_false (by omega);have h1:decide ((i:Int)>=(n:Int))=false:=decide_eq_false (by omega);have h2:decide ((n:Int)<=(i:Int))=false:=decide_eq_false (by omega);have h3:decide (n<=i)=false:=decide_eq_false (by omega);go_enter Tryz.func27,Tryz.ntmps27;go_upto_region 1 with fail;rw[<-a5];clear a5;go_wp2_with fail;refine(dd.out w1 cX.out).mono ?_
 rintro e w2 ⟨v2,rfl,ho,hx⟩;have HX:=hid (cX.out.trans hx);have HB:=hid (am.out.ext hx);obtain⟨g2,c2,rfl,dK⟩:=ho.capX (by have:=HI.out;omega);have HR:=hid ho.read;have iq:=hid (fun W hx=>MJ W _ ns (ho.read.ext (w':=W) hx) HS.out (by rw[<-HN.out];exact ei) i HI.out);unfold NX at iq;rw[<-sF.out]at iq;rw[<-HN.out]at iq dK HR ⊢;have X7:(m:Int)<=(c2:Int):=by omega
 clear ho hx;go_wp2_with fail;refine(iq.out w2 (Ext.refl _)).mono ?_
 rintro e w3 ⟨bp,F,rfl,gR,uu,VH,hx⟩;have HX:=hid (HX.out.trans hx);have HB:=hid (HB.out.ext hx);have HR:=hid (HR.out.ext hx);have nl:=hid gR;have ix:=hid uu;have wh:=hid VH;clear hx gR uu VH iq;go_upto_region 5 with fail;have io:=Blk.new w3 133 #[.slice (some ⟨bp,0,none⟩) m m];have ch:=(Ext.refl w3).alloc (.cells #[.slice (some ⟨bp,0,none⟩) m m] 133);generalize w3.alloc (.cells #[.slice (some ⟨bp,0,none⟩) m m] 133)=w7 at *;generalize w3.heap.size=cb at *;have oQ:=hid io;have HX:=hid (HX.out.trans ch);have HB:=hid (HB.out.ext ch);have nl:=hid (nl.out.ext ch);have U7:=(HR.out.ext ch).take m (by rw[<-HN.out];omega);have pL:=hid (Uc w7 (.slice (some ⟨g2,0,none⟩) m c2) (ns.take m) U7 (HS.out.take m) (by rw[List.length_take];omega) (HM.out.ext HX.out) (fun j=>F.getD j false) (.pointer (some ⟨cb,0,none⟩)) (fun W hx j hj=>Ty W cb bp m F (oQ.out.ext hx) (nl.out.ext hx) (by rw[ix.out,sF.out]) (by omega) j (by rw[List.length_take]at hj;omega)));unfold Iv at pL;rw[show (ns.take m).length=m by rw[List.length_take];have:=HN.out;omega]at pL;have iP:=OS HS.out HI.out (by rw[ix.out,sF.out]) (fun j hj=>wh.out j (by rw[sF.out];exact hj));rw[<-sF.out,iQ.out]at iP;have yU:=hid iP;clear io ch U7 iP;go_wp2_with fail;refine pL.out.mono ?_
 rintro e w8 ⟨br,rfl,a9,hx⟩;have HX:=hid (HX.out.trans hx);have HB:=hid (HB.out.ext hx);obtain⟨cs,_,_,fp⟩:=a9;have qb:(CE (fun j=>F.getD j false) (ns.take m))[i]? =some X:=by
  rw[<-yU.out,List.getD_eq_getElem?_getD,List.getElem?_eq_getElem (by rw[Dj,List.length_take];have:=HN.out;omega),Option.getD_some]
 obtain⟨⟨A5,n5,k5,A6,n6,k6,p0,p1,p2,hr⟩,p3⟩:=fp i X qb;have R8:=hid hr;clear hx fp qb hr pL;obtain⟨yf,rZ⟩:∃yf,decide (X.p<0)=yf:=⟨_,rfl⟩;rw[rZ]at p0 R8;obtain⟨st,ac⟩:∃st:Int,(X.st:Int)=st:=⟨_,rfl⟩;rw[ac]at p3;have bZ:=hid ac;clear rZ ac;go_upto_region 6 with fail;have sr:=Blk.new w8 136 #[.bool yf,.slice A5 n5 k5,.slice A6 n6 k6,.int .i64 st];have eG:=(Ext.refl w8).alloc (.cells #[.bool yf,.slice A5 n5 k5,.slice A6 n6 k6,.int .i64 st] 136);generalize w8.alloc (.cells #[.bool yf,.slice A5 n5 k5,.slice A6 n6 k6,.int .i64 st] 136)=w9 at *;generalize w8.heap.size=rb at *;have HX:=hid (HX.out.trans eG);have HB:=hid (HB.out.ext eG);have R9:=hid (R8.out.ext eG);have u0:=sr.fourX;have q0:=HB.out.three;clear p0 p1 p2 p3 sr eG;go_region
 all_goals
  go_wp2_with fail;obtain⟨ak,ae,hr2⟩:=Ak HB.out (.bool yf) (.slice A5 n5 k5) (.slice A6 n6 k6);refine bodyPost_ret (v:= .tuple #[.agg #[.bool yf,.slice A5 n5 k5,.slice A6 n6 k6],.int .i64 st]) (by simp[results,Tryz.results27,go_sem,ak,ae,hr2]) rfl ?_
  exact⟨_,by rw[bZ.out],(R9.out.ku (KU.three HB.out _ _ _)).ku (KU.of_ext (Ext.refl _).drew),(HX.out.three (Nat.le_refl _) _ _ _).drew⟩
theorem N2(w:World)(v:Value)(e:Ex)(h:RNd w v (Ah 0 e))(hg:e.Good)(cB:e.size<=200)(gQ:e.depth<=40)(hm:BW w):
  Calls Tryz.prog 16 #[v] w (DB (exX e) w):=by
 have mN:=hid (fun W (hx:Ext w W)=>IL W v (Ah 0 e) (h.ext hx) (by rw[AE];omega) (GT e hg 0) (hm.ext hx));rw[Hc e hg.well.1,hg.well.2,decide_eq_true ⟨cB,gQ⟩]at mN;have HM:=hid hm;have HV:=hid h;have HG:=hid hg;have km:=hid (AC.add e hg [] AC.nil);have eV:=hid (Mz e []);have iO:=hid (Gy e []);have aB:=MB e [];obtain⟨A,c,rfl,_⟩:=h;unfold DB;have am:=hid (Blk.new w 26 #[.bool false,.slice none 0 0,.slice none 0 0]);have cX:=hid ((Ext.refl w).alloc (.cells #[.bool false,.slice none 0 0,.slice none 0 0] 26));obtain⟨w1,a5⟩:∃w1,w1=w.alloc (.cells #[.bool false,.slice none 0 0,.slice none 0 0] 26):=⟨_,rfl⟩;rw[<-a5]at am cX;clear hg hm;generalize hX:exX e=X at *;have iQ:=hid hX;clear hX;go_enter Tryz.func16,Tryz.ntmps16;go_upto_region 1 with fail;rw[<-a5];clear a5;go_wp2_with fail;refine(mN.out w1 cX.out).mono ?_
 rintro r w2 ⟨rfl,hx⟩;have HX:=hid (cX.out.trans hx);have HB:=hid (am.out.ext hx);clear hx;go_wp2_with fail;refine(Mj w2 (HM.out.ext HX.out)).mono ?_
 rintro r w3 ⟨g,b,rfl,au,hx⟩;have rU:Hid (w.heap.size<w2.heap.size):=hid HB.out.lt;have ez:=hid au;have HF:=hid (CD.old (nv:= .slice none 0 0) (HV.out.ext HX.out) hx au.lo au.lo2 (fun j hj=>by cases hj));have ay:=hid (HX.out.trans hx);have HB:=hid (HB.out.ext hx);clear hx au;go_wp2_with fail;refine(Qo w2.heap.size g b w3 [] (.slice none 0 0) _ e ez.out HF.out HG.out cB gQ (HM.out.ext ay.out) (by rw[List.length_nil];omega)).mono ?_
 rintro r w4 ⟨oV,rfl,dJ,qG⟩;have jW:=dJ.below ez.out;have Zo:=hid ((HM.out.ext ay.out).below jW ez.out.low);have bu:=hid (ay.out.more (Below.mono jW HX.out.size));have fP:=hid (show Blk w4 w.heap.size 26 #[.bool false,.slice none 0 0,.slice none 0 0] from (jW.block _ rU.out).trans HB.out);have gT:=hid (JK w2.heap.size g b w4 (Ba [] e).2 oV qG Zo.out (Ba [] e).1 iO.out);rw[Ln km.out HG.out eV.out,iQ.out]at gT;unfold DB at gT;clear jW dJ qG mN aB;generalize (Ba [] e).1=id at *;go_wp2_with fail;refine gT.out.mono ?_
 rintro r w5 ⟨v5,rfl,eB,hx⟩;have cW:=hid (bu.out.trans hx);have gM:=hid (fP.out.ext hx);have R5:=hid eB;obtain⟨f5,g5,G5,j5,y5,Y5,z5,rfl⟩:=eB.shape;clear eB hx gT;have q0:=gM.out.three;go_wp2_with fail;obtain⟨ak,ae,hr2⟩:=Ak gM.out (.bool f5) (.slice G5 g5 j5) (.slice Y5 y5 z5);refine bodyPost_ret (v:= .tuple #[.agg #[.bool f5,.slice G5 g5 j5,.slice Y5 y5 z5],.int .i64 (X.st:Int)]) (by simp[results,Tryz.results16,go_sem,ak,ae,hr2]) rfl ?_
 exact⟨_,rfl,R5.out.ku (KU.three gM.out _ _ _),cW.out.three (Nat.le_refl _) _ _ _⟩
end Big
end Go.Proofs.YtkoaogkknnelaaaGreatDoor
