import Derived.Carry
import Derived.Test.YtkoaogkknnelaaaGreatDoorM36
set_option linter.unusedVariables false
set_option linter.unusedSimpArgs false
set_option maxHeartbeats 8000000
set_option maxRecDepth 100000
namespace Go.Proofs.YtkoaogkknnelaaaGreatDoor
namespace Big
open Lib (hid)
open Go.RowKit
def TV(B g b:Nat)(ns:List Nd)(nv:Value)(e:Ex)(w:World)(r:Ending)(w':World):Prop:=
 ∃nv',r= .returned (.tuple #[.int .i64 ((Bg ns e).1:Int),.int .i64 0])/\KG g b nv nv' w w'/\GrP B g b w' (Bg ns e).2 nv'
theorem QB(B g b:Nat)(w:World)(ns:List Nd)(nv v:Value)(e:Ex)(h:GrP B g b w ns nv)(hv:Ec g b nv w v (Ak 0 e))(jo:e.Good)(bK:e.size<=200)(iW:e.depth<=40)(hm:Ce w)(bI:ns.length+e.size<=4096):
  Calls Tryz.prog 70 #[.pointer (some ⟨g,0,none⟩),v] w (TV B g b ns nv e w):=by
 have jv:=hid (Jd w v (Ak 0 e) hv.read (by rw[AO];omega) (Ho e jo 0) hm);rw[Hw e jo.well.1,jo.well.2,decide_eq_true ⟨bK,iW⟩]at jv;have HG:=hid h;have HV:=hid hv;have HM:=hid hm;have jK:=hid (Pm e.size (by omega));obtain⟨n,hn⟩:∃n,n=e.size:=⟨_,rfl⟩;have lF:=AO e 0;obtain⟨A1,c1,rfl,_⟩:=hv;rw[lF,<-hn]at jv HV ⊢;rw[<-hn]at jK;have HN:=hid hn;have jc:=hid lF;have du:1<=n:=by rw[hn];exact e.size_pos
 have hn2:n<=200:=by omega
 obtain⟨A,c,rfl⟩:=h.row.shape;have iw:=hid jo;have VZ:=hid bI;clear h hm hn lF jo bK iW bI;go_enter Tryz.func70,Tryz.ntmps70;go_wp2_with fail;refine jv.out.mono ?_
 rintro r w1 ⟨rfl,ag⟩;have ar:=hid ag;obtain⟨k0,k1,f0,f1,er⟩:=(HG.out.keep ag).blk.twoG;have df:=jK.out w1;clear ag;have aZ:∀i:Nat,i<n->IntKind.i64.wrap ((i:Int)+1)=(i:Int)+1:=fun i hi=>IntWalk.i64_in _ (by omega)
 have VK:=hid aZ;clear aZ;go_wp2_with fail;go_loopw [27] (fun xY wr=>∃i:Nat,i<=n/\xY= .int .i64 (i:Int)/\Gh B g b w1.heap.size ns (.slice A ns.length c) e (.slice A1 n c1) w i wr) (fun xY _=>n-(intOf xY).toNat)
 case atStart=>
  have h0:=Gh.start HG.out HV.out ar.out HM.out;rw[<-HN.out]at h0;exact⟨0,Nat.zero_le _,rfl,h0⟩
 case round=>
  obtain⟨i,hi,rfl,a5⟩:=hrel;by_cases hlt:i<n
  ·obtain⟨bL,kQ,aQ,ay,mi,m1,m2,m3,m4,nH,m5⟩:=a5;have tZ:i<e.size:=by rw[<-HN.out];exact hlt
   have hl:i<(Ak 0 e).length:=by rw[AO];exact tZ
   have mh:=FG.at HG.out.ok iw.out i (Nat.le_of_lt tZ);have az:=Hp e iw.out 0 i _ (List.getElem?_eq_getElem hl);rw[Nat.zero_add]at az;have iT:=JA mh az;have sm:=mh.big;have aF:=mh.len;have fC:=HG.out.lo;have fD:=HG.out.lt;have iF:=hid (fun nv2 w1' w2' (hx:Ext _ w1') hk hp hp0=>Gh.next (B:=B) (nv2:=nv2) (w1:=w1') (w2:=w2') iw.out HG.out.ok tZ hl kQ mi ay m1 m2 m3 m4 m5 nH hx hk (by omega) hp hp0);have bH:=hid (fun W h hm=>Sf B g b W _ bL h _ iT hm (by have:=VZ.out;omega));obtain⟨A2,c2,he2,cW⟩:=mi;obtain⟨q,o,hA,hq,p2,p3,p4,cO⟩:=cW (by omega);obtain⟨y0,y1,y2,y3,y4⟩:=cO i hl;simp only[Value.slice.injEq]at he2;obtain⟨rfl,iB,rfl⟩:=he2;clear iB;subst hA;have kA:(i:Int)<(n:Int):=by omega
   have aB:(0:Int)<=(i:Int):=by omega
   have p7:=VK.out i hlt;have HNV:=hid p4;clear cW cO iT sm p4;generalize hst:BH ([],ns) (List.take i (Ak 0 e))=st at *;clear hst;obtain⟨bJ,gs⟩:=st;simp only at aQ ay aF iF bH mh;rw[<-HN.out]at ay;have nK:∀j,j<i->(CN (bJ++List.replicate (n-i) 0))[j]? =some (.int .i64 ((bJ.getD j 0:Nat):Int)):=fun j hj=>by
    rw[F9 _ _ (by rw[List.length_append];omega),El _ _ (by omega)]
   have Xt:(CN (bJ++List.replicate (n-i) 0))[i]? =some (.int .i64 (((bJ++List.replicate (n-i) 0).getD i 0:Nat):Int)):=F9 _ _ (by rw[List.length_append,List.length_replicate];omega)
   generalize (bJ++List.replicate (n-i) 0).getD i 0=old at *;generalize CN (bJ++List.replicate (n-i) 0)=CC at *;generalize (Ak 0 e)[i]=x at *;have ek:=hid ay;have fd:=hid aQ;have lQ:=hid nK;have Wu:=hid Xt;have pe:=hid nH;have wD:=hid kQ;have i8:=hid m1;have eA:=hid m2;have mv:=hid m3;clear ay aQ nK Xt nH kQ m1 m2 m3 m5 mh;rcases az with ⟨k,t,rfl,ho⟩|⟨k,nn,j,rfl,ho,hj⟩|⟨k,j,jq,rfl,hk,hj,vh⟩
   ·have ep:(k:Int)=1\/(k:Int)=2\/(k:Int)=3\/(k:Int)=4:=by rcases ho with ⟨h,_⟩|⟨h,_⟩|⟨h,_⟩<;>omega
    have jX:BW bJ ⟨(k:Int),0,0,0,t⟩=⟨(k:Int),0,0,0,t⟩:=by
     unfold BW;rw[if_neg (by simp only;omega),if_neg (by simp only;omega)]
    rw[jX]at bH iF;have i9:=hid ep;clear ep jX ho;simp only[ndV]at bH;simp only at y0 y1 y2 y3 y4;generalize hkk:(k:Int)=kk at *;obtain⟨s,hs⟩:∃s:ByteArray,s=⟨(t:List UInt8).toArray⟩:=⟨_,rfl⟩;have hst:str t= .string s:=by rw[hs];rfl
    rw[hst]at y4 bH;clear hs hst hkk;have dw:=hid (Blk.new wr 95 #[.int .i64 kk,.int .i64 0,.int .i64 0,.int .i64 0,.string s]);have dZ:=hid ((Ext.refl wr).alloc (.cells #[.int .i64 kk,.int .i64 0,.int .i64 0,.int .i64 0,.string s] 95));obtain⟨w7,fm⟩:∃w7,w7=wr.alloc (.cells #[.int .i64 kk,.int .i64 0,.int .i64 0,.int .i64 0,.string s] 95):=⟨_,rfl⟩;rw[<-fm]at dw dZ;have q0:=dw.out.five;go_upto_region 8 with fail;rw[<-fm];clear fm y0 y1 y2 y3 y4;go_wp2_with fail;refine(Dp w7 kk 0 0 0 s i9.out).mono ?_
    rintro r w8 ⟨rfl,bD⟩;have dq:=hid (dZ.out.trans bD);have mt:=hid (dw.out.ext bD);clear q0 bD;have q0:=mt.out.five;go_wp2_with fail;refine(bH.out w8 (fd.out.keep dq.out) (pe.out.ext dq.out)).mono ?_
    rintro r eC ⟨nv2,rfl,dj,eu⟩;have hO:=((KG.of_ext dq.out).trans dj).blk ek.out i8.out eA.out mv.out;have z0:=(hO.cell i).trans Wu.out;have z1:=hO.frozen i;have ix:=hid (iF.out nv2 w8 eC dq.out dj eu (fd.out.keep dq.out));clear hO dj eu q0;generalize (Bo gs _).1=pid at *;go_wp2_with fail;go_roundw
    case rel=>exact⟨i+1,hlt,by go_num,ix.out⟩
    case measure=>simp[intOf];omega
   ·have ep:(k:Int)=5\/(k:Int)=10\/(k:Int)=11\/(k:Int)=12\/(k:Int)=13\/(k:Int)=14\/(k:Int)=15\/(k:Int)=16:=by have:=ho.1;omega
    have jX:BW bJ ⟨(k:Int),(j:Int),0,nn,[]⟩=⟨(k:Int),((bJ.getD j 0:Nat):Int),0,nn,[]⟩:=by
     unfold BW;rw[if_pos (by simp only;omega),if_neg (by simp only;omega)];rfl
    rw[jX]at bH iF;have i9:=hid ep;have tD:=hid (lQ.out j hj);have pC:(j:Int)<(n:Int):=by omega
    have tY:(0:Int)<=(j:Int):=by omega
    clear ep jX ho hj;generalize ((bJ.getD j 0:Nat):Int)=va at *;simp only[ndV]at bH;simp only at y0 y1 y2 y3 y4;generalize hkk:(k:Int)=kk at *;obtain⟨s,hs⟩:∃s:ByteArray,s=⟨([]:List UInt8).toArray⟩:=⟨_,rfl⟩;have hst:str []= .string s:=by rw[hs];rfl
    rw[hst]at y4 bH;clear hs hst hkk;have dw:=hid (Blk.new wr 95 #[.int .i64 kk,.int .i64 (j:Int),.int .i64 0,.int .i64 nn,.string s]);have dZ:=hid ((Ext.refl wr).alloc (.cells #[.int .i64 kk,.int .i64 (j:Int),.int .i64 0,.int .i64 nn,.string s] 95));obtain⟨w7,fm⟩:∃w7,w7=wr.alloc (.cells #[.int .i64 kk,.int .i64 (j:Int),.int .i64 0,.int .i64 nn,.string s] 95):=⟨_,rfl⟩;rw[<-fm]at dw dZ;have q0:=dw.out.five;go_upto_region 8 with fail;rw[<-fm];clear fm y0 y1 y2 y3 y4;go_wp2_with fail;refine(Fj w7 kk (j:Int) 0 nn s i9.out).mono ?_
    rintro r w8 ⟨x8,rfl,_,_,_,bD⟩;have dq:=hid (dZ.out.trans bD);have mt:=hid (dw.out.ext bD);clear q0 bD;have q0:=mt.out.five;have ri:w1.heap.size<wr.heap.size:=ek.out.lt;have yY:=ek.out.ext dq.out;have v0:=(yY.cell j).trans tD.out;have f1:=mt.out.frozen 1;have oD:=hid (mt.out.set_ 1 (.int .i64 va));have ei:=hid (dq.out.setCell (p:=⟨wr.heap.size,1,none⟩) (Nat.le_refl _) (.int .i64 va));have r0:=Blk.five oD.out;go_wp2_with fail;refine(bH.out (w8.setCell ⟨wr.heap.size,1,none⟩ (.int .i64 va)) (fd.out.keep ei.out) (pe.out.ext ei.out)).mono ?_
    rintro r eC ⟨nv2,rfl,dj,eu⟩;have hO:=((KG.of_ext ei.out).trans dj).blk ek.out i8.out eA.out mv.out;have z0:=(hO.cell i).trans Wu.out;have z1:=hO.frozen i;have ix:=hid (iF.out nv2 (w8.setCell ⟨wr.heap.size,1,none⟩ (.int .i64 va)) eC ei.out dj eu (fd.out.keep ei.out));clear hO dj eu q0;generalize (Bo gs _).1=pid at *;go_wp2_with fail;go_roundw
    case rel=>exact⟨i+1,hlt,by go_num,ix.out⟩
    case measure=>simp[intOf];omega
   ·have ep:(k:Int)=6\/(k:Int)=7\/(k:Int)=8\/(k:Int)=9:=by omega
    have jX:BW bJ ⟨(k:Int),(j:Int),(jq:Int),0,[]⟩=⟨(k:Int),((bJ.getD j 0:Nat):Int),((bJ.getD jq 0:Nat):Int),0,[]⟩:=by
     unfold BW;rw[if_pos (by simp only;omega),if_pos (by simp only;omega)];rfl
    rw[jX]at bH iF;have i9:=hid ep;have tD:=hid (lQ.out j hj);have Wt:=hid (lQ.out jq vh);have pC:(j:Int)<(n:Int):=by omega
    have tY:(0:Int)<=(j:Int):=by omega
    have iB:(jq:Int)<(n:Int):=by omega
    have mK:(0:Int)<=(jq:Int):=by omega
    clear ep jX hk hj vh;generalize ((bJ.getD j 0:Nat):Int)=va at *;generalize ((bJ.getD jq 0:Nat):Int)=vb at *;simp only[ndV]at bH;simp only at y0 y1 y2 y3 y4;generalize hkk:(k:Int)=kk at *;obtain⟨s,hs⟩:∃s:ByteArray,s=⟨([]:List UInt8).toArray⟩:=⟨_,rfl⟩;have hst:str []= .string s:=by rw[hs];rfl
    rw[hst]at y4 bH;clear hs hst hkk;have dw:=hid (Blk.new wr 95 #[.int .i64 kk,.int .i64 (j:Int),.int .i64 (jq:Int),.int .i64 0,.string s]);have dZ:=hid ((Ext.refl wr).alloc (.cells #[.int .i64 kk,.int .i64 (j:Int),.int .i64 (jq:Int),.int .i64 0,.string s] 95));obtain⟨w7,fm⟩:∃w7,w7=wr.alloc (.cells #[.int .i64 kk,.int .i64 (j:Int),.int .i64 (jq:Int),.int .i64 0,.string s] 95):=⟨_,rfl⟩;rw[<-fm]at dw dZ;have q0:=dw.out.five;go_upto_region 8 with fail;rw[<-fm];clear fm y0 y1 y2 y3 y4;go_wp2_with fail;refine(Gz w7 kk (j:Int) (jq:Int) 0 s i9.out).mono ?_
    rintro r w8 ⟨x8,rfl,_,_,_,_,bD⟩;have dq:=hid (dZ.out.trans bD);have mt:=hid (dw.out.ext bD);clear q0 bD;have q0:=mt.out.five;have ri:w1.heap.size<wr.heap.size:=ek.out.lt;have yY:=ek.out.ext dq.out;have v0:=(yY.cell j).trans tD.out;have f1:=mt.out.frozen 1;have oD:=hid (mt.out.set_ 1 (.int .i64 va));have ei:=hid (dq.out.setCell (p:=⟨wr.heap.size,1,none⟩) (Nat.le_refl _) (.int .i64 va));have r0:=Blk.five oD.out;have Z8:=ek.out.ext ei.out;have v1:=(Z8.cell jq).trans Wt.out;have f2:=oD.out.frozen 2;have tp:=hid (Blk.set_ oD.out 2 (.int .i64 vb));have eH:=hid (ei.out.setCell (p:=⟨wr.heap.size,2,none⟩) (Nat.le_refl _) (.int .i64 vb));have t0:=Blk.five tp.out;go_wp2_with fail;refine(bH.out ((w8.setCell ⟨wr.heap.size,1,none⟩ (.int .i64 va)).setCell ⟨wr.heap.size,2,none⟩ (.int .i64 vb)) (fd.out.keep eH.out) (pe.out.ext eH.out)).mono ?_
    rintro r eC ⟨nv2,rfl,dj,eu⟩;have hO:=((KG.of_ext eH.out).trans dj).blk ek.out i8.out eA.out mv.out;have z0:=(hO.cell i).trans Wu.out;have z1:=hO.frozen i;have ix:=hid (iF.out nv2 ((w8.setCell ⟨wr.heap.size,1,none⟩ (.int .i64 va)).setCell ⟨wr.heap.size,2,none⟩ (.int .i64 vb)) eC eH.out dj eu (fd.out.keep eH.out));clear hO dj eu q0;generalize (Bo gs _).1=pid at *;go_wp2_with fail;go_roundw
    case rel=>exact⟨i+1,hlt,by go_num,ix.out⟩
    case measure=>simp[intOf];omega
  ·obtain⟨bL,kQ,aQ,ay,mi,m1,m2,m3,m4,nH,m5⟩:=a5;obtain⟨more,lC,nS⟩:=KI e iw.out ns;have hin:i=more.length+1:=by have:=HN.out;omega
   have ZY:n=more.length+1:=by have:=HN.out;omega
   rw[List.take_of_length_le (by rw[AO];omega),nS]at aQ ay;rw[show e.size-i=0 by omega,List.replicate_zero,List.append_nil]at ay;simp only at aQ ay;have aa:=(ay.cell more.length).trans (F9 _ _ (by simp));rw[Dm _ _ rfl]at aa;have wD:=hid kQ;have fd:=hid aQ;clear kQ aQ ay mi m1 m2 m3 m4 nH m5 nS lC;subst hin;subst ZY;generalize more.length=kz at *;have hz1:IntKind.i64.wrap (((kz+1:Nat):Int)-1)=(kz:Int):=by rw[IntWalk.i64_in _ (by omega)];omega
   have ba:IntKind.i64.wrap ((kz:Int)+1-1)=(kz:Int):=by rw[IntWalk.i64_in _ (by omega)];omega
   have kx:IntKind.i64.wrap (kz:Int)=(kz:Int):=IntWalk.i64_in _ (by omega);have pm:(kz:Int)<(kz:Int)+1:=by omega
   have ye:(0:Int)<=(kz:Int):=by omega
   generalize hpid:(Bg ns e).1=pid at *;have tf:=hid hpid;clear hpid;go_wp2_with fail;go_ret2;exact⟨bL,by rw[tf.out];rfl,wD.out,fd.out⟩
theorem Sg(w:World)(hm:Ce w):
  Calls Tryz.prog 69 #[] w fun e w'=>∃g b,e= .returned (.pointer (some ⟨g,0,none⟩))/\GrP w.heap.size g b w' [] (.slice none 0 0)/\Ext w w':=by
 have rE:=fun W=> @run_makeMap Tryz.prog 78 W
 have fC:0<w.heap.size:=by
  obtain⟨m,h⟩:=hm;exact World.block_lt_of_cell? w _ h
 have ag:Ext w (w.alloc (.map #[] 0)):=(Ext.refl w).alloc _;have ae:=ag.alloc (.cells #[.slice none 0 0,.map (some w.heap.size)] 80);have HN:=hid (DO.made w);have HX:=hid ae;have HB:=hid (Blk.new (w.alloc (.map #[] 0)) 80 #[.slice none 0 0,.map (some w.heap.size)]);clear ag ae hm;go_enter Tryz.func69,Tryz.ntmps69;go_wp2_with fail;go_ret;refine⟨_,w.heap.size,rfl,⟨?_,AU.nil _ _,HN.out.kept (Below.heap_alloc _ _ _ HN.out.lt),by simp,Nat.le_refl _,AH.nil,by decide,fC⟩,HX.out⟩;have:=HB.out;simp only[World.size_alloc]at this;exact this
theorem MI(w:World)(b o n c:Nat)(l:List Nd)(hn:n=l.length)(hl:l.length<=1000000)(hc:∀j u,(C6 l)[j]? =some u->w.cell? ⟨b,o+j,none⟩=some u):
  Calls Tryz.prog 106 #[.slice (some ⟨b,o,none⟩) n c] w fun e w'=>∃v',e= .returned v'/\AU w.heap.size w' v' l/\Ext w w':=by
 obtain⟨i0,hi,aE,hz1,ba⟩:=info_parts FJ;have h:=AnyE.slices_Clone Tryz.cloneNodesIt i0 (.agg #[.int .i64 0,.int .i64 0,.int .i64 0,.int .i64 0,.string ⟨#[]⟩]) 5 48 hi aE hz1 ba rfl (by decide) (fun w=>by kernel_rfl) b o n c (C6 l) w (by rw[Ih,hn]) (by unfold maxLen;omega) (by omega) hc (fun u hu=>by
  unfold C6 at hu;obtain⟨x,_,hu⟩:=List.mem_flatMap.1 hu;simp only[ndC,List.mem_cons,List.not_mem_nil,or_false]at hu;rcases hu with rfl|rfl|rfl|rfl|rfl<;>rfl)
 refine h.mono ?_
 rintro e w' ⟨v',rfl,ho,_,hx⟩;refine⟨v',rfl,?_,hx⟩;unfold AU;rw[<-hn];exact ho
theorem AU.cells{B:Nat}{w:World}{v:Value}{l:List Nd}(h:AU B w v l):(l=[]/\v= .slice none 0 0)\/∃g c,v= .slice (some ⟨g,0,none⟩) l.length c/\∀j u,(C6 l)[j]? =some u->w.cell? ⟨g,0+j,none⟩=some u:=by
 unfold AU at h;rcases h.2 with ⟨h1,h2⟩|⟨g,cap,cur,rfl,_⟩
 ·exact .inl ⟨List.eq_nil_of_length_eq_zero h2,by rw[h1]⟩
 ·refine .inr ⟨g,cap,rfl,fun j u hj=> ?_⟩;have hl:j<(C6 l).length:=by
   rcases Nat.lt_or_ge j (C6 l).length with h|h
   ·exact h
   ·rw[List.getElem?_eq_none h]at hj;cases hj
  rw[Ih]at hl;rw[Nat.zero_add,h.cellAt j hl,hj]
theorem NX(B:Nat)(w:World)(v:Value)(l:List Nd)(h:AU B w v l)(hl:l.length<=1000000):
  Calls Tryz.prog 106 #[v] w fun e w'=>∃v',e= .returned v'/\AU w.heap.size w' v' l/\Ext w w':=by
 rcases h.cells with ⟨rfl,rfl⟩|⟨g,c,rfl,hc⟩
 ·refine(AnyE.slices_Clone_nil Tryz.cloneNodesIt 0 0 w).mono ?_
  rintro e w' ⟨rfl,rfl⟩;exact⟨_,rfl,AU.nil _ _,Ext.refl _⟩
 ·exact MI w g 0 l.length c l rfl hl hc
theorem NW(B g b:Nat)(w:World)(ns:List Nd)(nv:Value)(h:GrP B g b w ns nv):
  Calls Tryz.prog 40 #[.pointer (some ⟨g,0,none⟩)] w fun e w'=>∃v',e= .returned v'/\AU w.heap.size w' v' ns/\Ext w w':=by
 have mC:=hid (NX B w nv ns h.row (by have:=h.few;omega));have k0:=h.blk.twoG;obtain⟨A,c,rfl⟩:=h.row.shape;clear h;go_enter Tryz.func40,Tryz.ntmps40;go_wp2_with fail;refine mC.out.mono ?_
 rintro e w1 ⟨v',rfl,ho,hx⟩;have HE:=hid (And.intro ho hx);clear ho hx;go_wp2_with fail;go_ret;exact⟨v',rfl,HE.out⟩
abbrev Env:=List (Tx × Int)
def FW:Env->Tx->Int
 |[],_=> -1
 |b::l,t=>if b.1=t then b.2 else FW l t
theorem Qk{env:Env}{t:Tx}(h:FW env t≠-1):(t,FW env t)∈env:=by
 induction env with
 |nil=>exact absurd rfl h
 |cons b l ih=>
  rw[FW]at h ⊢;by_cases hb:b.1=t
  ·rw[if_pos hb];subst hb;exact List.mem_cons_self
  ·rw[if_neg hb]at h ⊢;exact List.mem_cons_of_mem _ (ih h)
def Vj(env:Env):Prop:=Asc (env.map (·.1))
inductive LC (ns:List Nd) (env:Env) (T:Tx->Prop):Tx->Prop where
 |here {t:Tx}:T t->LC ns env T t
 |step {t s:Tx}:LC ns env T t->0<=FW env t->SK ns (FW env t).toNat s->LC ns env T s
def U9(ns:List Nd)(env:Env)(i:Nat):Tx->Prop:=LC ns env (SK ns i)
def UF(ns:List Nd)(env:Env)(i:Nat):Prop:=∀t,U9 ns env i t->0<=FW env t
structure SM (ns:List Nd) (env:Env):Prop where
 few:env.length<=64
 name:∀b∈env,Ej b.1=true
 node:∀b∈env,0<=b.2/\b.2<(ns.length:Int)
 asc:Vj env
structure Vb (ns:List Nd) (env:Env):Prop where
 ok:SM ns env
 bound:∀b∈env,UF ns env b.2.toNat
 free:∀b∈env,¬U9 ns env b.2.toNat b.1
theorem SM.find{ns:List Nd}{env:Env}(h:SM ns env){t:Tx}(ht:0<=FW env t):(t,FW env t)∈env/\(FW env t).toNat<ns.length:=by
 have hm:=Qk (env:=env) (t:=t) (by omega);have:=h.node _ hm;exact⟨hm,by simp only at this;omega⟩
theorem Oa{ns ms:List Nd}(h:ns <+: ms){i:Nat}(hi:i<ns.length):CH ms i=CH ns i:=by
 unfold CH;rw[List.getElem?_eq_getElem hi,GK h (List.getElem?_eq_getElem hi)]
theorem Ua(W:World)(cb b m:Nat)(F:List Bool)(hc:Blk W cb 133 #[.slice (some ⟨b,0,none⟩) m m])(hb:Blk W b 4 (CO F))(hF:F.length=m)(hm:m<=4096)(i:Nat)(hi:i<m):
  Calls Tryz.prog 82 #[.int .i64 (i:Int),.pointer (some ⟨cb,0,none⟩)] W fun e w'=>e= .returned (.bool (F.getD i false))/\Ext W w':=by
 have hc0:=hc.cell 0;have z0:=hb.cell i;rw[Cm _ _ (by omega)]at z0;have aB:(0:Int)<=(i:Int):=by omega
 have xj:(i:Int)<(m:Int):=by omega
 have HE:=hid (Ext.refl W);clear hc hb hF;go_enter Tryz.func82,Tryz.ntmps82;go_wp2_with fail;go_ret;exact⟨rfl,HE.out⟩
theorem AU.capX{B:Nat}{w:World}{v:Value}{l:List Nd}(h:AU B w v l)(hp:0<l.length):∃g c,v= .slice (some ⟨g,0,none⟩) l.length c/\l.length<=c:=by
 unfold AU at h;rcases h.2 with ⟨_,h2⟩|⟨g,cap,cur,hv,_,_,h3,_⟩
 ·omega
 ·exact⟨g,cap,hv,h3⟩
def Cy(x:X2)(w:World)(e:Ending)(w':World):Prop:=∃v',e= .returned (.tuple #[v',.int .i64 (x.st:Int)])/\Ag 0 w' v' x.p x.q/\Ext w w'
theorem RNd.take{w:World}{A:Option Addr}{n c:Nat}{ns:List Nd}(h:RNd w (.slice A n c) ns)(i:Nat)(hi:i<=ns.length):RNd w (.slice A i c) (ns.take i):=by
 obtain⟨A',c',he,h⟩:=h;injection he with e1 e2 e3
 subst e1;have hl:(ns.take i).length=i:=by rw[List.length_take];omega
 refine⟨A,c,by rw[hl],fun hp=> ?_⟩;obtain⟨b,o,hA,hb,hc⟩:=h (by omega);refine⟨b,o,hA,hb,fun j hj=> ?_⟩;have:=hc j (by omega);rw[List.getElem_take];exact this
theorem O6{ns:List Nd}(hs:AH ns){i:Nat}(hi:i<ns.length){F:List Bool}(hF:F.length=i+1)(h:∀j,j<i+1->(F.getD j false=true↔CI ns i j)):(CK (fun j=>F.getD j false) (ns.take (i+1))).getD i X2.O=(CA ns).getD i X2.O:=by
 have hl:(ns.take (i+1)).length=i+1:=by rw[List.length_take];omega
 rw[O5 (fun j=>F.getD j false) (hs.take (i+1)) (fun j a hj ha=> ?_) i (by omega) ((h i (by omega)).2 .here)]
 ·exact O3 (by omega) (by omega)
 ·have rS:j<i+1:=by
   rcases Nat.lt_or_ge j (i+1) with h|h
   ·exact h
   ·rw[List.getD_eq_getElem?_getD,List.getElem?_eq_none (by omega)]at hj;cases hj
  have hp:ns.take (i+1) <+: ns:=List.take_prefix _ _;rw[<-Oa hp (by omega)]at ha;have kD:=hs.args_lt ha;exact(h a (by omega)).2 (((h j rS).1 hj).down ha)
theorem OV(B g b:Nat)(w:World)(ns:List Nd)(nv:Value)(h:GrP B g b w ns nv)(hm:Ce w)(i:Nat)(hi:i<ns.length):
  Calls Tryz.prog 27 #[.pointer (some ⟨g,0,none⟩),.int .i64 (i:Int)] w (Cy ((CA ns).getD i X2.O) w):=by
 have dw:=hid (fun W hx=>NW B g b W ns nv (h.keep (w':=W) hx));have HM:=hid hm;have HS:=hid h.ok;have eX:=h.few;obtain⟨n,hJ⟩:∃n,n=ns.length:=⟨_,rfl⟩;have HI:=hid hi;rw[<-hJ]at hi eX;have HN:=hid hJ;obtain⟨m,rE⟩:∃m,m=i+1:=⟨_,rfl⟩;have ue:=hid rE;have W9:IntKind.i64.wrap ((i:Int)+1)=(m:Int):=by rw[IntWalk.i64_in _ (by omega)];omega
 have hm0:(0:Int)<=(m:Int):=by omega
 have hmn:(m:Int)<=(n:Int):=by omega
 have xj:(i:Int)<(m:Int):=by omega
 have aB:(0:Int)<=(i:Int):=by omega
 generalize hX:(CA ns).getD i X2.O=X at *;have ju:=hid hX;clear h hJ hm rE hX;unfold Cy;have ak:=hid (Blk.new w 26 #[.bool false,.slice none 0 0,.slice none 0 0]);have cq:=hid ((Ext.refl w).alloc (.cells #[.bool false,.slice none 0 0,.slice none 0 0] 26));obtain⟨w1,aZ⟩:∃w1,w1=w.alloc (.cells #[.bool false,.slice none 0 0,.slice none 0 0] 26):=⟨_,rfl⟩;rw[<-aZ]at ak cq;have h0:decide ((i:Int)<0)=false:=decide_eq_false (by omega);have h1:decide ((i:Int)>=(n:Int))=false:=decide_eq_false (by omega);have h2:decide ((n:Int)<=(i:Int))=false:=decide_eq_false (by omega);have h3:decide (n<=i)=false:=decide_eq_false (by omega);go_enter Tryz.func27,Tryz.ntmps27;go_upto_region 1 with fail;rw[<-aZ];clear aZ;go_wp2_with fail;refine(dw.out w1 cq.out).mono ?_
 rintro e w2 ⟨v2,rfl,ho,hx⟩;have HX:=hid (cq.out.trans hx);have HB:=hid (ak.out.ext hx);obtain⟨g2,c2,rfl,cW⟩:=ho.capX (by have:=HI.out;omega);have HR:=hid ho.read;have gB:=hid (fun W hx=>M2 W _ ns (ho.read.ext (w':=W) hx) HS.out (by rw[<-HN.out];exact eX) i HI.out);unfold Od at gB;rw[<-ue.out]at gB;rw[<-HN.out]at gB cW HR ⊢;have hc2':(m:Int)<=(c2:Int):=by omega
 clear ho hx;go_wp2_with fail;refine(gB.out w2 (Ext.refl _)).mono ?_
 rintro e w3 ⟨bp,F,rfl,iE,vG,XR,hx⟩;have HX:=hid (HX.out.trans hx);have HB:=hid (HB.out.ext hx);have HR:=hid (HR.out.ext hx);have oP:=hid iE;have jc:=hid vG;have xO:=hid XR;clear hx iE vG XR gB;go_upto_region 5 with fail;have ik:=Blk.new w3 133 #[.slice (some ⟨bp,0,none⟩) m m];have bx:=(Ext.refl w3).alloc (.cells #[.slice (some ⟨bp,0,none⟩) m m] 133);generalize w3.alloc (.cells #[.slice (some ⟨bp,0,none⟩) m m] 133)=w7 at *;generalize w3.heap.size=cb at *;have mE:=hid ik;have HX:=hid (HX.out.trans bx);have HB:=hid (HB.out.ext bx);have oP:=hid (oP.out.ext bx);have Xh:=(HR.out.ext bx).take m (by rw[<-HN.out];omega);have mX:=hid (U2 w7 (.slice (some ⟨g2,0,none⟩) m c2) (ns.take m) Xh (HS.out.take m) (by rw[List.length_take];omega) (HM.out.ext HX.out) (fun j=>F.getD j false) (.pointer (some ⟨cb,0,none⟩)) (fun W hx j hj=>Ua W cb bp m F (mE.out.ext hx) (oP.out.ext hx) (by rw[jc.out,ue.out]) (by omega) j (by rw[List.length_take]at hj;omega)));unfold IT at mX;rw[show (ns.take m).length=m by rw[List.length_take];have:=HN.out;omega]at mX;have yz:=O6 HS.out HI.out (by rw[jc.out,ue.out]) (fun j hj=>xO.out j (by rw[ue.out];exact hj));rw[<-ue.out,ju.out]at yz;have HTP:=hid yz;clear ik bx Xh yz;go_wp2_with fail;refine mX.out.mono ?_
 rintro e w8 ⟨br,rfl,be,hx⟩;have HX:=hid (HX.out.trans hx);have HB:=hid (HB.out.ext hx);obtain⟨cs,_,_,ig⟩:=be;have ro:(CK (fun j=>F.getD j false) (ns.take m))[i]? =some X:=by
  rw[<-HTP.out,List.getD_eq_getElem?_getD,List.getElem?_eq_getElem (by rw[Ds,List.length_take];have:=HN.out;omega),Option.getD_some]
 obtain⟨⟨A5,n5,k5,A6,n6,k6,p0,p1,p2,hr⟩,p3⟩:=ig i X ro;have R8:=hid hr;clear hx ig ro hr mX;obtain⟨yf,tL⟩:∃yf,decide (X.p<0)=yf:=⟨_,rfl⟩;rw[tL]at p0 R8;obtain⟨st,hst⟩:∃st:Int,(X.st:Int)=st:=⟨_,rfl⟩;rw[hst]at p3;have bG:=hid hst;clear tL hst;go_upto_region 6 with fail;have lJ:=Blk.new w8 136 #[.bool yf,.slice A5 n5 k5,.slice A6 n6 k6,.int .i64 st];have dn:=(Ext.refl w8).alloc (.cells #[.bool yf,.slice A5 n5 k5,.slice A6 n6 k6,.int .i64 st] 136);generalize w8.alloc (.cells #[.bool yf,.slice A5 n5 k5,.slice A6 n6 k6,.int .i64 st] 136)=w9 at *;generalize w8.heap.size=rb at *;have HX:=hid (HX.out.trans dn);have HB:=hid (HB.out.ext dn);have R9:=hid (R8.out.ext dn);have u0:=lJ.fourX;have q0:=HB.out.three;clear p0 p1 p2 p3 lJ dn;go_region
 all_goals
  go_wp2_with fail;obtain⟨aj,ac,hr2⟩:=Ah HB.out (.bool yf) (.slice A5 n5 k5) (.slice A6 n6 k6);refine bodyPost_ret (v:= .tuple #[.agg #[.bool yf,.slice A5 n5 k5,.slice A6 n6 k6],.int .i64 st]) (by simp[results,Tryz.results27,go_sem,aj,ac,hr2]) rfl ?_
  exact⟨_,by rw[bG.out],(R9.out.ku (KU.three HB.out _ _ _)).ku (KU.of_ext (Ext.refl _).drew),(HX.out.three (Nat.le_refl _) _ _ _).drew⟩
theorem Og(w:World)(v:Value)(e:Ex)(h:RNd w v (Ak 0 e))(hg:e.Good)(bK:e.size<=200)(iW:e.depth<=40)(hm:Ce w):
  Calls Tryz.prog 16 #[v] w (Cy (exX e) w):=by
 have jv:=hid (fun W (hx:Ext w W)=>Jd W v (Ak 0 e) (h.ext hx) (by rw[AO];omega) (Ho e hg 0) (hm.ext hx));rw[Hw e hg.well.1,hg.well.2,decide_eq_true ⟨bK,iW⟩]at jv;have HM:=hid hm;have HV:=hid h;have HG:=hid hg;have gQ:=hid (AH.add e hg [] AH.nil);have eJ:=hid (MS e []);have jd:=hid (GU e []);have aF:=SH e [];obtain⟨A,c,rfl,_⟩:=h;unfold Cy;have ak:=hid (Blk.new w 26 #[.bool false,.slice none 0 0,.slice none 0 0]);have cq:=hid ((Ext.refl w).alloc (.cells #[.bool false,.slice none 0 0,.slice none 0 0] 26));obtain⟨w1,aZ⟩:∃w1,w1=w.alloc (.cells #[.bool false,.slice none 0 0,.slice none 0 0] 26):=⟨_,rfl⟩;rw[<-aZ]at ak cq;clear hg hm;generalize hX:exX e=X at *;have ju:=hid hX;clear hX;go_enter Tryz.func16,Tryz.ntmps16;go_upto_region 1 with fail;rw[<-aZ];clear aZ;go_wp2_with fail;refine(jv.out w1 cq.out).mono ?_
 rintro r w2 ⟨rfl,hx⟩;have HX:=hid (cq.out.trans hx);have HB:=hid (ak.out.ext hx);clear hx;go_wp2_with fail;refine(Sg w2 (HM.out.ext HX.out)).mono ?_
 rintro r w3 ⟨g,b,rfl,aQ,hx⟩;have pV:Hid (w.heap.size<w2.heap.size):=hid HB.out.lt;have fd:=hid aQ;have HF:=hid (Ec.old (nv:= .slice none 0 0) (HV.out.ext HX.out) hx aQ.lo aQ.lo2 (fun j hj=>by cases hj));have aC:=hid (HX.out.trans hx);have HB:=hid (HB.out.ext hx);clear hx aQ;go_wp2_with fail;refine(QB w2.heap.size g b w3 [] (.slice none 0 0) _ e fd.out HF.out HG.out bK iW (HM.out.ext aC.out) (by rw[List.length_nil];omega)).mono ?_
 rintro r w4 ⟨pY,rfl,ep,o8⟩;have ke:=ep.below fd.out;have HM4:=hid ((HM.out.ext aC.out).below ke fd.out.low);have bw:=hid (aC.out.more (Below.mono ke HX.out.size));have gJ:=hid (show Blk w4 w.heap.size 26 #[.bool false,.slice none 0 0,.slice none 0 0] from (ke.block _ pV.out).trans HB.out);have fZ:=hid (OV w2.heap.size g b w4 (Bg [] e).2 pY o8 HM4.out (Bg [] e).1 jd.out);rw[LN gQ.out HG.out eJ.out,ju.out]at fZ;unfold Cy at fZ;clear ke ep o8 jv aF;generalize (Bg [] e).1=id at *;go_wp2_with fail;refine fZ.out.mono ?_
 rintro r w5 ⟨v5,rfl,dV,hx⟩;have dr:=hid (bw.out.trans hx);have gI:=hid (gJ.out.ext hx);have R5:=hid dV;obtain⟨f5,g5,G5,j5,y5,Y5,z5,rfl⟩:=dV.shape;clear dV hx fZ;have q0:=gI.out.three;go_wp2_with fail;obtain⟨aj,ac,hr2⟩:=Ah gI.out (.bool f5) (.slice G5 g5 j5) (.slice Y5 y5 z5);refine bodyPost_ret (v:= .tuple #[.agg #[.bool f5,.slice G5 g5 j5,.slice Y5 y5 z5],.int .i64 (X.st:Int)]) (by simp[results,Tryz.results16,go_sem,aj,ac,hr2]) rfl ?_
 exact⟨_,rfl,R5.out.ku (KU.three gI.out _ _ _),dr.out.three (Nat.le_refl _) _ _ _⟩
end Big
end Go.Proofs.YtkoaogkknnelaaaGreatDoor
