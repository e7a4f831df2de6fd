import Derived.Test.YtkoaogkknnelaaaGreatDoorM10
set_option linter.unusedVariables false
set_option linter.unusedSimpArgs false
set_option maxRecDepth 100000
namespace Go.Proofs.YtkoaogkknnelaaaGreatDoor
namespace Big
open Lib renaming hid → J
open Go.RowKit
def Uj(w0 wr:World)(rv:Value)(xs:List Nat)(b k r:Nat):Prop:=
 ∃qs:List Nat,k+qs.length=xs.length/\Ok qs/\val qs*b+r=val (xs.drop k)/\
  Blk wr w0.heap.size 183 (cells (List.replicate k 0++qs))/\Arr wr rv (Af r)/\Ext w0 wr
theorem FJ(w:World)(v u:Value)(xs ys:List Nat)(h:Arr w v xs)(h':Arr w u ys)(hn:xs.length<=134217728)(cC:ys.length<=134217728)(hy:0<val ys):
  Calls Tryz.prog 205 #[v,u] w fun e w'=>∃v' u',e= .returned (.tuple #[v',u',.bool true])/\Own w.heap.size w' v' (Af (val xs / val ys))/\Arr w' u' (Af (val xs % val ys))/\Ext w w':=by
 have HA:=J h;have HB:=J h';obtain⟨an,A,c,rfl,hc,hm,aa⟩:=h.open;obtain⟨dE,A',c',rfl,hc',qw,bv⟩:=h'.open;have HC:=J aa;have oB:0<ys.length:=by
  rcases qar ys.length with h0|h0
  ·have:=qau h0;subst this;simp[val]at hy
  ·exact h0
 have mM:((ys.length:Int) == 0)=false:=by rw[beq_eq_false_iff_ne];omega
 have dF:=Ef xs.length (by omega);clear h h' aa bv hm qw hc hc';go_enter Tryz.func205,Tryz.ntmps205;go_wp2_with fail;clear dF;go_loopw [8,9] (fun rv i wr=>∃k r:Nat,k<=xs.length/\r<val ys/\i= .int .i64 ((k:Int)-1)/\Uj w wr rv xs (val ys) k r) (fun _ i _=>(intOf i+1).toNat)
 case atStart=>exact⟨xs.length,0,qad _,hy,rfl,[],rfl,CT,by simp[val],by simpa [Fy] using Blk.new w 183 (zeros xs.length),Arr.none_ _,(Ext.refl w).alloc _⟩
 case round=>
  obtain⟨k,r,hk,hr,rfl,qs,hl,mJ,hv,ax,rN,ai⟩:=hrel;have HV:=J hv;clear hv;have gC:=J ax;clear ax;have HL:=J hl;clear hl;have HR:=J hr;clear hr;have HY:=J hy;clear hy;rcases qar k with h0|h0
  ·subst h0;obtain⟨jr,qt⟩:=Lt HR.o (by simpa using HV.o);have ak:qs.length=xs.length:=by simpa using HL.o
   have bP:Own w.heap.size wr (.slice (some ⟨w.heap.size,0,none⟩) xs.length xs.length) qs:=by
    have h3:=Own.block (B:=w.heap.size) mJ (by simpa using gC.o) (qad _) (by omega)
    rwa [ak]at h3
   have HT:=J (D3 _ _ _ bP.arr (by omega));rw[jr]at HT;rw[qt]at rN;clear jr qt bP ak;go_wp2_with fail;refine HT.o.mono ?_
   rintro e w' ⟨v',rfl,ho,hx⟩;go_wp2_with fail;go_ret3;exact⟨_,_,rfl,ho.mono ai.size,rN.ext hx,ai.trans hx⟩
  ·obtain⟨m,rfl⟩:∃m,k=m+1:=⟨k-1,by omega⟩;obtain⟨b,o,rfl,hb,aa⟩:=HC.o (by omega);have hx:=(ai.cell hb).trans (aa m (by omega));clear aa;have fp:=an.get m;have HS:=J (SH (k:=m) HV.o);obtain⟨x,hxe⟩:∃x,xs.getD m 0=x:=⟨_,rfl⟩;rw[hxe]at hx fp HS;clear hxe;have fO:=ai.size;have zj:=Fs dE (qaR HR.o);have fZ:=J (show [x].length+(Af r).length<=2147483648 by simp;omega);simp only[d32]at hx;go_wp2_with (at_builtin;go_must (refine Be rfl _ _ rfl rfl (Own.fresh1' _ _ x rfl fp) rfl (rN.ext ((Ext.refl _).alloc _)) fZ.o (by simp) ?_;intro v1 w1 rz hgr av));have he1:Ext wr w1:=((Ext.refl wr).alloc _).more av;have hval:val ([x]++Af r)=x+4294967296*r:=by simp[val,Ah]
   have HT:=D3 w1 v1 _ rz.arr (by simp;omega);rw[hval]at HT;have vd:=T2 HR.o fp;have zy:=Q6 HR.o fp;have Yl:=JB dE zy;have gE:=qbl (x+4294967296*r) HY.o;clear hval hgr rz;obtain⟨N,hN⟩:∃N,x+4294967296*r=N:=⟨_,rfl⟩;rw[hN]at HT HS vd zy Yl gE;clear hN;have uq:=J gE;clear gE;have dQ:=J zy;clear zy;refine HT.mono ?_
   rintro e w2 ⟨v2,rfl,bN,al⟩;have he2:=ai.trans (he1.trans al);have eW:=GS w2 v2 _ _ ys bN.arr (HB.o.ext he2) (by omega) (by omega);rw[Ah]at eW;rcases qam N (val ys) with hlt|fh
   ·have kW:¬0<=DN N (val ys):=by rw[Ge hlt];omega
    have HZ:=J (qbH hlt);have HZ2:=J (qbp hlt);have bD:=J hlt;clear hlt vd HT Yl;have eW:=J eW;generalize DN N (val ys)=cc at eW kW;go_wp2_with fail;refine eW.o.mono ?_;rintro e w3 ⟨rfl,rfl⟩
    go_wp2_with fail;go_roundw
    case rel=>
     refine⟨m,N,by omega,bD.o,rfl,0::qs,by have:=HL.o;simp;omega,DE (by omega) mJ,?_,?_,bN.arr,he2⟩
     ·have:=HS.o;rw[HZ.o,HZ2.o]at this;exact this
     ·have h1:=gC.o.ext (he1.trans al);rw[List.replicate_succ',qan]at h1;exact h1
    case measure=>simp[intOf]
   ·have kW:0<=DN N (val ys):=by unfold DN;split<;>(try split)<;>omega
    have W3:=J fh;clear fh;have eW:=J eW;generalize DN N (val ys)=cc at eW kW;go_wp2_with fail;refine eW.o.mono ?_;rintro e w3 ⟨rfl,rfl⟩
    have HF:=SD w2 v2 _ _ ys bN.arr (HB.o.ext he2) (by omega) (by omega) (by rw[Ah];exact dQ.o);rw[Ah]at HF;have rt:N-(val ys*(N / val ys)+0)=N % val ys:=by
     have:=Nat.div_add_mod N (val ys);omega
    have mW:=J rt;clear rt;have wn:(Af (val ys*(N / val ys)+0)).length<=ys.length+1:=DB dE vd (by omega);obtain⟨q,hq⟩:∃q,N / val ys=q:=⟨_,rfl⟩;rw[hq]at HF vd HS mW wn;clear hq;go_wp2_with fail;refine HF.mono ?_
    rintro e w3 ⟨rfl,ae⟩;have he3:=he2.trans ae;have qK:=gC.o.ext ((he1.trans al).trans ae);have af:=qK.cell m;have hfz:=qK.frozen m;rw[CK _ _ (by simp;omega)]at af;simp only[d32]at af;have aC:=J qK;clear qK;go_wp2_with fail;have Vs:w.heap.size<w1.heap.size:=by have:=he1.size;have:=gC.o.lt;omega
    have zm:=(bN.ext ae).far (p:=⟨w.heap.size,m,none⟩) Vs (d32 q);have gg:Ext w (w3.setCell ⟨w.heap.size,m,none⟩ (d32 q)):=he3.setCell (qad _) _;have tK:=aC.o.set_ m (d32 q);rw[CI,I6]at tK;have yi:=Fa (w3.setCell ⟨w.heap.size,m,none⟩ (d32 q)) _ ys q 0 (HB.o.ext gg) (by omega) vd (by omega);rw[show ((0:Nat):Int)=0 from rfl]at yi;have eK:=J tK;clear tK;refine yi.mono ?_
    rintro e w5 ⟨v5,rfl,eI,hx5⟩;go_wp2_with fail;have q5:=P8 w5 v2 v5 _ _ (zm.ext hx5).arr eI.arr (by omega) (by omega);rw[Ah,Ah,mW.o]at q5;refine q5.mono ?_
    rintro e w6 ⟨v6,rfl,mK,bz⟩;go_wp2_with fail;go_roundw
    case rel=>exact⟨m,N % val ys,by omega,uq.o,rfl,q::qs,by have:=HL.o;simp;omega,DE vd mJ,HS.o,(eK.o.ext hx5).ext bz,mK.arr,gg.trans (hx5.trans bz)⟩
    case measure=>simp[intOf]
theorem Mt(w:World)(v:Value)(N:Nat)(h:Arr w v (Af N))(hn:(Af N).length<=67108864):
  Calls Tryz.prog 204 #[v] w fun e w'=>e= .returned (str (dec N))/\Ext w w':=by
 have nj:=J (fun m (hm:m<=N)=>Fs (C1 N) (n:=m) (by rw[Ah];exact hm));have HN:=J hn;have HA:=J h;have dh:=J (show (low N).length<=1073741823 by
  have:=FT (C1 N);rw[Ah]at this;omega)
 clear h;go_enter Tryz.func204,Tryz.ntmps204;go_wp2_with fail
 go_loopg [0,3] N (fun g a s wr=>∃t:List UInt8,g<=N/\Arr wr a (Af g)/\s=str t/\(low N).reverse=(low g).reverse++t/\Ext w wr)
 case atStart=>exact⟨[],qad _,HA.o,rfl,by simp,Ext.refl _⟩
 case round=>
  obtain⟨t,hg,rN,rfl,fa,ai⟩:=hrel;have gP:=J fa;clear fa;have uM:=J rN;obtain⟨_,A,c,rfl,hc,hm,_⟩:=rN.open;have HM:=J hm;clear hm;rcases qar gk with h0|h0
  ·subst h0;clear hc rN;simp only[Cs,qaE,G0,List.reverse_nil,qaG]at gP ⊢;rcases t with _|⟨b,t⟩
   ·have HD:=J (show dec N=[48] by rw[Tu (List.reverse_eq_nil_iff.1 gP.o)];rfl);simp only[str];go_wp2_with fail;go_ret;exact⟨congrArg (fun l=>Ending.returned (str l)) HD.o.symm,ai⟩
   ·have HD:=J (show dec N=b::t by rw[TF N (by rintro rfl;simp[G0]at gP;exact absurd gP.o (by simp)),gP.o]);simp only[str];go_wp2_with fail;go_ret;exact⟨congrArg (fun l=>Ending.returned (str l)) HD.o.symm,ai⟩
  ·have hlp:0<(Af gk).length:=by rw[Co gk (by omega)];simp
   have gZ:=qaf (nj.o gk hg) HN.o;clear rN hc;go_wp2_with fail;have kG:=IM wr 10 (by omega);rw[show ((10:Nat):Int)=10 from rfl]at kG;refine kG.mono ?_
   rintro e w1 ⟨v1,rfl,cK,ar⟩;go_wp2_with fail;have HD:=FJ w1 _ v1 (Af gk) (Af 10) (uM.o.ext ar) cK.arr (by omega) (by decide) (by rw[Ah];omega);rw[Ah,Ah]at HD;refine HD.mono ?_
   rintro e w2 ⟨v2,v3,rfl,bN,qL,al⟩;have j5:=J bN.arr;clear bN cK;have wj:=qbl gk (show 0<10 by omega);have UV:gk / 10<gk:=by omega
   have y5:=J (QG gk (by omega) t);obtain⟨q,hq⟩:∃q,gk / 10=q:=⟨_,rfl⟩;obtain⟨r,hr⟩:∃r,gk % 10=r:=⟨_,rfl⟩;rw[hq]at j5 UV y5;rw[hr]at qL wj y5;clear hq hr;have HAR3:=J qL;have gT:t.length<=1073741824:=by
    have h1:=congrArg List.length gP.o;rw[List.length_reverse,qab]at h1;have:=dh.o;omega
   have lz:=Kf r wj t gT;obtain⟨dg,jU⟩:∃dg,UInt8.ofNat (48+r)=dg:=⟨_,rfl⟩;rw[jU]at lz y5;clear jU;obtain⟨_,A3,c3,rfl,bO,rD,aa⟩:=qL.open;have lK:=J rD;clear rD qL;rcases qar r with dN|dN
   ·subst dN;simp only[Cs,qaE];clear aa bO;simp only[qaF]at lz;go_wp2_with fail
    go_roundg q
    case measure=>omega
    case rel=>exact⟨_,by omega,j5.o,rfl,by rw[gP.o];exact y5.o,ai.trans (ar.trans al)⟩
   ·have XR:Af r=[r]:=by rw[Co r (by omega),qbp (by omega),qbH (by omega)];rfl
    rw[XR]at aa bO ⊢;obtain⟨b,o,rfl,hb,aa⟩:=aa (by simp);have hx:=aa 0 (by simp);simp only[qat,qaE,d32,List.getD_cons_zero,qbc]at hx bO ⊢;clear aa XR;go_wp2_with fail
    go_roundg q
    case measure=>omega
    case rel=>exact⟨_,by omega,j5.o,rfl,by rw[gP.o];exact y5.o,ai.trans (ar.trans al)⟩
def AF(z:Int):List UInt8:=if z<0 then 45::dec z.natAbs else dec z.natAbs
theorem Ko{n k:Nat}(hk:1<=k)(h:(low n).length<=k):(dec n).length<=k:=by
 unfold dec;split
 ·simpa using hk
 ·simpa using h
theorem Pw(N:Nat)(h:(Af N).length<=67108864):(dec N).length<=1073741823:=by
 refine Ko (by omega) ?_
 have:=FT (C1 N);rw[Ah]at this;omega
theorem Mp(w:World)(v:Value)(z:Int)(h:Cf w v z)(hn:(Af z.natAbs).length<=67108864):
  Calls Tryz.prog 165 #[v] w fun e w'=>e= .returned (str (AF z))/\Ext w w':=by
 obtain⟨m,rfl,ha⟩:=h;have hl:=Pw z.natAbs hn;have HD:=J (fun W hx=>Mt W m z.natAbs (ha.ext hx) hn);obtain⟨_,A,c,rfl,_⟩:=ha.open;clear ha;have hF:AF z=if z<0 then [45]++dec z.natAbs else dec z.natAbs:=rfl
 have HF:=J hF;clear hF;have lz:=Ap [45] (dec z.natAbs) (by simp;omega);rcases Int.lt_or_le z 0 with hz|hz
 ·rw[decide_eq_true hz];have HZ:=J (show (if z<0 then [45]++dec z.natAbs else dec z.natAbs)=[45]++dec z.natAbs from if_pos hz);clear hz;generalize dec z.natAbs=dz at *;generalize (Af z.natAbs).length=ln at *;go_enter Tryz.func165,Tryz.ntmps165;go_wp2_with fail;refine(HD.o _ ((Ext.refl w).alloc _)).mono ?_
  rintro e w1 ⟨rfl,hx⟩;simp only[str,qbt,qaG]at lz ⊢;go_wp2_with fail;go_ret;exact⟨congrArg (fun l=>Ending.returned (str l)) (HF.o.trans HZ.o).symm,((Ext.refl w).alloc _).trans hx⟩
 ·rw[decide_eq_false (by omega)];have HZ:=J (show (if z<0 then [45]++dec z.natAbs else dec z.natAbs)=dec z.natAbs from if_neg (show ¬z<0 by omega));clear hz;generalize dec z.natAbs=dz at *;generalize (Af z.natAbs).length=ln at *;go_enter Tryz.func165,Tryz.ntmps165;go_wp2_with fail;refine(HD.o _ ((Ext.refl w).alloc _)).mono ?_
  rintro e w1 ⟨rfl,hx⟩;go_wp2_with fail;go_ret;exact⟨congrArg (fun l=>Ending.returned (str l)) (HF.o.trans HZ.o).symm,((Ext.refl w).alloc _).trans hx⟩
theorem FR{n:Nat}(hn:n<=1000000):(Af n).length<=1:=by
 have h:=BW (a:=n) (b:=1000000) hn;have h2:(Af 1000000).length=1:=by decide+kernel
 omega
theorem RV(w:World)(n:Nat)(hn:n<=1000000):
  Calls Tryz.prog 119 #[.int .i64 (n:Int)] w fun e w'=>∃v',e= .returned v'/\Cf w' v' (n:Int)/\Ext w w':=by
 have HT:=J (fun W=>IM W n (by omega));have r7:=J (show sgn false n=(n:Int) by unfold sgn;simp);go_enter Tryz.func119,Tryz.ntmps119;go_wp2_with fail;refine(HT.o _).mono ?_
 rintro e w1 ⟨v1,rfl,ho,hx⟩;have i7:=J (FF w1 false v1 (Af n) ho.arr (by have:=FR hn;omega));rw[Ah,r7.o]at i7;have ah:=J (((Ext.refl w).alloc (.cells #[.bool false,.slice none 0 0] 24)).trans hx);have aA:=J ((Blk.new w 24 #[.bool false,.slice none 0 0]).ext hx);obtain⟨A1,c1,hv1,_⟩:=ho.2;rw[qag]at hv1;obtain⟨n1,dA⟩:∃n1,n1=(Af n).length:=⟨_,rfl⟩;rw[<-dA]at hv1;subst hv1;clear ho hx dA;go_wp2_with fail;refine i7.o.mono ?_
 rintro e w2 ⟨v2,rfl,hi,al⟩;have HI:=J hi;have bD:=J aA.o.lt;obtain⟨m2,hv2,cZ⟩:=hi;obtain⟨A2,c2,hv3,_⟩:=cZ.2;subst hv3;generalize (List.map d32 (Af ((n:Int)).natAbs)).length=n2 at *;generalize decide ((n:Int)<0)=bb at *;subst hv2;have am:=J (ah.o.trans al);have bF:=aA.o.ext al;have k0:=bF.two;have HB:=J bF;clear al bF cZ;go_wp2_with fail;obtain⟨dN,cB⟩:=Ec HB.o (.bool bb) (.slice A2 n2 c2);refine bodyPost_ret (v:= .agg #[.bool bb,.slice A2 n2 c2]) (by simp[results,Tryz.results119,go_sem,dN,cB]) rfl ?_
 exact⟨_,rfl,((HI.o.far (p:=⟨w.heap.size,0,none⟩) bD.o _).far (p:=⟨w.heap.size,1,none⟩) bD.o _).arr,(am.o.setCell (p:=⟨w.heap.size,0,none⟩) (qad _) _).setCell (p:=⟨w.heap.size,1,none⟩) (qad _) _⟩
theorem RW(w:World)(n:Nat)(hn:n<=1000000)(h0:1<=n):
  Calls Tryz.prog 119 #[.int .i64 (-(n:Int))] w fun e w'=>∃v',e= .returned v'/\Cf w' v' (-(n:Int))/\Ext w w':=by
 have HT:=J (fun W=>IM W n (by omega));have r7:=J (show sgn true n= -(n:Int) by unfold sgn;simp);have hz: -(n:Int)<0:=by omega
 have hw:∀x:Int,IntKind.u64.wrap x=x % 18446744073709551616:=fun x=>by simp[IntKind.wrap,IntKind.bits,IntKind.signed]
 have y8:IntKind.u64.wrap (-IntKind.u64.wrap (-(n:Int)))=(n:Int):=by rw[hw,hw];omega
 clear hw;go_enter Tryz.func119,Tryz.ntmps119;go_wp2_with fail;refine(HT.o _).mono ?_
 rintro e w1 ⟨v1,rfl,ho,hx⟩;have i7:=J (FF w1 true v1 (Af n) ho.arr (by have:=FR hn;omega));rw[Ah,r7.o]at i7;have ah:=J (((Ext.refl w).alloc (.cells #[.bool false,.slice none 0 0] 24)).trans hx);have aA:=J ((Blk.new w 24 #[.bool false,.slice none 0 0]).ext hx);obtain⟨A1,c1,hv1,_⟩:=ho.2;rw[qag]at hv1;obtain⟨n1,dA⟩:∃n1,n1=(Af n).length:=⟨_,rfl⟩;rw[<-dA]at hv1;subst hv1;clear ho hx dA;go_wp2_with fail;refine i7.o.mono ?_
 rintro e w2 ⟨v2,rfl,hi,al⟩;have HI:=J hi;have bD:=J aA.o.lt;obtain⟨m2,hv2,cZ⟩:=hi;obtain⟨A2,c2,hv3,_⟩:=cZ.2;subst hv3;generalize (List.map d32 (Af (-(n:Int)).natAbs)).length=n2 at *;generalize decide (-(n:Int)<0)=bb at *;subst hv2;have am:=J (ah.o.trans al);have bF:=aA.o.ext al;have k0:=bF.two;have HB:=J bF;clear al bF cZ;go_wp2_with fail;obtain⟨dN,cB⟩:=Ec HB.o (.bool bb) (.slice A2 n2 c2);refine bodyPost_ret (v:= .agg #[.bool bb,.slice A2 n2 c2]) (by simp[results,Tryz.results119,go_sem,dN,cB]) rfl ?_
 exact⟨_,rfl,((HI.o.far (p:=⟨w.heap.size,0,none⟩) bD.o _).far (p:=⟨w.heap.size,1,none⟩) bD.o _).arr,(am.o.setCell (p:=⟨w.heap.size,0,none⟩) (qad _) _).setCell (p:=⟨w.heap.size,1,none⟩) (qad _) _⟩
def BX(l:List Nd)(e:Ex):Prop:=
 ∀(w:World) (v:Value) (i:Nat) (I:Int),RNd w v l->Fx l i e->I=(i:Int)->
  Calls Tryz.prog 116 #[v,.int .i64 I] w fun r w'=>r= .returned (str (Am AF e))/\Ext w w'
theorem Fx.node{l:List Nd}{i:Nat}{e:Ex}(h:Fx l i e):∃hi:i<l.length,l[i].kind=(e.kind:Int):=by
 have hi:=h.lt.1;refine⟨hi,?_⟩;have h2:∃nd,l[i]? =some nd/\nd.kind=(e.kind:Int):=by
  cases e with
  |leaf k t=>exact⟨_,h.leaf,rfl⟩
  |un k n x=>exact⟨_,h.un.2.1,rfl⟩
  |bin k x y=>obtain⟨j,_,h3,_⟩:=h.bin;exact⟨_,h3,rfl⟩
 obtain⟨nd,h3,h4⟩:=h2;rw[qaa hi]at h3;injection h3 with h3
 rw[h3,h4]
theorem Ex.Good.kinds{e:Ex}(h:e.Good):1<=e.kind/\e.kind<=16:=by
 cases e with
 |leaf k t=>unfold Ex.Good at h;show 1<=k/\k<=16;omega
 |un k n x=>obtain⟨h1,_⟩:=h;show 1<=k/\k<=16;omega
 |bin k x y=>obtain⟨h1,_⟩:=h;show 1<=k/\k<=16;omega
theorem BS (l:List Nd) (e:Ex) (hn:BX l e) (hg:e.Good) (hs:(Am AF e).length<=1000000) (hl:l.length<=1000000)
  (w:World) (v:Value) (i:Nat) (I:Int) (m:Nat) (hr:RNd w v l) (ha:Fx l i e) (hI:I=(i:Int)):
  Calls Tryz.prog 164 #[v,.int .i64 I,.int .i64 (m:Int)] w fun r w'=>r= .returned (str (Bp (decide (Aw e.kind<m)) (Am AF e)))/\Ext w w':=by
 subst hI;have HN:=J (hn w v i (i:Int) hr ha rfl);obtain⟨hi,hk⟩:=ha.node;obtain⟨eS,hk2⟩:=hg.kinds;obtain⟨A,c,rfl,hc⟩:=hr;obtain⟨b,o,rfl,hb,hc⟩:=hc (by omega);have hat:=hc i hi;generalize l[i]=nd at *;obtain⟨kd,na,nb,nn,nt⟩:=nd;simp only at hk;subst hk;have HL:=J (fun W=>EQ W e.kind na nb nn nt eS hk2);have fH:=J hat;generalize Aw e.kind=lv at *;generalize e.kind=k at *;generalize Am AF e=s at *;have dX:∀W:World,(binOp .add 9 (.string ⟨#[40]⟩) (str s)).run Tryz.prog W= .ok (str (40::s)) W:=fun W=>Ap [40] s (by simp;omega) W
 have eC:∀W:World,(binOp .add 9 (str (40::s)) (.string ⟨#[41]⟩)).run Tryz.prog W= .ok (str (40::(s++[41]))) W:=fun W=>Ap (40::s) [41] (by simp;omega) W
 clear hn ha hg hc hat;go_enter Tryz.func164,Tryz.ntmps164;go_wp2_with fail;refine HN.o.mono ?_
 rintro r w1 ⟨rfl,ar⟩;obtain⟨k0,k1,k2,k3,k4⟩:=fH.o.ext ar hb;have ah:=J ar;clear ar;simp only at k0 k1 k2 k3 k4;go_wp2_with fail;refine(HL.o _).mono ?_
 rintro r w2 ⟨rfl,al⟩;have am:=J (ah.o.trans al);clear al k0 k1 k2 k3 k4;by_cases hlv:lv<m
 ·have hli:(lv:Int)<(m:Int):=by omega
  have HP:Hid (Bp (decide (lv<m)) s=40::(s++[41])):=J (by rw[decide_eq_true hlv];rfl);clear hlv;go_wp2_with fail;go_ret;exact⟨by rw[HP.o];rfl,am.o⟩
 ·have hli:¬(lv:Int)<(m:Int):=by omega
  have HP:Hid (Bp (decide (lv<m)) s=s):=J (by rw[decide_eq_false hlv];rfl);clear hlv;go_wp2_with fail;go_ret;exact⟨by rw[HP.o];rfl,am.o⟩
end Big
end Go.Proofs.YtkoaogkknnelaaaGreatDoor
