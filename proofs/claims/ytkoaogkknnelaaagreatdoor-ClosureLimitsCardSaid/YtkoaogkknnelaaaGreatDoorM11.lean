import Derived.Test.YtkoaogkknnelaaaGreatDoorM10
set_option linter.unusedVariables false
set_option linter.unusedSimpArgs false
namespace Go.Proofs.YtkoaogkknnelaaaGreatDoor
namespace Big
open Lib renaming hid → J
open Go.RowKit
def TS(w0 wr:World)(rv:Value)(xs:List Nat)(b k r:Nat):Prop:=
 ∃qs:List Nat,k+qs.length=xs.length/\Ok qs/\val qs*b+r=val (xs.drop k)/\
  Blk wr w0.heap.size 183 (cells (List.replicate k 0++qs))/\Arr wr rv (Af r)/\Ext w0 wr
theorem It(w:World)(v u:Value)(xs ys:List Nat)(h:Arr w v xs)(h':Arr w u ys)(hn:xs.length<=134217728)(ck:ys.length<=134217728)(hy:0<val ys):
  Calls Tryz.prog 205 #[v,u] w fun e w'=>∃v' u',e= .returned (.tuple #[v',u',.bool true])/\Own w.heap.size w' v' (Af (val xs / val ys))/\Arr w' u' (Af (val xs % val ys))/\Ext w w':=by
 have HA:=J h;have HB:=J h';obtain⟨av,A,c,rfl,hc,hm,ac⟩:=h.open;obtain⟨dq,A',c',rfl,hc',pF,bw⟩:=h'.open;have HC:=J ac;have nO:0<ys.length:=by
  rcases Nat.eq_zero_or_pos ys.length with h0|h0
  ·have:=List.eq_nil_of_length_eq_zero h0;subst this;simp[val]at hy
  ·exact h0
 have jt:((ys.length:Int) == 0)=false:=by rw[beq_eq_false_iff_ne];omega
 have dZ:=Es xs.length (by omega);clear h h' ac bw hm pF hc hc';go_enter Tryz.func205,Tryz.ntmps205;go_wp2_with fail;clear dZ;go_loopw [8,9] (fun rv i wr=>∃k r:Nat,k<=xs.length/\r<val ys/\i= .int .i64 ((k:Int)-1)/\TS w wr rv xs (val ys) k r) (fun _ i _=>(intOf i+1).toNat)
 case atStart=>exact⟨xs.length,0,Nat.le_refl _,hy,rfl,[],rfl,Cx,by simp[val],by simpa [Fz] using Blk.new w 183 (zeros xs.length),Arr.none_ _,(Ext.refl w).alloc _⟩
 case round=>
  obtain⟨k,r,hk,hr,rfl,qs,hl,mc,hv,aw,Ui,an⟩:=hrel;have HV:=J hv;clear hv;have fZ:=J aw;clear aw;have HL:=J hl;clear hl;have HR:=J hr;clear hr;have HY:=J hy;clear hy;rcases Nat.eq_zero_or_pos k with h0|h0
  ·subst h0;obtain⟨jb,pB⟩:=Lv HR.o (by simpa using HV.o);have ao:qs.length=xs.length:=by simpa using HL.o
   have bQ:Own w.heap.size wr (.slice (some ⟨w.heap.size,0,none⟩) xs.length xs.length) qs:=by
    have h3:=Own.block (B:=w.heap.size) mc (by simpa using fZ.o) (Nat.le_refl _) (by omega)
    rwa [ao]at h3
   have HT:=J (El _ _ _ bQ.arr (by omega));rw[jb]at HT;rw[pB]at Ui;clear jb pB bQ ao;go_wp2_with fail;refine HT.o.mono ?_
   rintro e w' ⟨v',rfl,ho,hx⟩;go_wp2_with fail;go_ret3;exact⟨_,_,rfl,ho.mono an.size,Ui.ext hx,an.trans hx⟩
  ·obtain⟨m,rfl⟩:∃m,k=m+1:=⟨k-1,by omega⟩;obtain⟨b,o,rfl,hb,ac⟩:=HC.o (by omega);have hx:=(an.cell hb).trans (ac m (by omega));clear ac;have fo:=av.get m;have HS:=J (RT (k:=m) HV.o);obtain⟨x,hxe⟩:∃x,xs.getD m 0=x:=⟨_,rfl⟩;rw[hxe]at hx fo HS;clear hxe;have tI:=an.size;have xJ:=IQ dq (Nat.le_of_lt HR.o);have fO:=J (show [x].length+(Af r).length<=2147483648 by simp;omega);simp only[d32]at hx;go_wp2_with (at_builtin;go_must (refine Bf rfl _ _ rfl rfl (Own.fresh1' _ _ x rfl fo) rfl (Ui.ext ((Ext.refl _).alloc _)) fO.o (by simp) ?_;intro v1 w1 qB al aX));have he1:Ext wr w1:=((Ext.refl wr).alloc _).more aX;have hval:val ([x]++Af r)=x+4294967296*r:=by simp[val,Ah]
   have HT:=El w1 v1 _ qB.arr (by simp;omega);rw[hval]at HT;have tV:=Tr HR.o fo;have xS:=Qy HR.o fo;have WC:=JH dq xS;have gx:=Nat.mod_lt (x+4294967296*r) HY.o;clear hval al qB;obtain⟨N,hN⟩:∃N,x+4294967296*r=N:=⟨_,rfl⟩;rw[hN]at HT HS tV xS WC gx;clear hN;have sZ:=J gx;clear gx;have dM:=J xS;clear xS;refine HT.mono ?_
   rintro e w2 ⟨v2,rfl,bN,au⟩;have he2:=an.trans (he1.trans au);have eZ:=GY w2 v2 _ _ ys bN.arr (HB.o.ext he2) (by omega) (by omega);rw[Ah]at eZ;rcases Nat.lt_or_ge N (val ys) with hlt|dU
   ·have kA:¬0<=DY N (val ys):=by rw[Gh hlt];omega
    have HZ:=J (Nat.div_eq_of_lt hlt);have ZH:=J (Nat.mod_eq_of_lt hlt);have aW:=J hlt;clear hlt tV HT WC;have eZ:=J eZ;generalize DY N (val ys)=cc at eZ kA;go_wp2_with fail;refine eZ.o.mono ?_;rintro e w3 ⟨rfl,rfl⟩
    go_wp2_with fail;go_roundw
    case rel=>
     refine⟨m,N,by omega,aW.o,rfl,0::qs,by have:=HL.o;simp;omega,Du (by omega) mc,?_,?_,bN.arr,he2⟩
     ·have:=HS.o;rw[HZ.o,ZH.o]at this;exact this
     ·have h1:=fZ.o.ext (he1.trans au);rw[List.replicate_succ',List.append_assoc]at h1;exact h1
    case measure=>simp[intOf]
   ·have kA:0<=DY N (val ys):=by unfold DY;split<;>(try split)<;>omega
    have Xe:=J dU;clear dU;have eZ:=J eZ;generalize DY N (val ys)=cc at eZ kA;go_wp2_with fail;refine eZ.o.mono ?_;rintro e w3 ⟨rfl,rfl⟩
    have HF:=RR w2 v2 _ _ ys bN.arr (HB.o.ext he2) (by omega) (by omega) (by rw[Ah];exact dM.o);rw[Ah]at HF;have qx:N-(val ys*(N / val ys)+0)=N % val ys:=by
     have:=Nat.div_add_mod N (val ys);omega
    have jw:=J qx;clear qx;have uR:(Af (val ys*(N / val ys)+0)).length<=ys.length+1:=DM dq tV (by omega);obtain⟨q,hq⟩:∃q,N / val ys=q:=⟨_,rfl⟩;rw[hq]at HF tV HS jw uR;clear hq;go_wp2_with fail;refine HF.mono ?_
    rintro e w3 ⟨rfl,ae⟩;have he3:=he2.trans ae;have pS:=fZ.o.ext ((he1.trans au).trans ae);have ai:=pS.cell m;have hfz:=pS.frozen m;rw[CK _ _ (by simp;omega)]at ai;simp only[d32]at ai;have aD:=J pS;clear pS;go_wp2_with fail;have zH:w.heap.size<w1.heap.size:=by have:=he1.size;have:=fZ.o.lt;omega
    have Yh:=(bN.ext ae).far (p:=⟨w.heap.size,m,none⟩) zH (d32 q);have fU:Ext w (w3.setCell ⟨w.heap.size,m,none⟩ (d32 q)):=he3.setCell (Nat.le_refl _) _;have sm:=aD.o.set_ m (d32 q);rw[CI,Jd]at sm;have wN:=Fe (w3.setCell ⟨w.heap.size,m,none⟩ (d32 q)) _ ys q 0 (HB.o.ext fU) (by omega) tV (by omega);rw[show ((0:Nat):Int)=0 from rfl]at wN;have eJ:=J sm;clear sm;refine wN.mono ?_
    rintro e w5 ⟨v5,rfl,cY,hx5⟩;go_wp2_with fail;have qe:=PL w5 v2 v5 _ _ (Yh.ext hx5).arr cY.arr (by omega) (by omega);rw[Ah,Ah,jw.o]at qe;refine qe.mono ?_
    rintro e w6 ⟨v6,rfl,mf,be⟩;go_wp2_with fail;go_roundw
    case rel=>exact⟨m,N % val ys,by omega,sZ.o,rfl,q::qs,by have:=HL.o;simp;omega,Du tV mc,HS.o,(eJ.o.ext hx5).ext be,mf.arr,fU.trans (hx5.trans be)⟩
    case measure=>simp[intOf]
def TY(z:Int):List UInt8:=if z<0 then 45::dec z.natAbs else dec z.natAbs
def T4(l:List Nd)(e:Ex):Prop:=
 ∀(w:World) (v:Value) (i:Nat) (I:Int),RNd w v l->Gn l i e->I=(i:Int)->
  Calls Tryz.prog 116 #[v,.int .i64 I] w fun r w'=>r= .returned (str (KT TY e))/\Ext w w'
theorem Gn.node{l:List Nd}{i:Nat}{e:Ex}(h:Gn l i e):∃hi:i<l.length,l[i].kind=(e.kind:Int):=by
 have hi:=h.lt.1;refine⟨hi,?_⟩;have h2:∃nd,l[i]? =some nd/\nd.kind=(e.kind:Int):=by
  cases e with
  |leaf k t=>exact⟨_,h.leaf,rfl⟩
  |un k n x=>exact⟨_,h.un.2.1,rfl⟩
  |bin k x y=>obtain⟨j,_,h3,_⟩:=h.bin;exact⟨_,h3,rfl⟩
 obtain⟨nd,h3,h4⟩:=h2;rw[List.getElem?_eq_getElem hi]at h3;injection h3 with h3
 rw[h3,h4]
theorem Ex.Good.kinds{e:Ex}(h:e.Good):1<=e.kind/\e.kind<=16:=by
 cases e with
 |leaf k t=>unfold Ex.Good at h;show 1<=k/\k<=16;omega
 |un k n x=>obtain⟨h1,_⟩:=h;show 1<=k/\k<=16;omega
 |bin k x y=>obtain⟨h1,_⟩:=h;show 1<=k/\k<=16;omega
end Big
end Go.Proofs.YtkoaogkknnelaaaGreatDoor
