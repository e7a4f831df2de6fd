import Derived.Test.YtkoaogkknnelaaaGreatDoorM17
set_option linter.unusedVariables false
set_option linter.unusedSimpArgs false
set_option maxHeartbeats 1000000
set_option maxRecDepth 100000
namespace Go.Proofs.YtkoaogkknnelaaaGreatDoor
namespace Big
open Lib renaming hid → J
open Go.RowKit
def IR(w0 wr:World)(xs ys:List Nat)(k cy:Nat):Prop:=
 ∃zs:List Nat,zs.length=k/\Ok zs/\val zs+4294967296 ^ k*cy=val (xs.take k)+val (ys.take k)/\
  Blk wr w0.heap.size 183 (cells (zs++List.replicate (xs.length+1-k) 0))/\Ext w0 wr
theorem IR.step {w0 wr:World} {xs ys zs:List Nat} {k q t:Nat} (hk:k<xs.length) (hl:zs.length=k) (aA:Ok zs)
  (h:val zs+4294967296 ^ k*q=val (xs.take k)+val (ys.take k)) (ht:t=q+xs.getD k 0+ys.getD k 0)
  (hb:Blk wr w0.heap.size 183 (cells (zs++List.replicate (xs.length+1-k) 0))) (he:Ext w0 wr):
  IR w0 (wr.setCell ⟨w0.heap.size,k,none⟩ (d32 (t % 4294967296))) xs ys (k+1) (t / 4294967296):=by
 refine⟨zs++[t % 4294967296],by simp[hl],aA.snoc (qba _ (by omega)),J3 hl h ht,?_,he.setCell (qab _) _⟩;have h1:=hb.set_ k (d32 (t % 4294967296));rw[BE,show xs.length+1-k=(xs.length-k)+1 by omega]at h1;have h2:=Do zs (xs.length-k) (t % 4294967296);rw[hl]at h2;rw[h2]at h1;rw[show xs.length+1-(k+1)=xs.length-k by omega];exact h1
theorem UH(w:World)(v u:Value)(xs ys:List Nat)(h:Arr w v xs)(h':Arr w u ys)(hn:xs.length<=536870912)(cH:ys.length<=xs.length):
  Calls Tryz.prog 298 #[v,u] w fun e w'=>∃v',e= .returned v'/\Own w.heap.size w' v' (Ac (val xs+val ys))/\Ext w w':=by
 obtain⟨aA,A,cap,rfl,dL,eA,aa⟩:=h.open;obtain⟨bR,A',oS,rfl,fL,jL,ar⟩:=h'.open;have HC:=J aa;have qI:=J ar;have dp:=C4 xs.length (by omega);have vV:¬(xs.length:Int)<(ys.length:Int):=by omega
 have gO:ys.length<=xs.length:=by omega
 clear h h' aa ar eA jL dL fL cH;go_enter Tryz.func298,Tryz.ntmps298;go_wp2_with fail;clear dp;go_loopw [6,22] (fun cy i wr=>∃k q:Nat,k<=xs.length/\q<=1/\i= .int .i64 k/\cy= .int .u64 q/\IR w wr xs ys k q) (fun _ i _=>xs.length-(intOf i).toNat)
 case atStart=>exact⟨0,0,qaj _,by omega,rfl,rfl,[],rfl,Cq,by simp[val],Blk.new _ _ _,(Ext.refl w).alloc _⟩
 case round=>
  obtain⟨k,q,hk,hq,rfl,rfl,zs,hl,gR,hv,ax,ae⟩:=hrel;have HV:=J hv;clear hv;have HB:=J ax;clear ax;have HL:=J hl;clear hl;by_cases hlt:k<xs.length
  ·obtain⟨b,o,rfl,hb,aa⟩:=HC.o (by omega);have hx:=(ae.cell hb).trans (aa k hlt);have hst:=HB.o.cell k;have hfz:=HB.o.frozen k;rw[Bi _ _ (by simp[HL.o];omega)]at hst;clear aa;have cW:=aA.get k;by_cases hk2:k<ys.length
   ·obtain⟨b',o',rfl,io,ar⟩:=qI.o (by omega);have hy:=(ae.cell io).trans (ar k hk2);clear ar;have gC:=bR.get k;have HS:=J (fun t h=>IR.step (t:=t) hlt HL.o gR HV.o h HB.o ae);obtain⟨x,bS⟩:∃x,xs.getD k 0=x:=⟨_,rfl⟩;obtain⟨y,ei⟩:∃y,ys.getD k 0=y:=⟨_,rfl⟩;rw[bS]at hx cW HS;rw[ei]at hy gC HS;clear bS ei;simp only[d32]at hx hst hy
    go_wp2
    go_round
    case rel=>exact⟨k+1,(q+x+y) / 4294967296,by omega,by omega,by go_num,by go_num,HS.o _ rfl⟩
    case measure=>simp[intOf];omega
   ·have h0:ys.getD k 0=0:=Dh ys k (by omega);have HS:=J (fun t h=>IR.step (t:=t) hlt HL.o gR HV.o h HB.o ae);obtain⟨x,bS⟩:∃x,xs.getD k 0=x:=⟨_,rfl⟩;rw[h0]at HS;rw[bS]at hx cW HS;clear bS h0;simp only[d32]at hx hst
    go_wp2
    go_round
    case rel=>exact⟨k+1,(q+x) / 4294967296,by omega,by omega,by go_num,by go_num,HS.o _ rfl⟩
    case measure=>simp[intOf];omega
  ·obtain rfl:k=xs.length:=by omega
   have hst:=HB.o.cell xs.length;have hfz:=HB.o.frozen xs.length;rw[Bi _ _ (by simp[HL.o])]at hst;have aB:Own w.heap.size (wr.setCell ⟨w.heap.size,xs.length,none⟩ (d32 q)) (.slice (some ⟨w.heap.size,0,none⟩) (xs.length+1) (xs.length+1)) (zs++[q]):=by
    have h1:=HB.o.set_ xs.length (d32 q);have h2:=Do zs 0 q;rw[HL.o]at h2;rw[BE,show xs.length+1-xs.length=0+1 by omega,h2]at h1;have h3:=Own.block (B:=w.heap.size) (gR.snoc (show q<4294967296 by omega)) (by simpa using h1) (qab _) (by simp[HL.o];omega)
    simpa [HL.o] using h3
   have hval:val (zs++[q])=val xs+val ys:=by
    rw[BS,HL.o,HV.o,qaf (qab _),qaf gO]
   have HT:=J (CJ _ _ _ aB.arr);have cA:=CG (zs++[q]);rw[show (zs++[q]).length=xs.length+1 by simp[HL.o]]at cA;obtain⟨A1,c1,gD,HO⟩:=aB.take (size (zs++[q])) (by rw[show (zs++[q]).length=xs.length+1 by simp[HL.o]];exact cA);rw[Cf aB.ok,hval]at HO;injection gD with gD hv3 hv2
   clear hv3;subst gD;subst hv2;have HO:=J HO;generalize size (zs++[q])=sz at *;clear hval aB;simp only[d32]at hst;go_wp2_with fail;refine HT.o.mono ?_
   rintro e w' ⟨rfl,rfl⟩;go_wp2_with fail;go_ret;exact⟨_,rfl,HO.o,ae.setCell (qab _) _⟩
theorem UG(w:World)(v u:Value)(xs ys:List Nat)(h:Arr w v xs)(h':Arr w u ys)(hn:xs.length<=536870912)(cH:ys.length<xs.length):
  Calls Tryz.prog 298 #[u,v] w fun e w'=>∃v',e= .returned v'/\Own w.heap.size w' v' (Ac (val xs+val ys))/\Ext w w':=by
 obtain⟨aA,A,cap,rfl,dL,eA,aa⟩:=h.open;obtain⟨bR,A',oS,rfl,fL,jL,ar⟩:=h'.open;have HC:=J aa;have qI:=J ar;have dp:=C4 xs.length (by omega);have vV:(ys.length:Int)<(xs.length:Int):=by omega
 have gO:ys.length<=xs.length:=by omega
 clear h h' aa ar eA jL dL fL cH;go_enter Tryz.func298,Tryz.ntmps298;go_wp2_with fail;clear dp;go_loopw [6,22] (fun cy i wr=>∃k q:Nat,k<=xs.length/\q<=1/\i= .int .i64 k/\cy= .int .u64 q/\IR w wr xs ys k q) (fun _ i _=>xs.length-(intOf i).toNat)
 case atStart=>exact⟨0,0,qaj _,by omega,rfl,rfl,[],rfl,Cq,by simp[val],Blk.new _ _ _,(Ext.refl w).alloc _⟩
 case round=>
  obtain⟨k,q,hk,hq,rfl,rfl,zs,hl,gR,hv,ax,ae⟩:=hrel;have HV:=J hv;clear hv;have HB:=J ax;clear ax;have HL:=J hl;clear hl;by_cases hlt:k<xs.length
  ·obtain⟨b,o,rfl,hb,aa⟩:=HC.o (by omega);have hx:=(ae.cell hb).trans (aa k hlt);have hst:=HB.o.cell k;have hfz:=HB.o.frozen k;rw[Bi _ _ (by simp[HL.o];omega)]at hst;clear aa;have cW:=aA.get k;by_cases hk2:k<ys.length
   ·obtain⟨b',o',rfl,io,ar⟩:=qI.o (by omega);have hy:=(ae.cell io).trans (ar k hk2);clear ar;have gC:=bR.get k;have HS:=J (fun t h=>IR.step (t:=t) hlt HL.o gR HV.o h HB.o ae);obtain⟨x,bS⟩:∃x,xs.getD k 0=x:=⟨_,rfl⟩;obtain⟨y,ei⟩:∃y,ys.getD k 0=y:=⟨_,rfl⟩;rw[bS]at hx cW HS;rw[ei]at hy gC HS;clear bS ei;simp only[d32]at hx hst hy
    go_wp2
    go_round
    case rel=>exact⟨k+1,(q+x+y) / 4294967296,by omega,by omega,by go_num,by go_num,HS.o _ rfl⟩
    case measure=>simp[intOf];omega
   ·have h0:ys.getD k 0=0:=Dh ys k (by omega);have HS:=J (fun t h=>IR.step (t:=t) hlt HL.o gR HV.o h HB.o ae);obtain⟨x,bS⟩:∃x,xs.getD k 0=x:=⟨_,rfl⟩;rw[h0]at HS;rw[bS]at hx cW HS;clear bS h0;simp only[d32]at hx hst
    go_wp2
    go_round
    case rel=>exact⟨k+1,(q+x) / 4294967296,by omega,by omega,by go_num,by go_num,HS.o _ rfl⟩
    case measure=>simp[intOf];omega
  ·obtain rfl:k=xs.length:=by omega
   have hst:=HB.o.cell xs.length;have hfz:=HB.o.frozen xs.length;rw[Bi _ _ (by simp[HL.o])]at hst;have aB:Own w.heap.size (wr.setCell ⟨w.heap.size,xs.length,none⟩ (d32 q)) (.slice (some ⟨w.heap.size,0,none⟩) (xs.length+1) (xs.length+1)) (zs++[q]):=by
    have h1:=HB.o.set_ xs.length (d32 q);have h2:=Do zs 0 q;rw[HL.o]at h2;rw[BE,show xs.length+1-xs.length=0+1 by omega,h2]at h1;have h3:=Own.block (B:=w.heap.size) (gR.snoc (show q<4294967296 by omega)) (by simpa using h1) (qab _) (by simp[HL.o];omega)
    simpa [HL.o] using h3
   have hval:val (zs++[q])=val xs+val ys:=by
    rw[BS,HL.o,HV.o,qaf (qab _),qaf gO]
   have HT:=J (CJ _ _ _ aB.arr);have cA:=CG (zs++[q]);rw[show (zs++[q]).length=xs.length+1 by simp[HL.o]]at cA;obtain⟨A1,c1,gD,HO⟩:=aB.take (size (zs++[q])) (by rw[show (zs++[q]).length=xs.length+1 by simp[HL.o]];exact cA);rw[Cf aB.ok,hval]at HO;injection gD with gD hv3 hv2
   clear hv3;subst gD;subst hv2;have HO:=J HO;generalize size (zs++[q])=sz at *;clear hval aB;simp only[d32]at hst;go_wp2_with fail;refine HT.o.mono ?_
   rintro e w' ⟨rfl,rfl⟩;go_wp2_with fail;go_ret;exact⟨_,rfl,HO.o,ae.setCell (qab _) _⟩
theorem Pe(w:World)(v u:Value)(xs ys:List Nat)(h:Arr w v xs)(h':Arr w u ys)(hn:xs.length<=536870912)(bA:ys.length<=536870912):
  Calls Tryz.prog 298 #[v,u] w fun e w'=>∃v',e= .returned v'/\Own w.heap.size w' v' (Ac (val xs+val ys))/\Ext w w':=by
 rcases qah xs.length ys.length with hlt|fC
 ·rw[qbM];exact UG w u v ys xs h' h bA hlt
 ·exact UH w v u xs ys h h' hn fC
def S3(w0 wr:World)(xs ys:List Nat)(i:Nat):Prop:=
 ∃os:List Nat,os.length=xs.length+ys.length/\Ok os/\val os=val (xs.take i)*val ys/\(∀j,i+ys.length<=j->os.getD j 0=0)/\
  Blk wr w0.heap.size 183 (cells os)/\Ext w0 wr
def Hl(w0 wr:World)(xs ys:List Nat)(i k c:Nat):Prop:=
 ∃os:List Nat,os.length=xs.length+ys.length/\Ok os/\val os+4294967296 ^ (i+k)*c=val (xs.take i)*val ys+4294967296 ^ i*(xs.getD i 0*val (ys.take k))/\
  (∀j,i+ys.length<=j->os.getD j 0=0)/\Blk wr w0.heap.size 183 (cells os)/\Ext w0 wr
theorem Hl.step {w0 wr:World} {xs ys os:List Nat} {i k c t:Nat} (hi:i<xs.length) (hk:k<ys.length) (hl:os.length=xs.length+ys.length) (aA:Ok os)
  (h:val os+4294967296 ^ (i+k)*c=val (xs.take i)*val ys+4294967296 ^ i*(xs.getD i 0*val (ys.take k)))
  (hz:∀j,i+ys.length<=j->os.getD j 0=0) (ht:t=c+(xs.getD i 0*ys.getD k 0+os.getD (i+k) 0))
  (hb:Blk wr w0.heap.size 183 (cells os)) (he:Ext w0 wr):
  Hl w0 (wr.setCell ⟨w0.heap.size,i+k,none⟩ (d32 (t % 4294967296))) xs ys i (k+1) (t / 4294967296):=by
 refine⟨os.set (i+k) (t % 4294967296),by simp[hl],aA.set _ (qba _ (by omega)),Sf (by omega) h ht,fun j hj=> ?_,?_,he.setCell (qab _) _⟩
 ·rw[IF _ _ _ _ (by omega)];exact hz j hj
 ·have:=hb.set_ (i+k) (d32 (t % 4294967296))
  rwa [BE]at this
theorem Hl.done {w0 wr:World} {xs ys os:List Nat} {i c:Nat} (hi:i<xs.length) (hl:os.length=xs.length+ys.length) (aA:Ok os) (hc:c<4294967296)
  (h:val os+4294967296 ^ (i+ys.length)*c=val (xs.take i)*val ys+4294967296 ^ i*(xs.getD i 0*val (ys.take ys.length)))
  (hz:∀j,i+ys.length<=j->os.getD j 0=0)
  (hb:Blk wr w0.heap.size 183 (cells os)) (he:Ext w0 wr):
  S3 w0 (wr.setCell ⟨w0.heap.size,i+ys.length,none⟩ (d32 c)) xs ys (i+1):=by
 refine⟨os.set (i+ys.length) c,by simp[hl],aA.set _ hc,?_,fun j hj=> ?_,?_,he.setCell (qab _) _⟩
 ·rw[Tz (by omega) (hz _ (qab _)) h,By,qaY,qaA,qaf (qab _)]
 ·rw[IF _ _ _ _ (by omega)];exact hz j (by omega)
 ·have:=hb.set_ (i+ys.length) (d32 c)
  rwa [BE]at this
theorem Mk{x y:Nat}(hx:x<4294967296)(hy:y<4294967296):x*y<=18446744065119617025:=
 qcf (show x<=4294967295 by omega) (show y<=4294967295 by omega)
theorem E7(w:World)(v u:Value)(xs ys:List Nat)(h:Arr w v xs)(h':Arr w u ys)(hn:xs.length<=268435456)(bA:ys.length<=268435456):
  Calls Tryz.prog 277 #[v,u] w fun e w'=>∃v',e= .returned v'/\Own w.heap.size w' v' (Ac (val xs*val ys))/\Ext w w':=by
 obtain⟨aA,A,cap,rfl,dL,eA,aa⟩:=h.open;obtain⟨bR,A',oS,rfl,fL,jL,ar⟩:=h'.open;have HC:=J aa;have qI:=J ar;have dp:=Cn (xs.length+ys.length) (by omega);simp only[qcd]at dp;clear h h' aa ar eA jL dL fL;go_enter Tryz.func277,Tryz.ntmps277;go_wp2_with fail;clear dp;go_loopw [19] (fun i wr=>∃k:Nat,k<=xs.length/\i= .int .i64 k/\S3 w wr xs ys k) (fun i _=>xs.length-(intOf i).toNat)
 case atStart=>exact⟨0,qaj _,rfl,List.replicate (xs.length+ys.length) 0,by simp,Ok.zeros _,by simp[val,Hp],fun j _=>by rw[qaa,qbQ];split<;>rfl,Blk.new _ _ _,(Ext.refl w).alloc _⟩
 case round=>
  obtain⟨i,hi,rfl,os,hl,fj,hv,hz,ax,ae⟩:=hrel;have HV:=J hv;clear hv;have HZ:=J hz;clear hz;have HB:=J ax;clear ax;have HL:=J hl;clear hl;by_cases hlt:i<xs.length
  ·obtain⟨b,o,rfl,hb,aa⟩:=HC.o (by omega);have hx:=(ae.cell hb).trans (aa i hlt);have HXC:=J aa;clear aa;have cW:=aA.get i;obtain⟨x,bS⟩:∃x,xs.getD i 0=x:=⟨_,rfl⟩;rw[bS]at hx cW;have Wu:=J bS;clear bS;simp only[d32]at hx;obtain⟨wo,rfl⟩:∃wo:World,wo=wr:=⟨_,rfl⟩;go_wp2_with fail;go_loopw [8,26] (fun cy kk wr=>∃k c:Nat,k<=ys.length/\c<4294967296/\kk= .int .i64 k/\cy= .int .u64 c/\Hl w wr xs ys i k c) (fun _ kk _=>ys.length-(intOf kk).toNat)
   case atStart=>exact⟨0,0,qaj _,by omega,rfl,rfl,os,HL.o,fj,by simp[val,HV.o],HZ.o,HB.o,ae⟩
   case round=>
    clear HV HZ HB HL hx fj ae os;obtain⟨k,c,hk,hc,rfl,rfl,os,hl,fj,hv,hz,ax,ae⟩:=hrel;have HV:=J hv;clear hv;have HZ:=J hz;clear hz;have HB:=J ax;clear ax;have HL:=J hl;clear hl;by_cases hlt2:k<ys.length
    ·obtain⟨b',o',rfl,io,ar⟩:=qI.o (by omega);have hy:=(ae.cell io).trans (ar k hlt2);clear ar;have hst:=HB.o.cell (i+k);have hfz:=HB.o.frozen (i+k);rw[Bi _ _ (by rw[HL.o];omega)]at hst;have gC:=bR.get k;have zJ:=fj.get (i+k);have HS:=J (fun t h=>Hl.step (t:=t) hlt hlt2 HL.o fj HV.o HZ.o h HB.o ae);rw[Wu.o]at HS;obtain⟨y,ei⟩:∃y,ys.getD k 0=y:=⟨_,rfl⟩;obtain⟨z,pY⟩:∃z,os.getD (i+k) 0=z:=⟨_,rfl⟩;rw[ei]at hy gC HS;rw[pY]at hst zJ HS;clear ei pY;have hp:=Mk cW gC;have vD:(x:Int)*(y:Int)<=18446744065119617025:=by rw[<-qbz];omega
     have hp0:0<=(x:Int)*(y:Int):=by rw[<-qbz];omega
     simp only[d32]at hst hy
     go_wp2
     go_roundw
     case rel=>exact⟨k+1,(c+(x*y+z)) / 4294967296,by omega,qbj (by omega),by go_num,by go_num,HS.o _ rfl⟩
     case measure=>simp[intOf];omega
    ·obtain rfl:k=ys.length:=by omega
     have hst:=HB.o.cell (i+ys.length);have hfz:=HB.o.frozen (i+ys.length);rw[Bi _ _ (by rw[HL.o];omega)]at hst;have HD:=J (Hl.done hlt HL.o fj hc HV.o HZ.o HB.o ae);generalize os.getD (i+ys.length) 0=z at hst;simp only[d32]at hst
     go_wp2
     go_roundw
     case rel=>exact⟨i+1,by omega,by go_num,HD.o⟩
     case measure=>simp[intOf];omega
  ·obtain rfl:i=xs.length:=by omega
   have aB:Own w.heap.size wr (.slice (some ⟨w.heap.size,0,none⟩) (xs.length+ys.length) (xs.length+ys.length)) os:=by
    have h3:=Own.block (B:=w.heap.size) fj HB.o (qab _) (by rw[HL.o];omega)
    rwa [HL.o]at h3
   have HT:=Bu _ _ _ aB.arr (by rw[HL.o];omega);rw[HV.o,qaf (qab _)]at HT;have HT:=J HT;clear aB;go_wp2_with fail;refine HT.o.mono ?_
   rintro e w' ⟨v',rfl,ho,hx⟩;go_wp2_with fail;go_ret;exact⟨_,rfl,ho.mono ae.size,ae.trans hx⟩
theorem Ci{m n k:Nat}{j:Nat}(hm:(Ac m).length<=k)(hn:(Ac n).length<=j):(Ac (m+n)).length<=k+j+1:=by
 refine AH ?_
 have h1:=Cm (Cw m);have h2:=Cm (Cw n);rw[Ad]at h1 h2;have h3:=Eb (show (Ac m).length<=k+j by omega);have h4:=Eb (show (Ac n).length<=k+j by omega);rw[qay];omega
theorem OP(x y:Int):sgn (decide (x<0) != decide (y<0)) (x.natAbs*y.natAbs)=x*y:=by
 have hx:x=sgn (decide (x<0)) x.natAbs:=by unfold sgn;by_cases h:x<0<;>simp[h]<;>omega
 have hy:y=sgn (decide (y<0)) y.natAbs:=by unfold sgn;by_cases h:y<0<;>simp[h]<;>omega
 generalize decide (x<0)=b at *;generalize decide (y<0)=b' at *;generalize x.natAbs=m at *;generalize y.natAbs=n at *;subst hx;subst hy;cases b<;>cases b'<;>simp[sgn,Int.neg_mul,Int.mul_neg]
theorem AG{m n k:Nat}{j:Nat}(hm:(Ac m).length<=k)(hn:(Ac n).length<=j):(Ac (m*n)).length<=k+j:=by
 refine AH ?_
 have h1:=Cm (Cw m);have h2:=Cm (Cw n);rw[Ad]at h1 h2;rw[qbE];exact Nat.mul_lt_mul'' (qan h1 (Eb hm)) (qan h2 (Eb hn))
theorem JV(w:World)(v u:Value)(x y:Int)(h:Ap w v x)(h':Ap w u y)(hn:(Ac x.natAbs).length<=268435456)(bA:(Ac y.natAbs).length<=268435456):
  Calls Tryz.prog 278 #[v,u] w fun e w'=>∃v',e= .returned v'/\AP w.heap.size w' v' (x*y)/\Ext w w':=by
 have HA:=J h;have HB:=J h';have HM:=J (fun W m m' a b=>E7 W m m' (Ac x.natAbs) (Ac y.natAbs) a b hn bA);rw[Ad,Ad]at HM;have HS:=J (OP x y);obtain⟨b,n,A,c,rfl⟩:=h.shape;obtain⟨b',n',A',c',rfl⟩:=h'.shape;rw[<-h.sign,<-h'.sign]at HS;clear h h';go_enter Tryz.func278,Tryz.ntmps278;go_wp2_with fail;have hb0:=((Blk.new w 24 #[.bool b,.slice A n c]).alloc (.cells #[.bool b',.slice A' n' c'] 24)).alloc (.cells #[.bool false,.slice none 0 0] 24);have am:=(Blk.new (w.alloc (.cells #[.bool b,.slice A n c] 24)) 24 #[.bool b',.slice A' n' c']).alloc (.cells #[.bool false,.slice none 0 0] 24);have hb2:=Blk.new ((w.alloc (.cells #[.bool b,.slice A n c] 24)).alloc (.cells #[.bool b',.slice A' n' c'] 24)) 24 #[.bool false,.slice none 0 0];have az:=(((Ext.refl w).alloc (.cells #[.bool b,.slice A n c] 24)).alloc (.cells #[.bool b',.slice A' n' c'] 24)).alloc (.cells #[.bool false,.slice none 0 0] 24);simp only[World.size_alloc]at am hb2;generalize ((w.alloc (.cells #[.bool b,.slice A n c] 24)).alloc (.cells #[.bool b',.slice A' n' c'] 24)).alloc (.cells #[.bool false,.slice none 0 0] 24)=wo at *;obtain⟨h0,h1,_,_,_⟩:=hb0.two;obtain⟨h2,h3,_,_,_⟩:=am.two;obtain⟨h4,h5,h6,h7,eC⟩:=hb2.two;clear hb0 am hb2;have HI:=J (fun W m a=>Cj W (b != b') m (Ac (x.natAbs*y.natAbs)) a (by
  have:=AG hn bA;omega))
 rw[Ad,HS.o]at HI
 go_region_held3 (fun w'=>Ext w w'/\w'.cell? ⟨w.heap.size,0,none⟩=some (.bool b)/\w'.cell? ⟨w.heap.size,1,none⟩=some (.slice A n c)/\w'.cell? ⟨w.heap.size+1,0,none⟩=some (.bool b')/\w'.cell? ⟨w.heap.size+1,1,none⟩=some (.slice A' n' c')/\
   w'.cell? ⟨w.heap.size+1+1,0,none⟩=some (was w' (w.heap.size+1+1) 0)/\w'.cell? ⟨w.heap.size+1+1,1,none⟩=some (was w' (w.heap.size+1+1) 1)/\w'.frozen? ⟨w.heap.size+1+1,0,none⟩=false/\w'.frozen? ⟨w.heap.size+1+1,1,none⟩=false)
  (first|(exact⟨az.drew,h0,h1,h2,h3,Ae (w:=wo.drew) h4,Ae (w:=wo.drew) h5,h6,h7⟩)|(exact Eg (by assumption) (by assumption))|(exact Cr (by assumption) (by omega) (by omega) (by omega) (by omega) (by omega)))
  (first
   |(go_at_call 277;refine(HM.o _ _ _ ?_ ?_).mono ?_;(exact HA.o.mag.ext (qau (by assumption)));(exact HB.o.mag.ext (qau (by assumption)));rintro e w1 ⟨v',rfl,ho,hx⟩;obtain⟨nm,Am,cm,rfl⟩:=ho.shape;have hra:=ho.arr;have hz1:=hx.size)
   |(go_at_call 212;refine(HI.o _ _ (by assumption)).mono ?_;rintro e w' ⟨v',rfl,hi,hx⟩;have W7:=J hi;obtain⟨bi,ni,Ai,ci,rfl⟩:=hi.shape))
 go_wp2_with fail;rename_i hS;obtain⟨hE,_,_,_,_,hc0,hc1,_,_⟩:=hS;have aD:=az.size;simp only[World.size_drew]at hz1;obtain⟨ai,ac⟩:=Gr hc0 hc1;refine bodyPost_ret (v:= .agg #[.bool bi,.slice Ai ni ci]) (by simp[results,Tryz.results278,go_sem,ai,ac]) rfl ?_
 exact⟨_,rfl,W7.o.put (by omega) (by omega),hE⟩
theorem Qz(w:World)(v u:Value)(x y:Int)(h:Ap w v x)(h':Ap w u y)(hn:(Ac x.natAbs).length<=268435456)(bA:(Ac y.natAbs).length<=268435456)(hs:decide (x<0)=decide (y<0)):
  Calls Tryz.prog 281 #[v,u] w fun e w'=>∃v',e= .returned v'/\AP w.heap.size w' v' (x+y)/\Ext w w':=by
 have HA:=J h;have HB:=J h';have HM:=J (fun W m m' a b=>Pe W m m' (Ac x.natAbs) (Ac y.natAbs) a b (by omega) (by omega));rw[Ad,Ad]at HM;obtain⟨b,n,A,c,rfl⟩:=h.shape;obtain⟨b',n',A',c',rfl⟩:=h'.shape;have hb:b'=b:=by rw[h.sign,h'.sign,hs]
 subst hb;have HS:=J (show sgn b' (x.natAbs+y.natAbs)=x+y by
  have h1:=h.sign;have h2:=h'.sign;unfold sgn;cases b'
  ·have:=of_decide_eq_false h1.symm;have:=of_decide_eq_false h2.symm;simp;omega
  ·have:=of_decide_eq_true h1.symm;have:=of_decide_eq_true h2.symm;simp;omega)
 clear h h' hs;go_enter Tryz.func281,Tryz.ntmps281;go_wp2_with fail;have hb0:=((Blk.new w 24 #[.bool b',.slice A n c]).alloc (.cells #[.bool b',.slice A' n' c'] 24)).alloc (.cells #[.bool false,.slice none 0 0] 24);have am:=(Blk.new (w.alloc (.cells #[.bool b',.slice A n c] 24)) 24 #[.bool b',.slice A' n' c']).alloc (.cells #[.bool false,.slice none 0 0] 24);have hb2:=Blk.new ((w.alloc (.cells #[.bool b',.slice A n c] 24)).alloc (.cells #[.bool b',.slice A' n' c'] 24)) 24 #[.bool false,.slice none 0 0];have az:=(((Ext.refl w).alloc (.cells #[.bool b',.slice A n c] 24)).alloc (.cells #[.bool b',.slice A' n' c'] 24)).alloc (.cells #[.bool false,.slice none 0 0] 24);simp only[World.size_alloc]at am hb2;generalize ((w.alloc (.cells #[.bool b',.slice A n c] 24)).alloc (.cells #[.bool b',.slice A' n' c'] 24)).alloc (.cells #[.bool false,.slice none 0 0] 24)=wo at *;obtain⟨h0,h1,_,_,_⟩:=hb0.two;obtain⟨h2,h3,_,_,_⟩:=am.two;obtain⟨h4,h5,h6,h7,eC⟩:=hb2.two;clear hb0 am hb2;have HI:=J (fun W m a=>Cj W b' m (Ac (x.natAbs+y.natAbs)) a (by
  have:=Ci hn bA;omega))
 rw[Ad,HS.o]at HI
 go_region_held3 (fun w'=>Ext w w'/\w'.cell? ⟨w.heap.size,0,none⟩=some (.bool b')/\w'.cell? ⟨w.heap.size,1,none⟩=some (.slice A n c)/\w'.cell? ⟨w.heap.size+1,0,none⟩=some (.bool b')/\w'.cell? ⟨w.heap.size+1,1,none⟩=some (.slice A' n' c')/\
   w'.cell? ⟨w.heap.size+1+1,0,none⟩=some (was w' (w.heap.size+1+1) 0)/\w'.cell? ⟨w.heap.size+1+1,1,none⟩=some (was w' (w.heap.size+1+1) 1)/\w'.frozen? ⟨w.heap.size+1+1,0,none⟩=false/\w'.frozen? ⟨w.heap.size+1+1,1,none⟩=false)
  (first|(exact⟨az.drew,h0,h1,h2,h3,Ae (w:=wo.drew) h4,Ae (w:=wo.drew) h5,h6,h7⟩)|(exact Eg (by assumption) (by assumption))|(exact Cr (by assumption) (by omega) (by omega) (by omega) (by omega) (by omega)))
  (first
   |(go_at_call 298;refine(HM.o _ _ _ ?_ ?_).mono ?_;(exact HA.o.mag.ext (qau (by assumption)));(exact HB.o.mag.ext (qau (by assumption)));rintro e w1 ⟨v',rfl,ho,hx⟩;obtain⟨nm,Am,cm,rfl⟩:=ho.shape;have hra:=ho.arr;have hz1:=hx.size)
   |(go_at_call 212;refine(HI.o _ _ (by assumption)).mono ?_;rintro e w' ⟨v',rfl,hi,hx⟩;have W7:=J hi;obtain⟨bi,ni,Ai,ci,rfl⟩:=hi.shape))
 go_wp2_with fail;rename_i hS;obtain⟨hE,_,_,_,_,hc0,hc1,_,_⟩:=hS;have aD:=az.size;simp only[World.size_drew]at hz1;obtain⟨ai,ac⟩:=Gr hc0 hc1;refine bodyPost_ret (v:= .agg #[.bool bi,.slice Ai ni ci]) (by simp[results,Tryz.results281,go_sem,ai,ac]) rfl ?_
 exact⟨_,rfl,W7.o.put (by omega) (by omega),hE⟩
def Nb(w0 wr:World)(N:Nat)(xs ys:List Nat)(k q:Nat):Prop:=
 ∃zs:List Nat,zs.length=k/\Ok zs/\val (xs.take k)+4294967296 ^ k*q=val zs+val (ys.take k)/\
  Blk wr w0.heap.size 183 (cells (zs++List.replicate (N-k) 0))/\Ext w0 wr
theorem Nb.step {w0 wr:World} {N:Nat} {xs ys zs:List Nat} {k q z q':Nat} (hk:k<N) (hl:zs.length=k) (aA:Ok zs) (hz:z<4294967296)
  (h:val (xs.take k)+4294967296 ^ k*q=val zs+val (ys.take k)) (ht:xs.getD k 0+4294967296*q'=z+ys.getD k 0+q)
  (hb:Blk wr w0.heap.size 183 (cells (zs++List.replicate (N-k) 0))) (he:Ext w0 wr):
  Nb w0 (wr.setCell ⟨w0.heap.size,k,none⟩ (d32 z)) N xs ys (k+1) q':=by
 refine⟨zs++[z],by simp[hl],aA.snoc hz,L3 hl h ht,?_,he.setCell (qab _) _⟩;have h1:=hb.set_ k (d32 z);rw[BE,show N-k=(N-(k+1))+1 by omega]at h1;have h2:=Do zs (N-(k+1)) z;rw[hl]at h2;rw[h2]at h1;exact h1
theorem Tv(w:World)(v u:Value)(xs ys:List Nat)(h:Arr w v xs)(h':Arr w u ys)(hn:xs.length<=536870912)(bA:ys.length<=536870912)(hlt:val xs<val ys):
  Calls Tryz.prog 297 #[v,u] w fun e w'=>e= .returned (.tuple #[.slice none 0 0,.bool false])/\Ext w w':=by
 have HC:=Ey w v u xs ys h h' (by omega) (by omega);rw[Ff hlt]at HC;have HC:=J HC;clear h h' hlt;go_enter Tryz.func297,Tryz.ntmps297;go_wp2_with fail;refine HC.o.mono ?_;rintro e w' ⟨rfl,hx⟩
 go_wp2_with fail;go_ret2;exact⟨rfl,hx⟩
theorem Lx(w:World)(v u:Value)(xs ys:List Nat)(h:Arr w v xs)(h':Arr w u ys)(hn:xs.length<=536870912)(bA:ys.length<=536870912)(cH:val ys<=val xs):
  Calls Tryz.prog 297 #[v,u] w fun e w'=>∃v',e= .returned (.tuple #[v',.bool true])/\Own w.heap.size w' v' (Ac (val xs-val ys))/\Ext w w':=by
 have cT:=J (Ey w v u xs ys h h' (by omega) (by omega));have oY:=J (fun W hx=>CJ W v xs (h.ext hx));have gG:¬BZ (val xs) (val ys)<0:=by rw[Ei];omega
 obtain⟨aA,A,cap,rfl,dL,eA,aa⟩:=h.open;obtain⟨bR,A',oS,rfl,fL,jL,ar⟩:=h'.open;have HC:=J aa;have qI:=J ar;have gO:=J cH;have kA:=CG xs;have dq:=J (show val (xs.drop (size xs))=0 by
  have h1:=Bt xs (size xs);rw[Cf aA,Ad]at h1;have:0<4294967296 ^ size xs:=Fw _;rcases qag (val (xs.drop (size xs))) with h0|h0
  ·exact h0
  ·have:=qaH (4294967296 ^ size xs) h0;omega)
 generalize hN:size xs=N at *;have HN:=J hN;clear h h' aa ar eA jL dL fL cH hN;generalize BZ (val xs) (val ys)=cc at cT gG;have dp:=Cn N (by omega);go_enter Tryz.func297,Tryz.ntmps297;go_wp2_with fail;refine cT.o.mono ?_;rintro e w1 ⟨rfl,ak⟩
 have au:=J ak;clear ak;go_wp2_with fail;refine(oY.o _ au.o).mono ?_;rintro e w2 ⟨rfl,rfl⟩
 have bP:=J (au.o.alloc (.cells (Array.replicate N (.int .u32 0)) 183));go_wp2_with fail;clear dp;go_loopw [7,19] (fun cy i wr=>∃k q:Nat,k<=N/\q<=1/\i= .int .i64 k/\cy= .int .u32 q/\Nb w1 wr N xs ys k q) (fun _ i _=>N-(intOf i).toNat)
 case atStart=>exact⟨0,0,qaj _,by omega,rfl,rfl,[],rfl,Cq,by simp[val],Blk.new _ _ _,(Ext.refl w1).alloc _⟩
 case round=>
  obtain⟨k,q,hk,hq,rfl,rfl,zs,hl,gR,hv,ax,ae⟩:=hrel;have HV:=J hv;clear hv;have HB:=J ax;clear ax;have HL:=J hl;clear hl;have jo:=au.o.trans ae;by_cases hlt:k<N
  ·obtain⟨b,o,rfl,hb,aa⟩:=HC.o (by omega);have hx:=(jo.cell hb).trans (aa k (by omega));have hst:=HB.o.cell k;have hfz:=HB.o.frozen k;rw[Bi _ _ (by simp[HL.o];omega)]at hst;clear aa;have cW:=aA.get k;by_cases hk2:k<ys.length
   ·obtain⟨b',o',rfl,io,ar⟩:=qI.o (by omega);have hy:=(jo.cell io).trans (ar k hk2);clear ar;have gC:=bR.get k;have HS:=J (fun z q' hz h=>Nb.step (z:=z) (q':=q') hlt HL.o gR hz HV.o h HB.o ae);obtain⟨x,bS⟩:∃x,xs.getD k 0=x:=⟨_,rfl⟩;obtain⟨y,ei⟩:∃y,ys.getD k 0=y:=⟨_,rfl⟩;rw[bS]at hx cW HS;rw[ei]at hy gC HS;clear bS ei;have nG:=J (fun W=>FR W x y q cW gC hq);simp only[d32]at hx hst hy;have qX:(k:Int)<(xs.length:Int):=by omega
    have hkN:(k:Int)<(N:Int):=by omega
    have hky:(k:Int)<(ys.length:Int):=by omega
    clear ae jo kA hlt;go_wp2_with fail;refine(nG.o _).mono ?_
    rintro e w3 ⟨d,b',rfl,hd,am,oa,rfl⟩;have HR:=J (HS.o d b' hd oa);simp only[d32]at HR;clear oa;go_wp2_with fail;go_roundw
    case rel=>exact⟨k+1,b',by omega,am,by go_num,by go_num,HR.o⟩
    case measure=>simp[intOf];omega
   ·have h0:ys.getD k 0=0:=Dh ys k (by omega);have HS:=J (fun z q' hz h=>Nb.step (z:=z) (q':=q') hlt HL.o gR hz HV.o h HB.o ae);obtain⟨x,bS⟩:∃x,xs.getD k 0=x:=⟨_,rfl⟩;rw[h0]at HS;rw[bS]at hx cW HS;clear bS h0;have nG:=J (fun W=>FR W x 0 q cW (by omega) hq);simp only[d32]at hx hst;have qX:(k:Int)<(xs.length:Int):=by omega
    have hkN:(k:Int)<(N:Int):=by omega
    have hky:¬(k:Int)<(ys.length:Int):=by omega
    clear ae jo kA hlt;go_wp2_with fail;refine(nG.o _).mono ?_
    rintro e w3 ⟨d,b',rfl,hd,am,oa,rfl⟩;have HR:=J (HS.o d b' hd oa);simp only[d32]at HR;clear oa;go_wp2_with fail;go_roundw
    case rel=>exact⟨k+1,b',by omega,am,by go_num,by go_num,HR.o⟩
    case measure=>simp[intOf];omega
  ·obtain rfl:k=N:=by omega
   have hval:=OM aA gR (.inr dq.o) HL.o gO.o HV.o;have aB:Own w1.heap.size wr (.slice (some ⟨w1.heap.size,0,none⟩) k k) zs:=by
    have h1:=HB.o;rw[qaR,qcm,qbH]at h1;have h3:=Own.block (B:=w1.heap.size) gR h1 (qab _) (by rw[HL.o];omega)
    rwa [HL.o]at h3
   have HT:=J (CJ _ _ _ aB.arr);have cA:=CG zs;rw[HL.o]at cA;obtain⟨A1,c1,gD,HO⟩:=aB.take (size zs) (by rw[HL.o];exact cA);rw[Cf aB.ok,hval]at HO;rw[HL.o]at gD;injection gD with gD hv3 hv2
   clear hv3;subst gD;subst hv2;have HO:=J (HO.mono au.o.size);have mu:=J jo;generalize size zs=sz at *;clear hval aB ae jo;go_wp2_with fail;refine HT.o.mono ?_
   rintro e w' ⟨rfl,rfl⟩;go_wp2_with fail;go_ret2;exact⟨_,rfl,HO.o,mu.o⟩
theorem RP(w:World)(v u:Value)(xs ys:List Nat)(h:Arr w v xs)(h':Arr w u ys)(hn:xs.length<=536870912)(bA:ys.length<=536870912)(gG:xs.length<ys.length):
  Calls Tryz.prog 223 #[v,u] w fun e w'=>∃v',e= .returned v'/\Own w.heap.size w' v' (Ac (val xs+val ys))/\Ext w w':=by
 have HA:=J h;have HB:=J h';obtain⟨aA,A,c,rfl,hc,hm,aa⟩:=h.open;obtain⟨bR,A',c',rfl,gH,mO,ar⟩:=h'.open;have vS:xs.length<=ys.length/\ys.length<=ys.length/\ys.length<=536870912:=by omega
 clear h h' aa ar hm mO hc gH;go_enter Tryz.func223,Tryz.ntmps223;go_wp2_with fail;go_loopw [5,6,7] (fun out cy i wr=>∃(k q:Nat) (zs:List Nat),k<=ys.length+1/\q<=1/\(k=ys.length+1->q=0)/\i= .int .i64 k/\cy= .int .u64 q/\zs.length=k/\
   val zs+4294967296 ^ k*q=val (xs.take k)+val (ys.take k)/\Own w.heap.size wr out zs/\Ext w wr) (fun _ _ i _=>ys.length+1-(intOf i).toNat)
 case atStart=>exact⟨0,0,[],qaj _,by omega,by omega,rfl,rfl,rfl,by simp[val],Own.none_ _ _,Ext.refl w⟩
 case round=>
  obtain⟨k,q,zs,hk,hq,mg,rfl,rfl,hl,hv,al,ae⟩:=hrel;have HV:=J hv;clear hv;have HL:=J hl;clear hl;have rT:=ae.size;by_cases hlt:k<=ys.length
  ·have wh:(k:Int)<=(ys.length:Int):=by omega
   have HX:=J (Dy wr _ xs (k:Int) (HA.o.ext ae) (by omega));have HY:=J (Dy wr _ ys (k:Int) (HB.o.ext ae) (by omega));rw[qaq]at HX HY;have cW:=aA.get k;have gC:=bR.get k;have HS:=J (fun t h=> @J3 xs ys zs k q t HL.o HV.o h);have aB:k=ys.length->xs.getD k 0=0/\ys.getD k 0=0:=fun e=>⟨Dh xs k (by omega),Dh ys k (by omega)⟩
   obtain⟨x,bS⟩:∃x,xs.getD k 0=x:=⟨_,rfl⟩;obtain⟨y,ei⟩:∃y,ys.getD k 0=y:=⟨_,rfl⟩;rw[bS]at HX HS cW aB;rw[ei]at HY HS gC aB;clear bS ei;have aD:k+1=ys.length+1->(q+x+y) / 4294967296=0:=fun e=>by have:=aB (by omega);omega
   have ed:=J (show ∀z:Nat,zs.length+[z].length<=2147483648 from fun z=>by simp[HL.o];omega);have HZ:=J (show (q+x+y) % 4294967296<4294967296 from qba _ (by omega));have jX:=J aD;clear aB aD;go_wp2_with fail;refine HX.o.mono ?_;rintro e w' ⟨rfl,rfl⟩
   go_wp2_with fail;refine HY.o.mono ?_;rintro e w' ⟨rfl,rfl⟩
   go_wp2_with (at_builtin;go_must (refine AW rfl _ _ rfl rfl (al.ext ((Ext.refl _).alloc _)) rfl (Arr.fresh1' _ _ ((q+x+y) % 4294967296) (by omega) HZ.o) (ed.o _) (by simp;omega) ?_;intro v' w' dw aC hb));go_roundw
   case rel=>exact⟨k+1,(q+x+y) / 4294967296,_,by omega,by omega,jX.o,by go_num,by go_num,by simp[HL.o],HS.o _ rfl,dw,(ae.alloc _).more hb⟩
   case measure=>simp[intOf];omega
  ·obtain rfl:k=ys.length+1:=by omega
   have wh:¬(((ys.length+1:Nat):Int))<=(ys.length:Int):=by omega
   have hq:=mg rfl;subst hq;have hval:=HV.o;rw[qbr,qaN,qaf (by omega),qaf (by omega)]at hval;have HT:=CA _ _ _ al.arr (by rw[HL.o];omega);rw[hval]at HT;have HT:=J HT;clear hval;go_wp2_with fail;refine HT.o.mono ?_
   rintro e w2 ⟨v2,rfl,ho,hx⟩;go_wp2_with fail;go_ret;exact⟨_,rfl,ho.mono ae.size,ae.trans hx⟩
theorem RQ(w:World)(v u:Value)(xs ys:List Nat)(h:Arr w v xs)(h':Arr w u ys)(hn:xs.length<=536870912)(_hn':ys.length<=536870912)(gG:¬xs.length<ys.length):
  Calls Tryz.prog 223 #[v,u] w fun e w'=>∃v',e= .returned v'/\Own w.heap.size w' v' (Ac (val xs+val ys))/\Ext w w':=by
 have HA:=J h;have HB:=J h';obtain⟨aA,A,c,rfl,hc,hm,aa⟩:=h.open;obtain⟨bR,A',c',rfl,gH,mO,ar⟩:=h'.open;have vS:xs.length<=xs.length/\ys.length<=xs.length/\xs.length<=536870912:=by omega
 clear h h' aa ar hm mO hc gH;go_enter Tryz.func223,Tryz.ntmps223;go_wp2_with fail;go_loopw [5,6,7] (fun out cy i wr=>∃(k q:Nat) (zs:List Nat),k<=xs.length+1/\q<=1/\(k=xs.length+1->q=0)/\i= .int .i64 k/\cy= .int .u64 q/\zs.length=k/\
   val zs+4294967296 ^ k*q=val (xs.take k)+val (ys.take k)/\Own w.heap.size wr out zs/\Ext w wr) (fun _ _ i _=>xs.length+1-(intOf i).toNat)
 case atStart=>exact⟨0,0,[],qaj _,by omega,by omega,rfl,rfl,rfl,by simp[val],Own.none_ _ _,Ext.refl w⟩
 case round=>
  obtain⟨k,q,zs,hk,hq,mg,rfl,rfl,hl,hv,al,ae⟩:=hrel;have HV:=J hv;clear hv;have HL:=J hl;clear hl;have rT:=ae.size;by_cases hlt:k<=xs.length
  ·have wh:(k:Int)<=(xs.length:Int):=by omega
   have HX:=J (Dy wr _ xs (k:Int) (HA.o.ext ae) (by omega));have HY:=J (Dy wr _ ys (k:Int) (HB.o.ext ae) (by omega));rw[qaq]at HX HY;have cW:=aA.get k;have gC:=bR.get k;have HS:=J (fun t h=> @J3 xs ys zs k q t HL.o HV.o h);have aB:k=xs.length->xs.getD k 0=0/\ys.getD k 0=0:=fun e=>⟨Dh xs k (by omega),Dh ys k (by omega)⟩
   obtain⟨x,bS⟩:∃x,xs.getD k 0=x:=⟨_,rfl⟩;obtain⟨y,ei⟩:∃y,ys.getD k 0=y:=⟨_,rfl⟩;rw[bS]at HX HS cW aB;rw[ei]at HY HS gC aB;clear bS ei;have aD:k+1=xs.length+1->(q+x+y) / 4294967296=0:=fun e=>by have:=aB (by omega);omega
   have ed:=J (show ∀z:Nat,zs.length+[z].length<=2147483648 from fun z=>by simp[HL.o];omega);have HZ:=J (show (q+x+y) % 4294967296<4294967296 from qba _ (by omega));have jX:=J aD;clear aB aD;go_wp2_with fail;refine HX.o.mono ?_;rintro e w' ⟨rfl,rfl⟩
   go_wp2_with fail;refine HY.o.mono ?_;rintro e w' ⟨rfl,rfl⟩
   go_wp2_with (at_builtin;go_must (refine AW rfl _ _ rfl rfl (al.ext ((Ext.refl _).alloc _)) rfl (Arr.fresh1' _ _ ((q+x+y) % 4294967296) (by omega) HZ.o) (ed.o _) (by simp;omega) ?_;intro v' w' dw aC hb));go_roundw
   case rel=>exact⟨k+1,(q+x+y) / 4294967296,_,by omega,by omega,jX.o,by go_num,by go_num,by simp[HL.o],HS.o _ rfl,dw,(ae.alloc _).more hb⟩
   case measure=>simp[intOf];omega
  ·obtain rfl:k=xs.length+1:=by omega
   have wh:¬(((xs.length+1:Nat):Int))<=(xs.length:Int):=by omega
   have hq:=mg rfl;subst hq;have hval:=HV.o;rw[qbr,qaN,qaf (by omega),qaf (by omega)]at hval;have HT:=CA _ _ _ al.arr (by rw[HL.o];omega);rw[hval]at HT;have HT:=J HT;clear hval;go_wp2_with fail;refine HT.o.mono ?_
   rintro e w2 ⟨v2,rfl,ho,hx⟩;go_wp2_with fail;go_ret;exact⟨_,rfl,ho.mono ae.size,ae.trans hx⟩
theorem KL(w:World)(v u:Value)(xs ys:List Nat)(h:Arr w v xs)(h':Arr w u ys)(hn:xs.length<=536870912)(bA:ys.length<=536870912):
  Calls Tryz.prog 223 #[v,u] w fun e w'=>∃v',e= .returned v'/\Own w.heap.size w' v' (Ac (val xs+val ys))/\Ext w w':=by
 by_cases hc:xs.length<ys.length
 ·exact RP w v u xs ys h h' hn bA hc
 ·exact RQ w v u xs ys h h' hn bA hc
end Big
end Go.Proofs.YtkoaogkknnelaaaGreatDoor
