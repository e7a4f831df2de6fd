import Derived.Test.YtkoaogkknnelaaaGreatDoorM24
set_option linter.unusedVariables false
set_option linter.unusedSimpArgs false
set_option maxHeartbeats 1000000
set_option maxRecDepth 100000
namespace Go.Proofs.YtkoaogkknnelaaaGreatDoor
namespace Big
open Lib (hid)
open Go.RowKit
def Sk(w0 wr:World)(xs ys:List Nat)(i:Nat):Prop:=
 ∃os:List Nat,os.length=xs.length+ys.length/\Ok os/\val os=val (xs.take i)*val ys/\(∀j,i+ys.length<=j->os.getD j 0=0)/\
  Blk wr w0.heap.size 183 (cells os)/\Ext w0 wr
def GD(w0 wr:World)(xs ys:List Nat)(i k c:Nat):Prop:=
 ∃os:List Nat,os.length=xs.length+ys.length/\Ok os/\val os+4294967296 ^ (i+k)*c=val (xs.take i)*val ys+4294967296 ^ i*(xs.getD i 0*val (ys.take k))/\
  (∀j,i+ys.length<=j->os.getD j 0=0)/\Blk wr w0.heap.size 183 (cells os)/\Ext w0 wr
theorem GD.step {w0 wr:World} {xs ys os:List Nat} {i k c t:Nat} (hi:i<xs.length) (hk:k<ys.length) (hl:os.length=xs.length+ys.length) (ax:Ok os)
  (h:val os+4294967296 ^ (i+k)*c=val (xs.take i)*val ys+4294967296 ^ i*(xs.getD i 0*val (ys.take k)))
  (hz:∀j,i+ys.length<=j->os.getD j 0=0) (ht:t=c+(xs.getD i 0*ys.getD k 0+os.getD (i+k) 0))
  (hb:Blk wr w0.heap.size 183 (cells os)) (he:Ext w0 wr):
  GD w0 (wr.setCell ⟨w0.heap.size,i+k,none⟩ (d32 (t % 4294967296))) xs ys i (k+1) (t / 4294967296):=by
 refine⟨os.set (i+k) (t % 4294967296),by simp[hl],ax.set _ (Nat.mod_lt _ (by omega)),Ri (by omega) h ht,fun j hj=> ?_,?_,he.setCell (Nat.le_refl _) _⟩
 ·rw[Hz _ _ _ _ (by omega)];exact hz j hj
 ·have:=hb.set_ (i+k) (d32 (t % 4294967296))
  rwa [Bp]at this
theorem GD.done {w0 wr:World} {xs ys os:List Nat} {i c:Nat} (hi:i<xs.length) (hl:os.length=xs.length+ys.length) (ax:Ok os) (hc:c<4294967296)
  (h:val os+4294967296 ^ (i+ys.length)*c=val (xs.take i)*val ys+4294967296 ^ i*(xs.getD i 0*val (ys.take ys.length)))
  (hz:∀j,i+ys.length<=j->os.getD j 0=0)
  (hb:Blk wr w0.heap.size 183 (cells os)) (he:Ext w0 wr):
  Sk w0 (wr.setCell ⟨w0.heap.size,i+ys.length,none⟩ (d32 c)) xs ys (i+1):=by
 refine⟨os.set (i+ys.length) c,by simp[hl],ax.set _ hc,?_,fun j hj=> ?_,?_,he.setCell (Nat.le_refl _) _⟩
 ·rw[SK (by omega) (hz _ (Nat.le_refl _)) h,Bn,Nat.add_mul,Nat.mul_assoc,List.take_of_length_le (Nat.le_refl _)]
 ·rw[Hz _ _ _ _ (by omega)];exact hz j (by omega)
 ·have:=hb.set_ (i+ys.length) (d32 c)
  rwa [Bp]at this
theorem LK{x y:Nat}(hx:x<4294967296)(hy:y<4294967296):x*y<=18446744065119617025:=
 Nat.mul_le_mul (show x<=4294967295 by omega) (show y<=4294967295 by omega)
theorem EF(w:World)(v u:Value)(xs ys:List Nat)(h:Arr w v xs)(h':Arr w u ys)(hn:xs.length<=268435456)(bh:ys.length<=268435456):
  Calls Tryz.prog 277 #[v,u] w fun e w'=>∃v',e= .returned v'/\Own w.heap.size w' v' (Ac (val xs*val ys))/\Ext w w':=by
 obtain⟨ax,A,cap,rfl,dz,ek,aa⟩:=h.open;obtain⟨bE,A',mM,rfl,eJ,iC,an⟩:=h'.open;have HC:=hid aa;have oR:=hid an;have cS:=Cp (xs.length+ys.length) (by omega);simp only[Int.natCast_add]at cS;clear h h' aa an ek iC dz eJ;go_enter Tryz.func277,Tryz.ntmps277;go_wp2_with fail;clear cS;go_loopw [19] (fun i wr=>∃k:Nat,k<=xs.length/\i= .int .i64 k/\Sk w wr xs ys k) (fun i _=>xs.length-(intOf i).toNat)
 case atStart=>exact⟨0,Nat.zero_le _,rfl,List.replicate (xs.length+ys.length) 0,by simp,Ok.zeros _,by simp[val,GH],fun j _=>by rw[List.getD_eq_getElem?_getD,List.getElem?_replicate];split<;>rfl,Blk.new _ _ _,(Ext.refl w).alloc _⟩
 case round=>
  obtain⟨i,hi,rfl,os,hl,eu,hv,hz,ao,ad⟩:=hrel;have HV:=hid hv;clear hv;have HZ:=hid hz;clear hz;have HB:=hid ao;clear ao;have HL:=hid hl;clear hl;by_cases hlt:i<xs.length
  ·obtain⟨b,o,rfl,hb,aa⟩:=HC.out (by omega);have hx:=(ad.cell hb).trans (aa i hlt);have YV:=hid aa;clear aa;have cK:=ax.get i;obtain⟨x,b7⟩:∃x,xs.getD i 0=x:=⟨_,rfl⟩;rw[b7]at hx cK;have yO:=hid b7;clear b7;simp only[d32]at hx;obtain⟨wo,rfl⟩:∃wo:World,wo=wr:=⟨_,rfl⟩;go_wp2_with fail;go_loopw [8,26] (fun cy kk wr=>∃k c:Nat,k<=ys.length/\c<4294967296/\kk= .int .i64 k/\cy= .int .u64 c/\GD w wr xs ys i k c) (fun _ kk _=>ys.length-(intOf kk).toNat)
   case atStart=>exact⟨0,0,Nat.zero_le _,by omega,rfl,rfl,os,HL.out,eu,by simp[val,HV.out],HZ.out,HB.out,ad⟩
   case round=>
    clear HV HZ HB HL hx eu ad os;obtain⟨k,c,hk,hc,rfl,rfl,os,hl,eu,hv,hz,ao,ad⟩:=hrel;have HV:=hid hv;clear hv;have HZ:=hid hz;clear hz;have HB:=hid ao;clear ao;have HL:=hid hl;clear hl;by_cases hlt2:k<ys.length
    ·obtain⟨b',o',rfl,fS,an⟩:=oR.out (by omega);have hy:=(ad.cell fS).trans (an k hlt2);clear an;have ac:=HB.out.cell (i+k);have gP:=HB.out.frozen (i+k);rw[AY _ _ (by rw[HL.out];omega)]at ac;have fi:=bE.get k;have xm:=eu.get (i+k);have HS:=hid (fun t h=>GD.step (t:=t) hlt hlt2 HL.out eu HV.out HZ.out h HB.out ad);rw[yO.out]at HS;obtain⟨y,dC⟩:∃y,ys.getD k 0=y:=⟨_,rfl⟩;obtain⟨z,nW⟩:∃z,os.getD (i+k) 0=z:=⟨_,rfl⟩;rw[dC]at hy fi HS;rw[nW]at ac xm HS;clear dC nW;have hp:=LK cK fi;have tt:(x:Int)*(y:Int)<=18446744065119617025:=by rw[<-Int.natCast_mul];omega
     have hp0:0<=(x:Int)*(y:Int):=by rw[<-Int.natCast_mul];omega
     simp only[d32]at ac hy
     go_wp2
     go_roundw
     case rel=>exact⟨k+1,(c+(x*y+z)) / 4294967296,by omega,Nat.div_lt_of_lt_mul (by omega),by go_num,by go_num,HS.out _ rfl⟩
     case measure=>simp[intOf];omega
    ·obtain rfl:k=ys.length:=by omega
     have ac:=HB.out.cell (i+ys.length);have gP:=HB.out.frozen (i+ys.length);rw[AY _ _ (by rw[HL.out];omega)]at ac;have HD:=hid (GD.done hlt HL.out eu hc HV.out HZ.out HB.out ad);generalize os.getD (i+ys.length) 0=z at ac;simp only[d32]at ac
     go_wp2
     go_roundw
     case rel=>exact⟨i+1,by omega,by go_num,HD.out⟩
     case measure=>simp[intOf];omega
  ·obtain rfl:i=xs.length:=by omega
   have aw:Own w.heap.size wr (.slice (some ⟨w.heap.size,0,none⟩) (xs.length+ys.length) (xs.length+ys.length)) os:=by
    have h3:=Own.block (B:=w.heap.size) eu HB.out (Nat.le_refl _) (by rw[HL.out];omega)
    rwa [HL.out]at h3
   have HT:=Bh _ _ _ aw.arr (by rw[HL.out];omega);rw[HV.out,List.take_of_length_le (Nat.le_refl _)]at HT;have HT:=hid HT;clear aw;go_wp2_with fail;refine HT.out.mono ?_
   rintro e w' ⟨v',rfl,ho,hx⟩;go_wp2_with fail;go_ret;exact⟨_,rfl,ho.mono ad.size,ad.trans hx⟩
theorem Cx{m n k:Nat}{j:Nat}(hm:(Ac m).length<=k)(hn:(Ac n).length<=j):(Ac (m+n)).length<=k+j+1:=by
 refine AG ?_
 have h1:=Ck (Ce m);have h2:=Ck (Ce n);rw[Ad]at h1 h2;have h3:=DL (show (Ac m).length<=k+j by omega);have h4:=DL (show (Ac n).length<=k+j by omega);rw[Nat.pow_succ];omega
theorem Oa(x y:Int):sgn (decide (x<0) != decide (y<0)) (x.natAbs*y.natAbs)=x*y:=by
 have hx:x=sgn (decide (x<0)) x.natAbs:=by unfold sgn;by_cases h:x<0<;>simp[h]<;>omega
 have hy:y=sgn (decide (y<0)) y.natAbs:=by unfold sgn;by_cases h:y<0<;>simp[h]<;>omega
 generalize decide (x<0)=b at *;generalize decide (y<0)=b' at *;generalize x.natAbs=m at *;generalize y.natAbs=n at *;subst hx;subst hy;cases b<;>cases b'<;>simp[sgn,Int.neg_mul,Int.mul_neg]
theorem AJ{m n k:Nat}{j:Nat}(hm:(Ac m).length<=k)(hn:(Ac n).length<=j):(Ac (m*n)).length<=k+j:=by
 refine AG ?_
 have h1:=Ck (Ce m);have h2:=Ck (Ce n);rw[Ad]at h1 h2;rw[Nat.pow_add];exact Nat.mul_lt_mul'' (Nat.lt_of_lt_of_le h1 (DL hm)) (Nat.lt_of_lt_of_le h2 (DL hn))
theorem Je(w:World)(v u:Value)(x y:Int)(h:Ar w v x)(h':Ar w u y)(hn:(Ac x.natAbs).length<=268435456)(bh:(Ac y.natAbs).length<=268435456):
  Calls Tryz.prog 278 #[v,u] w fun e w'=>∃v',e= .returned v'/\AL w.heap.size w' v' (x*y)/\Ext w w':=by
 have HA:=hid h;have HB:=hid h';have HM:=hid (fun W m m' a b=>EF W m m' (Ac x.natAbs) (Ac y.natAbs) a b hn bh);rw[Ad,Ad]at HM;have HS:=hid (Oa x y);obtain⟨b,n,A,c,rfl⟩:=h.shape;obtain⟨b',n',A',c',rfl⟩:=h'.shape;rw[<-h.sign,<-h'.sign]at HS;clear h h';go_enter Tryz.func278,Tryz.ntmps278;go_wp2_with fail;have hb0:=((Blk.new w 24 #[.bool b,.slice A n c]).alloc (.cells #[.bool b',.slice A' n' c'] 24)).alloc (.cells #[.bool false,.slice none 0 0] 24);have aq:=(Blk.new (w.alloc (.cells #[.bool b,.slice A n c] 24)) 24 #[.bool b',.slice A' n' c']).alloc (.cells #[.bool false,.slice none 0 0] 24);have hb2:=Blk.new ((w.alloc (.cells #[.bool b,.slice A n c] 24)).alloc (.cells #[.bool b',.slice A' n' c'] 24)) 24 #[.bool false,.slice none 0 0];have aC:=(((Ext.refl w).alloc (.cells #[.bool b,.slice A n c] 24)).alloc (.cells #[.bool b',.slice A' n' c'] 24)).alloc (.cells #[.bool false,.slice none 0 0] 24);simp only[World.size_alloc]at aq hb2;generalize ((w.alloc (.cells #[.bool b,.slice A n c] 24)).alloc (.cells #[.bool b',.slice A' n' c'] 24)).alloc (.cells #[.bool false,.slice none 0 0] 24)=wo at *;obtain⟨h0,h1,_,_,_⟩:=hb0.two;obtain⟨h2,h3,_,_,_⟩:=aq.two;obtain⟨h4,h5,h6,h7,eC⟩:=hb2.two;clear hb0 aq hb2;have HI:=hid (fun W m a=>B4 W (b != b') m (Ac (x.natAbs*y.natAbs)) a (by
  have:=AJ hn bh;omega))
 rw[Ad,HS.out]at HI
 go_region_held3 (fun w'=>Ext w w'/\w'.cell? ⟨w.heap.size,0,none⟩=some (.bool b)/\w'.cell? ⟨w.heap.size,1,none⟩=some (.slice A n c)/\w'.cell? ⟨w.heap.size+1,0,none⟩=some (.bool b')/\w'.cell? ⟨w.heap.size+1,1,none⟩=some (.slice A' n' c')/\
   w'.cell? ⟨w.heap.size+1+1,0,none⟩=some (was w' (w.heap.size+1+1) 0)/\w'.cell? ⟨w.heap.size+1+1,1,none⟩=some (was w' (w.heap.size+1+1) 1)/\w'.frozen? ⟨w.heap.size+1+1,0,none⟩=false/\w'.frozen? ⟨w.heap.size+1+1,1,none⟩=false)
  (first|(exact⟨aC.drew,h0,h1,h2,h3,Ag (w:=wo.drew) h4,Ag (w:=wo.drew) h5,h6,h7⟩)|(exact En (by assumption) (by assumption))|(exact Cz (by assumption) (by omega) (by omega) (by omega) (by omega) (by omega)))
  (first
   |(go_at_call 277;refine(HM.out _ _ _ ?_ ?_).mono ?_;(exact HA.out.mag.ext (And.left (by assumption)));(exact HB.out.mag.ext (And.left (by assumption)));rintro e w1 ⟨v',rfl,ho,hx⟩;obtain⟨nm,Am,cm,rfl⟩:=ho.shape;have Xi:=ho.arr;have hz1:=hx.size)
   |(go_at_call 212;refine(HI.out _ _ (by assumption)).mono ?_;rintro e w' ⟨v',rfl,hi,hx⟩;have zE:=hid hi;obtain⟨bi,ni,Ai,ci,rfl⟩:=hi.shape))
 go_wp2_with fail;rename_i hS;obtain⟨hE,_,_,_,_,hc0,hc1,_,_⟩:=hS;have aE:=aC.size;simp only[World.size_drew]at hz1;obtain⟨ak,ae⟩:=GV hc0 hc1;refine bodyPost_ret (v:= .agg #[.bool bi,.slice Ai ni ci]) (by simp[results,Tryz.results278,go_sem,ak,ae]) rfl ?_
 exact⟨_,rfl,zE.out.put (by omega) (by omega),hE⟩
theorem P2(w:World)(v u:Value)(x y:Int)(h:Ar w v x)(h':Ar w u y)(hn:(Ac x.natAbs).length<=268435456)(bh:(Ac y.natAbs).length<=268435456)(hs:decide (x<0)=decide (y<0)):
  Calls Tryz.prog 281 #[v,u] w fun e w'=>∃v',e= .returned v'/\AL w.heap.size w' v' (x+y)/\Ext w w':=by
 have HA:=hid h;have HB:=hid h';have HM:=hid (fun W m m' a b=>OE W m m' (Ac x.natAbs) (Ac y.natAbs) a b (by omega) (by omega));rw[Ad,Ad]at HM;obtain⟨b,n,A,c,rfl⟩:=h.shape;obtain⟨b',n',A',c',rfl⟩:=h'.shape;have hb:b'=b:=by rw[h.sign,h'.sign,hs]
 subst hb;have HS:=hid (show sgn b' (x.natAbs+y.natAbs)=x+y by
  have h1:=h.sign;have h2:=h'.sign;unfold sgn;cases b'
  ·have:=of_decide_eq_false h1.symm;have:=of_decide_eq_false h2.symm;simp;omega
  ·have:=of_decide_eq_true h1.symm;have:=of_decide_eq_true h2.symm;simp;omega)
 clear h h' hs;go_enter Tryz.func281,Tryz.ntmps281;go_wp2_with fail;have hb0:=((Blk.new w 24 #[.bool b',.slice A n c]).alloc (.cells #[.bool b',.slice A' n' c'] 24)).alloc (.cells #[.bool false,.slice none 0 0] 24);have aq:=(Blk.new (w.alloc (.cells #[.bool b',.slice A n c] 24)) 24 #[.bool b',.slice A' n' c']).alloc (.cells #[.bool false,.slice none 0 0] 24);have hb2:=Blk.new ((w.alloc (.cells #[.bool b',.slice A n c] 24)).alloc (.cells #[.bool b',.slice A' n' c'] 24)) 24 #[.bool false,.slice none 0 0];have aC:=(((Ext.refl w).alloc (.cells #[.bool b',.slice A n c] 24)).alloc (.cells #[.bool b',.slice A' n' c'] 24)).alloc (.cells #[.bool false,.slice none 0 0] 24);simp only[World.size_alloc]at aq hb2;generalize ((w.alloc (.cells #[.bool b',.slice A n c] 24)).alloc (.cells #[.bool b',.slice A' n' c'] 24)).alloc (.cells #[.bool false,.slice none 0 0] 24)=wo at *;obtain⟨h0,h1,_,_,_⟩:=hb0.two;obtain⟨h2,h3,_,_,_⟩:=aq.two;obtain⟨h4,h5,h6,h7,eC⟩:=hb2.two;clear hb0 aq hb2;have HI:=hid (fun W m a=>B4 W b' m (Ac (x.natAbs+y.natAbs)) a (by
  have:=Cx hn bh;omega))
 rw[Ad,HS.out]at HI
 go_region_held3 (fun w'=>Ext w w'/\w'.cell? ⟨w.heap.size,0,none⟩=some (.bool b')/\w'.cell? ⟨w.heap.size,1,none⟩=some (.slice A n c)/\w'.cell? ⟨w.heap.size+1,0,none⟩=some (.bool b')/\w'.cell? ⟨w.heap.size+1,1,none⟩=some (.slice A' n' c')/\
   w'.cell? ⟨w.heap.size+1+1,0,none⟩=some (was w' (w.heap.size+1+1) 0)/\w'.cell? ⟨w.heap.size+1+1,1,none⟩=some (was w' (w.heap.size+1+1) 1)/\w'.frozen? ⟨w.heap.size+1+1,0,none⟩=false/\w'.frozen? ⟨w.heap.size+1+1,1,none⟩=false)
  (first|(exact⟨aC.drew,h0,h1,h2,h3,Ag (w:=wo.drew) h4,Ag (w:=wo.drew) h5,h6,h7⟩)|(exact En (by assumption) (by assumption))|(exact Cz (by assumption) (by omega) (by omega) (by omega) (by omega) (by omega)))
  (first
   |(go_at_call 298;refine(HM.out _ _ _ ?_ ?_).mono ?_;(exact HA.out.mag.ext (And.left (by assumption)));(exact HB.out.mag.ext (And.left (by assumption)));rintro e w1 ⟨v',rfl,ho,hx⟩;obtain⟨nm,Am,cm,rfl⟩:=ho.shape;have Xi:=ho.arr;have hz1:=hx.size)
   |(go_at_call 212;refine(HI.out _ _ (by assumption)).mono ?_;rintro e w' ⟨v',rfl,hi,hx⟩;have zE:=hid hi;obtain⟨bi,ni,Ai,ci,rfl⟩:=hi.shape))
 go_wp2_with fail;rename_i hS;obtain⟨hE,_,_,_,_,hc0,hc1,_,_⟩:=hS;have aE:=aC.size;simp only[World.size_drew]at hz1;obtain⟨ak,ae⟩:=GV hc0 hc1;refine bodyPost_ret (v:= .agg #[.bool bi,.slice Ai ni ci]) (by simp[results,Tryz.results281,go_sem,ak,ae]) rfl ?_
 exact⟨_,rfl,zE.out.put (by omega) (by omega),hE⟩
def MC(w0 wr:World)(N:Nat)(xs ys:List Nat)(k q:Nat):Prop:=
 ∃zs:List Nat,zs.length=k/\Ok zs/\val (xs.take k)+4294967296 ^ k*q=val zs+val (ys.take k)/\
  Blk wr w0.heap.size 183 (cells (zs++List.replicate (N-k) 0))/\Ext w0 wr
theorem MC.step {w0 wr:World} {N:Nat} {xs ys zs:List Nat} {k q z q':Nat} (hk:k<N) (hl:zs.length=k) (ax:Ok zs) (hz:z<4294967296)
  (h:val (xs.take k)+4294967296 ^ k*q=val zs+val (ys.take k)) (ht:xs.getD k 0+4294967296*q'=z+ys.getD k 0+q)
  (hb:Blk wr w0.heap.size 183 (cells (zs++List.replicate (N-k) 0))) (he:Ext w0 wr):
  MC w0 (wr.setCell ⟨w0.heap.size,k,none⟩ (d32 z)) N xs ys (k+1) q':=by
 refine⟨zs++[z],by simp[hl],ax.snoc hz,Lr hl h ht,?_,he.setCell (Nat.le_refl _) _⟩;have h1:=hb.set_ k (d32 z);rw[Bp,show N-k=(N-(k+1))+1 by omega]at h1;have h2:=C7 zs (N-(k+1)) z;rw[hl]at h2;rw[h2]at h1;exact h1
theorem SI(w:World)(v u:Value)(xs ys:List Nat)(h:Arr w v xs)(h':Arr w u ys)(hn:xs.length<=536870912)(bh:ys.length<=536870912)(hlt:val xs<val ys):
  Calls Tryz.prog 297 #[v,u] w fun e w'=>e= .returned (.tuple #[.slice none 0 0,.bool false])/\Ext w w':=by
 have HC:=D5 w v u xs ys h h' (by omega) (by omega);rw[EO hlt]at HC;have HC:=hid HC;clear h h' hlt;go_enter Tryz.func297,Tryz.ntmps297;go_wp2_with fail;refine HC.out.mono ?_;rintro e w' ⟨rfl,hx⟩
 go_wp2_with fail;go_ret2;exact⟨rfl,hx⟩
theorem KQ(w:World)(v u:Value)(xs ys:List Nat)(h:Arr w v xs)(h':Arr w u ys)(hn:xs.length<=536870912)(bh:ys.length<=536870912)(cx:val ys<=val xs):
  Calls Tryz.prog 297 #[v,u] w fun e w'=>∃v',e= .returned (.tuple #[v',.bool true])/\Own w.heap.size w' v' (Ac (val xs-val ys))/\Ext w w':=by
 have cJ:=hid (D5 w v u xs ys h h' (by omega) (by omega));have mQ:=hid (fun W hx=>Co W v xs (h.ext hx));have fq:¬BQ (val xs) (val ys)<0:=by rw[DQ];omega
 obtain⟨ax,A,cap,rfl,dz,ek,aa⟩:=h.open;obtain⟨bE,A',mM,rfl,eJ,iC,an⟩:=h'.open;have HC:=hid aa;have oR:=hid an;have gH:=hid cx;have kU:=Cm xs;have cY:=hid (show val (xs.drop (size xs))=0 by
  have h1:=Bo xs (size xs);rw[BY ax,Ad]at h1;have:0<4294967296 ^ size xs:=E7 _;rcases Nat.eq_zero_or_pos (val (xs.drop (size xs))) with h0|h0
  ·exact h0
  ·have:=Nat.mul_le_mul_left (4294967296 ^ size xs) h0;omega)
 generalize hN:size xs=N at *;have HN:=hid hN;clear h h' aa an ek iC dz eJ cx hN;generalize BQ (val xs) (val ys)=cc at cJ fq;have cS:=Cp N (by omega);go_enter Tryz.func297,Tryz.ntmps297;go_wp2_with fail;refine cJ.out.mono ?_;rintro e w1 ⟨rfl,aj⟩
 have ar:=hid aj;clear aj;go_wp2_with fail;refine(mQ.out _ ar.out).mono ?_;rintro e w2 ⟨rfl,rfl⟩
 have cX:=hid (ar.out.alloc (.cells (Array.replicate N (.int .u32 0)) 183));go_wp2_with fail;clear cS;go_loopw [7,19] (fun cy i wr=>∃k q:Nat,k<=N/\q<=1/\i= .int .i64 k/\cy= .int .u32 q/\MC w1 wr N xs ys k q) (fun _ i _=>N-(intOf i).toNat)
 case atStart=>exact⟨0,0,Nat.zero_le _,by omega,rfl,rfl,[],rfl,B3,by simp[val],Blk.new _ _ _,(Ext.refl w1).alloc _⟩
 case round=>
  obtain⟨k,q,hk,hq,rfl,rfl,zs,hl,fy,hv,ao,ad⟩:=hrel;have HV:=hid hv;clear hv;have HB:=hid ao;clear ao;have HL:=hid hl;clear hl;have im:=ar.out.trans ad;by_cases hlt:k<N
  ·obtain⟨b,o,rfl,hb,aa⟩:=HC.out (by omega);have hx:=(im.cell hb).trans (aa k (by omega));have ac:=HB.out.cell k;have gP:=HB.out.frozen k;rw[AY _ _ (by simp[HL.out];omega)]at ac;clear aa;have cK:=ax.get k;by_cases hk2:k<ys.length
   ·obtain⟨b',o',rfl,fS,an⟩:=oR.out (by omega);have hy:=(im.cell fS).trans (an k hk2);clear an;have fi:=bE.get k;have HS:=hid (fun z q' hz h=>MC.step (z:=z) (q':=q') hlt HL.out fy hz HV.out h HB.out ad);obtain⟨x,b7⟩:∃x,xs.getD k 0=x:=⟨_,rfl⟩;obtain⟨y,dC⟩:∃y,ys.getD k 0=y:=⟨_,rfl⟩;rw[b7]at hx cK HS;rw[dC]at hy fi HS;clear b7 dC;have nP:=hid (fun W=>Fu W x y q cK fi hq);simp only[d32]at hx ac hy;have pd:(k:Int)<(xs.length:Int):=by omega
    have XL:(k:Int)<(N:Int):=by omega
    have XK:(k:Int)<(ys.length:Int):=by omega
    clear ad im kU hlt;go_wp2_with fail;refine(nP.out _).mono ?_
    rintro e w3 ⟨d,b',rfl,hd,aq,l8,rfl⟩;have HR:=hid (HS.out d b' hd l8);simp only[d32]at HR;clear l8;go_wp2_with fail;go_roundw
    case rel=>exact⟨k+1,b',by omega,aq,by go_num,by go_num,HR.out⟩
    case measure=>simp[intOf];omega
   ·have h0:ys.getD k 0=0:=Di ys k (by omega);have HS:=hid (fun z q' hz h=>MC.step (z:=z) (q':=q') hlt HL.out fy hz HV.out h HB.out ad);obtain⟨x,b7⟩:∃x,xs.getD k 0=x:=⟨_,rfl⟩;rw[h0]at HS;rw[b7]at hx cK HS;clear b7 h0;have nP:=hid (fun W=>Fu W x 0 q cK (by omega) hq);simp only[d32]at hx ac;have pd:(k:Int)<(xs.length:Int):=by omega
    have XL:(k:Int)<(N:Int):=by omega
    have XK:¬(k:Int)<(ys.length:Int):=by omega
    clear ad im kU hlt;go_wp2_with fail;refine(nP.out _).mono ?_
    rintro e w3 ⟨d,b',rfl,hd,aq,l8,rfl⟩;have HR:=hid (HS.out d b' hd l8);simp only[d32]at HR;clear l8;go_wp2_with fail;go_roundw
    case rel=>exact⟨k+1,b',by omega,aq,by go_num,by go_num,HR.out⟩
    case measure=>simp[intOf];omega
  ·obtain rfl:k=N:=by omega
   have bj:=N7 ax fy (.inr cY.out) HL.out gH.out HV.out;have aw:Own w1.heap.size wr (.slice (some ⟨w1.heap.size,0,none⟩) k k) zs:=by
    have h1:=HB.out;rw[Nat.sub_self,List.replicate_zero,List.append_nil]at h1;have h3:=Own.block (B:=w1.heap.size) fy h1 (Nat.le_refl _) (by rw[HL.out];omega)
    rwa [HL.out]at h3
   have HT:=hid (Co _ _ _ aw.arr);have cB:=Cm zs;rw[HL.out]at cB;obtain⟨A1,c1,fl,HO⟩:=aw.take (size zs) (by rw[HL.out];exact cB);rw[BY aw.ok,bj]at HO;rw[HL.out]at fl;injection fl with fl hv3 hv2
   clear hv3;subst fl;subst hv2;have HO:=hid (HO.mono ar.out.size);have kI:=hid im;generalize size zs=sz at *;clear bj aw ad im;go_wp2_with fail;refine HT.out.mono ?_
   rintro e w' ⟨rfl,rfl⟩;go_wp2_with fail;go_ret2;exact⟨_,rfl,HO.out,kI.out⟩
theorem Q3(w:World)(v u:Value)(xs ys:List Nat)(h:Arr w v xs)(h':Arr w u ys)(hn:xs.length<=536870912)(bh:ys.length<=536870912)(fq:xs.length<ys.length):
  Calls Tryz.prog 223 #[v,u] w fun e w'=>∃v',e= .returned v'/\Own w.heap.size w' v' (Ac (val xs+val ys))/\Ext w w':=by
 have HA:=hid h;have HB:=hid h';obtain⟨ax,A,c,rfl,hc,hm,aa⟩:=h.open;obtain⟨bE,A',c',rfl,jc,kY,an⟩:=h'.open;have tL:xs.length<=ys.length/\ys.length<=ys.length/\ys.length<=536870912:=by omega
 clear h h' aa an hm kY hc jc;go_enter Tryz.func223,Tryz.ntmps223;go_wp2_with fail;go_loopw [5,6,7] (fun out cy i wr=>∃(k q:Nat) (zs:List Nat),k<=ys.length+1/\q<=1/\(k=ys.length+1->q=0)/\i= .int .i64 k/\cy= .int .u64 q/\zs.length=k/\
   val zs+4294967296 ^ k*q=val (xs.take k)+val (ys.take k)/\Own w.heap.size wr out zs/\Ext w wr) (fun _ _ i _=>ys.length+1-(intOf i).toNat)
 case atStart=>exact⟨0,0,[],Nat.zero_le _,by omega,by omega,rfl,rfl,rfl,by simp[val],Own.none_ _ _,Ext.refl w⟩
 case round=>
  obtain⟨k,q,zs,hk,hq,oe,rfl,rfl,hl,hv,ai,ad⟩:=hrel;have HV:=hid hv;clear hv;have HL:=hid hl;clear hl;have sb:=ad.size;by_cases hlt:k<=ys.length
  ·have xH:(k:Int)<=(ys.length:Int):=by omega
   have HX:=hid (DZ wr _ xs (k:Int) (HA.out.ext ad) (by omega));have HY:=hid (DZ wr _ ys (k:Int) (HB.out.ext ad) (by omega));rw[Int.toNat_natCast]at HX HY;have cK:=ax.get k;have fi:=bE.get k;have HS:=hid (fun t h=> @Jo xs ys zs k q t HL.out HV.out h);have aw:k=ys.length->xs.getD k 0=0/\ys.getD k 0=0:=fun e=>⟨Di xs k (by omega),Di ys k (by omega)⟩
   obtain⟨x,b7⟩:∃x,xs.getD k 0=x:=⟨_,rfl⟩;obtain⟨y,dC⟩:∃y,ys.getD k 0=y:=⟨_,rfl⟩;rw[b7]at HX HS cK aw;rw[dC]at HY HS fi aw;clear b7 dC;have aE:k+1=ys.length+1->(q+x+y) / 4294967296=0:=fun e=>by have:=aw (by omega);omega
   have d9:=hid (show ∀z:Nat,zs.length+[z].length<=2147483648 from fun z=>by simp[HL.out];omega);have HZ:=hid (show (q+x+y) % 4294967296<4294967296 from Nat.mod_lt _ (by omega));have oH:=hid aE;clear aw aE;go_wp2_with fail;refine HX.out.mono ?_;rintro e w' ⟨rfl,rfl⟩
   go_wp2_with fail;refine HY.out.mono ?_;rintro e w' ⟨rfl,rfl⟩
   go_wp2_with (at_builtin;go_must (refine AO rfl _ _ rfl rfl (ai.ext ((Ext.refl _).alloc _)) rfl (Arr.fresh1' _ _ ((q+x+y) % 4294967296) (by omega) HZ.out) (d9.out _) (by simp;omega) ?_;intro v' w' dh au hb));go_roundw
   case rel=>exact⟨k+1,(q+x+y) / 4294967296,_,by omega,by omega,oH.out,by go_num,by go_num,by simp[HL.out],HS.out _ rfl,dh,(ad.alloc _).more hb⟩
   case measure=>simp[intOf];omega
  ·obtain rfl:k=ys.length+1:=by omega
   have xH:¬(((ys.length+1:Nat):Int))<=(ys.length:Int):=by omega
   have hq:=oe rfl;subst hq;have bj:=HV.out;rw[Nat.mul_zero,Nat.add_zero,List.take_of_length_le (by omega),List.take_of_length_le (by omega)]at bj;have HT:=Cw _ _ _ ai.arr (by rw[HL.out];omega);rw[bj]at HT;have HT:=hid HT;clear bj;go_wp2_with fail;refine HT.out.mono ?_
   rintro e w2 ⟨v2,rfl,ho,hx⟩;go_wp2_with fail;go_ret;exact⟨_,rfl,ho.mono ad.size,ad.trans hx⟩
theorem Q4(w:World)(v u:Value)(xs ys:List Nat)(h:Arr w v xs)(h':Arr w u ys)(hn:xs.length<=536870912)(YI:ys.length<=536870912)(fq:¬xs.length<ys.length):
  Calls Tryz.prog 223 #[v,u] w fun e w'=>∃v',e= .returned v'/\Own w.heap.size w' v' (Ac (val xs+val ys))/\Ext w w':=by
 have HA:=hid h;have HB:=hid h';obtain⟨ax,A,c,rfl,hc,hm,aa⟩:=h.open;obtain⟨bE,A',c',rfl,jc,kY,an⟩:=h'.open;have tL:xs.length<=xs.length/\ys.length<=xs.length/\xs.length<=536870912:=by omega
 clear h h' aa an hm kY hc jc;go_enter Tryz.func223,Tryz.ntmps223;go_wp2_with fail;go_loopw [5,6,7] (fun out cy i wr=>∃(k q:Nat) (zs:List Nat),k<=xs.length+1/\q<=1/\(k=xs.length+1->q=0)/\i= .int .i64 k/\cy= .int .u64 q/\zs.length=k/\
   val zs+4294967296 ^ k*q=val (xs.take k)+val (ys.take k)/\Own w.heap.size wr out zs/\Ext w wr) (fun _ _ i _=>xs.length+1-(intOf i).toNat)
 case atStart=>exact⟨0,0,[],Nat.zero_le _,by omega,by omega,rfl,rfl,rfl,by simp[val],Own.none_ _ _,Ext.refl w⟩
 case round=>
  obtain⟨k,q,zs,hk,hq,oe,rfl,rfl,hl,hv,ai,ad⟩:=hrel;have HV:=hid hv;clear hv;have HL:=hid hl;clear hl;have sb:=ad.size;by_cases hlt:k<=xs.length
  ·have xH:(k:Int)<=(xs.length:Int):=by omega
   have HX:=hid (DZ wr _ xs (k:Int) (HA.out.ext ad) (by omega));have HY:=hid (DZ wr _ ys (k:Int) (HB.out.ext ad) (by omega));rw[Int.toNat_natCast]at HX HY;have cK:=ax.get k;have fi:=bE.get k;have HS:=hid (fun t h=> @Jo xs ys zs k q t HL.out HV.out h);have aw:k=xs.length->xs.getD k 0=0/\ys.getD k 0=0:=fun e=>⟨Di xs k (by omega),Di ys k (by omega)⟩
   obtain⟨x,b7⟩:∃x,xs.getD k 0=x:=⟨_,rfl⟩;obtain⟨y,dC⟩:∃y,ys.getD k 0=y:=⟨_,rfl⟩;rw[b7]at HX HS cK aw;rw[dC]at HY HS fi aw;clear b7 dC;have aE:k+1=xs.length+1->(q+x+y) / 4294967296=0:=fun e=>by have:=aw (by omega);omega
   have d9:=hid (show ∀z:Nat,zs.length+[z].length<=2147483648 from fun z=>by simp[HL.out];omega);have HZ:=hid (show (q+x+y) % 4294967296<4294967296 from Nat.mod_lt _ (by omega));have oH:=hid aE;clear aw aE;go_wp2_with fail;refine HX.out.mono ?_;rintro e w' ⟨rfl,rfl⟩
   go_wp2_with fail;refine HY.out.mono ?_;rintro e w' ⟨rfl,rfl⟩
   go_wp2_with (at_builtin;go_must (refine AO rfl _ _ rfl rfl (ai.ext ((Ext.refl _).alloc _)) rfl (Arr.fresh1' _ _ ((q+x+y) % 4294967296) (by omega) HZ.out) (d9.out _) (by simp;omega) ?_;intro v' w' dh au hb));go_roundw
   case rel=>exact⟨k+1,(q+x+y) / 4294967296,_,by omega,by omega,oH.out,by go_num,by go_num,by simp[HL.out],HS.out _ rfl,dh,(ad.alloc _).more hb⟩
   case measure=>simp[intOf];omega
  ·obtain rfl:k=xs.length+1:=by omega
   have xH:¬(((xs.length+1:Nat):Int))<=(xs.length:Int):=by omega
   have hq:=oe rfl;subst hq;have bj:=HV.out;rw[Nat.mul_zero,Nat.add_zero,List.take_of_length_le (by omega),List.take_of_length_le (by omega)]at bj;have HT:=Cw _ _ _ ai.arr (by rw[HL.out];omega);rw[bj]at HT;have HT:=hid HT;clear bj;go_wp2_with fail;refine HT.out.mono ?_
   rintro e w2 ⟨v2,rfl,ho,hx⟩;go_wp2_with fail;go_ret;exact⟨_,rfl,ho.mono ad.size,ad.trans hx⟩
theorem Pp(w:World)(v u:Value)(xs ys:List Nat)(h:Arr w v xs)(h':Arr w u ys)(hn:xs.length<=536870912)(bh:ys.length<=536870912):
  Calls Tryz.prog 223 #[v,u] w fun e w'=>∃v',e= .returned v'/\Own w.heap.size w' v' (Ac (val xs+val ys))/\Ext w w':=by
 by_cases hc:xs.length<ys.length
 ·exact Q3 w v u xs ys h h' hn bh hc
 ·exact Q4 w v u xs ys h h' hn bh hc
theorem Ph(w:World)(v u:Value)(xs ys:List Nat)(h:Arr w v xs)(h':Arr w u ys)(hn:xs.length<=268435456)(bh:ys.length<=268435456):
  Calls Tryz.prog 225 #[v,u] w fun e w'=>∃v',e= .returned v'/\Own w.heap.size w' v' (Ac (val xs*val ys))/\Ext w w':=by
 obtain⟨ax,A,cap,rfl,dz,ek,aa⟩:=h.open;obtain⟨bE,A',mM,rfl,eJ,iC,an⟩:=h'.open;have HC:=hid aa;have oR:=hid an;have cS:=Cp (xs.length+ys.length) (by omega);simp only[Int.natCast_add]at cS;clear h h' aa an ek iC dz eJ;go_enter Tryz.func225,Tryz.ntmps225;go_wp2_with fail;clear cS;go_loopw [19] (fun i wr=>∃k:Nat,k<=xs.length/\i= .int .i64 k/\Sk w wr xs ys k) (fun i _=>xs.length-(intOf i).toNat)
 case atStart=>exact⟨0,Nat.zero_le _,rfl,List.replicate (xs.length+ys.length) 0,by simp,Ok.zeros _,by simp[val,GH],fun j _=>by rw[List.getD_eq_getElem?_getD,List.getElem?_replicate];split<;>rfl,Blk.new _ _ _,(Ext.refl w).alloc _⟩
 case round=>
  obtain⟨i,hi,rfl,os,hl,eu,hv,hz,ao,ad⟩:=hrel;have HV:=hid hv;clear hv;have HZ:=hid hz;clear hz;have HB:=hid ao;clear ao;have HL:=hid hl;clear hl;by_cases hlt:i<xs.length
  ·obtain⟨b,o,rfl,hb,aa⟩:=HC.out (by omega);have hx:=(ad.cell hb).trans (aa i hlt);have YV:=hid aa;clear aa;have cK:=ax.get i;obtain⟨x,b7⟩:∃x,xs.getD i 0=x:=⟨_,rfl⟩;rw[b7]at hx cK;have yO:=hid b7;clear b7;simp only[d32]at hx;obtain⟨wo,rfl⟩:∃wo:World,wo=wr:=⟨_,rfl⟩;go_wp2_with fail;go_loopw [8,26] (fun cy kk wr=>∃k c:Nat,k<=ys.length/\c<4294967296/\kk= .int .i64 k/\cy= .int .u64 c/\GD w wr xs ys i k c) (fun _ kk _=>ys.length-(intOf kk).toNat)
   case atStart=>exact⟨0,0,Nat.zero_le _,by omega,rfl,rfl,os,HL.out,eu,by simp[val,HV.out],HZ.out,HB.out,ad⟩
   case round=>
    clear HV HZ HB HL hx eu ad os;obtain⟨k,c,hk,hc,rfl,rfl,os,hl,eu,hv,hz,ao,ad⟩:=hrel;have HV:=hid hv;clear hv;have HZ:=hid hz;clear hz;have HB:=hid ao;clear ao;have HL:=hid hl;clear hl;by_cases hlt2:k<ys.length
    ·obtain⟨b',o',rfl,fS,an⟩:=oR.out (by omega);have hy:=(ad.cell fS).trans (an k hlt2);clear an;have ac:=HB.out.cell (i+k);have gP:=HB.out.frozen (i+k);rw[AY _ _ (by rw[HL.out];omega)]at ac;have fi:=bE.get k;have xm:=eu.get (i+k);have HS:=hid (fun t h=>GD.step (t:=t) hlt hlt2 HL.out eu HV.out HZ.out h HB.out ad);rw[yO.out]at HS;obtain⟨y,dC⟩:∃y,ys.getD k 0=y:=⟨_,rfl⟩;obtain⟨z,nW⟩:∃z,os.getD (i+k) 0=z:=⟨_,rfl⟩;rw[dC]at hy fi HS;rw[nW]at ac xm HS;clear dC nW;have hp:=LK cK fi;have tt:(x:Int)*(y:Int)<=18446744065119617025:=by rw[<-Int.natCast_mul];omega
     have hp0:0<=(x:Int)*(y:Int):=by rw[<-Int.natCast_mul];omega
     simp only[d32]at ac hy
     go_wp2
     go_roundw
     case rel=>exact⟨k+1,(c+x*y+z) / 4294967296,by omega,Nat.div_lt_of_lt_mul (by omega),by go_num,by go_num,HS.out (c+x*y+z) (Nat.add_assoc _ _ _)⟩
     case measure=>simp[intOf];omega
    ·obtain rfl:k=ys.length:=by omega
     have ac:=HB.out.cell (i+ys.length);have gP:=HB.out.frozen (i+ys.length);rw[AY _ _ (by rw[HL.out];omega)]at ac;have HD:=hid (GD.done hlt HL.out eu hc HV.out HZ.out HB.out ad);generalize os.getD (i+ys.length) 0=z at ac;simp only[d32]at ac
     go_wp2
     go_roundw
     case rel=>exact⟨i+1,by omega,by go_num,HD.out⟩
     case measure=>simp[intOf];omega
  ·obtain rfl:i=xs.length:=by omega
   have aw:Own w.heap.size wr (.slice (some ⟨w.heap.size,0,none⟩) (xs.length+ys.length) (xs.length+ys.length)) os:=by
    have h3:=Own.block (B:=w.heap.size) eu HB.out (Nat.le_refl _) (by rw[HL.out];omega)
    rwa [HL.out]at h3
   have HT:=Cw _ _ _ aw.arr (by rw[HL.out];omega);rw[HV.out,List.take_of_length_le (Nat.le_refl _)]at HT;have HT:=hid HT;clear aw;go_wp2_with fail;refine HT.out.mono ?_
   rintro e w' ⟨v',rfl,ho,hx⟩;go_wp2_with fail;go_ret;exact⟨_,rfl,ho.mono ad.size,ad.trans hx⟩
end Big
end Go.Proofs.YtkoaogkknnelaaaGreatDoor
