import Derived.Test.YtkoaogkknnelaaaGreatDoorM24
set_option linter.unusedVariables false
set_option linter.unusedSimpArgs false
set_option maxHeartbeats 1000000
set_option maxRecDepth 100000
namespace Go.Proofs.YtkoaogkknnelaaaGreatDoor
namespace Big
open Lib (hid)
open Go.RowKit
def SL(w0 wr:World)(xs ys:List Nat)(i:Nat):Prop:=
 ∃os:List Nat,os.length=xs.length+ys.length/\Ok os/\val os=val (xs.take i)*val ys/\(∀j,i+ys.length<=j->os.getD j 0=0)/\
  Blk wr w0.heap.size 183 (cells os)/\Ext w0 wr
def GX(w0 wr:World)(xs ys:List Nat)(i k c:Nat):Prop:=
 ∃os:List Nat,os.length=xs.length+ys.length/\Ok os/\val os+4294967296 ^ (i+k)*c=val (xs.take i)*val ys+4294967296 ^ i*(xs.getD i 0*val (ys.take k))/\
  (∀j,i+ys.length<=j->os.getD j 0=0)/\Blk wr w0.heap.size 183 (cells os)/\Ext w0 wr
theorem GX.step {w0 wr:World} {xs ys os:List Nat} {i k c t:Nat} (hi:i<xs.length) (hk:k<ys.length) (hl:os.length=xs.length+ys.length) (az:Ok os)
  (h:val os+4294967296 ^ (i+k)*c=val (xs.take i)*val ys+4294967296 ^ i*(xs.getD i 0*val (ys.take k)))
  (hz:∀j,i+ys.length<=j->os.getD j 0=0) (ht:t=c+(xs.getD i 0*ys.getD k 0+os.getD (i+k) 0))
  (hb:Blk wr w0.heap.size 183 (cells os)) (he:Ext w0 wr):
  GX w0 (wr.setCell ⟨w0.heap.size,i+k,none⟩ (d32 (t % 4294967296))) xs ys i (k+1) (t / 4294967296):=by
 refine⟨os.set (i+k) (t % 4294967296),by simp[hl],az.set _ (Nat.mod_lt _ (by omega)),RH (by omega) h ht,fun j hj=> ?_,?_,he.setCell (Nat.le_refl _) _⟩
 ·rw[In _ _ _ _ (by omega)];exact hz j hj
 ·have:=hb.set_ (i+k) (d32 (t % 4294967296))
  rwa [Bx]at this
theorem GX.done {w0 wr:World} {xs ys os:List Nat} {i c:Nat} (hi:i<xs.length) (hl:os.length=xs.length+ys.length) (az:Ok os) (hc:c<4294967296)
  (h:val os+4294967296 ^ (i+ys.length)*c=val (xs.take i)*val ys+4294967296 ^ i*(xs.getD i 0*val (ys.take ys.length)))
  (hz:∀j,i+ys.length<=j->os.getD j 0=0)
  (hb:Blk wr w0.heap.size 183 (cells os)) (he:Ext w0 wr):
  SL w0 (wr.setCell ⟨w0.heap.size,i+ys.length,none⟩ (d32 c)) xs ys (i+1):=by
 refine⟨os.set (i+ys.length) c,by simp[hl],az.set _ hc,?_,fun j hj=> ?_,?_,he.setCell (Nat.le_refl _) _⟩
 ·rw[Tf (by omega) (hz _ (Nat.le_refl _)) h,Bs,Nat.add_mul,Nat.mul_assoc,List.take_of_length_le (Nat.le_refl _)]
 ·rw[In _ _ _ _ (by omega)];exact hz j (by omega)
 ·have:=hb.set_ (i+ys.length) (d32 c)
  rwa [Bx]at this
theorem L7{x y:Nat}(hx:x<4294967296)(hy:y<4294967296):x*y<=18446744065119617025:=
 Nat.mul_le_mul (show x<=4294967295 by omega) (show y<=4294967295 by omega)
theorem EP(w:World)(v u:Value)(xs ys:List Nat)(h:Arr w v xs)(h':Arr w u ys)(hn:xs.length<=268435456)(bu:ys.length<=268435456):
  Calls Tryz.prog 277 #[v,u] w fun e w'=>∃v',e= .returned v'/\Own w.heap.size w' v' (Ac (val xs*val ys))/\Ext w w':=by
 obtain⟨az,A,cap,rfl,dp,dT,aa⟩:=h.open;obtain⟨bM,A',og,rfl,fv,ji,ao⟩:=h'.open;have HC:=hid aa;have pU:=hid ao;have df:=Cg (xs.length+ys.length) (by omega);simp only[Int.natCast_add]at df;clear h h' aa ao dT ji dp fv;go_enter Tryz.func277,Tryz.ntmps277;go_wp2_with fail;clear df;go_loopw [19] (fun i wr=>∃k:Nat,k<=xs.length/\i= .int .i64 k/\SL w wr xs ys k) (fun i _=>xs.length-(intOf i).toNat)
 case atStart=>exact⟨0,Nat.zero_le _,rfl,List.replicate (xs.length+ys.length) 0,by simp,Ok.zeros _,by simp[val,Ha],fun j _=>by rw[List.getD_eq_getElem?_getD,List.getElem?_replicate];split<;>rfl,Blk.new _ _ _,(Ext.refl w).alloc _⟩
 case round=>
  obtain⟨i,hi,rfl,os,hl,eU,hv,hz,ay,ah⟩:=hrel;have HV:=hid hv;clear hv;have HZ:=hid hz;clear hz;have HB:=hid ay;clear ay;have HL:=hid hl;clear hl;by_cases hlt:i<xs.length
  ·obtain⟨b,o,rfl,hb,aa⟩:=HC.out (by omega);have hx:=(ah.cell hb).trans (aa i hlt);have HXC:=hid aa;clear aa;have cK:=az.get i;obtain⟨x,bN⟩:∃x,xs.getD i 0=x:=⟨_,rfl⟩;rw[bN]at hx cK;have VH:=hid bN;clear bN;simp only[d32]at hx;obtain⟨wo,rfl⟩:∃wo:World,wo=wr:=⟨_,rfl⟩;go_wp2_with fail;go_loopw [8,26] (fun cy kk wr=>∃k c:Nat,k<=ys.length/\c<4294967296/\kk= .int .i64 k/\cy= .int .u64 c/\GX w wr xs ys i k c) (fun _ kk _=>ys.length-(intOf kk).toNat)
   case atStart=>exact⟨0,0,Nat.zero_le _,by omega,rfl,rfl,os,HL.out,eU,by simp[val,HV.out],HZ.out,HB.out,ah⟩
   case round=>
    clear HV HZ HB HL hx eU ah os;obtain⟨k,c,hk,hc,rfl,rfl,os,hl,eU,hv,hz,ay,ah⟩:=hrel;have HV:=hid hv;clear hv;have HZ:=hid hz;clear hz;have HB:=hid ay;clear ay;have HL:=hid hl;clear hl;by_cases hlt2:k<ys.length
    ·obtain⟨b',o',rfl,gN,ao⟩:=pU.out (by omega);have hy:=(ah.cell gN).trans (ao k hlt2);clear ao;have hst:=HB.out.cell (i+k);have iD:=HB.out.frozen (i+k);rw[Be _ _ (by rw[HL.out];omega)]at hst;have fT:=bM.get k;have yR:=eU.get (i+k);have HS:=hid (fun t h=>GX.step (t:=t) hlt hlt2 HL.out eU HV.out HZ.out h HB.out ah);rw[VH.out]at HS;obtain⟨y,dR⟩:∃y,ys.getD k 0=y:=⟨_,rfl⟩;obtain⟨z,pk⟩:∃z,os.getD (i+k) 0=z:=⟨_,rfl⟩;rw[dR]at hy fT HS;rw[pk]at hst yR HS;clear dR pk;have hp:=L7 cK fT;have uG:(x:Int)*(y:Int)<=18446744065119617025:=by rw[<-Int.natCast_mul];omega
     have hp0:0<=(x:Int)*(y:Int):=by rw[<-Int.natCast_mul];omega
     simp only[d32]at hst hy
     go_wp2
     go_roundw
     case rel=>exact⟨k+1,(c+(x*y+z)) / 4294967296,by omega,Nat.div_lt_of_lt_mul (by omega),by go_num,by go_num,HS.out _ rfl⟩
     case measure=>simp[intOf];omega
    ·obtain rfl:k=ys.length:=by omega
     have hst:=HB.out.cell (i+ys.length);have iD:=HB.out.frozen (i+ys.length);rw[Be _ _ (by rw[HL.out];omega)]at hst;have HD:=hid (GX.done hlt HL.out eU hc HV.out HZ.out HB.out ah);generalize os.getD (i+ys.length) 0=z at hst;simp only[d32]at hst
     go_wp2
     go_roundw
     case rel=>exact⟨i+1,by omega,by go_num,HD.out⟩
     case measure=>simp[intOf];omega
  ·obtain rfl:i=xs.length:=by omega
   have aA:Own w.heap.size wr (.slice (some ⟨w.heap.size,0,none⟩) (xs.length+ys.length) (xs.length+ys.length)) os:=by
    have h3:=Own.block (B:=w.heap.size) eU HB.out (Nat.le_refl _) (by rw[HL.out];omega)
    rwa [HL.out]at h3
   have HT:=Bq _ _ _ aA.arr (by rw[HL.out];omega);rw[HV.out,List.take_of_length_le (Nat.le_refl _)]at HT;have HT:=hid HT;clear aA;go_wp2_with fail;refine HT.out.mono ?_
   rintro e w' ⟨v',rfl,ho,hx⟩;go_wp2_with fail;go_ret;exact⟨_,rfl,ho.mono ah.size,ah.trans hx⟩
theorem Jp(w:World)(v:Value)(xs:List Nat)(n:Int)(h:Arr w v xs)(hn:xs.length<=1073741824)(cp:(xs.length:Int)<=n):
  Calls Tryz.prog 61 #[v,.int .i64 n] w fun e w'=>∃v',e= .returned (.tuple #[v',.bool true])/\Own w.heap.size w' v' (Ac (val xs))/\Ext w w':=by
 have HT:=hid (B9 w v xs h hn);obtain⟨az,A,c,rfl,hc,hm,aa⟩:=h.open;have hlt:¬n<(xs.length:Int):=by omega
 clear h aa hm hc cp;go_enter Tryz.func61,Tryz.ntmps61;go_wp2_with fail;refine HT.out.mono ?_
 rintro e w' ⟨v',rfl,ho,hx⟩;go_wp2_with fail;go_ret2;exact⟨_,rfl,ho,hx⟩
theorem Mo(w:World)(A:Option Addr)(len c:Nat)(n:Int)(h:n<len):
  Calls Tryz.prog 61 #[.slice A len c,.int .i64 n] w fun e w'=>e= .returned (.tuple #[.slice none 0 0,.bool false])/\w=w':=by
 go_enter Tryz.func61,Tryz.ntmps61;go_wp2_with fail;go_ret2;exact⟨rfl,rfl⟩
theorem Cb{m n k:Nat}{j:Nat}(hm:(Ac m).length<=k)(hn:(Ac n).length<=j):(Ac (m+n)).length<=k+j+1:=by
 refine AE ?_
 have h1:=Cf (Cp m);have h2:=Cf (Cp n);rw[Ad]at h1 h2;have h3:=DW (show (Ac m).length<=k+j by omega);have h4:=DW (show (Ac n).length<=k+j by omega);rw[Nat.pow_succ];omega
theorem Oq(x y:Int):sgn (decide (x<0) != decide (y<0)) (x.natAbs*y.natAbs)=x*y:=by
 have hx:x=sgn (decide (x<0)) x.natAbs:=by unfold sgn;by_cases h:x<0<;>simp[h]<;>omega
 have hy:y=sgn (decide (y<0)) y.natAbs:=by unfold sgn;by_cases h:y<0<;>simp[h]<;>omega
 generalize decide (x<0)=b at *;generalize decide (y<0)=b' at *;generalize x.natAbs=m at *;generalize y.natAbs=n at *;subst hx;subst hy;cases b<;>cases b'<;>simp[sgn,Int.neg_mul,Int.mul_neg]
theorem AD{m n k:Nat}{j:Nat}(hm:(Ac m).length<=k)(hn:(Ac n).length<=j):(Ac (m*n)).length<=k+j:=by
 refine AE ?_
 have h1:=Cf (Cp m);have h2:=Cf (Cp n);rw[Ad]at h1 h2;rw[Nat.pow_add];exact Nat.mul_lt_mul'' (Nat.lt_of_lt_of_le h1 (DW hm)) (Nat.lt_of_lt_of_le h2 (DW hn))
theorem JE(w:World)(v u:Value)(x y:Int)(h:Ap w v x)(h':Ap w u y)(hn:(Ac x.natAbs).length<=268435456)(bu:(Ac y.natAbs).length<=268435456):
  Calls Tryz.prog 278 #[v,u] w fun e w'=>∃v',e= .returned v'/\AI w.heap.size w' v' (x*y)/\Ext w w':=by
 have HA:=hid h;have HB:=hid h';have HM:=hid (fun W m m' a b=>EP W m m' (Ac x.natAbs) (Ac y.natAbs) a b hn bu);rw[Ad,Ad]at HM;have HS:=hid (Oq x y);obtain⟨b,n,A,c,rfl⟩:=h.shape;obtain⟨b',n',A',c',rfl⟩:=h'.shape;rw[<-h.sign,<-h'.sign]at HS;clear h h';go_enter Tryz.func278,Tryz.ntmps278;go_wp2_with fail;have hb0:=((Blk.new w 24 #[.bool b,.slice A n c]).alloc (.cells #[.bool b',.slice A' n' c'] 24)).alloc (.cells #[.bool false,.slice none 0 0] 24);have al:=(Blk.new (w.alloc (.cells #[.bool b,.slice A n c] 24)) 24 #[.bool b',.slice A' n' c']).alloc (.cells #[.bool false,.slice none 0 0] 24);have hb2:=Blk.new ((w.alloc (.cells #[.bool b,.slice A n c] 24)).alloc (.cells #[.bool b',.slice A' n' c'] 24)) 24 #[.bool false,.slice none 0 0];have aq:=(((Ext.refl w).alloc (.cells #[.bool b,.slice A n c] 24)).alloc (.cells #[.bool b',.slice A' n' c'] 24)).alloc (.cells #[.bool false,.slice none 0 0] 24);simp only[World.size_alloc]at al hb2;generalize ((w.alloc (.cells #[.bool b,.slice A n c] 24)).alloc (.cells #[.bool b',.slice A' n' c'] 24)).alloc (.cells #[.bool false,.slice none 0 0] 24)=wo at *;obtain⟨h0,h1,_,_,_⟩:=hb0.two;obtain⟨h2,h3,_,_,_⟩:=al.two;obtain⟨h4,h5,h6,h7,er⟩:=hb2.two;clear hb0 al hb2;have HI:=hid (fun W m a=>Cc W (b != b') m (Ac (x.natAbs*y.natAbs)) a (by
  have:=AD hn bu;omega))
 rw[Ad,HS.out]at HI
 go_region_held3 (fun w'=>Ext w w'/\w'.cell? ⟨w.heap.size,0,none⟩=some (.bool b)/\w'.cell? ⟨w.heap.size,1,none⟩=some (.slice A n c)/\w'.cell? ⟨w.heap.size+1,0,none⟩=some (.bool b')/\w'.cell? ⟨w.heap.size+1,1,none⟩=some (.slice A' n' c')/\
   w'.cell? ⟨w.heap.size+1+1,0,none⟩=some (was w' (w.heap.size+1+1) 0)/\w'.cell? ⟨w.heap.size+1+1,1,none⟩=some (was w' (w.heap.size+1+1) 1)/\w'.frozen? ⟨w.heap.size+1+1,0,none⟩=false/\w'.frozen? ⟨w.heap.size+1+1,1,none⟩=false)
  (first|(exact⟨aq.drew,h0,h1,h2,h3,Ae (w:=wo.drew) h4,Ae (w:=wo.drew) h5,h6,h7⟩)|(exact D4 (by assumption) (by assumption))|(exact Ck (by assumption) (by omega) (by omega) (by omega) (by omega) (by omega)))
  (first
   |(go_at_call 277;refine(HM.out _ _ _ ?_ ?_).mono ?_;(exact HA.out.mag.ext (And.left (by assumption)));(exact HB.out.mag.ext (And.left (by assumption)));rintro e w1 ⟨v',rfl,ho,hx⟩;obtain⟨nm,Am,cm,rfl⟩:=ho.shape;have ZO:=ho.arr;have hz1:=hx.size)
   |(go_at_call 212;refine(HI.out _ _ (by assumption)).mono ?_;rintro e w' ⟨v',rfl,hi,hx⟩;have Wn:=hid hi;obtain⟨bi,ni,Ai,ci,rfl⟩:=hi.shape))
 go_wp2_with fail;rename_i hS;obtain⟨hE,_,_,_,_,hc0,hc1,_,_⟩:=hS;have aE:=aq.size;simp only[World.size_drew]at hz1;obtain⟨aj,ac⟩:=Gc hc0 hc1;refine bodyPost_ret (v:= .agg #[.bool bi,.slice Ai ni ci]) (by simp[results,Tryz.results278,go_sem,aj,ac]) rfl ?_
 exact⟨_,rfl,Wn.out.put (by omega) (by omega),hE⟩
theorem Qe(w:World)(v u:Value)(x y:Int)(h:Ap w v x)(h':Ap w u y)(hn:(Ac x.natAbs).length<=268435456)(bu:(Ac y.natAbs).length<=268435456)(hs:decide (x<0)=decide (y<0)):
  Calls Tryz.prog 281 #[v,u] w fun e w'=>∃v',e= .returned v'/\AI w.heap.size w' v' (x+y)/\Ext w w':=by
 have HA:=hid h;have HB:=hid h';have HM:=hid (fun W m m' a b=>OT W m m' (Ac x.natAbs) (Ac y.natAbs) a b (by omega) (by omega));rw[Ad,Ad]at HM;obtain⟨b,n,A,c,rfl⟩:=h.shape;obtain⟨b',n',A',c',rfl⟩:=h'.shape;have hb:b'=b:=by rw[h.sign,h'.sign,hs]
 subst hb;have HS:=hid (show sgn b' (x.natAbs+y.natAbs)=x+y by
  have h1:=h.sign;have h2:=h'.sign;unfold sgn;cases b'
  ·have:=of_decide_eq_false h1.symm;have:=of_decide_eq_false h2.symm;simp;omega
  ·have:=of_decide_eq_true h1.symm;have:=of_decide_eq_true h2.symm;simp;omega)
 clear h h' hs;go_enter Tryz.func281,Tryz.ntmps281;go_wp2_with fail;have hb0:=((Blk.new w 24 #[.bool b',.slice A n c]).alloc (.cells #[.bool b',.slice A' n' c'] 24)).alloc (.cells #[.bool false,.slice none 0 0] 24);have al:=(Blk.new (w.alloc (.cells #[.bool b',.slice A n c] 24)) 24 #[.bool b',.slice A' n' c']).alloc (.cells #[.bool false,.slice none 0 0] 24);have hb2:=Blk.new ((w.alloc (.cells #[.bool b',.slice A n c] 24)).alloc (.cells #[.bool b',.slice A' n' c'] 24)) 24 #[.bool false,.slice none 0 0];have aq:=(((Ext.refl w).alloc (.cells #[.bool b',.slice A n c] 24)).alloc (.cells #[.bool b',.slice A' n' c'] 24)).alloc (.cells #[.bool false,.slice none 0 0] 24);simp only[World.size_alloc]at al hb2;generalize ((w.alloc (.cells #[.bool b',.slice A n c] 24)).alloc (.cells #[.bool b',.slice A' n' c'] 24)).alloc (.cells #[.bool false,.slice none 0 0] 24)=wo at *;obtain⟨h0,h1,_,_,_⟩:=hb0.two;obtain⟨h2,h3,_,_,_⟩:=al.two;obtain⟨h4,h5,h6,h7,er⟩:=hb2.two;clear hb0 al hb2;have HI:=hid (fun W m a=>Cc W b' m (Ac (x.natAbs+y.natAbs)) a (by
  have:=Cb hn bu;omega))
 rw[Ad,HS.out]at HI
 go_region_held3 (fun w'=>Ext w w'/\w'.cell? ⟨w.heap.size,0,none⟩=some (.bool b')/\w'.cell? ⟨w.heap.size,1,none⟩=some (.slice A n c)/\w'.cell? ⟨w.heap.size+1,0,none⟩=some (.bool b')/\w'.cell? ⟨w.heap.size+1,1,none⟩=some (.slice A' n' c')/\
   w'.cell? ⟨w.heap.size+1+1,0,none⟩=some (was w' (w.heap.size+1+1) 0)/\w'.cell? ⟨w.heap.size+1+1,1,none⟩=some (was w' (w.heap.size+1+1) 1)/\w'.frozen? ⟨w.heap.size+1+1,0,none⟩=false/\w'.frozen? ⟨w.heap.size+1+1,1,none⟩=false)
  (first|(exact⟨aq.drew,h0,h1,h2,h3,Ae (w:=wo.drew) h4,Ae (w:=wo.drew) h5,h6,h7⟩)|(exact D4 (by assumption) (by assumption))|(exact Ck (by assumption) (by omega) (by omega) (by omega) (by omega) (by omega)))
  (first
   |(go_at_call 298;refine(HM.out _ _ _ ?_ ?_).mono ?_;(exact HA.out.mag.ext (And.left (by assumption)));(exact HB.out.mag.ext (And.left (by assumption)));rintro e w1 ⟨v',rfl,ho,hx⟩;obtain⟨nm,Am,cm,rfl⟩:=ho.shape;have ZO:=ho.arr;have hz1:=hx.size)
   |(go_at_call 212;refine(HI.out _ _ (by assumption)).mono ?_;rintro e w' ⟨v',rfl,hi,hx⟩;have Wn:=hid hi;obtain⟨bi,ni,Ai,ci,rfl⟩:=hi.shape))
 go_wp2_with fail;rename_i hS;obtain⟨hE,_,_,_,_,hc0,hc1,_,_⟩:=hS;have aE:=aq.size;simp only[World.size_drew]at hz1;obtain⟨aj,ac⟩:=Gc hc0 hc1;refine bodyPost_ret (v:= .agg #[.bool bi,.slice Ai ni ci]) (by simp[results,Tryz.results281,go_sem,aj,ac]) rfl ?_
 exact⟨_,rfl,Wn.out.put (by omega) (by omega),hE⟩
def MV(w0 wr:World)(N:Nat)(xs ys:List Nat)(k q:Nat):Prop:=
 ∃zs:List Nat,zs.length=k/\Ok zs/\val (xs.take k)+4294967296 ^ k*q=val zs+val (ys.take k)/\
  Blk wr w0.heap.size 183 (cells (zs++List.replicate (N-k) 0))/\Ext w0 wr
theorem MV.step {w0 wr:World} {N:Nat} {xs ys zs:List Nat} {k q z q':Nat} (hk:k<N) (hl:zs.length=k) (az:Ok zs) (hz:z<4294967296)
  (h:val (xs.take k)+4294967296 ^ k*q=val zs+val (ys.take k)) (ht:xs.getD k 0+4294967296*q'=z+ys.getD k 0+q)
  (hb:Blk wr w0.heap.size 183 (cells (zs++List.replicate (N-k) 0))) (he:Ext w0 wr):
  MV w0 (wr.setCell ⟨w0.heap.size,k,none⟩ (d32 z)) N xs ys (k+1) q':=by
 refine⟨zs++[z],by simp[hl],az.snoc hz,LP hl h ht,?_,he.setCell (Nat.le_refl _) _⟩;have h1:=hb.set_ k (d32 z);rw[Bx,show N-k=(N-(k+1))+1 by omega]at h1;have h2:=Dg zs (N-(k+1)) z;rw[hl]at h2;rw[h2]at h1;exact h1
theorem Td(w:World)(v u:Value)(xs ys:List Nat)(h:Arr w v xs)(h':Arr w u ys)(hn:xs.length<=536870912)(bu:ys.length<=536870912)(hlt:val xs<val ys):
  Calls Tryz.prog 297 #[v,u] w fun e w'=>e= .returned (.tuple #[.slice none 0 0,.bool false])/\Ext w w':=by
 have HC:=Em w v u xs ys h h' (by omega) (by omega);rw[EX hlt]at HC;have HC:=hid HC;clear h h' hlt;go_enter Tryz.func297,Tryz.ntmps297;go_wp2_with fail;refine HC.out.mono ?_;rintro e w' ⟨rfl,hx⟩
 go_wp2_with fail;go_ret2;exact⟨rfl,hx⟩
theorem Le(w:World)(v u:Value)(xs ys:List Nat)(h:Arr w v xs)(h':Arr w u ys)(hn:xs.length<=536870912)(bu:ys.length<=536870912)(cp:val ys<=val xs):
  Calls Tryz.prog 297 #[v,u] w fun e w'=>∃v',e= .returned (.tuple #[v',.bool true])/\Own w.heap.size w' v' (Ac (val xs-val ys))/\Ext w w':=by
 have cI:=hid (Em w v u xs ys h h' (by omega) (by omega));have oq:=hid (fun W hx=>CB W v xs (h.ext hx));have fV:¬BS (val xs) (val ys)<0:=by rw[D7];omega
 obtain⟨az,A,cap,rfl,dp,dT,aa⟩:=h.open;obtain⟨bM,A',og,rfl,fv,ji,ao⟩:=h'.open;have HC:=hid aa;have pU:=hid ao;have ge:=hid cp;have jU:=Cx xs;have d7:=hid (show val (xs.drop (size xs))=0 by
  have h1:=Bp xs (size xs);rw[B8 az,Ad]at h1;have:0<4294967296 ^ size xs:=Fg _;rcases Nat.eq_zero_or_pos (val (xs.drop (size xs))) with h0|h0
  ·exact h0
  ·have:=Nat.mul_le_mul_left (4294967296 ^ size xs) h0;omega)
 generalize hN:size xs=N at *;have HN:=hid hN;clear h h' aa ao dT ji dp fv cp hN;generalize BS (val xs) (val ys)=cc at cI fV;have df:=Cg N (by omega);go_enter Tryz.func297,Tryz.ntmps297;go_wp2_with fail;refine cI.out.mono ?_;rintro e w1 ⟨rfl,ag⟩
 have ar:=hid ag;clear ag;go_wp2_with fail;refine(oq.out _ ar.out).mono ?_;rintro e w2 ⟨rfl,rfl⟩
 have cq:=hid (ar.out.alloc (.cells (Array.replicate N (.int .u32 0)) 183));go_wp2_with fail;clear df;go_loopw [7,19] (fun cy i wr=>∃k q:Nat,k<=N/\q<=1/\i= .int .i64 k/\cy= .int .u32 q/\MV w1 wr N xs ys k q) (fun _ i _=>N-(intOf i).toNat)
 case atStart=>exact⟨0,0,Nat.zero_le _,by omega,rfl,rfl,[],rfl,Cj,by simp[val],Blk.new _ _ _,(Ext.refl w1).alloc _⟩
 case round=>
  obtain⟨k,q,hk,hq,rfl,rfl,zs,hl,gg,hv,ay,ah⟩:=hrel;have HV:=hid hv;clear hv;have HB:=hid ay;clear ay;have HL:=hid hl;clear hl;have iV:=ar.out.trans ah;by_cases hlt:k<N
  ·obtain⟨b,o,rfl,hb,aa⟩:=HC.out (by omega);have hx:=(iV.cell hb).trans (aa k (by omega));have hst:=HB.out.cell k;have iD:=HB.out.frozen k;rw[Be _ _ (by simp[HL.out];omega)]at hst;clear aa;have cK:=az.get k;by_cases hk2:k<ys.length
   ·obtain⟨b',o',rfl,gN,ao⟩:=pU.out (by omega);have hy:=(iV.cell gN).trans (ao k hk2);clear ao;have fT:=bM.get k;have HS:=hid (fun z q' hz h=>MV.step (z:=z) (q':=q') hlt HL.out gg hz HV.out h HB.out ah);obtain⟨x,bN⟩:∃x,xs.getD k 0=x:=⟨_,rfl⟩;obtain⟨y,dR⟩:∃y,ys.getD k 0=y:=⟨_,rfl⟩;rw[bN]at hx cK HS;rw[dR]at hy fT HS;clear bN dR;have lM:=hid (fun W=>FB W x y q cK fT hq);simp only[d32]at hx hst hy;have ql:(k:Int)<(xs.length:Int):=by omega
    have hkN:(k:Int)<(N:Int):=by omega
    have hky:(k:Int)<(ys.length:Int):=by omega
    clear ah iV jU hlt;go_wp2_with fail;refine(lM.out _).mono ?_
    rintro e w3 ⟨d,b',rfl,hd,al,no,rfl⟩;have HR:=hid (HS.out d b' hd no);simp only[d32]at HR;clear no;go_wp2_with fail;go_roundw
    case rel=>exact⟨k+1,b',by omega,al,by go_num,by go_num,HR.out⟩
    case measure=>simp[intOf];omega
   ·have h0:ys.getD k 0=0:=Db ys k (by omega);have HS:=hid (fun z q' hz h=>MV.step (z:=z) (q':=q') hlt HL.out gg hz HV.out h HB.out ah);obtain⟨x,bN⟩:∃x,xs.getD k 0=x:=⟨_,rfl⟩;rw[h0]at HS;rw[bN]at hx cK HS;clear bN h0;have lM:=hid (fun W=>FB W x 0 q cK (by omega) hq);simp only[d32]at hx hst;have ql:(k:Int)<(xs.length:Int):=by omega
    have hkN:(k:Int)<(N:Int):=by omega
    have hky:¬(k:Int)<(ys.length:Int):=by omega
    clear ah iV jU hlt;go_wp2_with fail;refine(lM.out _).mono ?_
    rintro e w3 ⟨d,b',rfl,hd,al,no,rfl⟩;have HR:=hid (HS.out d b' hd no);simp only[d32]at HR;clear no;go_wp2_with fail;go_roundw
    case rel=>exact⟨k+1,b',by omega,al,by go_num,by go_num,HR.out⟩
    case measure=>simp[intOf];omega
  ·obtain rfl:k=N:=by omega
   have bd:=Om az gg (.inr d7.out) HL.out ge.out HV.out;have aA:Own w1.heap.size wr (.slice (some ⟨w1.heap.size,0,none⟩) k k) zs:=by
    have h1:=HB.out;rw[Nat.sub_self,List.replicate_zero,List.append_nil]at h1;have h3:=Own.block (B:=w1.heap.size) gg h1 (Nat.le_refl _) (by rw[HL.out];omega)
    rwa [HL.out]at h3
   have HT:=hid (CB _ _ _ aA.arr);have bK:=Cx zs;rw[HL.out]at bK;obtain⟨A1,c1,fo,HO⟩:=aA.take (size zs) (by rw[HL.out];exact bK);rw[B8 aA.ok,bd]at HO;rw[HL.out]at fo;injection fo with fo hv3 hv2
   clear hv3;subst fo;subst hv2;have HO:=hid (HO.mono ar.out.size);have lL:=hid iV;generalize size zs=sz at *;clear bd aA ah iV;go_wp2_with fail;refine HT.out.mono ?_
   rintro e w' ⟨rfl,rfl⟩;go_wp2_with fail;go_ret2;exact⟨_,rfl,HO.out,lL.out⟩
theorem Rp(w:World)(v u:Value)(xs ys:List Nat)(h:Arr w v xs)(h':Arr w u ys)(hn:xs.length<=536870912)(bu:ys.length<=536870912)(fV:xs.length<ys.length):
  Calls Tryz.prog 223 #[v,u] w fun e w'=>∃v',e= .returned v'/\Own w.heap.size w' v' (Ac (val xs+val ys))/\Ext w w':=by
 have HA:=hid h;have HB:=hid h';obtain⟨az,A,c,rfl,hc,hm,aa⟩:=h.open;obtain⟨bM,A',c',rfl,fW,me,ao⟩:=h'.open;have uU:xs.length<=ys.length/\ys.length<=ys.length/\ys.length<=536870912:=by omega
 clear h h' aa ao hm me hc fW;go_enter Tryz.func223,Tryz.ntmps223;go_wp2_with fail;go_loopw [5,6,7] (fun out cy i wr=>∃(k q:Nat) (zs:List Nat),k<=ys.length+1/\q<=1/\(k=ys.length+1->q=0)/\i= .int .i64 k/\cy= .int .u64 q/\zs.length=k/\
   val zs+4294967296 ^ k*q=val (xs.take k)+val (ys.take k)/\Own w.heap.size wr out zs/\Ext w wr) (fun _ _ i _=>ys.length+1-(intOf i).toNat)
 case atStart=>exact⟨0,0,[],Nat.zero_le _,by omega,by omega,rfl,rfl,rfl,by simp[val],Own.none_ _ _,Ext.refl w⟩
 case round=>
  obtain⟨k,q,zs,hk,hq,mK,rfl,rfl,hl,hv,aG,ah⟩:=hrel;have HV:=hid hv;clear hv;have HL:=hid hl;clear hl;have ri:=ah.size;by_cases hlt:k<=ys.length
  ·have vf:(k:Int)<=(ys.length:Int):=by omega
   have HX:=hid (Do wr _ xs (k:Int) (HA.out.ext ah) (by omega));have HY:=hid (Do wr _ ys (k:Int) (HB.out.ext ah) (by omega));rw[Int.toNat_natCast]at HX HY;have cK:=az.get k;have fT:=bM.get k;have HS:=hid (fun t h=> @JO xs ys zs k q t HL.out HV.out h);have aA:k=ys.length->xs.getD k 0=0/\ys.getD k 0=0:=fun e=>⟨Db xs k (by omega),Db ys k (by omega)⟩
   obtain⟨x,bN⟩:∃x,xs.getD k 0=x:=⟨_,rfl⟩;obtain⟨y,dR⟩:∃y,ys.getD k 0=y:=⟨_,rfl⟩;rw[bN]at HX HS cK aA;rw[dR]at HY HS fT aA;clear bN dR;have aE:k+1=ys.length+1->(q+x+y) / 4294967296=0:=fun e=>by have:=aA (by omega);omega
   have dN:=hid (show ∀z:Nat,zs.length+[z].length<=2147483648 from fun z=>by simp[HL.out];omega);have HZ:=hid (show (q+x+y) % 4294967296<4294967296 from Nat.mod_lt _ (by omega));have jx:=hid aE;clear aA aE;go_wp2_with fail;refine HX.out.mono ?_;rintro e w' ⟨rfl,rfl⟩
   go_wp2_with fail;refine HY.out.mono ?_;rintro e w' ⟨rfl,rfl⟩
   go_wp2_with (at_builtin;go_must (refine AP rfl _ _ rfl rfl (aG.ext ((Ext.refl _).alloc _)) rfl (Arr.fresh1' _ _ ((q+x+y) % 4294967296) (by omega) HZ.out) (dN.out _) (by simp;omega) ?_;intro v' w' dh aQ hb));go_roundw
   case rel=>exact⟨k+1,(q+x+y) / 4294967296,_,by omega,by omega,jx.out,by go_num,by go_num,by simp[HL.out],HS.out _ rfl,dh,(ah.alloc _).more hb⟩
   case measure=>simp[intOf];omega
  ·obtain rfl:k=ys.length+1:=by omega
   have vf:¬(((ys.length+1:Nat):Int))<=(ys.length:Int):=by omega
   have hq:=mK rfl;subst hq;have bd:=HV.out;rw[Nat.mul_zero,Nat.add_zero,List.take_of_length_le (by omega),List.take_of_length_le (by omega)]at bd;have HT:=B9 _ _ _ aG.arr (by rw[HL.out];omega);rw[bd]at HT;have HT:=hid HT;clear bd;go_wp2_with fail;refine HT.out.mono ?_
   rintro e w2 ⟨v2,rfl,ho,hx⟩;go_wp2_with fail;go_ret;exact⟨_,rfl,ho.mono ah.size,ah.trans hx⟩
theorem Rq(w:World)(v u:Value)(xs ys:List Nat)(h:Arr w v xs)(h':Arr w u ys)(hn:xs.length<=536870912)(_hn':ys.length<=536870912)(fV:¬xs.length<ys.length):
  Calls Tryz.prog 223 #[v,u] w fun e w'=>∃v',e= .returned v'/\Own w.heap.size w' v' (Ac (val xs+val ys))/\Ext w w':=by
 have HA:=hid h;have HB:=hid h';obtain⟨az,A,c,rfl,hc,hm,aa⟩:=h.open;obtain⟨bM,A',c',rfl,fW,me,ao⟩:=h'.open;have uU:xs.length<=xs.length/\ys.length<=xs.length/\xs.length<=536870912:=by omega
 clear h h' aa ao hm me hc fW;go_enter Tryz.func223,Tryz.ntmps223;go_wp2_with fail;go_loopw [5,6,7] (fun out cy i wr=>∃(k q:Nat) (zs:List Nat),k<=xs.length+1/\q<=1/\(k=xs.length+1->q=0)/\i= .int .i64 k/\cy= .int .u64 q/\zs.length=k/\
   val zs+4294967296 ^ k*q=val (xs.take k)+val (ys.take k)/\Own w.heap.size wr out zs/\Ext w wr) (fun _ _ i _=>xs.length+1-(intOf i).toNat)
 case atStart=>exact⟨0,0,[],Nat.zero_le _,by omega,by omega,rfl,rfl,rfl,by simp[val],Own.none_ _ _,Ext.refl w⟩
 case round=>
  obtain⟨k,q,zs,hk,hq,mK,rfl,rfl,hl,hv,aG,ah⟩:=hrel;have HV:=hid hv;clear hv;have HL:=hid hl;clear hl;have ri:=ah.size;by_cases hlt:k<=xs.length
  ·have vf:(k:Int)<=(xs.length:Int):=by omega
   have HX:=hid (Do wr _ xs (k:Int) (HA.out.ext ah) (by omega));have HY:=hid (Do wr _ ys (k:Int) (HB.out.ext ah) (by omega));rw[Int.toNat_natCast]at HX HY;have cK:=az.get k;have fT:=bM.get k;have HS:=hid (fun t h=> @JO xs ys zs k q t HL.out HV.out h);have aA:k=xs.length->xs.getD k 0=0/\ys.getD k 0=0:=fun e=>⟨Db xs k (by omega),Db ys k (by omega)⟩
   obtain⟨x,bN⟩:∃x,xs.getD k 0=x:=⟨_,rfl⟩;obtain⟨y,dR⟩:∃y,ys.getD k 0=y:=⟨_,rfl⟩;rw[bN]at HX HS cK aA;rw[dR]at HY HS fT aA;clear bN dR;have aE:k+1=xs.length+1->(q+x+y) / 4294967296=0:=fun e=>by have:=aA (by omega);omega
   have dN:=hid (show ∀z:Nat,zs.length+[z].length<=2147483648 from fun z=>by simp[HL.out];omega);have HZ:=hid (show (q+x+y) % 4294967296<4294967296 from Nat.mod_lt _ (by omega));have jx:=hid aE;clear aA aE;go_wp2_with fail;refine HX.out.mono ?_;rintro e w' ⟨rfl,rfl⟩
   go_wp2_with fail;refine HY.out.mono ?_;rintro e w' ⟨rfl,rfl⟩
   go_wp2_with (at_builtin;go_must (refine AP rfl _ _ rfl rfl (aG.ext ((Ext.refl _).alloc _)) rfl (Arr.fresh1' _ _ ((q+x+y) % 4294967296) (by omega) HZ.out) (dN.out _) (by simp;omega) ?_;intro v' w' dh aQ hb));go_roundw
   case rel=>exact⟨k+1,(q+x+y) / 4294967296,_,by omega,by omega,jx.out,by go_num,by go_num,by simp[HL.out],HS.out _ rfl,dh,(ah.alloc _).more hb⟩
   case measure=>simp[intOf];omega
  ·obtain rfl:k=xs.length+1:=by omega
   have vf:¬(((xs.length+1:Nat):Int))<=(xs.length:Int):=by omega
   have hq:=mK rfl;subst hq;have bd:=HV.out;rw[Nat.mul_zero,Nat.add_zero,List.take_of_length_le (by omega),List.take_of_length_le (by omega)]at bd;have HT:=B9 _ _ _ aG.arr (by rw[HL.out];omega);rw[bd]at HT;have HT:=hid HT;clear bd;go_wp2_with fail;refine HT.out.mono ?_
   rintro e w2 ⟨v2,rfl,ho,hx⟩;go_wp2_with fail;go_ret;exact⟨_,rfl,ho.mono ah.size,ah.trans hx⟩
theorem Kr(w:World)(v u:Value)(xs ys:List Nat)(h:Arr w v xs)(h':Arr w u ys)(hn:xs.length<=536870912)(bu:ys.length<=536870912):
  Calls Tryz.prog 223 #[v,u] w fun e w'=>∃v',e= .returned v'/\Own w.heap.size w' v' (Ac (val xs+val ys))/\Ext w w':=by
 by_cases hc:xs.length<ys.length
 ·exact Rp w v u xs ys h h' hn bu hc
 ·exact Rq w v u xs ys h h' hn bu hc
theorem Hh(w:World)(v u:Value)(xs ys:List Nat)(h:Arr w v xs)(h':Arr w u ys)(hn:xs.length<=268435456)(bu:ys.length<=268435456):
  Calls Tryz.prog 225 #[v,u] w fun e w'=>∃v',e= .returned v'/\Own w.heap.size w' v' (Ac (val xs*val ys))/\Ext w w':=by
 obtain⟨az,A,cap,rfl,dp,dT,aa⟩:=h.open;obtain⟨bM,A',og,rfl,fv,ji,ao⟩:=h'.open;have HC:=hid aa;have pU:=hid ao;have df:=Cg (xs.length+ys.length) (by omega);simp only[Int.natCast_add]at df;clear h h' aa ao dT ji dp fv;go_enter Tryz.func225,Tryz.ntmps225;go_wp2_with fail;clear df;go_loopw [19] (fun i wr=>∃k:Nat,k<=xs.length/\i= .int .i64 k/\SL w wr xs ys k) (fun i _=>xs.length-(intOf i).toNat)
 case atStart=>exact⟨0,Nat.zero_le _,rfl,List.replicate (xs.length+ys.length) 0,by simp,Ok.zeros _,by simp[val,Ha],fun j _=>by rw[List.getD_eq_getElem?_getD,List.getElem?_replicate];split<;>rfl,Blk.new _ _ _,(Ext.refl w).alloc _⟩
 case round=>
  obtain⟨i,hi,rfl,os,hl,eU,hv,hz,ay,ah⟩:=hrel;have HV:=hid hv;clear hv;have HZ:=hid hz;clear hz;have HB:=hid ay;clear ay;have HL:=hid hl;clear hl;by_cases hlt:i<xs.length
  ·obtain⟨b,o,rfl,hb,aa⟩:=HC.out (by omega);have hx:=(ah.cell hb).trans (aa i hlt);have HXC:=hid aa;clear aa;have cK:=az.get i;obtain⟨x,bN⟩:∃x,xs.getD i 0=x:=⟨_,rfl⟩;rw[bN]at hx cK;have VH:=hid bN;clear bN;simp only[d32]at hx;obtain⟨wo,rfl⟩:∃wo:World,wo=wr:=⟨_,rfl⟩;go_wp2_with fail;go_loopw [8,26] (fun cy kk wr=>∃k c:Nat,k<=ys.length/\c<4294967296/\kk= .int .i64 k/\cy= .int .u64 c/\GX w wr xs ys i k c) (fun _ kk _=>ys.length-(intOf kk).toNat)
   case atStart=>exact⟨0,0,Nat.zero_le _,by omega,rfl,rfl,os,HL.out,eU,by simp[val,HV.out],HZ.out,HB.out,ah⟩
   case round=>
    clear HV HZ HB HL hx eU ah os;obtain⟨k,c,hk,hc,rfl,rfl,os,hl,eU,hv,hz,ay,ah⟩:=hrel;have HV:=hid hv;clear hv;have HZ:=hid hz;clear hz;have HB:=hid ay;clear ay;have HL:=hid hl;clear hl;by_cases hlt2:k<ys.length
    ·obtain⟨b',o',rfl,gN,ao⟩:=pU.out (by omega);have hy:=(ah.cell gN).trans (ao k hlt2);clear ao;have hst:=HB.out.cell (i+k);have iD:=HB.out.frozen (i+k);rw[Be _ _ (by rw[HL.out];omega)]at hst;have fT:=bM.get k;have yR:=eU.get (i+k);have HS:=hid (fun t h=>GX.step (t:=t) hlt hlt2 HL.out eU HV.out HZ.out h HB.out ah);rw[VH.out]at HS;obtain⟨y,dR⟩:∃y,ys.getD k 0=y:=⟨_,rfl⟩;obtain⟨z,pk⟩:∃z,os.getD (i+k) 0=z:=⟨_,rfl⟩;rw[dR]at hy fT HS;rw[pk]at hst yR HS;clear dR pk;have hp:=L7 cK fT;have uG:(x:Int)*(y:Int)<=18446744065119617025:=by rw[<-Int.natCast_mul];omega
     have hp0:0<=(x:Int)*(y:Int):=by rw[<-Int.natCast_mul];omega
     simp only[d32]at hst hy
     go_wp2
     go_roundw
     case rel=>exact⟨k+1,(c+x*y+z) / 4294967296,by omega,Nat.div_lt_of_lt_mul (by omega),by go_num,by go_num,HS.out (c+x*y+z) (Nat.add_assoc _ _ _)⟩
     case measure=>simp[intOf];omega
    ·obtain rfl:k=ys.length:=by omega
     have hst:=HB.out.cell (i+ys.length);have iD:=HB.out.frozen (i+ys.length);rw[Be _ _ (by rw[HL.out];omega)]at hst;have HD:=hid (GX.done hlt HL.out eU hc HV.out HZ.out HB.out ah);generalize os.getD (i+ys.length) 0=z at hst;simp only[d32]at hst
     go_wp2
     go_roundw
     case rel=>exact⟨i+1,by omega,by go_num,HD.out⟩
     case measure=>simp[intOf];omega
  ·obtain rfl:i=xs.length:=by omega
   have aA:Own w.heap.size wr (.slice (some ⟨w.heap.size,0,none⟩) (xs.length+ys.length) (xs.length+ys.length)) os:=by
    have h3:=Own.block (B:=w.heap.size) eU HB.out (Nat.le_refl _) (by rw[HL.out];omega)
    rwa [HL.out]at h3
   have HT:=B9 _ _ _ aA.arr (by rw[HL.out];omega);rw[HV.out,List.take_of_length_le (Nat.le_refl _)]at HT;have HT:=hid HT;clear aA;go_wp2_with fail;refine HT.out.mono ?_
   rintro e w' ⟨v',rfl,ho,hx⟩;go_wp2_with fail;go_ret;exact⟨_,rfl,ho.mono ah.size,ah.trans hx⟩
end Big
end Go.Proofs.YtkoaogkknnelaaaGreatDoor
