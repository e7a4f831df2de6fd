import Derived.Test.YtkoaogkknnelaaaGreatDoorM6
import Derived.Test.YtkoaogkknnelaaaGreatDoorM2
import Derived.Deep.CutBlock
set_option linter.unusedVariables false
set_option linter.unusedSimpArgs false
set_option maxHeartbeats 1000000
set_option maxRecDepth 100000
namespace Go.Proofs.YtkoaogkknnelaaaGreatDoor
namespace Big
open Lib (hid)
open Go.RowKit
def MX(w0 wr:World)(xs:List Nat)(d s L k:Nat)(zs:List Nat)(c:Nat):Prop:=
 zs.length=k/\Ok zs/\c<2 ^ s/\val zs+4294967296 ^ k*c=val (xs.take k)*2 ^ s/\
  Blk wr w0.heap.size 183 (cells (List.replicate d 0++(zs++c::List.replicate (L-k) 0)))/\Ext w0 wr
theorem MX.step{w0 wr:World}{xs zs:List Nat}{d s L k c y:Nat}(h:MX w0 wr xs d s L k zs c)(hk:k<L)(hs:s<=31)(az:Ok xs)(hy:y=xs.getD k 0*2 ^ s):
  MX w0 ((wr.setCell ⟨w0.heap.size,k+d,none⟩ (d32 (c+y % 4294967296))).setCell ⟨w0.heap.size,k+d+1,none⟩ (d32 (y / 4294967296))) xs d s L (k+1) (zs++[c+y % 4294967296]) (y / 4294967296):=by
 obtain⟨hl,iS,hc,hv,hb,he⟩:=h;obtain⟨p1,p2,p3⟩:=He (az.get k) hs;rw[<-hy]at p1 p2 p3;have bI:=LT hs hc p3 (Nat.mod_lt _ (by omega));refine⟨by simp[hl],iS.snoc bI,p1,Q5 hl hv hy,?_,(he.setCell (Nat.le_refl _) _).setCell (Nat.le_refl _) _⟩;have h1:=(hb.set_ (k+d) (d32 (c+y % 4294967296))).set_ (k+d+1) (d32 (y / 4294967296));rw[Bx,Bx]at h1;have e1:(List.replicate d 0++(zs++c::List.replicate (L-k) 0)).set (k+d) (c+y % 4294967296)=List.replicate d 0++(zs++(c+y % 4294967296)::List.replicate (L-k) 0):=by
  rw[List.set_append_right _ _ (by simp),List.length_replicate,show k+d-d=zs.length by omega,List.set_append_right _ _ (Nat.le_refl _),Nat.sub_self,List.set_cons_zero]
 have e2:(List.replicate d 0++(zs++(c+y % 4294967296)::List.replicate (L-k) 0)).set (k+d+1) (y / 4294967296)=List.replicate d 0++(zs++[c+y % 4294967296]++(y / 4294967296)::List.replicate (L-(k+1)) 0):=by
  rw[List.set_append_right _ _ (by simp;omega),List.length_replicate,show k+d+1-d=zs.length+1 by omega,List.set_append_right _ _ (by omega),Nat.add_sub_cancel_left,List.set_cons_succ,show L-k=(L-(k+1))+1 by omega,List.replicate_succ,List.set_cons_zero,List.append_assoc];rfl
 rwa [e1,e2]at h1
theorem S2{d k c L:Nat}{zs:List Nat}(hl:zs.length=k):(List.replicate d 0++(zs++c::List.replicate (L-k) 0)).getD (k+d) 0=c:=by
 rw[List.getD_eq_getElem?_getD,List.getElem?_append_right (by simp),List.length_replicate,show k+d-d=zs.length by omega,List.getElem?_append_right (Nat.le_refl _),Nat.sub_self];rfl
theorem Pf(L d:Nat):zeros (L+d+1)=cells (List.replicate d 0++([]++0::List.replicate (L-0) 0)):=by
 rw[Ed,List.nil_append,Nat.sub_zero,<-List.replicate_succ,List.replicate_append_replicate,show d+(L+1)=L+d+1 by omega]
theorem KZ(w:World)(v:Value)(xs:List Nat)(n:Nat)(h:Arr w v xs)(hl:xs.length<=268435456)(hn:n<=1048576):
  Calls Tryz.prog 293 #[v,.int .i64 (n:Int)] w fun e w'=>∃v',e= .returned v'/\Own w.heap.size w' v' (Ac (val xs*2 ^ n))/\Ext w w':=by
 have HS:=hid (CB w v xs h);have cp:=Cx xs;have HA:=hid h;have HT:=hid (B8 h.ok);have HP:=hid (Jg w n hn);obtain⟨az,A,cap,rfl,dp,dT,aa⟩:=h.open;have HC:=hid aa;have HM:=hid dT;obtain⟨d,s,hd,hs,jF⟩:∃d s,d<=32768/\s<=31/\n=32*d+s:=⟨n / 32,n % 32,by omega,by omega,by omega⟩;have dw:=hid jF;have hq:(n:Int) / 32=(d:Int):=by omega
 have hr:(n:Int) % 32=(s:Int):=by omega
 clear h aa dT jF;rcases Nat.eq_zero_or_pos (size xs) with h0|h0
 ·have hz:=Hd h0;rw[hz,Nat.zero_mul];rw[h0]at HS;clear hz h0 cp hq hr;go_enter Tryz.func293,Tryz.ntmps293;go_wp2_with fail;refine HP.out.mono ?_
  rintro e w' ⟨rfl,rfl⟩;go_wp2_with fail;refine HS.out.mono ?_
  rintro e w' ⟨rfl,rfl⟩;go_wp2_with fail;go_ret;exact⟨_,rfl,Own.none_ _ _,Ext.refl _⟩
 ·have HV:Hid (val (xs.take (size xs))=val xs):=hid (by rw[HT.out,Ad]);generalize size xs=L at *;have hL0:((L:Int) == 0)=false:=by rw[beq_eq_false_iff_ne];omega
  have df:=Cg (L+d+1) (by omega);simp only[Int.natCast_add,Int.natCast_one]at df;have oy:=hid (Gu s hs);go_enter Tryz.func293,Tryz.ntmps293;go_wp2_with fail;refine HP.out.mono ?_
  rintro e w' ⟨rfl,rfl⟩;go_wp2_with fail;refine HS.out.mono ?_
  rintro e w' ⟨rfl,rfl⟩;go_wp2_with fail;clear df;go_loopw [33] (fun i wr=>∃(k:Nat) (zs:List Nat) (c:Nat),k<=L/\i= .int .i64 k/\MX w wr xs d s L k zs c) (fun i _=>L-(intOf i).toNat)
  case atStart=>exact⟨0,[],0,Nat.zero_le _,rfl,rfl,Cj,Nat.pow_pos (by omega),by simp[val],by rw[<-Pf];exact Blk.new _ _ _,(Ext.refl w).alloc _⟩
  case round=>
   obtain⟨k,zs,c,hk,rfl,hat⟩:=hrel;by_cases hlt:k<L
   ·obtain⟨b,o,rfl,hb,aa⟩:=HC.out (by omega);have dd:=hid (fun y h=>MX.step (y:=y) hat hlt hs az h);obtain⟨fh,iS,hc,hv,bF,ah⟩:=hat;have hx:=(ah.cell hb).trans (aa k (by omega));clear aa;have hst:=bF.cell (k+d);have rp:=bF.cell (k+d+1);have iD:=bF.frozen (k+d);have hfz2:=bF.frozen (k+d+1);rw[Be _ _ (by simp;omega),S2 fh]at hst;rw[Be _ _ (by simp;omega)]at rp;obtain⟨fH,fr,l8⟩:=He (az.get k) hs;have iJ:=Q6 hc l8;have bI:=LT hs hc l8 (Nat.mod_lt _ (by omega));have cK:=az.get k;have pt:=oy.out;generalize (List.replicate d 0++(zs++c::List.replicate (L-k) 0)).getD (k+d+1) 0=z at rp;clear bF hv iS fh l8;have HX:=hid ah;clear ah;obtain⟨x,bN⟩:∃x,xs.getD k 0=x:=⟨_,rfl⟩;rw[bN]at hx cK dd fH fr iJ bI;clear bN;have ob:(2:Int) ^ s=((2 ^ s:Nat):Int):=by simp
    obtain⟨P,hP⟩:∃P,2 ^ s=P:=⟨_,rfl⟩;rw[hP]at ob fH fr iJ bI hc pt dd;clear hP;have jE:(x:Int)*(P:Int)=((x*P:Nat):Int):=by simp
    have bG:=hid (dd.out _ rfl);obtain⟨y,hy⟩:∃y,x*P=y:=⟨_,rfl⟩;rw[hy]at jE fH fr iJ bI bG;clear hy dd;have qt:bits .or .u32 (c:Int) ((y:Int) % 4294967296)=((c+y % 4294967296:Nat):Int):=by
     rw[show (y:Int) % 4294967296=((y % 4294967296:Nat):Int) by omega,Iv _ _ (by omega) (by omega),iJ]
    clear iJ;simp only[d32]at hx hst rp;go_wp2_with fail;go_roundw
    case rel=>exact⟨k+1,_,_,by omega,by go_num,bG.out⟩
    case measure=>simp[intOf];omega
   ·obtain rfl:k=L:=by omega
    obtain⟨fh,iS,hc,hv,bF,ah⟩:=hat;rw[Nat.sub_self,List.replicate_zero]at bF;have pt:=oy.out;have zJ:c<4294967296:=by omega
    have hall:Ok (List.replicate d 0++(zs++[c])):=(Ok.zeros d).append (iS.snoc zJ);have aF:(List.replicate d 0++(zs++[c])).length=k+d+1:=by simp;omega
    have aA:Own w.heap.size wr (.slice (some ⟨w.heap.size,0,none⟩) (k+d+1) (k+d+1)) (List.replicate d 0++(zs++[c])):=by
     have h3:=Own.block (B:=w.heap.size) hall bF (Nat.le_refl _) (by rw[aF];omega)
     rwa [aF]at h3
    have bd:val (List.replicate d 0++(zs++[c]))=val xs*2 ^ n:=by
     rw[dw.out];refine Oo d s _ _ ?_
     rw[BK,fh,hv,HV.out]
    have VR:=hid (CB _ _ _ aA.arr);have bK:=Cx (List.replicate d 0++(zs++[c]));obtain⟨A1,c1,fo,HO⟩:=aA.take (size (List.replicate d 0++(zs++[c]))) bK;rw[B8 aA.ok,bd]at HO;rw[aF]at bK;injection fo with fo hv3 hv2
    clear hv3;subst fo;subst hv2;have HO:=hid HO;generalize size (List.replicate d 0++(zs++[c]))=sz at *;clear bd aA aF hall bF hv hc fh;go_wp2_with fail;refine VR.out.mono ?_
    rintro e w' ⟨rfl,rfl⟩;go_wp2_with fail;go_ret;exact⟨_,rfl,HO.out,ah⟩
theorem Dl(xs:List Nat)(RX:Array Value)(i:Nat)(h:i<xs.length):(cells xs++RX)[i]? =some (d32 (xs.getD i 0)):=by
 rw[Array.getElem?_append_left (by rw[I0];exact h),Be xs i h]
theorem EK(xs:List Nat)(RX:Array Value)(i y:Nat)(h:i<xs.length):(cells xs++RX).setIfInBounds i (d32 y)=cells (xs.set i y)++RX:=by
 rw[<-Bx];apply Array.ext';simp only[Array.toList_setIfInBounds,Array.toList_append];rw[List.set_append_left _ _ (by simpa [cells] using h)]
theorem Arr.kept{w w':World}{g:Nat}{v:Value}{ys:List Nat}(h:Arr w v ys)(hg:w.grownBy w' (some g))(hne:∀b o n c,v= .slice (some ⟨b,o,none⟩) n c->b≠g):Arr w' v ys:=by
 obtain⟨az,A,c,rfl,hc,hm,aa⟩:=h.open;refine Arr.mk az hc hm fun hp=> ?_
 obtain⟨b,o,rfl,hb,h1⟩:=aa hp;refine⟨b,o,rfl,Nat.lt_of_lt_of_le hb hg.size,fun j hj=> ?_⟩;have h2:=hg.block b hb (by simpa using hne b o _ _ rfl);rw[<-h1 j hj];simp[World.cell?,h2]
structure Dr (w w':World):Prop where
 heap:w'.heap=w.heap
 grown:∀g,w.grownBy w' g
theorem Dr.refl(w:World):Dr w w:=⟨rfl,fun _=>⟨rfl,rfl,rfl,Nat.le_refl _,fun _ _ _=>rfl⟩⟩
theorem Dr.drewN{w w':World}(h:Dr w w')(n:Nat):Dr w (w'.drewN n):=⟨h.heap,fun g=>⟨(h.grown g).os,(h.grown g).tape,(h.grown g).output,(h.grown g).size,(h.grown g).block⟩⟩
theorem Dr.cell{w w':World}(h:Dr w w')(p:Addr):w'.cell? p=w.cell? p:=by
 have:=h.heap;simp[World.cell?,this]
theorem Dr.blk{w w':World}{g:Nat}{t:TypeId}{cs:Array Value}(h:Dr w w')(hb:Blk w g t cs):Blk w' g t cs:=by
 unfold Blk;rw[h.heap];exact hb
def JV(RX:Array Value)(w0 wr:World)(g k n:Nat)(us ys:List Nat)(G i c b:Nat)(zs:List Nat):Prop:=
 zs.length=i/\Ok zs/\c<4294967296/\b<=1/\val zs+G*val (ys.take i)=val ((seg us k n).take i)+4294967296 ^ i*(c+b)/\
  Blk wr g 183 (cells (over us k zs)++RX)/\w0.grownBy wr (some g)
theorem EB{w0 wr:World}{g:Nat}(h:w0.grownBy wr (some g))(i:Nat)(u:Value):w0.grownBy (wr.setCell ⟨g,i,none⟩ u) (some g):=
 ⟨h.os,h.tape,h.output,by simpa using h.size,fun b hb hne=>by
  rw[<-h.block b hb hne];exact Below.heap_setCell wr ⟨g,i,none⟩ u b (by simpa using hne)⟩
theorem JV.step {RX:Array Value} {w0 wr:World} {g k n G i c b t d b':Nat} {us ys zs:List Nat} (h:JV RX w0 wr g k n us ys G i c b zs) (hi:i<n) (hk:k+n+1<=us.length)
  (ht:t=c+G*ys.getD i 0) (yA:t<18446744073709551616) (hd:us.getD (k+i) 0+4294967296*b'=d+t % 4294967296+b) (vq:d<4294967296) (gN:b'<=1):
  JV RX w0 (wr.setCell ⟨g,k+i,none⟩ (d32 d)) g k n us ys G (i+1) (t / 4294967296) b' (zs++[d]):=by
 obtain⟨hl,az,hc,hb,hv,ay,aQ⟩:=h;refine⟨by simp[hl],az.snoc vq,Nat.div_lt_of_lt_mul (by omega),gN,PY hl hv ht (by rw[Gq (by omega)];exact hd),?_,EB aQ _ _⟩;have h1:=ay.set_ (k+i) (d32 d);have h2:=Gx (us:=us) (zs:=zs) (k:=k) (d:=d) (by omega);rw[hl]at h2;rw[EK _ _ _ _ (by simp[over];omega),h2]at h1;exact h1
def JX(RX:Array Value)(w0 wr:World)(g k:Nat)(us xs ys:List Nat)(i a:Nat)(zz:List Nat):Prop:=
 zz.length=i/\Ok zz/\a<=1/\val zz+4294967296 ^ i*a=val (xs.take i)+val (ys.take i)/\Blk wr g 183 (cells (over (over us k xs) k zz)++RX)/\w0.grownBy wr (some g)
theorem JX.step {RX:Array Value} {w0 wr:World} {g k i a t:Nat} {us xs ys zz:List Nat} (h:JX RX w0 wr g k us xs ys i a zz) (hi:k+i<us.length) (hk:k+xs.length<=us.length) (yA:t<8589934592)
  (ht:t=xs.getD i 0+ys.getD i 0+a):JX RX w0 (wr.setCell ⟨g,k+i,none⟩ (d32 (t % 4294967296))) g k us xs ys (i+1) (t / 4294967296) (zz++[t % 4294967296]):=by
 obtain⟨hl,az,ha,hv,ay,aQ⟩:=h;refine⟨by simp[hl],az.snoc (Nat.mod_lt _ (by omega)),by omega,QA hl hv (by omega),?_,EB aQ _ _⟩;have h1:=ay.set_ (k+i) (d32 (t % 4294967296));have h2:=Gx (us:=over us k xs) (zs:=zz) (k:=k) (d:=t % 4294967296) (by rw[AQ hk];omega);rw[hl]at h2;rw[EK _ _ _ _ (by simp[over];omega),h2]at h1;exact h1
theorem O8(w:World)(x t b:Nat)(hx:x<4294967296)(hb:b<=1):
  Calls Tryz.prog 304 #[.int .u32 (x:Int),.int .u32 ((t:Int) % 4294967296),.int .u32 (b:Int)] w fun e w'=>∃d b':Nat,e= .returned (.tuple #[.int .u32 (d:Int),.int .u32 (b':Int)])/\d<4294967296/\b'<=1/\x+4294967296*b'=d+t % 4294967296+b/\w=w':=
 FB w x (t % 4294967296) b hx (Nat.mod_lt _ (by omega)) hb
theorem Qr (RX:Array Value) (w:World) (g k c n:Nat) (us:List Nat) (v:Value) (ys:List Nat) (hb:Blk w g 183 (cells us++RX)) (az:Ok us) (hn:ys.length=n+2) (hk:k+(n+2)+1<=us.length) (hm:us.length<=1073741824)
  (_hc:n+3<=c) (Vy:c<=maxLen) (hv:Arr w v ys) (hne:∀b o m c,v= .slice (some ⟨b,o,none⟩) m c->b≠g) (uB:1<=ys.getD (n+1) 0) (hlt:val (seg us k (n+2))<val ys*4294967296):
  Calls Tryz.prog 294 #[.slice (some ⟨g,k,none⟩) (n+3:Nat) c,v] w fun e w'=>∃zs,e= .returned (.int .u32 ((val (seg us k (n+2)) / val ys:Nat):Int))/\zs.length=n+3/\Ok zs/\val zs=val (seg us k (n+2)) % val ys/\
   Blk w' g 183 (cells (over us k zs)++RX)/\w.grownBy w' (some g):=by
 have HV:=hid hv;obtain⟨gk,A,cap,rfl,dp,dT,nU⟩:=hv.open;obtain⟨b,o,rfl,dK,aa⟩:=nU (by omega);clear nU;have lj:=hid (hne b o _ _ rfl);have HC:=hid aa;have HB:=hid hb;have dF:=hb.cell (k+(n+2));have dS:=hb.cell (k+(n+1));have mH:=hb.cell (k+n);rw[Dl _ _ _ (by omega)]at dF dS mH;have p5:=aa (n+1) (by omega);have hy0:=aa n (by omega);have uq:=az.get (k+(n+2));have ut:=az.get (k+(n+1));have rh:=az.get (k+n);have yk:=gk.get (n+1);have rf:=gk.get n;have gz:Hid (Knuth.Setup 4294967296 (val (seg us k (n+2))) (val ys) (ys.getD (n+1) 0) (ys.getD n 0) (4294967296 ^ n) (us.getD (k+(n+2)) 0*4294967296+us.getD (k+(n+1)) 0) (us.getD (k+n) 0)):=hid (by
  have e1:=Bp ys n;have e2:=Bp (seg us k (n+2)) n;rw[Bi,Bi,List.drop_eq_nil_of_le (by omega),val]at e1;rw[Bi,Bi,Bi,List.drop_eq_nil_of_le (by rw[I2 (by omega)];omega),val,Gq (by omega),Gq (by omega),Gq (by omega)]at e2;refine⟨⟨_,BN gk n,?_⟩,⟨_,BN (az.seg k (n+2)) n,?_⟩,hlt,uB,rf,rh,Fg n⟩
  ·rw[e1,Nat.mul_comm (4294967296 ^ n),Nat.add_comm]
   congr 2
   omega
  ·rw[e2,Nat.mul_comm (4294967296 ^ n),Nat.add_comm,show k+(n+1+1)=k+(n+2) by omega]
   congr 2
   omega)
 obtain⟨x2,ae⟩:∃x,us.getD (k+(n+2)) 0=x:=⟨_,rfl⟩;obtain⟨x1,ag⟩:∃x,us.getD (k+(n+1)) 0=x:=⟨_,rfl⟩;obtain⟨x0,hx0⟩:∃x,us.getD (k+n) 0=x:=⟨_,rfl⟩;obtain⟨y1,uo⟩:∃x,ys.getD (n+1) 0=x:=⟨_,rfl⟩;obtain⟨y0,up⟩:∃x,ys.getD n 0=x:=⟨_,rfl⟩;rw[ae]at dF uq gz;rw[ag]at dS ut gz;rw[hx0]at mH rh gz;rw[uo]at p5 yk gz uB;rw[up]at hy0 rf gz;clear ae ag hx0 uo up;have iJ:=NM x2 x1 uq ut;have hT:x2*4294967296+x1<18446744073709551616:=by omega
 obtain⟨T,zX⟩:∃T,x2*4294967296+x1=T:=⟨_,rfl⟩;rw[zX]at iJ hT gz;have HTE:=hid zX;have xM:=hid hn;have dM:=hid hlt;unfold maxLen at Vy;rw[hn]at dp ⊢;clear zX hb aa hv hlt hne hn;simp only[d32]at dF dS mH p5 hy0;have aZ:IntKind.i64.wrap ((n:Int)+2-1)=(n:Int)+1:=by rw[IntWalk.i64_in _ (by omega)];omega
 have cx:IntKind.i64.wrap ((n:Int)+2-2)=(n:Int):=by rw[IntWalk.i64_in _ (by omega)];omega
 have ht1:((n:Int)+1).toNat=n+1:=by omega
 have ht2:((n:Int)+2).toNat=n+2:=by omega
 have h01:(0:Int)<=(n:Int)+1:=by omega
 have h02:(0:Int)<=(n:Int)+2:=by omega
 have V0:=hid gz.out.q_first;obtain⟨q,hq⟩:∃q,val (seg us k (n+2)) / val ys=q:=⟨_,rfl⟩;have mn:=hid (fun G R=>gz.out.lower (g:=G) (r:=R));have xF:=hid (fun G R=>gz.out.done (g:=G) (r:=R));have lM:=hid (fun G R=>gz.out.broken (g:=G) (r:=R));have mQ:=hid (fun G=>gz.out.near (g:=G));rw[hq]at V0 mn mQ ⊢;have Yq:=hid hq;clear hq;go_enter Tryz.func294,Tryz.ntmps294;go_wp2_with fail;go_quiet (fail);go_wp2_with fail;have Zr:(0:Int)<(y1:Int):=by omega
 obtain⟨Q,hQ⟩:∃Q,T / y1=Q:=⟨_,rfl⟩;obtain⟨R,hR⟩:∃R,T % y1=R:=⟨_,rfl⟩;have hQT:Q<=T:=by rw[<-hQ];exact Nat.div_le_self _ _
 have hRy:R<y1:=by rw[<-hR];exact Nat.mod_lt _ (by omega)
 have Yp:Hid (Q*y1+R=T):=hid (by rw[<-hQ,<-hR];exact Nat.div_add_mod' T y1);have hTq:IntKind.u64.wrap ((T:Int) / (y1:Int))=(Q:Int):=by
  rw[<-Int.natCast_ediv,hQ,IntKind.wrap_u64];omega
 have XN:(T:Int) % (y1:Int)=(R:Int):=by rw[<-Int.natCast_emod,hR]
 have HQ:Hid (q<=Q):=hid (by
  rw[<-hQ];exact(Nat.le_div_iff_mul_le (by omega)).2 V0.out)
 clear hQ hR;go_quiet (fail);have cR:=hid XN;clear hTq XN iJ
 go_upto_block 0 with fail
 go_cut [7,8] from 47 to 82 (fun s7 s8 wx=>∃G R:Nat,s7= .int .u64 (G:Int)/\s8= .int .u64 (R:Int)/\G<4294967296/\q<=G/\G<=q+1/\Dr w wx)
 case first=>
  go_wp2_with fail;go_loopw [7,8] (fun s7 s8 wr=>∃G R:Nat,s7= .int .u64 (G:Int)/\s8= .int .u64 (R:Int)/\Hid (G*y1+R=T)/\G<=Q/\q<=G/\R<4294967296/\Dr w wr) (fun s7 _ _=>(intOf s7).toNat)
  case atStart=>exact⟨Q,R,rfl,by rw[cR.out],Yp,Nat.le_refl _,HQ.out,by omega,(Dr.refl _).drewN _ |>.drewN _⟩
  case round=>
   obtain⟨G,R',rfl,rfl,fd,hGQ,xe,hR',mB⟩:=hrel;have ZD:=(mB.cell _).trans dF;have ZE:=(mB.cell _).trans dS;have ZF:=(mB.cell _).trans mH;have Zs:=(mB.cell _).trans p5;have Zt:=(mB.cell _).trans hy0;rcases Nat.lt_or_ge G 4294967296 with hG|hG
   ·have al:(((G:Int) / 4294967296) != 0)=false:=by rw[bne_eq_false_iff_eq];omega
    have hb2:(((G:Int) / 4294967296) == 0)=true:=by rw[beq_iff_eq];omega
    have yQ:=NM R' x0 hR' rh;have tR:=II hG rf;have ob:(G:Int)*(y0:Int)=((G*y0:Nat):Int):=by simp
    have kI:=hid (fun h=>mn.out G R' fd.out xe (.inr h));have mW:=hid (fun h=>mQ.out G hG (xF.out G R' fd.out h));have hSm:R'*4294967296+x0<18446744073709551616:=by omega
    obtain⟨P,hP⟩:∃P,G*y0=P:=⟨_,rfl⟩;obtain⟨S,hS⟩:∃S,R'*4294967296+x0=S:=⟨_,rfl⟩;rw[hP]at ob tR kI mW;rw[hS]at yQ hSm kI mW;clear hP hS;rcases Nat.lt_or_ge S P with vF|vF
    ·have h1:=kI.out vF;have hd:decide (S<P)=true:=by simpa using vF
     have eN:decide ((S:Int)<(P:Int))=true:=by simpa using vF
     obtain⟨G',sx⟩:∃G',G=G'+1:=⟨G-1,by omega⟩;have jm:(G:Int)-1=(G':Int):=by omega
     have Wv:=hid sx;have tC:Hid (G'*y1+(R'+y1)=T):=hid (by
      have:=fd.out;rw[sx,Nat.add_mul,Nat.one_mul]at this;omega)
     have oH:Hid (G'<=Q):=hid (by omega);have vT:Hid (q<=G'):=hid (by omega);clear sx;rcases Nat.lt_or_ge (R'+y1) 4294967296 with hr|hr
     ·have hc1:(((R':Int)+(y1:Int)) / 4294967296 != 0)=false:=by rw[bne_eq_false_iff_eq];omega
      have cW:(((R':Int)+(y1:Int)) / 4294967296 == 0)=true:=by rw[beq_iff_eq];omega
      go_wp2_with fail;go_quiet (fail);go_wp2_with fail;go_roundw
      case rel=>exact⟨G',R'+y1,rfl,by go_num,tC,oH.out,vT.out,hr,mB.drewN _⟩
      case measure=>have:=Wv.out;simp[intOf];omega
     ·have hc1:(((R':Int)+(y1:Int)) / 4294967296 != 0)=true:=by rw[bne_iff_ne];omega
      have cW:(((R':Int)+(y1:Int)) / 4294967296 == 0)=false:=by rw[beq_eq_false_iff_ne];omega
      have HE:Hid (G'<4294967296/\G'<=q+1):=hid (by
       obtain⟨e1,e2⟩:=lM.out G' (R'+y1) tC.out hr;exact⟨e1,mQ.out G' e1 (xF.out G' (R'+y1) tC.out e2)⟩)
      go_wp2_with fail;go_quiet (fail);go_wp2_with fail;go_meet;exact⟨G',R'+y1,rfl,by go_num,HE.out.1,vT.out,HE.out.2,mB.drewN _⟩
    ·have hd:decide (S<P)=false:=by simp;omega
     have eN:decide ((S:Int)<(P:Int))=false:=by simp;omega
     have HE:=hid (mW.out vF);go_wp2_with fail;go_quiet (fail);go_wp2_with fail;go_meet;exact⟨G,R',rfl,rfl,hG,xe,HE.out,mB.drewN _⟩
   ·have h1:=mn.out G R' fd.out xe (.inl hG);have al:(((G:Int) / 4294967296) != 0)=true:=by rw[bne_iff_ne];omega
    have hb2:(((G:Int) / 4294967296) == 0)=false:=by rw[beq_eq_false_iff_ne];omega
    obtain⟨G',sx⟩:∃G',G=G'+1:=⟨G-1,by omega⟩;have jm:(G:Int)-1=(G':Int):=by omega
    have Wv:=hid sx;have tC:Hid (G'*y1+(R'+y1)=T):=hid (by
     have:=fd.out;rw[sx,Nat.add_mul,Nat.one_mul]at this;omega)
    have oH:Hid (G'<=Q):=hid (by omega);have vT:Hid (q<=G'):=hid (by omega);clear sx;rcases Nat.lt_or_ge (R'+y1) 4294967296 with hr|hr
    ·have hc1:(((R':Int)+(y1:Int)) / 4294967296 != 0)=false:=by rw[bne_eq_false_iff_eq];omega
     have cW:(((R':Int)+(y1:Int)) / 4294967296 == 0)=true:=by rw[beq_iff_eq];omega
     go_wp2_with fail;go_quiet (fail);go_wp2_with fail;go_roundw
     case rel=>exact⟨G',R'+y1,rfl,by go_num,tC,oH.out,vT.out,hr,mB.drewN _⟩
     case measure=>have:=Wv.out;simp[intOf];omega
    ·have hc1:(((R':Int)+(y1:Int)) / 4294967296 != 0)=true:=by rw[bne_iff_ne];omega
     have cW:(((R':Int)+(y1:Int)) / 4294967296 == 0)=false:=by rw[beq_eq_false_iff_ne];omega
     have HE:Hid (G'<4294967296/\G'<=q+1):=hid (by
      obtain⟨e1,e2⟩:=lM.out G' (R'+y1) tC.out hr;exact⟨e1,mQ.out G' e1 (xF.out G' (R'+y1) tC.out e2)⟩)
     go_wp2_with fail;go_quiet (fail);go_wp2_with fail;go_meet;exact⟨G',R'+y1,rfl,by go_num,HE.out.1,vT.out,HE.out.2,mB.drewN _⟩
 case rest=>
  obtain⟨G,R1,rfl,rfl,hG,xe,hGq,mB⟩:=hcut;clear mn xF lM mQ V0 Yp cR hQT hRy HQ dF dS mH p5 hy0;have lE:=HB.out.lt;have ai:=mB.blk HB.out;have xN:=mB.grown (some g);generalize hwc:wc=wd at *;clear hwc;go_wp2_with fail;go_loopw [9,10,85] (fun s9 s10 s85 wr=>∃(i cy bo:Nat) (zs:List Nat),i<=n+2/\s9= .int .u64 (cy:Int)/\s10= .int .u32 (bo:Int)/\s85= .int .i64 (i:Int)/\JV RX w wr g k (n+2) us ys G i cy bo zs) (fun _ _ s85 _=>n+2-(intOf s85).toNat)
  case atStart=>exact⟨0,0,0,[],Nat.zero_le _,rfl,rfl,rfl,rfl,Cj,by omega,by omega,by simp[val],by rw[Mh];exact ai,xN⟩
  case round=>
   obtain⟨i,cy,bo,zs,hi,rfl,rfl,rfl,hat⟩:=hrel;have eo:∀j,j<n+2->wr.cell? ⟨b,o+j,none⟩=some (d32 (ys.getD j 0)):=fun j hj=>by
    have h2:=hat.2.2.2.2.2.2.block b dK (by have:=lj.out;simpa using this);rw[<-HC.out j (by rw[xM.out];exact hj)];simp[World.cell?,h2]
   by_cases hlt:i<n+2
   ·have hx:=eo i hlt;have bG:=hid (fun t d b' h1 h2 h3 h4 h5=>JV.step (t:=t) (d:=d) (b':=b') hat hlt hk h1 h2 h3 h4 h5);obtain⟨fh,iS,Xw,qt,hv,ay,aQ⟩:=hat;have hst:=ay.cell (k+i);have iD:=ay.frozen (k+i);rw[Dl _ _ _ (by rw[AQ (by omega)];omega),Gy (by omega) (by omega)]at hst;have fT:=gk.get i;have oV:=az.get (k+i);clear eo ay hv iS fh;have fd:=hid aQ;clear aQ;obtain⟨y,dR⟩:∃y,ys.getD i 0=y:=⟨_,rfl⟩;obtain⟨u,ng⟩:∃u,us.getD (k+i) 0=u:=⟨_,rfl⟩;rw[dR]at hx fT bG;rw[ng]at hst oV bG;clear dR ng;have tR:=II hG fT;have ob:(G:Int)*(y:Int)=((G*y:Nat):Int):=by simp
    obtain⟨P,hP⟩:∃P,G*y=P:=⟨_,rfl⟩;rw[hP]at ob tR bG;clear hP;have hs:=fun W=>O8 W u (cy+P) bo oV qt
    simp only[Int.natCast_add]at hs;have HS:=hid hs;clear hs;have yA:cy+P<18446744073709551616:=by omega
    simp only[d32]at hx hst;go_wp2_with fail;refine(HS.out _).mono ?_
    rintro e w2 ⟨d,b',rfl,hd,gN,he,rfl⟩;have ot:=hid (bG.out (cy+P) d b' rfl yA he hd gN);clear he;go_wp2_with fail;go_roundw
    case rel=>exact⟨i+1,(cy+P) / 4294967296,b',_,by omega,by go_num,rfl,by go_num,ot.out⟩
    case measure=>simp[intOf];omega
   ·obtain rfl:i=n+2:=by omega
    obtain⟨fh,iS,Xw,qt,hv,ay,aQ⟩:=hat;have hst:=ay.cell (k+(n+2));have iD:=ay.frozen (k+(n+2));rw[Dl _ _ _ (by rw[AQ (by omega)];omega),Gy (by omega) (by omega)]at hst;have oV:=az.get (k+(n+2));have Wg:=hid (fun d b' h=>RK (d:=d) (b':=b') fh xM.out (I2 (by omega)) hv h);rw[Gq (by omega)]at Wg;have pV:=hid ay;have wE:=hid eo;obtain⟨u,ng⟩:∃u,us.getD (k+(n+2)) 0=u:=⟨_,rfl⟩;rw[ng]at hst oV Wg;clear ng eo ay hv;have fd:=hid aQ;clear aQ;have HS:=hid (fun W=>FB W u cy bo oV Xw qt);have hb2:((n:Int)+2).toNat=n+2:=by omega
    simp only[d32]at hst;go_wp2_with fail;refine(HS.out _).mono ?_
    rintro e w2 ⟨d,b',rfl,hd,gN,he,rfl⟩;have qD:=hid (Wg.out d b' he);have nC:=iS.snoc hd;have pz:(zs++[d]).length=n+3:=by simp[fh]
    have fX:=pV.out.set_ (k+(n+2)) (d32 d);have h2:=Gx (us:=us) (zs:=zs) (k:=k) (d:=d) (by omega);rw[fh]at h2;rw[EK _ _ _ _ (by rw[AQ (by omega)];omega),h2]at fX;have a6:=hid fX;have kj:=hid (EB fd.out (k+(n+2)) (d32 d));clear he h2 fX HS;rcases(show G=q\/G=q+1 by omega) with hGe|hGe
    ·obtain⟨aE,hr⟩:=NQ nC pz qD.out (by rw[Yq.out];exact hGe) gN;subst aE;have HR:=hid hr;subst hGe;clear hr;go_wp2_with fail;go_ret;exact⟨zs++[d],rfl,pz,nC,HR.out,a6.out,kj.out⟩
    ·have xr:0<val ys:=gz.out.vpos;obtain⟨aE,hr⟩:=RJ nC xr pz qD.out (by rw[Yq.out];exact hGe) gN;subst aE;have HR:=hid hr;have HRL:=hid (Nat.mod_lt (val (seg us k (n+2))) xr);clear hr;subst hGe;generalize hxs:zs++[d]=xs at *;clear hxs;have fD:IntKind.u64.wrap (((q+1:Nat):Int)-1)=(q:Int):=by rw[IntKind.wrap_u64];omega
     simp only[Int.natCast_add,Int.natCast_one]at fD;go_wp2_with fail;go_loopw [13,133] (fun s13 s133 wr=>∃(i a:Nat) (zz:List Nat),i<=n+2/\s13= .int .u32 (a:Int)/\s133= .int .i64 (i:Int)/\JX RX w wr g k us xs ys i a zz) (fun _ s133 _=>n+2-(intOf s133).toNat)
     case atStart=>exact⟨0,0,[],Nat.zero_le _,rfl,rfl,rfl,Cj,by omega,by simp[val],by rw[Mh];exact a6.out,kj.out⟩
     case round=>
      clear wE hst iD;obtain⟨i,a,zz,hi,rfl,rfl,hat⟩:=hrel;by_cases hlt:i<n+2
      ·have eo:wr.cell? ⟨b,o+i,none⟩=some (d32 (ys.getD i 0)):=by
        have h2:=hat.2.2.2.2.2.block b dK (by have:=lj.out;simpa using this);rw[<-HC.out i (by rw[xM.out];exact hlt)];simp[World.cell?,h2]
       have bG:=hid (fun t h1 h2=>JX.step (t:=t) hat (by omega) (by omega) h1 h2);obtain⟨fh,iS,ha,hv,ay,aQ⟩:=hat;have hst:=ay.cell (k+i);have iD:=ay.frozen (k+i);rw[Dl _ _ _ (by rw[AQ (by rw[AQ (by omega)];omega),AQ (by omega)];omega),Gy (by rw[AQ (by omega)];omega) (by omega),Ov (by omega) (by omega)]at hst;have fT:=gk.get i;have oV:=nC.get i;clear ay hv iS fh;have fd:=hid aQ;clear aQ;obtain⟨y,dR⟩:∃y,ys.getD i 0=y:=⟨_,rfl⟩;obtain⟨u,ng⟩:∃u,xs.getD i 0=u:=⟨_,rfl⟩;rw[dR]at eo fT bG;rw[ng]at hst oV bG;clear dR ng;have HS:=hid (fun W=>QC W u y a oV fT ha);have ot:=hid (bG.out (u+y+a) (by omega) rfl);simp only[d32]at eo hst;go_wp2_with fail;refine(HS.out _).mono ?_
       rintro e w2 ⟨rfl,rfl⟩;go_wp2_with fail;go_roundw
       case rel=>exact⟨i+1,(u+y+a) / 4294967296,_,by omega,rfl,by go_num,ot.out⟩
       case measure=>simp[intOf];omega
      ·obtain rfl:i=n+2:=by omega
       obtain⟨fh,iS,ha,hv,ay,aQ⟩:=hat;have hst:=ay.cell (k+(n+2));have iD:=ay.frozen (k+(n+2));rw[Dl _ _ _ (by rw[AQ (by rw[AQ (by omega)];omega),AQ (by omega)];omega),Gy (by rw[AQ (by omega)];omega) (by omega),Ov (by omega) (by omega)]at hst;have hE:=SG iS gk fh xM.out (by omega:xs.length=n+2+1) rfl hv HR.out HRL.out;have fX:=ay.set_ (k+(n+2)) (d32 ((xs.getD (n+2) 0+a) % 4294967296));have h2:=Gx (us:=over us k xs) (zs:=zz) (k:=k) (d:=(xs.getD (n+2) 0+a) % 4294967296) (by rw[AQ (by omega)];omega);rw[fh]at h2;rw[EK _ _ _ _ (by rw[AQ (by rw[AQ (by omega)];omega),AQ (by omega)];omega),h2,PS (by omega) (by simp[fh,pz])]at fX;have oV:=nC.get (n+2);have Lo:=EB aQ (k+(n+2)) (d32 ((xs.getD (n+2) 0+a) % 4294967296));obtain⟨u,ng⟩:∃u,xs.getD (n+2) 0=u:=⟨_,rfl⟩;rw[ng]at hst oV hE fX Lo;have HE:=hid hE;have a8:=hid fX;have HG3:=hid Lo;clear ng hE ay fX Lo h2 hv aQ;simp only[d32]at hst;go_wp2_with fail;go_ret;exact⟨_,rfl,by simp[fh],iS.snoc (Nat.mod_lt _ (by omega)),HE.out,a8.out,HG3.out⟩
def MW(w0 wr:World)(N M k:Nat)(zs:List Nat):Prop:=
 zs.length=k/\Ok zs/\val zs=N % 4294967296 ^ k/\Blk wr w0.heap.size 183 (cells (zs++List.replicate (M-k) 0))/\Ext w0 wr
theorem MW.step{w0 wr:World}{xs zs:List Nat}{d s M N k y:Nat}(h:MW w0 wr N M k zs)(hk:k<M)(hs:s<=31)(az:Ok xs)(hN:N=val (xs.drop d) / 2 ^ s)(hy:y=xs.getD (k+d) 0+4294967296*xs.getD (k+d+1) 0):
  MW w0 (wr.setCell ⟨w0.heap.size,k,none⟩ (d32 (y / 2 ^ s % 4294967296))) N M (k+1) (zs++[y / 2 ^ s % 4294967296]):=by
 obtain⟨hl,iS,hv,hb,he⟩:=h;have h0:=Q3 (az.drop d) hN hs hl hv;rw[FL,FL,show d+k=k+d by omega,show d+(k+1)=k+d+1 by omega,<-hy]at h0;refine⟨by simp[hl],iS.snoc (Nat.mod_lt _ (by omega)),h0,?_,he.setCell (Nat.le_refl _) _⟩;have h1:=hb.set_ k (d32 (y / 2 ^ s % 4294967296));rw[Bx,show M-k=(M-(k+1))+1 by omega]at h1;have h2:=Dg zs (M-(k+1)) (y / 2 ^ s % 4294967296);rw[hl]at h2
 rwa [h2]at h1
theorem S1(w:World)(v:Value)(xs:List Nat)(n:Nat)(h:Arr w v xs)(hl:xs.length<=268435456)(hn:n<=1048576):
  Calls Tryz.prog 295 #[v,.int .i64 (n:Int)] w fun e w'=>∃v',e= .returned v'/\Own w.heap.size w' v' (Ac (val xs / 2 ^ n))/\Ext w w':=by
 have HA:=hid h;have HP:=hid (Jg w n hn);obtain⟨az,A,cap,rfl,dp,dT,aa⟩:=h.open;have HC:=hid aa;have HM:=hid dT;obtain⟨d,s,hd,hs,jF⟩:∃d s,d<=32768/\s<=31/\n=32*d+s:=⟨n / 32,n % 32,by omega,by omega,by omega⟩;have dw:=hid jF;have hq:(n:Int) / 32=(d:Int):=by omega
 have hr:(n:Int) % 32=(s:Int):=by omega
 clear h aa dT jF;rcases Nat.lt_or_ge d xs.length with h0|h0
 ·obtain⟨M,qv⟩:∃M,xs.length=d+M:=⟨xs.length-d,by omega⟩;have df:=Cg M (by omega);have np:(xs.length:Int)-(d:Int)=(M:Int):=by omega
  have uX:¬(xs.length:Int)<=(d:Int):=by omega
  obtain⟨N,hN⟩:∃N,N=val (xs.drop d) / 2 ^ s:=⟨_,rfl⟩;have HN:=hid hN;clear hN;have oy:=hid (Gu s hs);have ge:=hid qv;have hM0:0<M:=by omega
  clear qv;go_enter Tryz.func295,Tryz.ntmps295;go_wp2_with fail;refine HP.out.mono ?_
  rintro e w' ⟨rfl,rfl⟩;go_wp2_with fail;clear df np;go_loopw [28] (fun i wr=>∃(k:Nat) (zs:List Nat),k<=M/\i= .int .i64 k/\MW w wr N M k zs) (fun i _=>M-(intOf i).toNat)
  case atStart=>exact⟨0,[],Nat.zero_le _,rfl,rfl,Cj,by simp[val,Nat.mod_one],Blk.new _ _ _,(Ext.refl w).alloc _⟩
  case round=>
   obtain⟨k,zs,hk,rfl,hat⟩:=hrel;by_cases hlt:k<M
   ·have qv:=ge.out;obtain⟨b,o,rfl,hb,aa⟩:=HC.out (by omega);have dd:=hid (fun y h=>MW.step (y:=y) hat hlt hs az HN.out h);obtain⟨fh,iS,hv,bF,ah⟩:=hat;have hx:=(ah.cell hb).trans (aa (k+d) (by omega));have hst:=bF.cell k;have iD:=bF.frozen k;rw[Be _ _ (by simp;omega)]at hst;have cK:=az.get (k+d);have ob:(2:Int) ^ s=((2 ^ s:Nat):Int):=by simp
    have zY:0<2 ^ s:=Nat.pow_pos (by omega);obtain⟨P,hP⟩:∃P,2 ^ s=P:=⟨_,rfl⟩;rw[hP]at ob dd zY;clear hP;generalize (zs++List.replicate (M-k) 0).getD k 0=z at hst;clear bF hv iS fh;have HX:=hid ah;by_cases h2:k+d+1<xs.length
    ·have hy:=(ah.cell hb).trans (aa (k+d+1) h2);have fT:=az.get (k+d+1);have bG:=hid (dd.out _ rfl);clear aa ah dd qv;obtain⟨x,bN⟩:∃x,xs.getD (k+d) 0=x:=⟨_,rfl⟩;obtain⟨y,dR⟩:∃y,xs.getD (k+d+1) 0=y:=⟨_,rfl⟩;rw[bN]at hx cK bG;rw[dR]at hy fT bG;clear bN dR;have qt:bits .or .u64 (x:Int) ((y:Int)*4294967296)=((x+4294967296*y:Nat):Int):=by
      rw[show (y:Int)*4294967296=((y*4294967296:Nat):Int) by omega,bits_or_u64_nat _ _ (by omega) (by omega)];have h3:=Nat.shiftLeft_add_eq_or_of_lt (i:=32) (b:=x) (by omega) y;rw[Nat.shiftLeft_eq]at h3;rw[Nat.or_comm,show y*4294967296=y*2 ^ 32 from rfl,<-h3];omega
     have tP:x+4294967296*y<18446744073709551616:=by omega
     obtain⟨t,ht⟩:∃t,x+4294967296*y=t:=⟨_,rfl⟩;rw[ht]at qt tP bG;clear ht;simp only[d32]at hx hst hy;go_wp2_with fail;go_roundw
     case rel=>exact⟨k+1,_,by omega,by go_num,bG.out⟩
     case measure=>simp[intOf];omega
    ·have h0:xs.getD (k+d+1) 0=0:=Db xs _ (by omega);have bG:=hid (dd.out (xs.getD (k+d) 0) (by rw[h0];omega));clear aa ah dd h0;have h2':¬(k:Int)+(d:Int)+1<(xs.length:Int):=by omega
     have h3:(k:Int)+(d:Int)<(xs.length:Int):=by omega
     clear h2 qv;obtain⟨x,bN⟩:∃x,xs.getD (k+d) 0=x:=⟨_,rfl⟩;rw[bN]at hx cK bG;clear bN;simp only[d32]at hx hst;go_wp2_with fail;go_roundw
     case rel=>exact⟨k+1,_,by omega,by go_num,bG.out⟩
     case measure=>simp[intOf];omega
   ·obtain rfl:k=M:=by omega
    obtain⟨fh,iS,hv,bF,ah⟩:=hat;rw[Nat.sub_self,List.replicate_zero,List.append_nil]at bF;have qv:=ge.out;have aA:Own w.heap.size wr (.slice (some ⟨w.heap.size,0,none⟩) k k) zs:=by
     have h3:=Own.block (B:=w.heap.size) iS bF (Nat.le_refl _) (by rw[fh];omega)
     rwa [fh]at h3
    have bd:val zs=val xs / 2 ^ n:=by
     rw[dw.out,<-LS az,<-HN.out];refine S0 (az.drop d) HN.out ?_
     rw[hv,List.length_drop,qv,Nat.add_sub_cancel_left]
    have VR:=hid (CB _ _ _ aA.arr);have bK:=Cx zs;obtain⟨A1,c1,fo,HO⟩:=aA.take (size zs) bK;rw[B8 aA.ok,bd]at HO;rw[fh]at bK;injection fo with fo hv3 hv2
    clear hv3;subst fo;subst hv2;have HO:=hid HO;generalize size zs=sz at *;clear bd aA bF hv fh qv;go_wp2_with fail;refine VR.out.mono ?_
    rintro e w' ⟨rfl,rfl⟩;go_wp2_with fail;go_ret;exact⟨_,rfl,HO.out,ah⟩
 ·have HZ:val xs / 2 ^ n=0:=by rw[dw.out];exact Q4 az h0
  rw[HZ];clear HZ;have fE:(xs.length:Int)<=(d:Int):=by omega
  go_enter Tryz.func295,Tryz.ntmps295;go_wp2_with fail;refine HP.out.mono ?_
  rintro e w' ⟨rfl,rfl⟩;go_wp2_with fail;go_ret;exact⟨_,rfl,Own.none_ _ _,Ext.refl _⟩
theorem EM(w:World)(v:Value)(xs:List Nat)(m c:Nat)(h:Arr w v xs)(hn:xs.length<=536870912)(hm:m<4294967296)(hc:c<4294967296):
  Calls Tryz.prog 170 #[v,.int .u32 (m:Int),.int .u32 (c:Int)] w fun e w'=>∃v',e= .returned v'/\Own w.heap.size w' v' (Ac (val xs*m+c))/\Ext w w':=by
 have HA:=hid h;obtain⟨az,A,cap,rfl,dp,dT,aa⟩:=h.open;have HC:=hid aa;clear h aa dT dp;go_enter Tryz.func170,Tryz.ntmps170;go_wp2_with fail;go_loopw [7,8,15] (fun out cy i wr=>∃(k q:Nat) (ys:List Nat),k<=xs.length/\q<4294967296/\i= .int .i64 k/\cy= .int .u64 q/\ys.length=k/\
   val ys+4294967296 ^ k*q=val (xs.take k)*m+c/\Own w.heap.size wr out ys/\Ext w wr) (fun _ _ i _=>xs.length-(intOf i).toNat)
 case atStart=>exact⟨0,c,[],Nat.zero_le _,hc,rfl,rfl,rfl,by simp[val],Own.none_ _ _,Ext.refl w⟩
 case round=>
  obtain⟨k,q,ys,hk,hq,rfl,rfl,hl,hv,aG,ah⟩:=hrel;have HV:=hid hv;clear hv;have HL:=hid hl;clear hl;have ri:=ah.size;by_cases hlt:k<xs.length
  ·obtain⟨b,o,rfl,hb,aa⟩:=HC.out (by omega);have hx:=(ah.cell hb).trans (aa k hlt);clear aa;have cK:=az.get k;have HS:=hid (IY xs ys k m c q hlt HL.out HV.out);have hp:=II cK hm;obtain⟨x,bN⟩:∃x,xs.getD k 0=x:=⟨_,rfl⟩;rw[bN]at hx cK hp HS;clear bN;have uG:(x:Int)*(m:Int)<=18446744065119617025:=by rw[<-Int.natCast_mul];omega
   have hp0:0<=(x:Int)*(m:Int):=by rw[<-Int.natCast_mul];omega
   have hy:(q+x*m) % 4294967296<4294967296:=Nat.mod_lt _ (by omega);have HY:=hid hy;clear hy;have dN:=hid (show ys.length+[(q+x*m) % 4294967296].length<=2147483648 by simp[HL.out];omega);simp only[d32]at hx;go_wp2_with (at_builtin;go_must (refine AP rfl _ _ rfl rfl (aG.ext ((Ext.refl _).alloc _)) rfl (Arr.fresh1 _ ((q+x*m) % 4294967296) HY.out) dN.out (by simp;omega) ?_;intro v' w' dh aQ hb));go_roundw
   case rel=>
    refine⟨k+1,(q+x*m) / 4294967296,_,by omega,Nat.div_lt_of_lt_mul (by omega),by go_num,by go_num,by simp[HL.out],HS.out,dh,(ah.alloc _).more hb⟩
   case measure=>simp[intOf];omega
  ·obtain rfl:k=xs.length:=by omega
   have dN:=hid (show ys.length+[q].length<=2147483648 by simp[HL.out];omega);have bd:val (ys++[q])=val xs*m+c:=by
    rw[BK,HL.out,HV.out,List.take_of_length_le (Nat.le_refl _)]
   have fZ:=hid bd;clear bd;go_wp2_with (at_builtin;go_must (refine AP rfl _ _ rfl rfl (aG.ext ((Ext.refl _).alloc _)) rfl (Arr.fresh1 _ q hq) dN.out (by simp;omega) ?_;intro v' w' dh aQ hb));have HT:=hid (B9 _ _ _ dh.arr (by simp[HL.out];omega));rw[fZ.out]at HT;refine HT.out.mono ?_
   rintro e w2 ⟨v2,rfl,ho,hx⟩;go_wp2_with fail;go_ret;have he:Ext w w':=(ah.alloc _).more hb;exact⟨_,rfl,ho.mono he.size,he.trans hx⟩
theorem FC(w:World)(n:Nat)(h:n<18446744073709551616):
  Calls Tryz.prog 62 #[.int .u64 (n:Int)] w fun e w'=>∃v',e= .returned v'/\Own w.heap.size w' v' (Ac n)/\Ext w w':=by
 have HN:=hid h;clear h;go_enter Tryz.func62,Tryz.ntmps62;go_wp2_with fail;have h1:n % 4294967296<4294967296:=by omega
 have h2:n / 4294967296<4294967296:=by have:=HN.out;omega
 have HT:=B9 _ _ _ (Own.fresh2 w (n % 4294967296) (n / 4294967296) h1 h2).arr (by simp);have hv:val [n % 4294967296,n / 4294967296]=n:=by simp[val];omega
 rw[hv]at HT;have e1:Value.int .u32 ((n:Int) % 4294967296)=d32 (n % 4294967296):=rfl;have e2:Value.int .u32 ((n:Int) / 4294967296 % 4294967296)=d32 (n / 4294967296):=congrArg (Value.int .u32) (by have:=HN.out;omega);rw[e1,e2];clear e1 e2 hv;refine HT.mono ?_
 rintro e w2 ⟨v2,rfl,ho,hx⟩;go_wp2_with fail;go_ret;have he:Ext w (w.alloc (.cells #[d32 (n % 4294967296),d32 (n / 4294967296)] 183)):=(Ext.refl w).alloc _;exact⟨_,rfl,ho.mono he.size,he.trans hx⟩
theorem F8(w:World)(n:Nat)(h:n<18446744073709551616):
  Calls Tryz.prog 214 #[.int .u64 (n:Int)] w fun e w'=>∃v',e= .returned v'/\Own w.heap.size w' v' (Ac n)/\Ext w w':=by
 have HN:=hid h;clear h;go_enter Tryz.func214,Tryz.ntmps214;go_wp2_with fail;have h1:n % 4294967296<4294967296:=by omega
 have h2:n / 4294967296<4294967296:=by have:=HN.out;omega
 have HT:=Bq _ _ _ (Own.fresh2 w (n % 4294967296) (n / 4294967296) h1 h2).arr (by simp);have hv:val [n % 4294967296,n / 4294967296]=n:=by simp[val];omega
 rw[hv]at HT;have e1:Value.int .u32 ((n:Int) % 4294967296)=d32 (n % 4294967296):=rfl;have e2:Value.int .u32 ((n:Int) / 4294967296 % 4294967296)=d32 (n / 4294967296):=congrArg (Value.int .u32) (by have:=HN.out;omega);rw[e1,e2];clear e1 e2 hv;refine HT.mono ?_
 rintro e w2 ⟨v2,rfl,ho,hx⟩;go_wp2_with fail;go_ret;have he:Ext w (w.alloc (.cells #[d32 (n % 4294967296),d32 (n / 4294967296)] 183)):=(Ext.refl w).alloc _;exact⟨_,rfl,ho.mono he.size,he.trans hx⟩
def OU(w0 wr:World)(xs:List Nat)(d k r:Nat):Prop:=
 ∃qs:List Nat,k+qs.length=xs.length/\Ok qs/\val qs*d+r=val (xs.drop k)/\
  Blk wr w0.heap.size 183 (cells (List.replicate k 0++qs))/\Ext w0 wr
theorem OU.step {w0 wr:World} {xs qs:List Nat} {d k r y:Nat} (hl:k+1+qs.length=xs.length) (az:Ok qs) (hy:y<4294967296)
  (hv:val (y::qs)*d+r=val (xs.drop k))
  (hb:Blk wr w0.heap.size 183 (cells (List.replicate (k+1) 0++qs))) (he:Ext w0 wr):
  OU w0 (wr.setCell ⟨w0.heap.size,k,none⟩ (d32 y)) xs d k r:=by
 refine⟨y::qs,by simp;omega,Dq hy az,hv,?_,he.setCell (Nat.le_refl _) _⟩;have h1:=hb.set_ k (d32 y);rw[Bx,I1]at h1;exact h1
theorem Jc(w:World)(v:Value)(xs:List Nat)(d:Nat)(h:Arr w v xs)(hn:xs.length<=536870912)(iX:0<d)(hd:d<4294967296):
  Calls Tryz.prog 291 #[v,.int .u32 (d:Int)] w fun e w'=>∃v',e= .returned (.tuple #[v',.int .u32 ((val xs % d:Nat):Int),.bool true])/\Own w.heap.size w' v' (Ac (val xs / d))/\Ext w w':=by
 have HA:=hid h;obtain⟨az,A,cap,rfl,dp,dT,aa⟩:=h.open;have HM:=hid dT;have HC:=hid aa;have df:=Cg xs.length (by omega);have jK:=hid df;clear h aa dT dp;have t4:((d:Int) == 0)=false:=by rw[beq_eq_false_iff_ne];omega
 go_enter Tryz.func291,Tryz.ntmps291;go_wp2_with fail;clear df;go_loopw [8,9] (fun rv i wr=>∃k r:Nat,k<=xs.length/\r<d/\i= .int .i64 ((k:Int)-1)/\rv= .int .u64 r/\OU w wr xs d k r) (fun _ i _=>(intOf i+1).toNat)
 case atStart=>exact⟨xs.length,0,Nat.le_refl _,iX,rfl,rfl,[],rfl,Cj,by simp[val],by simpa [Ed] using Blk.new w 183 (zeros xs.length),(Ext.refl w).alloc _⟩
 case round=>
  obtain⟨k,r,hk,hr,rfl,rfl,qs,hl,bM,hv,ay,ah⟩:=hrel;have HV:=hid hv;clear hv;have HB:=hid ay;clear ay;have HL:=hid hl;clear hl;rcases Nat.eq_zero_or_pos k with h0|h0
  ·subst h0;obtain⟨iB,nB⟩:=K7 hr (by simpa using HV.out);have aF:qs.length=xs.length:=by simpa using HL.out
   have aA:Own w.heap.size wr (.slice (some ⟨w.heap.size,0,none⟩) xs.length xs.length) qs:=by
    have h3:=Own.block (B:=w.heap.size) bM (by simpa using HB.out) (Nat.le_refl _) (by omega)
    rwa [aF]at h3
   have HT:=hid (Bq _ _ _ aA.arr (by omega));rw[iB]at HT;have tP:(r:Int) % 4294967296=((val xs % d:Nat):Int):=by omega
   have HR:=hid tP;have gA:=hid nB;clear tP iB nB aA aF;go_wp2_with fail;refine HT.out.mono ?_
   rintro e w' ⟨v',rfl,ho,hx⟩;go_wp2_with fail;go_ret3;first
    |exact⟨_,congrArg (fun z:Int=>Ending.returned (.tuple #[v',.int .u32 z,.bool true])) HR.out,ho.mono ah.size,ah.trans hx⟩
    |exact⟨_,congrArg (fun z:Nat=>Ending.returned (.tuple #[v',.int .u32 (z:Int),.bool true])) gA.out,ho.mono ah.size,ah.trans hx⟩
  ·obtain⟨m,rfl⟩:∃m,k=m+1:=⟨k-1,by omega⟩;obtain⟨b,o,rfl,hb,aa⟩:=HC.out (by omega);have hx:=(ah.cell hb).trans (aa m (by omega));have hst:=HB.out.cell m;have iD:=HB.out.frozen m;rw[Be _ _ (by simp;omega)]at hst;clear aa;have cK:=az.get m;have HS:=hid (Rr xs qs m d r (by omega) HV.out);have hq:=Uh hr cK;have ny:=Nat.mod_lt (r*4294967296+xs.getD m 0) iX;obtain⟨x,bN⟩:∃x,xs.getD m 0=x:=⟨_,rfl⟩;rw[bN]at hx cK HS hq ny;clear bN;have iJ:=NM r x (by omega) cK;have hNb:r*4294967296+x<18446744073709551616:=by omega
   obtain⟨N,XQ⟩:∃N,r*4294967296+x=N:=⟨_,rfl⟩;rw[XQ]at iJ HS hq ny hNb;clear XQ;have zC:(N:Int) / (d:Int)=((N / d:Nat):Int):=(Int.natCast_ediv N d).symm;have gp:(N:Int) % (d:Int)=((N % d:Nat):Int):=(Int.natCast_emod N d).symm;obtain⟨y,hy⟩:∃y,N / d=y:=⟨_,rfl⟩;obtain⟨z,hz⟩:∃z,N % d=z:=⟨_,rfl⟩;rw[hy]at zC HS hq;rw[hz]at gp HS ny;clear hy hz;have YC:=hid (show (y:Int) % 4294967296=(y:Int) by omega);simp only[d32]at hx hst
   go_wp2
   go_round
   case rel=>
    refine⟨m,z,by omega,ny,rfl,by rw[gp],?_⟩;exact OU.step HL.out bM hq HS.out HB.out ah
   case measure=>simp[intOf]
end Big
end Go.Proofs.YtkoaogkknnelaaaGreatDoor
