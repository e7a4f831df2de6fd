import Derived.Test.YtkoaogkknnelaaaGreatDoorM6
import Derived.Test.YtkoaogkknnelaaaGreatDoorM2
import Derived.Deep.CutBlock
set_option linter.unusedVariables false
set_option linter.unusedSimpArgs false
set_option maxHeartbeats 1000000
set_option maxRecDepth 100000
namespace Go.Proofs.YtkoaogkknnelaaaGreatDoor
namespace Big
open Lib (hid)
open Go.RowKit
def ME(w0 wr:World)(xs:List Nat)(d s L k:Nat)(zs:List Nat)(c:Nat):Prop:=
 zs.length=k/\Ok zs/\c<2 ^ s/\val zs+4294967296 ^ k*c=val (xs.take k)*2 ^ s/\
  Blk wr w0.heap.size 183 (cells (List.replicate d 0++(zs++c::List.replicate (L-k) 0)))/\Ext w0 wr
theorem ME.step{w0 wr:World}{xs zs:List Nat}{d s L k c y:Nat}(h:ME w0 wr xs d s L k zs c)(hk:k<L)(hs:s<=31)(ax:Ok xs)(hy:y=xs.getD k 0*2 ^ s):
  ME w0 ((wr.setCell ⟨w0.heap.size,k+d,none⟩ (d32 (c+y % 4294967296))).setCell ⟨w0.heap.size,k+d+1,none⟩ (d32 (y / 4294967296))) xs d s L (k+1) (zs++[c+y % 4294967296]) (y / 4294967296):=by
 obtain⟨hl,ij,hc,hv,hb,he⟩:=h;obtain⟨p1,p2,p3⟩:=JR (ax.get k) hs;rw[<-hy]at p1 p2 p3;have cn:=Lw hs hc p3 (Nat.mod_lt _ (by omega));refine⟨by simp[hl],ij.snoc cn,p1,QM hl hv hy,?_,(he.setCell (Nat.le_refl _) _).setCell (Nat.le_refl _) _⟩;have h1:=(hb.set_ (k+d) (d32 (c+y % 4294967296))).set_ (k+d+1) (d32 (y / 4294967296));rw[Bp,Bp]at h1;have e1:(List.replicate d 0++(zs++c::List.replicate (L-k) 0)).set (k+d) (c+y % 4294967296)=List.replicate d 0++(zs++(c+y % 4294967296)::List.replicate (L-k) 0):=by
  rw[List.set_append_right _ _ (by simp),List.length_replicate,show k+d-d=zs.length by omega,List.set_append_right _ _ (Nat.le_refl _),Nat.sub_self,List.set_cons_zero]
 have e2:(List.replicate d 0++(zs++(c+y % 4294967296)::List.replicate (L-k) 0)).set (k+d+1) (y / 4294967296)=List.replicate d 0++(zs++[c+y % 4294967296]++(y / 4294967296)::List.replicate (L-(k+1)) 0):=by
  rw[List.set_append_right _ _ (by simp;omega),List.length_replicate,show k+d+1-d=zs.length+1 by omega,List.set_append_right _ _ (by omega),Nat.add_sub_cancel_left,List.set_cons_succ,show L-k=(L-(k+1))+1 by omega,List.replicate_succ,List.set_cons_zero,List.append_assoc];rfl
 rwa [e1,e2]at h1
theorem Sy{d k c L:Nat}{zs:List Nat}(hl:zs.length=k):(List.replicate d 0++(zs++c::List.replicate (L-k) 0)).getD (k+d) 0=c:=by
 rw[List.getD_eq_getElem?_getD,List.getElem?_append_right (by simp),List.length_replicate,show k+d-d=zs.length by omega,List.getElem?_append_right (Nat.le_refl _),Nat.sub_self];rfl
theorem O0(L d:Nat):zeros (L+d+1)=cells (List.replicate d 0++([]++0::List.replicate (L-0) 0)):=by
 rw[EW,List.nil_append,Nat.sub_zero,<-List.replicate_succ,List.replicate_append_replicate,show d+(L+1)=L+d+1 by omega]
theorem Kv(w:World)(v:Value)(xs:List Nat)(n:Nat)(h:Arr w v xs)(hl:xs.length<=268435456)(hn:n<=1048576):
  Calls Tryz.prog 293 #[v,.int .i64 (n:Int)] w fun e w'=>∃v',e= .returned v'/\Own w.heap.size w' v' (Ac (val xs*2 ^ n))/\Ext w w':=by
 have HS:=hid (Co w v xs h);have cx:=Cm xs;have HA:=hid h;have HT:=hid (BY h.ok);have HP:=hid (IR w n hn);obtain⟨ax,A,cap,rfl,dz,ek,aa⟩:=h.open;have HC:=hid aa;have HM:=hid ek;obtain⟨d,s,hd,hs,jN⟩:∃d s,d<=32768/\s<=31/\n=32*d+s:=⟨n / 32,n % 32,by omega,by omega,by omega⟩;have dd:=hid jN;have hq:(n:Int) / 32=(d:Int):=by omega
 have hr:(n:Int) % 32=(s:Int):=by omega
 clear h aa ek jN;rcases Nat.eq_zero_or_pos (size xs) with h0|h0
 ·have hz:=GK h0;rw[hz,Nat.zero_mul];rw[h0]at HS;clear hz h0 cx hq hr;go_enter Tryz.func293,Tryz.ntmps293;go_wp2_with fail;refine HP.out.mono ?_
  rintro e w' ⟨rfl,rfl⟩;go_wp2_with fail;refine HS.out.mono ?_
  rintro e w' ⟨rfl,rfl⟩;go_wp2_with fail;go_ret;exact⟨_,rfl,Own.none_ _ _,Ext.refl _⟩
 ·have HV:Hid (val (xs.take (size xs))=val xs):=hid (by rw[HT.out,Ad]);generalize size xs=L at *;have Z8:((L:Int) == 0)=false:=by rw[beq_eq_false_iff_ne];omega
  have cS:=Cp (L+d+1) (by omega);simp only[Int.natCast_add,Int.natCast_one]at cS;have rp:=hid (IQ s hs);go_enter Tryz.func293,Tryz.ntmps293;go_wp2_with fail;refine HP.out.mono ?_
  rintro e w' ⟨rfl,rfl⟩;go_wp2_with fail;refine HS.out.mono ?_
  rintro e w' ⟨rfl,rfl⟩;go_wp2_with fail;clear cS;go_loopw [33] (fun i wr=>∃(k:Nat) (zs:List Nat) (c:Nat),k<=L/\i= .int .i64 k/\ME w wr xs d s L k zs c) (fun i _=>L-(intOf i).toNat)
  case atStart=>exact⟨0,[],0,Nat.zero_le _,rfl,rfl,B3,Nat.pow_pos (by omega),by simp[val],by rw[<-O0];exact Blk.new _ _ _,(Ext.refl w).alloc _⟩
  case round=>
   obtain⟨k,zs,c,hk,rfl,hat⟩:=hrel;by_cases hlt:k<L
   ·obtain⟨b,o,rfl,hb,aa⟩:=HC.out (by omega);have cL:=hid (fun y h=>ME.step (y:=y) hat hlt hs ax h);obtain⟨fC,ij,hc,hv,bJ,ad⟩:=hat;have hx:=(ad.cell hb).trans (aa k (by omega));clear aa;have ac:=bJ.cell (k+d);have qc:=bJ.cell (k+d+1);have gP:=bJ.frozen (k+d);have XX:=bJ.frozen (k+d+1);rw[AY _ _ (by simp;omega),Sy fC]at ac;rw[AY _ _ (by simp;omega)]at qc;obtain⟨gm,eX,mc⟩:=JR (ax.get k) hs;have lF:=TE hc mc;have cn:=Lw hs hc mc (Nat.mod_lt _ (by omega));have cK:=ax.get k;have qh:=rp.out;generalize (List.replicate d 0++(zs++c::List.replicate (L-k) 0)).getD (k+d+1) 0=z at qc;clear bJ hv ij fC mc;have HX:=hid ad;clear ad;obtain⟨x,b7⟩:∃x,xs.getD k 0=x:=⟨_,rfl⟩;rw[b7]at hx cK cL gm eX lF cn;clear b7;have qQ:(2:Int) ^ s=((2 ^ s:Nat):Int):=by simp
    obtain⟨P,hP⟩:∃P,2 ^ s=P:=⟨_,rfl⟩;rw[hP]at qQ gm eX lF cn hc qh cL;clear hP;have ju:(x:Int)*(P:Int)=((x*P:Nat):Int):=by simp
    have bZ:=hid (cL.out _ rfl);obtain⟨y,hy⟩:∃y,x*P=y:=⟨_,rfl⟩;rw[hy]at ju gm eX lF cn bZ;clear hy cL;have nJ:bits .or .u32 (c:Int) ((y:Int) % 4294967296)=((c+y % 4294967296:Nat):Int):=by
     rw[show (y:Int) % 4294967296=((y % 4294967296:Nat):Int) by omega,H8 _ _ (by omega) (by omega),lF]
    clear lF;simp only[d32]at hx ac qc;go_wp2_with fail;go_roundw
    case rel=>exact⟨k+1,_,_,by omega,by go_num,bZ.out⟩
    case measure=>simp[intOf];omega
   ·obtain rfl:k=L:=by omega
    obtain⟨fC,ij,hc,hv,bJ,ad⟩:=hat;rw[Nat.sub_self,List.replicate_zero]at bJ;have qh:=rp.out;have ya:c<4294967296:=by omega
    have hall:Ok (List.replicate d 0++(zs++[c])):=(Ok.zeros d).append (ij.snoc ya);have aB:(List.replicate d 0++(zs++[c])).length=k+d+1:=by simp;omega
    have aw:Own w.heap.size wr (.slice (some ⟨w.heap.size,0,none⟩) (k+d+1) (k+d+1)) (List.replicate d 0++(zs++[c])):=by
     have h3:=Own.block (B:=w.heap.size) hall bJ (Nat.le_refl _) (by rw[aB];omega)
     rwa [aB]at h3
    have bj:val (List.replicate d 0++(zs++[c]))=val xs*2 ^ n:=by
     rw[dd.out];refine Sx d s _ _ ?_
     rw[BG,fC,hv,HV.out]
    have fU:=hid (Co _ _ _ aw.arr);have cB:=Cm (List.replicate d 0++(zs++[c]));obtain⟨A1,c1,fl,HO⟩:=aw.take (size (List.replicate d 0++(zs++[c]))) cB;rw[BY aw.ok,bj]at HO;rw[aB]at cB;injection fl with fl hv3 hv2
    clear hv3;subst fl;subst hv2;have HO:=hid HO;generalize size (List.replicate d 0++(zs++[c]))=sz at *;clear bj aw aB hall bJ hv hc fC;go_wp2_with fail;refine fU.out.mono ?_
    rintro e w' ⟨rfl,rfl⟩;go_wp2_with fail;go_ret;exact⟨_,rfl,HO.out,ad⟩
theorem Dc(xs:List Nat)(RX:Array Value)(i:Nat)(h:i<xs.length):(cells xs++RX)[i]? =some (d32 (xs.getD i 0)):=by
 rw[Array.getElem?_append_left (by rw[IB];exact h),AY xs i h]
theorem EA(xs:List Nat)(RX:Array Value)(i y:Nat)(h:i<xs.length):(cells xs++RX).setIfInBounds i (d32 y)=cells (xs.set i y)++RX:=by
 rw[<-Bp];apply Array.ext';simp only[Array.toList_setIfInBounds,Array.toList_append];rw[List.set_append_left _ _ (by simpa [cells] using h)]
theorem Arr.kept{w w':World}{g:Nat}{v:Value}{ys:List Nat}(h:Arr w v ys)(hg:w.grownBy w' (some g))(hne:∀b o n c,v= .slice (some ⟨b,o,none⟩) n c->b≠g):Arr w' v ys:=by
 obtain⟨ax,A,c,rfl,hc,hm,aa⟩:=h.open;refine Arr.mk ax hc hm fun hp=> ?_
 obtain⟨b,o,rfl,hb,h1⟩:=aa hp;refine⟨b,o,rfl,Nat.lt_of_lt_of_le hb hg.size,fun j hj=> ?_⟩;have h2:=hg.block b hb (by simpa using hne b o _ _ rfl);rw[<-h1 j hj];simp[World.cell?,h2]
structure Dr (w w':World):Prop where
 heap:w'.heap=w.heap
 grown:∀g,w.grownBy w' g
theorem Dr.refl(w:World):Dr w w:=⟨rfl,fun _=>⟨rfl,rfl,rfl,Nat.le_refl _,fun _ _ _=>rfl⟩⟩
theorem Dr.drewN{w w':World}(h:Dr w w')(n:Nat):Dr w (w'.drewN n):=⟨h.heap,fun g=>⟨(h.grown g).os,(h.grown g).tape,(h.grown g).output,(h.grown g).size,(h.grown g).block⟩⟩
theorem Dr.cell{w w':World}(h:Dr w w')(p:Addr):w'.cell? p=w.cell? p:=by
 have:=h.heap;simp[World.cell?,this]
theorem Dr.blk{w w':World}{g:Nat}{t:TypeId}{cs:Array Value}(h:Dr w w')(hb:Blk w g t cs):Blk w' g t cs:=by
 unfold Blk;rw[h.heap];exact hb
def Ju(RX:Array Value)(w0 wr:World)(g k n:Nat)(us ys:List Nat)(G i c b:Nat)(zs:List Nat):Prop:=
 zs.length=i/\Ok zs/\c<4294967296/\b<=1/\val zs+G*val (ys.take i)=val ((seg us k n).take i)+4294967296 ^ i*(c+b)/\
  Blk wr g 183 (cells (over us k zs)++RX)/\w0.grownBy wr (some g)
theorem Ep{w0 wr:World}{g:Nat}(h:w0.grownBy wr (some g))(i:Nat)(u:Value):w0.grownBy (wr.setCell ⟨g,i,none⟩ u) (some g):=
 ⟨h.os,h.tape,h.output,by simpa using h.size,fun b hb hne=>by
  rw[<-h.block b hb hne];exact Below.heap_setCell wr ⟨g,i,none⟩ u b (by simpa using hne)⟩
theorem Ju.step {RX:Array Value} {w0 wr:World} {g k n G i c b t d b':Nat} {us ys zs:List Nat} (h:Ju RX w0 wr g k n us ys G i c b zs) (hi:i<n) (hk:k+n+1<=us.length)
  (ht:t=c+G*ys.getD i 0) (wW:t<18446744073709551616) (hd:us.getD (k+i) 0+4294967296*b'=d+t % 4294967296+b) (sn:d<4294967296) (fS:b'<=1):
  Ju RX w0 (wr.setCell ⟨g,k+i,none⟩ (d32 d)) g k n us ys G (i+1) (t / 4294967296) b' (zs++[d]):=by
 obtain⟨hl,ax,hc,hb,hv,ao,au⟩:=h;refine⟨by simp[hl],ax.snoc sn,Nat.div_lt_of_lt_mul (by omega),fS,PJ hl hv ht (by rw[F8 (by omega)];exact hd),?_,Ep au _ _⟩;have h1:=ao.set_ (k+i) (d32 d);have h2:=Gc (us:=us) (zs:=zs) (k:=k) (d:=d) (by omega);rw[hl]at h2;rw[EA _ _ _ _ (by simp[over];omega),h2]at h1;exact h1
def Jx(RX:Array Value)(w0 wr:World)(g k:Nat)(us xs ys:List Nat)(i a:Nat)(zz:List Nat):Prop:=
 zz.length=i/\Ok zz/\a<=1/\val zz+4294967296 ^ i*a=val (xs.take i)+val (ys.take i)/\Blk wr g 183 (cells (over (over us k xs) k zz)++RX)/\w0.grownBy wr (some g)
theorem Jx.step {RX:Array Value} {w0 wr:World} {g k i a t:Nat} {us xs ys zz:List Nat} (h:Jx RX w0 wr g k us xs ys i a zz) (hi:k+i<us.length) (hk:k+xs.length<=us.length) (wW:t<8589934592)
  (ht:t=xs.getD i 0+ys.getD i 0+a):Jx RX w0 (wr.setCell ⟨g,k+i,none⟩ (d32 (t % 4294967296))) g k us xs ys (i+1) (t / 4294967296) (zz++[t % 4294967296]):=by
 obtain⟨hl,ax,ha,hv,ao,au⟩:=h;refine⟨by simp[hl],ax.snoc (Nat.mod_lt _ (by omega)),by omega,Qn hl hv (by omega),?_,Ep au _ _⟩;have h1:=ao.set_ (k+i) (d32 (t % 4294967296));have h2:=Gc (us:=over us k xs) (zs:=zz) (k:=k) (d:=t % 4294967296) (by rw[AM hk];omega);rw[hl]at h2;rw[EA _ _ _ _ (by simp[over];omega),h2]at h1;exact h1
theorem OU(w:World)(x t b:Nat)(hx:x<4294967296)(hb:b<=1):
  Calls Tryz.prog 304 #[.int .u32 (x:Int),.int .u32 ((t:Int) % 4294967296),.int .u32 (b:Int)] w fun e w'=>∃d b':Nat,e= .returned (.tuple #[.int .u32 (d:Int),.int .u32 (b':Int)])/\d<4294967296/\b'<=1/\x+4294967296*b'=d+t % 4294967296+b/\w=w':=
 Fu w x (t % 4294967296) b hx (Nat.mod_lt _ (by omega)) hb
theorem Qh (RX:Array Value) (w:World) (g k c n:Nat) (us:List Nat) (v:Value) (ys:List Nat) (hb:Blk w g 183 (cells us++RX)) (ax:Ok us) (hn:ys.length=n+2) (hk:k+(n+2)+1<=us.length) (hm:us.length<=1073741824)
  (_hc:n+3<=c) (yG:c<=maxLen) (hv:Arr w v ys) (hne:∀b o m c,v= .slice (some ⟨b,o,none⟩) m c->b≠g) (td:1<=ys.getD (n+1) 0) (hlt:val (seg us k (n+2))<val ys*4294967296):
  Calls Tryz.prog 294 #[.slice (some ⟨g,k,none⟩) (n+3:Nat) c,v] w fun e w'=>∃zs,e= .returned (.int .u32 ((val (seg us k (n+2)) / val ys:Nat):Int))/\zs.length=n+3/\Ok zs/\val zs=val (seg us k (n+2)) % val ys/\
   Blk w' g 183 (cells (over us k zs)++RX)/\w.grownBy w' (some g):=by
 have HV:=hid hv;obtain⟨fz,A,cap,rfl,dz,ek,mz⟩:=hv.open;obtain⟨b,o,rfl,dZ,aa⟩:=mz (by omega);clear mz;have iS:=hid (hne b o _ _ rfl);have HC:=hid aa;have HB:=hid hb;have dm:=hb.cell (k+(n+2));have dD:=hb.cell (k+(n+1));have lE:=hb.cell (k+n);rw[Dc _ _ _ (by omega)]at dm dD lE;have nY:=aa (n+1) (by omega);have hy0:=aa n (by omega);have sQ:=ax.get (k+(n+2));have sR:=ax.get (k+(n+1));have p5:=ax.get (k+n);have wK:=fz.get (n+1);have pX:=fz.get n;have fG:Hid (Knuth.Setup 4294967296 (val (seg us k (n+2))) (val ys) (ys.getD (n+1) 0) (ys.getD n 0) (4294967296 ^ n) (us.getD (k+(n+2)) 0*4294967296+us.getD (k+(n+1)) 0) (us.getD (k+n) 0)):=hid (by
  have e1:=Bo ys n;have e2:=Bo (seg us k (n+2)) n;rw[Bj,Bj,List.drop_eq_nil_of_le (by omega),val]at e1;rw[Bj,Bj,Bj,List.drop_eq_nil_of_le (by rw[ID (by omega)];omega),val,F8 (by omega),F8 (by omega),F8 (by omega)]at e2;refine⟨⟨_,BM fz n,?_⟩,⟨_,BM (ax.seg k (n+2)) n,?_⟩,hlt,td,pX,p5,E7 n⟩
  ·rw[e1,Nat.mul_comm (4294967296 ^ n),Nat.add_comm]
   congr 2
   omega
  ·rw[e2,Nat.mul_comm (4294967296 ^ n),Nat.add_comm,show k+(n+1+1)=k+(n+2) by omega]
   congr 2
   omega)
 obtain⟨x2,ah⟩:∃x,us.getD (k+(n+2)) 0=x:=⟨_,rfl⟩;obtain⟨x1,aj⟩:∃x,us.getD (k+(n+1)) 0=x:=⟨_,rfl⟩;obtain⟨x0,hx0⟩:∃x,us.getD (k+n) 0=x:=⟨_,rfl⟩;obtain⟨y1,sO⟩:∃x,ys.getD (n+1) 0=x:=⟨_,rfl⟩;obtain⟨y0,sP⟩:∃x,ys.getD n 0=x:=⟨_,rfl⟩;rw[ah]at dm sQ fG;rw[aj]at dD sR fG;rw[hx0]at lE p5 fG;rw[sO]at nY wK fG td;rw[sP]at hy0 pX fG;clear ah aj hx0 sO sP;have lF:=Nr x2 x1 sQ sR;have hT:x2*4294967296+x1<18446744073709551616:=by omega
 obtain⟨T,yq⟩:∃T,x2*4294967296+x1=T:=⟨_,rfl⟩;rw[yq]at lF hT fG;have HTE:=hid yq;have we:=hid hn;have dl:=hid hlt;unfold maxLen at yG;rw[hn]at dz ⊢;clear yq hb aa hv hlt hne hn;simp only[d32]at dm dD lE nY hy0;have a5:IntKind.i64.wrap ((n:Int)+2-1)=(n:Int)+1:=by rw[IntWalk.i64_in _ (by omega)];omega
 have ck:IntKind.i64.wrap ((n:Int)+2-2)=(n:Int):=by rw[IntWalk.i64_in _ (by omega)];omega
 have vq:((n:Int)+1).toNat=n+1:=by omega
 have fQ:((n:Int)+2).toNat=n+2:=by omega
 have h01:(0:Int)<=(n:Int)+1:=by omega
 have h02:(0:Int)<=(n:Int)+2:=by omega
 have zk:=hid fG.out.q_first;obtain⟨q,hq⟩:∃q,val (seg us k (n+2)) / val ys=q:=⟨_,rfl⟩;have lk:=hid (fun G R=>fG.out.lower (g:=G) (r:=R));have vV:=hid (fun G R=>fG.out.done (g:=G) (r:=R));have nP:=hid (fun G R=>fG.out.broken (g:=G) (r:=R));have uP:=hid (fun G=>fG.out.near (g:=G));rw[hq]at zk lk uP ⊢;have V6:=hid hq;clear hq;go_enter Tryz.func294,Tryz.ntmps294;go_wp2_with fail;go_quiet (fail);go_wp2_with fail;have WS:(0:Int)<(y1:Int):=by omega
 obtain⟨Q,hQ⟩:∃Q,T / y1=Q:=⟨_,rfl⟩;obtain⟨R,hR⟩:∃R,T % y1=R:=⟨_,rfl⟩;have Yk:Q<=T:=by rw[<-hQ];exact Nat.div_le_self _ _
 have Yi:R<y1:=by rw[<-hR];exact Nat.mod_lt _ (by omega)
 have V5:Hid (Q*y1+R=T):=hid (by rw[<-hQ,<-hR];exact Nat.div_add_mod' T y1);have Yg:IntKind.u64.wrap ((T:Int) / (y1:Int))=(Q:Int):=by
  rw[<-Int.natCast_ediv,hQ,IntKind.wrap_u64];omega
 have VC:(T:Int) % (y1:Int)=(R:Int):=by rw[<-Int.natCast_emod,hR]
 have HQ:Hid (q<=Q):=hid (by
  rw[<-hQ];exact(Nat.le_div_iff_mul_le (by omega)).2 zk.out)
 clear hQ hR;go_quiet (fail);have cE:=hid VC;clear Yg VC lF
 go_upto_block 0 with fail
 go_cut [7,8] from 47 to 82 (fun s7 s8 wx=>∃G R:Nat,s7= .int .u64 (G:Int)/\s8= .int .u64 (R:Int)/\G<4294967296/\q<=G/\G<=q+1/\Dr w wx)
 case first=>
  go_wp2_with fail;go_loopw [7,8] (fun s7 s8 wr=>∃G R:Nat,s7= .int .u64 (G:Int)/\s8= .int .u64 (R:Int)/\Hid (G*y1+R=T)/\G<=Q/\q<=G/\R<4294967296/\Dr w wr) (fun s7 _ _=>(intOf s7).toNat)
  case atStart=>exact⟨Q,R,rfl,by rw[cE.out],V5,Nat.le_refl _,HQ.out,by omega,(Dr.refl _).drewN _ |>.drewN _⟩
  case round=>
   obtain⟨G,R',rfl,rfl,ez,hGQ,vu,Yj,lB⟩:=hrel;have W4:=(lB.cell _).trans dm;have W5:=(lB.cell _).trans dD;have W6:=(lB.cell _).trans lE;have WT:=(lB.cell _).trans nY;have WU:=(lB.cell _).trans hy0;rcases Nat.lt_or_ge G 4294967296 with hG|hG
   ·have aq:(((G:Int) / 4294967296) != 0)=false:=by rw[bne_eq_false_iff_eq];omega
    have hb2:(((G:Int) / 4294967296) == 0)=true:=by rw[beq_iff_eq];omega
    have xl:=Nr R' x0 Yj p5;have qi:=Im hG pX;have qQ:(G:Int)*(y0:Int)=((G*y0:Nat):Int):=by simp
    have jC:=hid (fun h=>lk.out G R' ez.out vu (.inr h));have lP:=hid (fun h=>uP.out G hG (vV.out G R' ez.out h));have Yh:R'*4294967296+x0<18446744073709551616:=by omega
    obtain⟨P,hP⟩:∃P,G*y0=P:=⟨_,rfl⟩;obtain⟨S,hS⟩:∃S,R'*4294967296+x0=S:=⟨_,rfl⟩;rw[hP]at qQ qi jC lP;rw[hS]at xl Yh jC lP;clear hP hS;rcases Nat.lt_or_ge S P with ut|ut
    ·have h1:=jC.out ut;have hd:decide (S<P)=true:=by simpa using ut
     have ed:decide ((S:Int)<(P:Int))=true:=by simpa using ut
     obtain⟨G',qR⟩:∃G',G=G'+1:=⟨G-1,by omega⟩;have tY:(G:Int)-1=(G':Int):=by omega
     have zM:=hid qR;have rL:Hid (G'*y1+(R'+y1)=T):=hid (by
      have:=ez.out;rw[qR,Nat.add_mul,Nat.one_mul]at this;omega)
     have m8:Hid (G'<=Q):=hid (by omega);have uG:Hid (q<=G'):=hid (by omega);clear qR;rcases Nat.lt_or_ge (R'+y1) 4294967296 with hr|hr
     ·have hc1:(((R':Int)+(y1:Int)) / 4294967296 != 0)=false:=by rw[bne_eq_false_iff_eq];omega
      have dK:(((R':Int)+(y1:Int)) / 4294967296 == 0)=true:=by rw[beq_iff_eq];omega
      go_wp2_with fail;go_quiet (fail);go_wp2_with fail;go_roundw
      case rel=>exact⟨G',R'+y1,rfl,by go_num,rL,m8.out,uG.out,hr,lB.drewN _⟩
      case measure=>have:=zM.out;simp[intOf];omega
     ·have hc1:(((R':Int)+(y1:Int)) / 4294967296 != 0)=true:=by rw[bne_iff_ne];omega
      have dK:(((R':Int)+(y1:Int)) / 4294967296 == 0)=false:=by rw[beq_eq_false_iff_ne];omega
      have HE:Hid (G'<4294967296/\G'<=q+1):=hid (by
       obtain⟨e1,e2⟩:=nP.out G' (R'+y1) rL.out hr;exact⟨e1,uP.out G' e1 (vV.out G' (R'+y1) rL.out e2)⟩)
      go_wp2_with fail;go_quiet (fail);go_wp2_with fail;go_meet;exact⟨G',R'+y1,rfl,by go_num,HE.out.1,uG.out,HE.out.2,lB.drewN _⟩
    ·have hd:decide (S<P)=false:=by simp;omega
     have ed:decide ((S:Int)<(P:Int))=false:=by simp;omega
     have HE:=hid (lP.out ut);go_wp2_with fail;go_quiet (fail);go_wp2_with fail;go_meet;exact⟨G,R',rfl,rfl,hG,vu,HE.out,lB.drewN _⟩
   ·have h1:=lk.out G R' ez.out vu (.inl hG);have aq:(((G:Int) / 4294967296) != 0)=true:=by rw[bne_iff_ne];omega
    have hb2:(((G:Int) / 4294967296) == 0)=false:=by rw[beq_eq_false_iff_ne];omega
    obtain⟨G',qR⟩:∃G',G=G'+1:=⟨G-1,by omega⟩;have tY:(G:Int)-1=(G':Int):=by omega
    have zM:=hid qR;have rL:Hid (G'*y1+(R'+y1)=T):=hid (by
     have:=ez.out;rw[qR,Nat.add_mul,Nat.one_mul]at this;omega)
    have m8:Hid (G'<=Q):=hid (by omega);have uG:Hid (q<=G'):=hid (by omega);clear qR;rcases Nat.lt_or_ge (R'+y1) 4294967296 with hr|hr
    ·have hc1:(((R':Int)+(y1:Int)) / 4294967296 != 0)=false:=by rw[bne_eq_false_iff_eq];omega
     have dK:(((R':Int)+(y1:Int)) / 4294967296 == 0)=true:=by rw[beq_iff_eq];omega
     go_wp2_with fail;go_quiet (fail);go_wp2_with fail;go_roundw
     case rel=>exact⟨G',R'+y1,rfl,by go_num,rL,m8.out,uG.out,hr,lB.drewN _⟩
     case measure=>have:=zM.out;simp[intOf];omega
    ·have hc1:(((R':Int)+(y1:Int)) / 4294967296 != 0)=true:=by rw[bne_iff_ne];omega
     have dK:(((R':Int)+(y1:Int)) / 4294967296 == 0)=false:=by rw[beq_eq_false_iff_ne];omega
     have HE:Hid (G'<4294967296/\G'<=q+1):=hid (by
      obtain⟨e1,e2⟩:=nP.out G' (R'+y1) rL.out hr;exact⟨e1,uP.out G' e1 (vV.out G' (R'+y1) rL.out e2)⟩)
     go_wp2_with fail;go_quiet (fail);go_wp2_with fail;go_meet;exact⟨G',R'+y1,rfl,by go_num,HE.out.1,uG.out,HE.out.2,lB.drewN _⟩
 case rest=>
  obtain⟨G,R1,rfl,rfl,hG,vu,hGq,lB⟩:=hcut;clear lk vV nP uP zk V5 cE Yk Yi HQ dm dD lE nY hy0;have mr:=HB.out.lt;have ag:=lB.blk HB.out;have rO:=lB.grown (some g);generalize hwc:wc=wd at *;clear hwc;go_wp2_with fail;go_loopw [9,10,85] (fun s9 s10 s85 wr=>∃(i cy bo:Nat) (zs:List Nat),i<=n+2/\s9= .int .u64 (cy:Int)/\s10= .int .u32 (bo:Int)/\s85= .int .i64 (i:Int)/\Ju RX w wr g k (n+2) us ys G i cy bo zs) (fun _ _ s85 _=>n+2-(intOf s85).toNat)
  case atStart=>exact⟨0,0,0,[],Nat.zero_le _,rfl,rfl,rfl,rfl,B3,by omega,by omega,by simp[val],by rw[LV];exact ag,rO⟩
  case round=>
   obtain⟨i,cy,bo,zs,hi,rfl,rfl,rfl,hat⟩:=hrel;have dU:∀j,j<n+2->wr.cell? ⟨b,o+j,none⟩=some (d32 (ys.getD j 0)):=fun j hj=>by
    have h2:=hat.2.2.2.2.2.2.block b dZ (by have:=iS.out;simpa using this);rw[<-HC.out j (by rw[we.out];exact hj)];simp[World.cell?,h2]
   by_cases hlt:i<n+2
   ·have hx:=dU i hlt;have bZ:=hid (fun t d b' h1 h2 h3 h4 h5=>Ju.step (t:=t) (d:=d) (b':=b') hat hlt hk h1 h2 h3 h4 h5);obtain⟨fC,ij,Vl,nJ,hv,ao,au⟩:=hat;have ac:=ao.cell (k+i);have gP:=ao.frozen (k+i);rw[Dc _ _ _ (by rw[AM (by omega)];omega),Gd (by omega) (by omega)]at ac;have fi:=fz.get i;have nB:=ax.get (k+i);clear dU ao hv ij fC;have ez:=hid au;clear au;obtain⟨y,dC⟩:∃y,ys.getD i 0=y:=⟨_,rfl⟩;obtain⟨u,lZ⟩:∃u,us.getD (k+i) 0=u:=⟨_,rfl⟩;rw[dC]at hx fi bZ;rw[lZ]at ac nB bZ;clear dC lZ;have qi:=Im hG fi;have qQ:(G:Int)*(y:Int)=((G*y:Nat):Int):=by simp
    obtain⟨P,hP⟩:∃P,G*y=P:=⟨_,rfl⟩;rw[hP]at qQ qi bZ;clear hP;have hs:=fun W=>OU W u (cy+P) bo nB nJ
    simp only[Int.natCast_add]at hs;have HS:=hid hs;clear hs;have wW:cy+P<18446744073709551616:=by omega
    simp only[d32]at hx ac;go_wp2_with fail;refine(HS.out _).mono ?_
    rintro e w2 ⟨d,b',rfl,hd,fS,he,rfl⟩;have rf:=hid (bZ.out (cy+P) d b' rfl wW he hd fS);clear he;go_wp2_with fail;go_roundw
    case rel=>exact⟨i+1,(cy+P) / 4294967296,b',_,by omega,by go_num,rfl,by go_num,rf.out⟩
    case measure=>simp[intOf];omega
   ·obtain rfl:i=n+2:=by omega
    obtain⟨fC,ij,Vl,nJ,hv,ao,au⟩:=hat;have ac:=ao.cell (k+(n+2));have gP:=ao.frozen (k+(n+2));rw[Dc _ _ _ (by rw[AM (by omega)];omega),Gd (by omega) (by omega)]at ac;have nB:=ax.get (k+(n+2));have zA:=hid (fun d b' h=>Rk (d:=d) (b':=b') fC we.out (ID (by omega)) hv h);rw[F8 (by omega)]at zA;have rU:=hid ao;have u7:=hid dU;obtain⟨u,lZ⟩:∃u,us.getD (k+(n+2)) 0=u:=⟨_,rfl⟩;rw[lZ]at ac nB zA;clear lZ dU ao hv;have ez:=hid au;clear au;have HS:=hid (fun W=>Fu W u cy bo nB Vl nJ);have hb2:((n:Int)+2).toNat=n+2:=by omega
    simp only[d32]at ac;go_wp2_with fail;refine(HS.out _).mono ?_
    rintro e w2 ⟨d,b',rfl,hd,fS,he,rfl⟩;have fF:=hid (zA.out d b' he);have me:=ij.snoc hd;have om:(zs++[d]).length=n+3:=by simp[fC]
    have fr:=rU.out.set_ (k+(n+2)) (d32 d);have h2:=Gc (us:=us) (zs:=zs) (k:=k) (d:=d) (by omega);rw[fC]at h2;rw[EA _ _ _ _ (by rw[AM (by omega)];omega),h2]at fr;have aY:=hid fr;have jD:=hid (Ep ez.out (k+(n+2)) (d32 d));clear he h2 fr HS;rcases(show G=q\/G=q+1 by omega) with hGe|hGe
    ·obtain⟨aE,hr⟩:=Nx me om fF.out (by rw[V6.out];exact hGe) fS;subst aE;have HR:=hid hr;subst hGe;clear hr;go_wp2_with fail;go_ret;exact⟨zs++[d],rfl,om,me,HR.out,aY.out,jD.out⟩
    ·have vK:0<val ys:=fG.out.vpos;obtain⟨aE,hr⟩:=Rj me vK om fF.out (by rw[V6.out];exact hGe) fS;subst aE;have HR:=hid hr;have Zh:=hid (Nat.mod_lt (val (seg us k (n+2))) vK);clear hr;subst hGe;generalize hxs:zs++[d]=xs at *;clear hxs;have eR:IntKind.u64.wrap (((q+1:Nat):Int)-1)=(q:Int):=by rw[IntKind.wrap_u64];omega
     simp only[Int.natCast_add,Int.natCast_one]at eR;go_wp2_with fail;go_loopw [13,133] (fun s13 s133 wr=>∃(i a:Nat) (zz:List Nat),i<=n+2/\s13= .int .u32 (a:Int)/\s133= .int .i64 (i:Int)/\Jx RX w wr g k us xs ys i a zz) (fun _ s133 _=>n+2-(intOf s133).toNat)
     case atStart=>exact⟨0,0,[],Nat.zero_le _,rfl,rfl,rfl,B3,by omega,by simp[val],by rw[LV];exact aY.out,jD.out⟩
     case round=>
      clear u7 ac gP;obtain⟨i,a,zz,hi,rfl,rfl,hat⟩:=hrel;by_cases hlt:i<n+2
      ·have dU:wr.cell? ⟨b,o+i,none⟩=some (d32 (ys.getD i 0)):=by
        have h2:=hat.2.2.2.2.2.block b dZ (by have:=iS.out;simpa using this);rw[<-HC.out i (by rw[we.out];exact hlt)];simp[World.cell?,h2]
       have bZ:=hid (fun t h1 h2=>Jx.step (t:=t) hat (by omega) (by omega) h1 h2);obtain⟨fC,ij,ha,hv,ao,au⟩:=hat;have ac:=ao.cell (k+i);have gP:=ao.frozen (k+i);rw[Dc _ _ _ (by rw[AM (by rw[AM (by omega)];omega),AM (by omega)];omega),Gd (by rw[AM (by omega)];omega) (by omega),Of (by omega) (by omega)]at ac;have fi:=fz.get i;have nB:=me.get i;clear ao hv ij fC;have ez:=hid au;clear au;obtain⟨y,dC⟩:∃y,ys.getD i 0=y:=⟨_,rfl⟩;obtain⟨u,lZ⟩:∃u,xs.getD i 0=u:=⟨_,rfl⟩;rw[dC]at dU fi bZ;rw[lZ]at ac nB bZ;clear dC lZ;have HS:=hid (fun W=>Qp W u y a nB fi ha);have rf:=hid (bZ.out (u+y+a) (by omega) rfl);simp only[d32]at dU ac;go_wp2_with fail;refine(HS.out _).mono ?_
       rintro e w2 ⟨rfl,rfl⟩;go_wp2_with fail;go_roundw
       case rel=>exact⟨i+1,(u+y+a) / 4294967296,_,by omega,rfl,by go_num,rf.out⟩
       case measure=>simp[intOf];omega
      ·obtain rfl:i=n+2:=by omega
       obtain⟨fC,ij,ha,hv,ao,au⟩:=hat;have ac:=ao.cell (k+(n+2));have gP:=ao.frozen (k+(n+2));rw[Dc _ _ _ (by rw[AM (by rw[AM (by omega)];omega),AM (by omega)];omega),Gd (by rw[AM (by omega)];omega) (by omega),Of (by omega) (by omega)]at ac;have hE:=Se ij fz fC we.out (by omega:xs.length=n+2+1) rfl hv HR.out Zh.out;have fr:=ao.set_ (k+(n+2)) (d32 ((xs.getD (n+2) 0+a) % 4294967296));have h2:=Gc (us:=over us k xs) (zs:=zz) (k:=k) (d:=(xs.getD (n+2) 0+a) % 4294967296) (by rw[AM (by omega)];omega);rw[fC]at h2;rw[EA _ _ _ _ (by rw[AM (by rw[AM (by omega)];omega),AM (by omega)];omega),h2,PB (by omega) (by simp[fC,om])]at fr;have nB:=me.get (n+2);have yx:=Ep au (k+(n+2)) (d32 ((xs.getD (n+2) 0+a) % 4294967296));obtain⟨u,lZ⟩:∃u,xs.getD (n+2) 0=u:=⟨_,rfl⟩;rw[lZ]at ac nB hE fr yx;have HE:=hid hE;have aZ:=hid fr;have jk:=hid yx;clear lZ hE ao fr yx h2 hv au;simp only[d32]at ac;go_wp2_with fail;go_ret;exact⟨_,rfl,by simp[fC],ij.snoc (Nat.mod_lt _ (by omega)),HE.out,aZ.out,jk.out⟩
def MD(w0 wr:World)(N M k:Nat)(zs:List Nat):Prop:=
 zs.length=k/\Ok zs/\val zs=N % 4294967296 ^ k/\Blk wr w0.heap.size 183 (cells (zs++List.replicate (M-k) 0))/\Ext w0 wr
theorem MD.step{w0 wr:World}{xs zs:List Nat}{d s M N k y:Nat}(h:MD w0 wr N M k zs)(hk:k<M)(hs:s<=31)(ax:Ok xs)(hN:N=val (xs.drop d) / 2 ^ s)(hy:y=xs.getD (k+d) 0+4294967296*xs.getD (k+d+1) 0):
  MD w0 (wr.setCell ⟨w0.heap.size,k,none⟩ (d32 (y / 2 ^ s % 4294967296))) N M (k+1) (zs++[y / 2 ^ s % 4294967296]):=by
 obtain⟨hl,ij,hv,hb,he⟩:=h;have h0:=QK (ax.drop d) hN hs hl hv;rw[Fz,Fz,show d+k=k+d by omega,show d+(k+1)=k+d+1 by omega,<-hy]at h0;refine⟨by simp[hl],ij.snoc (Nat.mod_lt _ (by omega)),h0,?_,he.setCell (Nat.le_refl _) _⟩;have h1:=hb.set_ k (d32 (y / 2 ^ s % 4294967296));rw[Bp,show M-k=(M-(k+1))+1 by omega]at h1;have h2:=C7 zs (M-(k+1)) (y / 2 ^ s % 4294967296);rw[hl]at h2
 rwa [h2]at h1
theorem Sw(w:World)(v:Value)(xs:List Nat)(n:Nat)(h:Arr w v xs)(hl:xs.length<=268435456)(hn:n<=1048576):
  Calls Tryz.prog 295 #[v,.int .i64 (n:Int)] w fun e w'=>∃v',e= .returned v'/\Own w.heap.size w' v' (Ac (val xs / 2 ^ n))/\Ext w w':=by
 have HA:=hid h;have HP:=hid (IR w n hn);obtain⟨ax,A,cap,rfl,dz,ek,aa⟩:=h.open;have HC:=hid aa;have HM:=hid ek;obtain⟨d,s,hd,hs,jN⟩:∃d s,d<=32768/\s<=31/\n=32*d+s:=⟨n / 32,n % 32,by omega,by omega,by omega⟩;have dd:=hid jN;have hq:(n:Int) / 32=(d:Int):=by omega
 have hr:(n:Int) % 32=(s:Int):=by omega
 clear h aa ek jN;rcases Nat.lt_or_ge d xs.length with h0|h0
 ·obtain⟨M,pn⟩:∃M,xs.length=d+M:=⟨xs.length-d,by omega⟩;have cS:=Cp M (by omega);have l9:(xs.length:Int)-(d:Int)=(M:Int):=by omega
  have tO:¬(xs.length:Int)<=(d:Int):=by omega
  obtain⟨N,hN⟩:∃N,N=val (xs.drop d) / 2 ^ s:=⟨_,rfl⟩;have HN:=hid hN;clear hN;have rp:=hid (IQ s hs);have gH:=hid pn;have Z7:0<M:=by omega
  clear pn;go_enter Tryz.func295,Tryz.ntmps295;go_wp2_with fail;refine HP.out.mono ?_
  rintro e w' ⟨rfl,rfl⟩;go_wp2_with fail;clear cS l9;go_loopw [28] (fun i wr=>∃(k:Nat) (zs:List Nat),k<=M/\i= .int .i64 k/\MD w wr N M k zs) (fun i _=>M-(intOf i).toNat)
  case atStart=>exact⟨0,[],Nat.zero_le _,rfl,rfl,B3,by simp[val,Nat.mod_one],Blk.new _ _ _,(Ext.refl w).alloc _⟩
  case round=>
   obtain⟨k,zs,hk,rfl,hat⟩:=hrel;by_cases hlt:k<M
   ·have pn:=gH.out;obtain⟨b,o,rfl,hb,aa⟩:=HC.out (by omega);have cL:=hid (fun y h=>MD.step (y:=y) hat hlt hs ax HN.out h);obtain⟨fC,ij,hv,bJ,ad⟩:=hat;have hx:=(ad.cell hb).trans (aa (k+d) (by omega));have ac:=bJ.cell k;have gP:=bJ.frozen k;rw[AY _ _ (by simp;omega)]at ac;have cK:=ax.get (k+d);have qQ:(2:Int) ^ s=((2 ^ s:Nat):Int):=by simp
    have Yl:0<2 ^ s:=Nat.pow_pos (by omega);obtain⟨P,hP⟩:∃P,2 ^ s=P:=⟨_,rfl⟩;rw[hP]at qQ cL Yl;clear hP;generalize (zs++List.replicate (M-k) 0).getD k 0=z at ac;clear bJ hv ij fC;have HX:=hid ad;by_cases h2:k+d+1<xs.length
    ·have hy:=(ad.cell hb).trans (aa (k+d+1) h2);have fi:=ax.get (k+d+1);have bZ:=hid (cL.out _ rfl);clear aa ad cL pn;obtain⟨x,b7⟩:∃x,xs.getD (k+d) 0=x:=⟨_,rfl⟩;obtain⟨y,dC⟩:∃y,xs.getD (k+d+1) 0=y:=⟨_,rfl⟩;rw[b7]at hx cK bZ;rw[dC]at hy fi bZ;clear b7 dC;have nJ:bits .or .u64 (x:Int) ((y:Int)*4294967296)=((x+4294967296*y:Nat):Int):=by
      rw[show (y:Int)*4294967296=((y*4294967296:Nat):Int) by omega,bits_or_u64_nat _ _ (by omega) (by omega)];have h3:=Nat.shiftLeft_add_eq_or_of_lt (i:=32) (b:=x) (by omega) y;rw[Nat.shiftLeft_eq]at h3;rw[Nat.or_comm,show y*4294967296=y*2 ^ 32 from rfl,<-h3];omega
     have sf:x+4294967296*y<18446744073709551616:=by omega
     obtain⟨t,ht⟩:∃t,x+4294967296*y=t:=⟨_,rfl⟩;rw[ht]at nJ sf bZ;clear ht;simp only[d32]at hx ac hy;go_wp2_with fail;go_roundw
     case rel=>exact⟨k+1,_,by omega,by go_num,bZ.out⟩
     case measure=>simp[intOf];omega
    ·have h0:xs.getD (k+d+1) 0=0:=Di xs _ (by omega);have bZ:=hid (cL.out (xs.getD (k+d) 0) (by rw[h0];omega));clear aa ad cL h0;have h2':¬(k:Int)+(d:Int)+1<(xs.length:Int):=by omega
     have h3:(k:Int)+(d:Int)<(xs.length:Int):=by omega
     clear h2 pn;obtain⟨x,b7⟩:∃x,xs.getD (k+d) 0=x:=⟨_,rfl⟩;rw[b7]at hx cK bZ;clear b7;simp only[d32]at hx ac;go_wp2_with fail;go_roundw
     case rel=>exact⟨k+1,_,by omega,by go_num,bZ.out⟩
     case measure=>simp[intOf];omega
   ·obtain rfl:k=M:=by omega
    obtain⟨fC,ij,hv,bJ,ad⟩:=hat;rw[Nat.sub_self,List.replicate_zero,List.append_nil]at bJ;have pn:=gH.out;have aw:Own w.heap.size wr (.slice (some ⟨w.heap.size,0,none⟩) k k) zs:=by
     have h3:=Own.block (B:=w.heap.size) ij bJ (Nat.le_refl _) (by rw[fC];omega)
     rwa [fC]at h3
    have bj:val zs=val xs / 2 ^ n:=by
     rw[dd.out,<-Lv ax,<-HN.out];refine Sv (ax.drop d) HN.out ?_
     rw[hv,List.length_drop,pn,Nat.add_sub_cancel_left]
    have fU:=hid (Co _ _ _ aw.arr);have cB:=Cm zs;obtain⟨A1,c1,fl,HO⟩:=aw.take (size zs) cB;rw[BY aw.ok,bj]at HO;rw[fC]at cB;injection fl with fl hv3 hv2
    clear hv3;subst fl;subst hv2;have HO:=hid HO;generalize size zs=sz at *;clear bj aw bJ hv fC pn;go_wp2_with fail;refine fU.out.mono ?_
    rintro e w' ⟨rfl,rfl⟩;go_wp2_with fail;go_ret;exact⟨_,rfl,HO.out,ad⟩
 ·have HZ:val xs / 2 ^ n=0:=by rw[dd.out];exact QL ax h0
  rw[HZ];clear HZ;have ew:(xs.length:Int)<=(d:Int):=by omega
  go_enter Tryz.func295,Tryz.ntmps295;go_wp2_with fail;refine HP.out.mono ?_
  rintro e w' ⟨rfl,rfl⟩;go_wp2_with fail;go_ret;exact⟨_,rfl,Own.none_ _ _,Ext.refl _⟩
theorem EC(w:World)(v:Value)(xs:List Nat)(m c:Nat)(h:Arr w v xs)(hn:xs.length<=536870912)(hm:m<4294967296)(hc:c<4294967296):
  Calls Tryz.prog 170 #[v,.int .u32 (m:Int),.int .u32 (c:Int)] w fun e w'=>∃v',e= .returned v'/\Own w.heap.size w' v' (Ac (val xs*m+c))/\Ext w w':=by
 have HA:=hid h;obtain⟨ax,A,cap,rfl,dz,ek,aa⟩:=h.open;have HC:=hid aa;clear h aa ek dz;go_enter Tryz.func170,Tryz.ntmps170;go_wp2_with fail;go_loopw [7,8,15] (fun out cy i wr=>∃(k q:Nat) (ys:List Nat),k<=xs.length/\q<4294967296/\i= .int .i64 k/\cy= .int .u64 q/\ys.length=k/\
   val ys+4294967296 ^ k*q=val (xs.take k)*m+c/\Own w.heap.size wr out ys/\Ext w wr) (fun _ _ i _=>xs.length-(intOf i).toNat)
 case atStart=>exact⟨0,c,[],Nat.zero_le _,hc,rfl,rfl,rfl,by simp[val],Own.none_ _ _,Ext.refl w⟩
 case round=>
  obtain⟨k,q,ys,hk,hq,rfl,rfl,hl,hv,ai,ad⟩:=hrel;have HV:=hid hv;clear hv;have HL:=hid hl;clear hl;have sb:=ad.size;by_cases hlt:k<xs.length
  ·obtain⟨b,o,rfl,hb,aa⟩:=HC.out (by omega);have hx:=(ad.cell hb).trans (aa k hlt);clear aa;have cK:=ax.get k;have HS:=hid (Iz xs ys k m c q hlt HL.out HV.out);have hp:=Im cK hm;obtain⟨x,b7⟩:∃x,xs.getD k 0=x:=⟨_,rfl⟩;rw[b7]at hx cK hp HS;clear b7;have tt:(x:Int)*(m:Int)<=18446744065119617025:=by rw[<-Int.natCast_mul];omega
   have hp0:0<=(x:Int)*(m:Int):=by rw[<-Int.natCast_mul];omega
   have hy:(q+x*m) % 4294967296<4294967296:=Nat.mod_lt _ (by omega);have HY:=hid hy;clear hy;have d9:=hid (show ys.length+[(q+x*m) % 4294967296].length<=2147483648 by simp[HL.out];omega);simp only[d32]at hx;go_wp2_with (at_builtin;go_must (refine AO rfl _ _ rfl rfl (ai.ext ((Ext.refl _).alloc _)) rfl (Arr.fresh1 _ ((q+x*m) % 4294967296) HY.out) d9.out (by simp;omega) ?_;intro v' w' dh au hb));go_roundw
   case rel=>
    refine⟨k+1,(q+x*m) / 4294967296,_,by omega,Nat.div_lt_of_lt_mul (by omega),by go_num,by go_num,by simp[HL.out],HS.out,dh,(ad.alloc _).more hb⟩
   case measure=>simp[intOf];omega
  ·obtain rfl:k=xs.length:=by omega
   have d9:=hid (show ys.length+[q].length<=2147483648 by simp[HL.out];omega);have bj:val (ys++[q])=val xs*m+c:=by
    rw[BG,HL.out,HV.out,List.take_of_length_le (Nat.le_refl _)]
   have gT:=hid bj;clear bj;go_wp2_with (at_builtin;go_must (refine AO rfl _ _ rfl rfl (ai.ext ((Ext.refl _).alloc _)) rfl (Arr.fresh1 _ q hq) d9.out (by simp;omega) ?_;intro v' w' dh au hb));have HT:=hid (Cw _ _ _ dh.arr (by simp[HL.out];omega));rw[gT.out]at HT;refine HT.out.mono ?_
   rintro e w2 ⟨v2,rfl,ho,hx⟩;go_wp2_with fail;go_ret;have he:Ext w w':=(ad.alloc _).more hb;exact⟨_,rfl,ho.mono he.size,he.trans hx⟩
theorem KA(w:World)(n:Nat)(h:n<18446744073709551616):
  Calls Tryz.prog 62 #[.int .u64 (n:Int)] w fun e w'=>∃v',e= .returned v'/\Own w.heap.size w' v' (Ac n)/\Ext w w':=by
 have HN:=hid h;clear h;go_enter Tryz.func62,Tryz.ntmps62;go_wp2_with fail;have h1:n % 4294967296<4294967296:=by omega
 have h2:n / 4294967296<4294967296:=by have:=HN.out;omega
 have HT:=Cw _ _ _ (Own.fresh2 w (n % 4294967296) (n / 4294967296) h1 h2).arr (by simp);have hv:val [n % 4294967296,n / 4294967296]=n:=by simp[val];omega
 rw[hv]at HT;have e1:Value.int .u32 ((n:Int) % 4294967296)=d32 (n % 4294967296):=rfl;have e2:Value.int .u32 ((n:Int) / 4294967296 % 4294967296)=d32 (n / 4294967296):=congrArg (Value.int .u32) (by have:=HN.out;omega);rw[e1,e2];clear e1 e2 hv;refine HT.mono ?_
 rintro e w2 ⟨v2,rfl,ho,hx⟩;go_wp2_with fail;go_ret;have he:Ext w (w.alloc (.cells #[d32 (n % 4294967296),d32 (n / 4294967296)] 183)):=(Ext.refl w).alloc _;exact⟨_,rfl,ho.mono he.size,he.trans hx⟩
theorem FV(w:World)(n:Nat)(h:n<18446744073709551616):
  Calls Tryz.prog 214 #[.int .u64 (n:Int)] w fun e w'=>∃v',e= .returned v'/\Own w.heap.size w' v' (Ac n)/\Ext w w':=by
 have HN:=hid h;clear h;go_enter Tryz.func214,Tryz.ntmps214;go_wp2_with fail;have h1:n % 4294967296<4294967296:=by omega
 have h2:n / 4294967296<4294967296:=by have:=HN.out;omega
 have HT:=Bh _ _ _ (Own.fresh2 w (n % 4294967296) (n / 4294967296) h1 h2).arr (by simp);have hv:val [n % 4294967296,n / 4294967296]=n:=by simp[val];omega
 rw[hv]at HT;have e1:Value.int .u32 ((n:Int) % 4294967296)=d32 (n % 4294967296):=rfl;have e2:Value.int .u32 ((n:Int) / 4294967296 % 4294967296)=d32 (n / 4294967296):=congrArg (Value.int .u32) (by have:=HN.out;omega);rw[e1,e2];clear e1 e2 hv;refine HT.mono ?_
 rintro e w2 ⟨v2,rfl,ho,hx⟩;go_wp2_with fail;go_ret;have he:Ext w (w.alloc (.cells #[d32 (n % 4294967296),d32 (n / 4294967296)] 183)):=(Ext.refl w).alloc _;exact⟨_,rfl,ho.mono he.size,he.trans hx⟩
def OG(w0 wr:World)(xs:List Nat)(d k r:Nat):Prop:=
 ∃qs:List Nat,k+qs.length=xs.length/\Ok qs/\val qs*d+r=val (xs.drop k)/\
  Blk wr w0.heap.size 183 (cells (List.replicate k 0++qs))/\Ext w0 wr
theorem OG.step {w0 wr:World} {xs qs:List Nat} {d k r y:Nat} (hl:k+1+qs.length=xs.length) (ax:Ok qs) (hy:y<4294967296)
  (hv:val (y::qs)*d+r=val (xs.drop k))
  (hb:Blk wr w0.heap.size 183 (cells (List.replicate (k+1) 0++qs))) (he:Ext w0 wr):
  OG w0 (wr.setCell ⟨w0.heap.size,k,none⟩ (d32 y)) xs d k r:=by
 refine⟨y::qs,by simp;omega,C1 hy ax,hv,?_,he.setCell (Nat.le_refl _) _⟩;have h1:=hb.set_ k (d32 y);rw[Bp,IC]at h1;exact h1
theorem IK(w:World)(v:Value)(xs:List Nat)(d:Nat)(h:Arr w v xs)(hn:xs.length<=536870912)(ld:0<d)(hd:d<4294967296):
  Calls Tryz.prog 291 #[v,.int .u32 (d:Int)] w fun e w'=>∃v',e= .returned (.tuple #[v',.int .u32 ((val xs % d:Nat):Int),.bool true])/\Own w.heap.size w' v' (Ac (val xs / d))/\Ext w w':=by
 have HA:=hid h;obtain⟨ax,A,cap,rfl,dz,ek,aa⟩:=h.open;have HM:=hid ek;have HC:=hid aa;have cS:=Cp xs.length (by omega);have oK:=hid cS;clear h aa ek dz;have so:((d:Int) == 0)=false:=by rw[beq_eq_false_iff_ne];omega
 go_enter Tryz.func291,Tryz.ntmps291;go_wp2_with fail;clear cS;go_loopw [8,9] (fun rv i wr=>∃k r:Nat,k<=xs.length/\r<d/\i= .int .i64 ((k:Int)-1)/\rv= .int .u64 r/\OG w wr xs d k r) (fun _ i _=>(intOf i+1).toNat)
 case atStart=>exact⟨xs.length,0,Nat.le_refl _,ld,rfl,rfl,[],rfl,B3,by simp[val],by simpa [EW] using Blk.new w 183 (zeros xs.length),(Ext.refl w).alloc _⟩
 case round=>
  obtain⟨k,r,hk,hr,rfl,rfl,qs,hl,bE,hv,ao,ad⟩:=hrel;have HV:=hid hv;clear hv;have HB:=hid ao;clear ao;have HL:=hid hl;clear hl;rcases Nat.eq_zero_or_pos k with h0|h0
  ·subst h0;obtain⟨ii,mb⟩:=KD hr (by simpa using HV.out);have aB:qs.length=xs.length:=by simpa using HL.out
   have aw:Own w.heap.size wr (.slice (some ⟨w.heap.size,0,none⟩) xs.length xs.length) qs:=by
    have h3:=Own.block (B:=w.heap.size) bE (by simpa using HB.out) (Nat.le_refl _) (by omega)
    rwa [aB]at h3
   have HT:=hid (Bh _ _ _ aw.arr (by omega));rw[ii]at HT;have sf:(r:Int) % 4294967296=((val xs % d:Nat):Int):=by omega
   have HR:=hid sf;have fH:=hid mb;clear sf ii mb aw aB;go_wp2_with fail;refine HT.out.mono ?_
   rintro e w' ⟨v',rfl,ho,hx⟩;go_wp2_with fail;go_ret3;first
    |exact⟨_,congrArg (fun z:Int=>Ending.returned (.tuple #[v',.int .u32 z,.bool true])) HR.out,ho.mono ad.size,ad.trans hx⟩
    |exact⟨_,congrArg (fun z:Nat=>Ending.returned (.tuple #[v',.int .u32 (z:Int),.bool true])) fH.out,ho.mono ad.size,ad.trans hx⟩
  ·obtain⟨m,rfl⟩:∃m,k=m+1:=⟨k-1,by omega⟩;obtain⟨b,o,rfl,hb,aa⟩:=HC.out (by omega);have hx:=(ad.cell hb).trans (aa m (by omega));have ac:=HB.out.cell m;have gP:=HB.out.frozen m;rw[AY _ _ (by simp;omega)]at ac;clear aa;have cK:=ax.get m;have HS:=hid (Q5 xs qs m d r (by omega) HV.out);have hq:=TG hr cK;have ob:=Nat.mod_lt (r*4294967296+xs.getD m 0) ld;obtain⟨x,b7⟩:∃x,xs.getD m 0=x:=⟨_,rfl⟩;rw[b7]at hx cK HS hq ob;clear b7;have lF:=Nr r x (by omega) cK;have Yn:r*4294967296+x<18446744073709551616:=by omega
   obtain⟨N,VF⟩:∃N,r*4294967296+x=N:=⟨_,rfl⟩;rw[VF]at lF HS hq ob Yn;clear VF;have xW:(N:Int) / (d:Int)=((N / d:Nat):Int):=(Int.natCast_ediv N d).symm;have fB:(N:Int) % (d:Int)=((N % d:Nat):Int):=(Int.natCast_emod N d).symm;obtain⟨y,hy⟩:∃y,N / d=y:=⟨_,rfl⟩;obtain⟨z,hz⟩:∃z,N % d=z:=⟨_,rfl⟩;rw[hy]at xW HS hq;rw[hz]at fB HS ob;clear hy hz;have Wh:=hid (show (y:Int) % 4294967296=(y:Int) by omega);simp only[d32]at hx ac
   go_wp2
   go_round
   case rel=>
    refine⟨m,z,by omega,ob,rfl,by rw[fB],?_⟩;exact OG.step HL.out bE hq HS.out HB.out ad
   case measure=>simp[intOf]
end Big
end Go.Proofs.YtkoaogkknnelaaaGreatDoor
