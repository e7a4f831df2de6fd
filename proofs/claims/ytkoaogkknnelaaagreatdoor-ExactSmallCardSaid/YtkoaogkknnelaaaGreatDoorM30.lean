import Derived.Test.YtkoaogkknnelaaaGreatDoorM29
set_option linter.unusedVariables false
set_option linter.unusedSimpArgs false
set_option maxHeartbeats 2000000
set_option maxRecDepth 100000
namespace Go.Proofs.YtkoaogkknnelaaaGreatDoor
namespace Big
open Lib (hid)
open Go.RowKit
theorem Pt{xs zs:List Nat}{s k c:Nat}(az:Ok xs)(hl:zs.length=k)(_hs:s<=31)(hc:c<2 ^ s)(hv:val zs+4294967296 ^ k*c=val (xs.take k)*2 ^ s)(t:Nat)(ht:t=xs.getD k 0*2 ^ s+c):
  val (zs++[t % 4294967296])+4294967296 ^ (k+1)*(t / 4294967296)=val (xs.take (k+1))*2 ^ s/\t / 4294967296<2 ^ s:=by
 have h1:=Bs xs k;have hm:=Nat.div_add_mod t 4294967296;constructor
 ·rw[BK,hl,h1,Nat.add_mul,<-hv,Nat.pow_succ];have e1:4294967296 ^ k*4294967296*(t / 4294967296)=4294967296 ^ k*(4294967296*(t / 4294967296)):=Nat.mul_assoc _ _ _;have e2:4294967296 ^ k*(t % 4294967296)+4294967296 ^ k*(4294967296*(t / 4294967296))=4294967296 ^ k*t:=by rw[<-Nat.mul_add,Nat.add_comm,hm]
  have e3:4294967296 ^ k*t=4294967296 ^ k*c+4294967296 ^ k*xs.getD k 0*2 ^ s:=by rw[ht,Nat.mul_add,Nat.mul_assoc,Nat.add_comm]
  rw[e1];omega
 ·refine Nat.div_lt_of_lt_mul ?_
  have:=az.get k;have h2:xs.getD k 0*2 ^ s+2 ^ s<=4294967296*2 ^ s:=by
   rw[<-Nat.succ_mul];exact Nat.mul_le_mul_right _ this
  omega
theorem Ra(w:World)(v:Value)(xs:List Nat)(n:Nat)(h:Arr w v xs)(hn:xs.length<=268435456)(hn2:n<=1048576):
  Calls Tryz.prog 282 #[v,.int .i64 (n:Int)] w fun e w'=>∃v',e= .returned v'/\Own w.heap.size w' v' (Ac (val xs*2 ^ n))/\Ext w w':=by
 have HA:=hid h;obtain⟨az,A,cap,rfl,dp,dT,aa⟩:=h.open;obtain⟨d,s,hd,hs,jF⟩:∃d s,d<=32768/\s<=31/\n=32*d+s:=⟨n / 32,n % 32,by omega,by omega,by omega⟩;have dw:=hid jF;have iP:=hid az;have hq:(n:Int) / 32=(d:Int):=by omega
 have hr:(n:Int) % 32=(s:Int):=by omega
 have df:=Cg d (by omega);have oy:=hid (Gu s hs);have lf:Hid (∀W:World,w.heap.size<=W.heap.size->Own w.heap.size (W.alloc (.cells (zeros d) 183)) (.slice (some ⟨W.heap.size,0,none⟩) d d) (List.replicate d 0)):=hid (fun W hw=>by
  have h3:=Own.block (B:=w.heap.size) (w:=W.alloc (.cells (zeros d) 183)) (g:=W.heap.size) (xs:=List.replicate d 0) (Ok.zeros d) (by rw[<-Ed];exact Blk.new _ _ _) hw (by simp;omega)
  rwa [List.length_replicate]at h3)
 clear h aa dT dp jF;go_enter Tryz.func282,Tryz.ntmps282;go_wp2_with fail;clear df;go_loopw [5,6,7] (fun out cy i wr=>∃(k q:Nat) (zs:List Nat),k<=xs.length+1/\q<2 ^ s/\(k=xs.length+1->q=0)/\i= .int .i64 k/\cy= .int .u64 q/\zs.length=k/\
   val zs+4294967296 ^ k*q=val (xs.take k)*2 ^ s/\Own w.heap.size wr out (List.replicate d 0++zs)/\Ext w wr) (fun _ _ i _=>xs.length+1-(intOf i).toNat)
 case atStart=>exact⟨0,0,[],Nat.zero_le _,Nat.pow_pos (by decide),by omega,rfl,rfl,rfl,by simp[val],by rw[List.append_nil];exact lf.out _ (Nat.le_refl _),(Ext.refl w).alloc _⟩
 case round=>
  obtain⟨k,q,zs,hk,yK,mK,rfl,rfl,hl,hv,aG,ah⟩:=hrel;have HV:=hid hv;clear hv;have HL:=hid hl;clear hl;have ri:=ah.size;by_cases hlt:k<=xs.length
  ·have vf:(k:Int)<=(xs.length:Int):=by omega
   have HX:=hid (Do wr _ xs (k:Int) (HA.out.ext ah) (by omega));rw[Int.toNat_natCast]at HX;have cK:=az.get k;have HS:=hid (fun t h=> @Pt xs zs s k q iP.out HL.out hs yK HV.out t h);have aA:k=xs.length->xs.getD k 0=0:=fun e=>Db xs k (by omega)
   obtain⟨fH,fr,l8⟩:=He cK hs;have iJ:xs.getD k 0*2 ^ s ||| q=xs.getD k 0*2 ^ s+q:=by
    rw[Nat.or_comm,Q6 yK ⟨xs.getD k 0,Nat.mul_comm _ _⟩,Nat.add_comm]
   have pt:=oy.out;obtain⟨x,bN⟩:∃x,xs.getD k 0=x:=⟨_,rfl⟩;rw[bN]at HX HS cK aA fH fr iJ;clear bN l8;have ob:(2:Int) ^ s=((2 ^ s:Nat):Int):=by simp
   have bI:x*2 ^ s+q<18446744073709551616:=by
    have h2:x*2 ^ s+2 ^ s<=4294967296*2 ^ s:=by
     rw[<-Nat.succ_mul];exact Nat.mul_le_mul_right _ cK
    omega
   obtain⟨P,hP⟩:∃P,2 ^ s=P:=⟨_,rfl⟩;rw[hP]at ob fH fr iJ bI pt HS yK;have Yu:=hid hP;clear hP;have jE:(x:Int)*(P:Int)=((x*P:Nat):Int):=by simp
   have hy0:x=0->x*P=0:=fun e=>by rw[e,Nat.zero_mul]
   obtain⟨y,hy⟩:∃y,x*P=y:=⟨_,rfl⟩;rw[hy]at jE fH fr iJ bI HS hy0;clear hy;have qt:bits .or .u64 (y:Int) (q:Int)=((y+q:Nat):Int):=by
    rw[bits_or_u64_nat _ _ (by omega) (by omega),iJ]
   clear iJ;have aE:k+1=xs.length+1->(y+q) / 4294967296=0:=fun e=>by have:=hy0 (aA (by omega));omega
   have dN:=hid (show ∀z:Nat,(List.replicate d 0++zs).length+[z].length<=2147483648 from fun z=>by simp[HL.out];omega);have bG:=hid (HS.out _ rfl);obtain⟨t,ht⟩:∃t,y+q=t:=⟨_,rfl⟩;rw[ht]at qt bI bG aE;have HZ:=hid (show t % 4294967296<4294967296 from Nat.mod_lt _ (by omega));have jx:=hid aE;clear aA aE hy0 HS ht;go_wp2_with fail;refine HX.out.mono ?_;rintro e w' ⟨rfl,rfl⟩
   go_wp2_with (at_builtin;go_must (refine AP rfl _ _ rfl rfl (aG.ext ((Ext.refl _).alloc _)) rfl (Arr.fresh1' _ _ (t % 4294967296) (by omega) HZ.out) (dN.out _) (by simp;omega) ?_;intro v' w' dh aQ hb));go_roundw
   case rel=>exact⟨k+1,t / 4294967296,zs++[t % 4294967296],by omega,by rw[Yu.out];exact bG.out.2,jx.out,by go_num,by go_num,by simp[HL.out],by rw[Yu.out];exact bG.out.1,by rw[<-List.append_assoc];exact dh,(ah.alloc _).more hb⟩
   case measure=>simp[intOf];omega
  ·obtain rfl:k=xs.length+1:=by omega
   have vf:¬(((xs.length+1:Nat):Int))<=(xs.length:Int):=by omega
   have hq:=mK rfl;subst hq;have bd:=HV.out;rw[Nat.mul_zero,Nat.add_zero,List.take_of_length_le (by omega)]at bd;have HT:=B9 _ _ _ aG.arr (by simp[HL.out];omega);rw[Oo d s _ _ bd,<-dw.out]at HT;have HT:=hid HT;clear bd;go_wp2_with fail;refine HT.out.mono ?_
   rintro e w2 ⟨v2,rfl,ho,hx⟩;go_wp2_with fail;go_ret;exact⟨_,rfl,ho.mono ah.size,ah.trans hx⟩
def GW(w wr:World)(V:Nat)(s5 s6:Value):Prop:=
 (∃(i r:Nat),i<=320000/\s6= .int .i64 (i:Int)/\Own w.heap.size wr s5 (Ac r)/\r*r<=V/\V<(r+2 ^ (i+1))*(r+2 ^ (i+1))/\Ext w wr)\/
 (∃r:Nat,s6= .int .i64 (-1)/\Own w.heap.size wr s5 (Ac r)/\DD V r/\Ext w wr)
theorem GW.next{w wr:World}{V i r:Nat}{s5:Value}(hi:i<=320000)(ho:Own w.heap.size wr s5 (Ac r))(h1:r*r<=V)(h2:V<(r+2 ^ i)*(r+2 ^ i))(hx:Ext w wr):GW w wr V s5 (.int .i64 ((i:Int)-1)):=by
 rcases Nat.eq_zero_or_pos i with rfl|h
 ·exact .inr ⟨r,by simp,ho,⟨h1,by simpa using h2⟩,hx⟩
 ·obtain⟨j,rfl⟩:∃j,i=j+1:=⟨i-1,by omega⟩;exact .inl ⟨j,r,by omega,by rw[show ((j+1:Nat):Int)-1=(j:Int) by omega],ho,h1,h2,hx⟩
theorem UW(r:Nat):r<=r*r:=Nat.le_mul_self r
theorem Pw(w:World)(v0:Value)(xs:List Nat)(h0:Arr w v0 xs)(hl:xs.length<=10000):
  Calls Tryz.prog 260 #[v0,.int .i64 2] w fun e w'=>∃v' r,e= .returned v'/\DD (val xs) r/\Own w.heap.size w' v' (Ac r)/\Ext w w':=by
 have H0:=hid h0;have hV:(Ac (val xs)).length<=10000:=Nat.le_trans (An h0.ok) hl;have cY:=hid (fun W=>FC W 1 (by decide));rw[show ((1:Nat):Int)=1 from rfl]at cY;have jB:=hid (Hj w v0 xs h0 (by omega));have hB:=Fw hV;have hlt:=MK (val xs);have ou:=hid (Nat.lt_of_lt_of_le hlt (Se (AG (val xs))));obtain⟨l0,A0,c0,rfl⟩:=h0.shape;clear h0 hlt;have mU:=hid hl;have fZ:=hid hV;clear hl hV;generalize AG (val xs)=B at *;obtain⟨S,hS⟩:∃S,S=B / 2:=⟨_,rfl⟩;have iB:(B:Int) / 2=(S:Int):=by omega
 have hS2:S<=160000:=by omega
 rw[<-hS]at ou;clear hS hB;go_enter Tryz.func260,Tryz.ntmps260;go_wp2_with fail;refine jB.out.mono ?_
 rintro e w1 ⟨rfl,ag⟩;have ar:=hid ag;clear ag;go_wp2_with fail;clear iB;go_loopw [5,6] (fun s5 s6 wr=>GW w wr (val xs) s5 s6) (fun _ s6 _=>(intOf s6+1).toNat)
 case atStart=>exact .inl ⟨S,0,by omega,rfl,by rw[show Ac 0=[] by decide+kernel];exact Own.none_ _ _,by omega,by rw[Nat.zero_add];exact ou.out,ar.out⟩
 case round=>
  rcases hrel with ⟨i,r,hi,rfl,ho,h1,h2,hx⟩|⟨r,rfl,ho,eF,hx⟩
  ·have aB:(0:Int)<=(i:Int):=by omega
   have aR:(i:Int)<=320000:=by omega
   have HO:=hid ho;have HX:=hid hx;have HK:=hid (And.intro h1 (And.intro h2 hi));have ky:(Ac r).length<=10000:=Nat.le_trans (Ar (Nat.le_trans (UW r) h1)) fZ.out;have pM:=hid (fun W m a=>Ra W m (Ac 1) i a (by rw[C4];simp) (by omega));rw[Ad,Nat.one_mul]at pM;have hpl:(Ac (2 ^ i)).length<=10001:=FU (by omega);have kK:=hid (fun W m m' a b=>Kr W m m' (Ac r) (Ac (2 ^ i)) a b (by omega) (by omega));rw[Ad,Ad]at kK;have lX:(Ac (r+2 ^ i)).length<=20002:=by have:=Cb ky hpl;omega
   have lN:=hid (fun W m a=>I8 W m (Ac (r+2 ^ i)) 2 a (by omega) (by decide));rw[Ad,Nat.pow_two,show ((2:Nat):Int)=2 from rfl]at lN;have pn:(Ac ((r+2 ^ i)*(r+2 ^ i))).length<=40004:=by have:=AD lX lX;omega
   have cI:=hid (fun W m a (hx:Ext w W)=>Dv W m (.slice A0 l0 c0) (Ac ((r+2 ^ i)*(r+2 ^ i))) xs a (H0.out.ext hx) (by omega) (by have:=mU.out;omega));rw[Ad]at cI;obtain⟨g5,A5,c5,rfl⟩:=ho.shape;have cp:BS ((r+2 ^ i)*(r+2 ^ i)) (val xs)<=0↔(r+2 ^ i)*(r+2 ^ i)<=val xs:=by unfold BS;split<;>(try split)<;>omega
   have ge:=hid cp;generalize BS ((r+2 ^ i)*(r+2 ^ i)) (val xs)=cc at *;clear ho h1 h2 hx ky hpl lX pn cp hi;go_wp2_with fail;refine(cY.out _).mono ?_
   rintro e w2 ⟨r2,rfl,ax,ae⟩;have R2:=hid ax;have aI:=hid (HX.out.trans ae);have d9:=hid (HO.out.ext ae);obtain⟨g2,G2,j2,rfl⟩:=ax.shape;clear ax ae;go_wp2_with fail;refine(pM.out _ _ R2.out.arr).mono ?_
   rintro e w3 ⟨r3,rfl,cB,ab⟩;have R3:=hid cB;have aC:=hid (aI.out.trans ab);have pd:=hid (d9.out.ext ab);obtain⟨g3,G3,j3,rfl⟩:=cB.shape;clear cB ab;go_wp2_with fail;refine(kK.out _ _ _ pd.out.arr R3.out.arr).mono ?_
   rintro e w4 ⟨r4,rfl,fi,bc⟩;have R4:=hid (fi.mono aC.out.size);have bw:=hid (aC.out.trans bc);have mq:=hid (pd.out.ext bc);obtain⟨g4,G4,j4,rfl⟩:=fi.shape;clear fi bc;go_wp2_with fail;refine(lN.out _ _ R4.out.arr).mono ?_
   rintro e w5 ⟨r5,rfl,dV,hx5⟩;have R5:=hid dV;have R4':=hid (R4.out.ext hx5);have dr:=hid (bw.out.trans hx5);have qK:=hid (mq.out.ext hx5);obtain⟨g6,G6,j6,rfl⟩:=dV.shape;clear dV hx5;go_wp2_with fail;refine(cI.out _ _ R5.out.arr dr.out).mono ?_
   rintro e w6 ⟨rfl,rfl⟩;by_cases hc:cc<=0
   ·have HC:=hid (ge.out.1 hc);go_wp2_with fail;go_roundw
    case rel=>exact GW.next HK.out.2.2 R4'.out HC.out (LV HK.out.1 HK.out.2.1 HC.out) dr.out
    case measure=>simp[intOf]<;>omega
   ·have HC:=hid (fun h=>hc (ge.out.2 h));go_wp2_with fail;go_roundw
    case rel=>exact GW.next HK.out.2.2 qK.out HK.out.1 (Nat.lt_of_not_le HC.out) dr.out
    case measure=>simp[intOf]<;>omega
  ·obtain⟨g5,A5,c5,rfl⟩:=ho.shape;have HO:=hid ho;have HX:=hid hx;clear ho hx;go_wp2_with fail;go_ret;exact⟨_,r,rfl,eF,HO.out,HX.out⟩
theorem No(w:World)(v0:Value)(xs:List Nat)(h0:Arr w v0 xs)(n0:xs.length<=10000):
  Calls Tryz.prog 226 #[v0] w fun e w'=>∃v' u' r,e= .returned (.tuple #[v',u'])/\DD (val xs) r/\Own w.heap.size w' v' (Ac r)/\Own w.heap.size w' u' (Ac (val xs-r*r))/\Ext w w':=by
 have H0:=hid h0;have HRT:=hid (Pw w v0 xs h0 n0);have fZ:=hid (Nat.le_trans (An h0.ok) n0);have ll:=hid (fun W m m' r a b (hr:(Ac r).length<=10000)=>Hh W m m' (Ac r) (Ac r) a b (by omega) (by omega));have mT:=hid (fun W m (r:Nat) (hx:Ext w W) b (hr:(Ac (r*r)).length<=1073741824)=>FD W v0 m xs (Ac (r*r)) (h0.ext hx) b (by omega) hr);obtain⟨l0,A0,c0,rfl⟩:=h0.shape;clear h0 n0;go_enter Tryz.func226,Tryz.ntmps226;go_wp2_with fail;refine HRT.out.mono ?_
 rintro e w1 ⟨r0,r,rfl,eF,aB,hx0⟩;have R0:=hid aB;have ar:=hid hx0;have HS:=hid eF;have ky:(Ac r).length<=10000:=Nat.le_trans (Ar eF.le) fZ.out;have ny:(Ac (r*r)).length<=10000:=Nat.le_trans (Ar eF.1) fZ.out;have HM:=hid (fun W m m' a b=>ll.out W m m' r a b ky);rw[Ad]at HM;have HL:=hid (fun W m hx b=>mT.out W m r hx b (by omega));rw[Ad]at HL;obtain⟨g0,G0,j0,rfl⟩:=aB.shape;clear aB hx0 eF ky ny ll mT;go_wp2_with fail;refine(HM.out _ _ _ R0.out.arr R0.out.arr).mono ?_
 rintro e w2 ⟨r1,rfl,aR,ag⟩;have R1:=hid aR;have R0:=hid (R0.out.ext ag);have aI:=hid (ar.out.trans ag);obtain⟨g1,G1,j1,rfl⟩:=aR.shape;clear aR ag;go_wp2_with fail;refine(HL.out _ _ aI.out R1.out.arr).mono ?_
 rintro e w3 ⟨r2,rfl,ax,ae⟩;have R2:=hid (ax.mono aI.out.size);have R0:=hid (R0.out.ext ae);have aC:=hid (aI.out.trans ae);obtain⟨g2,G2,j2,rfl⟩:=ax.shape;clear ax ae;go_wp2_with fail;go_ret2;exact⟨_,_,r,rfl,HS.out,R0.out,R2.out,aC.out⟩
theorem DK(w:World)(v0:Value)(xs:List Nat)(h0:Arr w v0 xs)(n0:xs.length<=10000):Calls Tryz.prog 194 #[v0] w (JQ (val xs) w):=by
 have HS:=hid (No w v0 xs h0 n0);obtain⟨l0,A0,c0,rfl⟩:=h0.shape;clear h0 n0;go_enter Tryz.func194,Tryz.ntmps194;go_wp2_with fail;refine HS.out.mono ?_
 rintro e w1 ⟨v',u',r,rfl,eF,hi,ic,hx⟩;have gO:=hid eF;have HI:=hid hi;have HX:=hid hx;have aF:=ic.arr;obtain⟨g1,G1,j1,rfl⟩:=hi.shape;obtain⟨g2,G2,j2,rfl⟩:=ic.shape;have hl:=ic.arr.len;by_cases hV:val xs=r*r
 ·have hd:decide (val xs=r*r)=true:=decide_eq_true hV;have HD:=hid hd;rw[hV,Nat.sub_self,Bb,List.length_nil]at hl;subst hl;clear aF hi ic hx eF hV hd;go_wp2_with fail;go_ret2;exact⟨.slice G1 g1 j1,r,gO.out,by rw[HD.out];rfl,fun _=>HI.out,⟨_,_,_,rfl⟩,HX.out⟩
 ·have HD:=hid (decide_eq_false hV);have hp:0<g2:=by
   rw[hl,List.length_pos_iff];intro e;rw[Br]at e;exact hV (eF.rest.1 e)
  have hne:(0:Int)<(g2:Int):=by omega
  have HV:=hid hV;clear aF hi ic hx eF hV hl hp;go_wp2_with fail;go_ret2;exact⟨.slice none 0 0,r,gO.out,by rw[HD.out];rfl,fun e=>absurd e HV.out,⟨0,none,0,rfl⟩,HX.out⟩
theorem Nm(w:World)(v0:Value)(p:Int)(q:Nat)(h0:Ao w v0 p q)(n0:(Ac p.natAbs).length<=10000)(m0:(Ac q).length<=10000)(hp:p<0):
  Calls Tryz.prog 148 #[v0] w (Ea p q w):=by
 have H0:=hid h0;have jx:=hid (fun W m a=>DK W m (Ac p.natAbs) a (by omega));have ox:=hid (fun W m a=>DK W m (Ac q) a (by omega));unfold JQ at jx ox;rw[Ad]at jx ox;obtain⟨b0,l0,A0,c0,k0,D0,e0,rfl⟩:=h0.shape;have kh:=hid n0;have ck:=h0.sign;rw[decide_eq_true hp]at ck;subst ck;have HP:=hid hp;have eZ:=hid h0.num;clear h0 hp n0 m0;generalize p.natAbs=m at *;go_enter Tryz.func148,Tryz.ntmps148;go_wp2_with fail;have hb0:=((Blk.new w 26 #[.bool true,.slice A0 l0 c0,.slice D0 k0 e0]).alloc (.cells #[.bool false,.slice none 0 0,.slice none 0 0] 26));have al:=(Blk.new (w.alloc (.cells #[.bool true,.slice A0 l0 c0,.slice D0 k0 e0] 26)) 26 #[.bool false,.slice none 0 0,.slice none 0 0]);have aq:=(((Ext.refl w).alloc (.cells #[.bool true,.slice A0 l0 c0,.slice D0 k0 e0] 26)).alloc (.cells #[.bool false,.slice none 0 0,.slice none 0 0] 26));have am:w.heap.size+1+1=((w.alloc (.cells #[.bool true,.slice A0 l0 c0,.slice D0 k0 e0] 26)).alloc (.cells #[.bool false,.slice none 0 0,.slice none 0 0] 26)).heap.size:=by simp
 simp only[World.size_alloc]at al;generalize (w.alloc (.cells #[.bool true,.slice A0 l0 c0,.slice D0 k0 e0] 26)).alloc (.cells #[.bool false,.slice none 0 0,.slice none 0 0] 26)=wo at *;have ak:=hid hb0;have ai:=hid al;have HX:=hid aq;have HZ:Hid (w.heap.size+1+1<=wo.heap.size):=hid (by omega);clear aq am hb0 al;refine(jx.out _ _ (eZ.out.ext HX.out)).mono ?_
 rintro e w1 ⟨r0,r,jT,rfl,aB,⟨g0,G0,j0,rfl⟩,hx0⟩;have ar:=hid (HX.out.trans hx0);have dl:=hid (ai.out.ext hx0);have dm:=hid (ak.out.ext hx0);have R0:=hid aB;have ov:=hid jT;have dY:=hid hx0.size;clear aB jT hx0;have q0:=dm.out.three;go_wp2_with fail;refine(ox.out _ _ (H0.out.den.ext ar.out)).mono ?_
 rintro e w2 ⟨r1,s,jS,rfl,aR,⟨g1,G1,j1,rfl⟩,ag⟩;have aI:=hid (ar.out.trans ag);have cH:=hid (dl.out.ext ag);have ko:=hid (dm.out.ext ag);have gQ:=hid ag;have R1:=hid aR;have fM:=hid jS;clear aR jS ag q0;have q0:=ko.out.three;have t0:=cH.out.three;generalize decide (m=r*r)=d1 at *;generalize decide (q=s*s)=d2 at *;go_wp2_with fail;obtain⟨aj,ac,hr2⟩:=Ah cH.out (.bool false) (.slice none 0 0) (.slice none 0 0);refine bodyPost_ret (v:= .tuple #[.agg #[.bool false,.slice none 0 0,.slice none 0 0],.bool false]) (by simp[results,Tryz.results148,go_sem,aj,ac,hr2]) rfl ?_
 refine⟨_,((aI.out.setCell (Nat.le_succ _) _).setCell (Nat.le_succ _) _).setCell (Nat.le_succ _) _,.inr ⟨?_,rfl,Ag.zero _ _⟩⟩;rintro⟨r',s',h1,_⟩;have:=HP.out;omega
theorem Nl(w:World)(v0:Value)(p:Int)(q:Nat)(h0:Ao w v0 p q)(n0:(Ac p.natAbs).length<=10000)(m0:(Ac q).length<=10000)(hp:¬p<0):
  Calls Tryz.prog 148 #[v0] w (Ea p q w):=by
 have H0:=hid h0;have jx:=hid (fun W m a=>DK W m (Ac p.natAbs) a (by omega));have ox:=hid (fun W m a=>DK W m (Ac q) a (by omega));unfold JQ at jx ox;rw[Ad]at jx ox;obtain⟨b0,l0,A0,c0,k0,D0,e0,rfl⟩:=h0.shape;have kh:=hid n0;have ck:=h0.sign;rw[decide_eq_false hp]at ck;subst ck;have HP:=hid hp;have eZ:=hid h0.num;clear h0 hp n0 m0;have fB:((p.natAbs:Nat):Int)=p:=by have:=HP.out;omega
 have ip:=hid fB;clear fB;generalize p.natAbs=m at *;go_enter Tryz.func148,Tryz.ntmps148;go_wp2_with fail;have hb0:=((Blk.new w 26 #[.bool false,.slice A0 l0 c0,.slice D0 k0 e0]).alloc (.cells #[.bool false,.slice none 0 0,.slice none 0 0] 26));have al:=(Blk.new (w.alloc (.cells #[.bool false,.slice A0 l0 c0,.slice D0 k0 e0] 26)) 26 #[.bool false,.slice none 0 0,.slice none 0 0]);have aq:=(((Ext.refl w).alloc (.cells #[.bool false,.slice A0 l0 c0,.slice D0 k0 e0] 26)).alloc (.cells #[.bool false,.slice none 0 0,.slice none 0 0] 26));have am:w.heap.size+1+1=((w.alloc (.cells #[.bool false,.slice A0 l0 c0,.slice D0 k0 e0] 26)).alloc (.cells #[.bool false,.slice none 0 0,.slice none 0 0] 26)).heap.size:=by simp
 simp only[World.size_alloc]at al;generalize (w.alloc (.cells #[.bool false,.slice A0 l0 c0,.slice D0 k0 e0] 26)).alloc (.cells #[.bool false,.slice none 0 0,.slice none 0 0] 26)=wo at *;have ak:=hid hb0;have ai:=hid al;have HX:=hid aq;have HZ:Hid (w.heap.size+1+1<=wo.heap.size):=hid (by omega);clear aq am hb0 al;refine(jx.out _ _ (eZ.out.ext HX.out)).mono ?_
 rintro e w1 ⟨r0,r,jT,rfl,aB,⟨g0,G0,j0,rfl⟩,hx0⟩;have ar:=hid (HX.out.trans hx0);have dl:=hid (ai.out.ext hx0);have dm:=hid (ak.out.ext hx0);have R0:=hid aB;have ov:=hid jT;have dY:=hid hx0.size;clear aB jT hx0;have q0:=dm.out.three;go_wp2_with fail;refine(ox.out _ _ (H0.out.den.ext ar.out)).mono ?_
 rintro e w2 ⟨r1,s,jS,rfl,aR,⟨g1,G1,j1,rfl⟩,ag⟩;have aI:=hid (ar.out.trans ag);have cH:=hid (dl.out.ext ag);have ko:=hid (dm.out.ext ag);have gQ:=hid ag;have R1:=hid aR;have fM:=hid jS;clear aR jS ag q0;have q0:=ko.out.three;have t0:=cH.out.three;by_cases hm:m=r*r
 ·have iX:decide (m=r*r)=true:=decide_eq_true hm;rw[iX];by_cases hq:q=s*s
  ·have ee:decide (q=s*s)=true:=decide_eq_true hq;rw[ee];have lf:=hid ((R0.out hm).ext gQ.out);have pN:=hid (R1.out hq);have HM:=hid hm;have HQ:=hid hq;have ky:(Ac r).length<=10000:=Nat.le_trans (Ar ov.out.le) (by rw[hm];rw[<-hm];exact kh.out);have HI:=hid (fun W m a=>BL W false m (Ac r) a (by omega));rw[Ad,show sgn false r=(r:Int) from rfl]at HI;clear hm hq iX ee ky;go_wp2_with fail;refine(HI.out _ _ lf.out.arr).mono ?_
   rintro e w3 ⟨r2,rfl,ax,ae⟩;have aC:=hid (aI.out.trans ae);have dP:=hid (cH.out.ext ae);have te:=hid (pN.out.ext ae);have sO:=hid gQ.out.size;have R2:=hid ax;obtain⟨f2,g2,G2,j2,rfl⟩:=ax.shape;clear ax ae t0;have t0:=dP.out.three;go_wp2_with fail;obtain⟨aj,ac,hr2⟩:=Ah dP.out (.bool f2) (.slice G2 g2 j2) (.slice G1 g1 j1);refine bodyPost_ret (v:= .tuple #[.agg #[.bool f2,.slice G2 g2 j2,.slice G1 g1 j1],.bool true]) (by simp[results,Tryz.results148,go_sem,aj,ac,hr2]) rfl ?_
   refine⟨_,((aC.out.setCell (Nat.le_succ _) _).setCell (Nat.le_succ _) _).setCell (Nat.le_succ _) _,.inl ⟨r,s,by rw[<-ip.out,HM.out],HQ.out,rfl,?_⟩⟩;exact Ag.put (w1:=wo) (Ag.mk (R2.out.mono (by have:=dY.out;have:=sO.out;omega)) (te.out.mono dY.out)) (by have:=HZ.out;omega) (by have:=HZ.out;omega)
  ·have ee:decide (q=s*s)=false:=decide_eq_false hq;rw[ee];have HQ:=hid hq;clear hm hq iX ee;go_wp2_with fail;obtain⟨aj,ac,hr2⟩:=Ah cH.out (.bool false) (.slice none 0 0) (.slice none 0 0);refine bodyPost_ret (v:= .tuple #[.agg #[.bool false,.slice none 0 0,.slice none 0 0],.bool false]) (by simp[results,Tryz.results148,go_sem,aj,ac,hr2]) rfl ?_
   refine⟨_,((aI.out.setCell (Nat.le_succ _) _).setCell (Nat.le_succ _) _).setCell (Nat.le_succ _) _,.inr ⟨?_,rfl,Ag.zero _ _⟩⟩;rintro⟨r',s',_,h2⟩;refine HQ.out ?_
   have h3:=fM.out.uniq (by rw[h2];exact DD.sq s');rw[h3];exact h2
 ·have iX:decide (m=r*r)=false:=decide_eq_false hm;rw[iX];have HM:=hid hm;generalize decide (q=s*s)=d2 at *;clear hm iX;go_wp2_with fail;obtain⟨aj,ac,hr2⟩:=Ah cH.out (.bool false) (.slice none 0 0) (.slice none 0 0);refine bodyPost_ret (v:= .tuple #[.agg #[.bool false,.slice none 0 0,.slice none 0 0],.bool false]) (by simp[results,Tryz.results148,go_sem,aj,ac,hr2]) rfl ?_
  refine⟨_,((aI.out.setCell (Nat.le_succ _) _).setCell (Nat.le_succ _) _).setCell (Nat.le_succ _) _,.inr ⟨?_,rfl,Ag.zero _ _⟩⟩;rintro⟨r',s',h1,_⟩;refine HM.out ?_
  have h2:m=r'*r':=by have:=ip.out;omega
  have h3:=ov.out.uniq (by rw[h2];exact DD.sq r');rw[h3];exact h2
theorem Nn(w:World)(v0:Value)(p:Int)(q:Nat)(h0:Ao w v0 p q)(n0:(Ac p.natAbs).length<=10000)(m0:(Ac q).length<=10000):
  Calls Tryz.prog 148 #[v0] w (Ea p q w):=by
 by_cases hp:p<0
 ·exact Nm w v0 p q h0 n0 m0 hp
 ·exact Nl w v0 p q h0 n0 m0 hp
theorem NG(w:World)(v0:Value)(p:Int)(q:Nat)(h0:Ao w v0 p q)(n0:(Ac p.natAbs).length<=1000000)(m0:(Ac q).length<=1000000)(n:Int)(hn: -64<=n)(nG:n<0)(hp:p=0):
  Calls Tryz.prog 217 #[v0,.int .i64 n] w fun e w'=>∃v',e= .returned (.tuple #[v',.int .i64 2])/\Ag w.heap.size w' v' (0) (0)/\Ext w w':=by
 have H0:=hid h0;have eY:=hid (fun W v a=>C1 W v p q a n0 m0);have hsb:(sgZ p == 0)=true:=by rw[hp];rfl
 obtain⟨b0,l0,A0,c0,k0,D0,e0,rfl⟩:=h0.shape;have du:¬n< -64:=by omega
 have hn2:¬64<n:=by omega
 clear h0 n0 m0 hp;generalize sgZ p=sg at *;go_enter Tryz.func217,Tryz.ntmps217;go_upto_region 1 with fail;have hb0:=((Blk.new w 26 #[.bool b0,.slice A0 l0 c0,.slice D0 k0 e0]).alloc (.cells #[.bool false,.slice none 0 0,.slice none 0 0] 26));have al:=(Blk.new (w.alloc (.cells #[.bool b0,.slice A0 l0 c0,.slice D0 k0 e0] 26)) 26 #[.bool false,.slice none 0 0,.slice none 0 0]);have aq:=(((Ext.refl w).alloc (.cells #[.bool b0,.slice A0 l0 c0,.slice D0 k0 e0] 26)).alloc (.cells #[.bool false,.slice none 0 0,.slice none 0 0] 26));have am:w.heap.size+1+1=((w.alloc (.cells #[.bool b0,.slice A0 l0 c0,.slice D0 k0 e0] 26)).alloc (.cells #[.bool false,.slice none 0 0,.slice none 0 0] 26)).heap.size:=by simp
 simp only[World.size_alloc]at al;generalize (w.alloc (.cells #[.bool b0,.slice A0 l0 c0,.slice D0 k0 e0] 26)).alloc (.cells #[.bool false,.slice none 0 0,.slice none 0 0] 26)=wo at *;have ak:=hid hb0;have ai:=hid al;have HX:=hid aq;have HZ:Hid (w.heap.size+1+1<=wo.heap.size):=hid (by omega);clear aq am hb0 al;have q0:=ak.out.three;go_wp2_with fail;refine(eY.out _ _ (H0.out.ext HX.out)).mono ?_
 rintro e w1 ⟨rfl,ag⟩;have HX:=hid (HX.out.trans ag);have ai:=hid (ai.out.ext ag);clear ag q0;have t0:=ai.out.three;go_wp2_with fail;obtain⟨aj,ac,hr2⟩:=Ah ai.out (.bool false) (.slice none 0 0) (.slice none 0 0);refine bodyPost_ret (v:= .tuple #[.agg #[.bool false,.slice none 0 0,.slice none 0 0],.int .i64 2]) (by simp[results,Tryz.results217,go_sem,aj,ac,hr2]) rfl ?_
 exact⟨_,rfl,Ag.zero _ _,((HX.out.setCell (Nat.le_succ _) _).setCell (Nat.le_succ _) _).setCell (Nat.le_succ _) _⟩
theorem PM(w:World)(v0:Value)(p:Int)(q:Nat)(h0:Ao w v0 p q)(n0:(Ac p.natAbs).length<=1000000)(m0:(Ac q).length<=1000000)(n:Nat)(hn:n<=64):
  Calls Tryz.prog 217 #[v0,.int .i64 (n:Int)] w fun e w'=>∃v',e= .returned (.tuple #[v',.int .i64 0])/\Ag w.heap.size w' v' (p ^ n) (q ^ n)/\Ext w w':=by
 have H0:=hid h0;have n1:=n0;have m1:=m0;have gM:¬(n:Int)< -64:=by omega
 have mc:¬64<(n:Int):=by omega
 have tT:¬(n:Int)<0:=by omega
 have ip:=hid (fun W m a=>Ff W m (Ac p.natAbs) n a n1 hn);have oz:=hid (fun W m a=>Ff W m (Ac q) n a m1 hn);rw[Ad]at ip oz;have oZ:=La p n;have i5:=hid (fun W m a=>Cc W (decide (p<0) && decide (n % 2=1)) m (Ac (p.natAbs ^ n)) a (by have:=Bt n1 hn;omega));rw[Ad,oZ]at i5;have xf:=Bt n1 hn;have yL:=Bt m1 hn;obtain⟨r,hr⟩:∃r,n % 2=r:=⟨_,rfl⟩;have ac:(n:Int) % 2=(r:Int):=by omega
 have hr2:Int.tmod (n:Int) 2=(r:Int):=by rw[Int.tmod_eq_emod_of_nonneg (by omega)];omega
 have bg:((r:Int) == 1)=decide (n % 2=1):=by rw[hr,Bool.eq_iff_iff,beq_iff_eq,decide_eq_true_iff];omega
 generalize decide (n % 2=1)=d at *;obtain⟨b0,l0,A0,c0,k0,D0,e0,rfl⟩:=h0.shape;clear hr oZ xf yL n0 m0 n1 m1;have ck:=h0.sign;rw[<-ck]at i5;clear h0 ck;go_enter Tryz.func217,Tryz.ntmps217;go_upto_region 1 with fail;have hb0:=((Blk.new w 26 #[.bool b0,.slice A0 l0 c0,.slice D0 k0 e0]).alloc (.cells #[.bool false,.slice none 0 0,.slice none 0 0] 26));have al:=(Blk.new (w.alloc (.cells #[.bool b0,.slice A0 l0 c0,.slice D0 k0 e0] 26)) 26 #[.bool false,.slice none 0 0,.slice none 0 0]);have aq:=(((Ext.refl w).alloc (.cells #[.bool b0,.slice A0 l0 c0,.slice D0 k0 e0] 26)).alloc (.cells #[.bool false,.slice none 0 0,.slice none 0 0] 26));have am:w.heap.size+1+1=((w.alloc (.cells #[.bool b0,.slice A0 l0 c0,.slice D0 k0 e0] 26)).alloc (.cells #[.bool false,.slice none 0 0,.slice none 0 0] 26)).heap.size:=by simp
 simp only[World.size_alloc]at al;generalize (w.alloc (.cells #[.bool b0,.slice A0 l0 c0,.slice D0 k0 e0] 26)).alloc (.cells #[.bool false,.slice none 0 0,.slice none 0 0] 26)=wo at *;have ak:=hid hb0;have ai:=hid al;have HX:=hid aq;have HZ:Hid (w.heap.size+1+1<=wo.heap.size):=hid (by omega);clear aq am hb0 al;have HW:=hid (Ext.refl wo);obtain⟨av,aP,aO,aY,aX,aW,aV⟩:=ak.out.three;obtain⟨au,aN,aM,aL,aK,aJ,aU⟩:=ai.out.three;have jz:Hid (wo.heap.size<=wo.heap.size):=hid (Nat.le_refl _);cases b0
 ·simp only[Bool.false_and]at i5;clear av aP aO aY aX aW aV au aN aM aL aK aJ aU;obtain⟨av,aP,aO,aY,aX,aW,aV⟩:=ak.out.three;obtain⟨au,aN,aM,aL,aK,aJ,aU⟩:=ai.out.three;go_wp2_with fail;clear av aP aO aY aX aW aV au aN aM aL aK aJ aU;refine(ip.out _ _ (H0.out.num.ext HX.out)).mono ?_
  rintro e eB ⟨x9,rfl,eW,a7⟩;have HX:=hid (HX.out.trans a7);have HW:=hid (HW.out.trans a7);have ak:=hid (ak.out.ext a7);have ai:=hid (ai.out.ext a7);have RN:=hid eW;obtain⟨jI,jQ,jD,rfl⟩:=eW.shape;clear eW;clear a7;obtain⟨av,aP,aO,aY,aX,aW,aV⟩:=ak.out.three;obtain⟨au,aN,aM,aL,aK,aJ,aU⟩:=ai.out.three;go_wp2_with fail;clear av aP aO aY aX aW aV au aN aM aL aK aJ aU;have tt:=hid (Nat.le_trans jz.out HW.out.size);refine(i5.out _ _ RN.out.arr).mono ?_
  rintro e w12 ⟨wV,rfl,dk,bE⟩;have HX:=hid (HX.out.trans bE);have HW:=hid (HW.out.trans bE);have RN:=hid (RN.out.ext bE);have ak:=hid (ak.out.ext bE);have ai:=hid (ai.out.ext bE);have RI:=hid dk;obtain⟨ef,dX,ea,dQ,rfl⟩:=dk.shape;clear dk;clear bE;obtain⟨av,aP,aO,aY,aX,aW,aV⟩:=ak.out.three;obtain⟨au,aN,aM,aL,aK,aJ,aU⟩:=ai.out.three;go_upto_region 8 with fail;clear RN;have jj:=ai.out.lt;have ir:=hid HX.out.size;have oH:Hid (wo.heap.size<=w12.heap.size):=hid (Nat.le_trans jz.out HW.out.size);clear av aP aO aY aX aW aV au aN aM aL aK aJ aU;have iM:=Blk.new w12 24 #[.bool ef,.slice ea dX dQ];have de:=(Ext.refl w12).alloc (.cells #[.bool ef,.slice ea dX dQ] 24);have HX:=hid (HX.out.trans de);have HW:=hid (HW.out.trans de);have RI:=hid (RI.out.ext de);have ak:=hid (ak.out.ext de);have ai:=hid (ai.out.ext de);have BI:=hid iM;generalize w12.alloc (.cells #[.bool ef,.slice ea dX dQ] 24)=w13 at *;generalize w12.heap.size=a12 at *;clear iM de;obtain⟨av,aP,aO,aY,aX,aW,aV⟩:=ak.out.three;obtain⟨au,aN,aM,aL,aK,aJ,aU⟩:=ai.out.three;obtain⟨la,k7,sG,sF,sE⟩:=BI.out.two;have fC:=ir.out;have q7:=HZ.out;have u7:=oH.out;have sL:=hid ((H0.out.den.ext HX.out).ext (Ext.refl w13).drew);have lb:=hid (RI.out.ext (Ext.refl w13).drew)
  go_region_held3 (fun w'=>Ext w w'/\w'.cell? ⟨w.heap.size,0,none⟩=some (Value.bool false)/\w'.cell? ⟨w.heap.size,1,none⟩=some (Value.slice A0 l0 c0)/\w'.cell? ⟨w.heap.size,2,none⟩=some (Value.slice D0 k0 e0)/\w'.cell? ⟨a12,0,none⟩=some (Value.bool ef)/\w'.cell? ⟨a12,1,none⟩=some (Value.slice ea dX dQ)/\w'.cell? ⟨w.heap.size+1,0,none⟩=some (was w' (w.heap.size+1) 0)/\w'.cell? ⟨w.heap.size+1,1,none⟩=some (was w' (w.heap.size+1) 1)/\w'.cell? ⟨w.heap.size+1,2,none⟩=some (was w' (w.heap.size+1) 2)/\w'.frozen? ⟨w.heap.size+1,0,none⟩=false/\w'.frozen? ⟨w.heap.size+1,1,none⟩=false/\w'.frozen? ⟨w.heap.size+1,2,none⟩=false)
   (first|(exact⟨HX.out.drew,av,aP,aO,la,k7,Ae (w:=w13.drew) au,Ae (w:=w13.drew) aN,Ae (w:=w13.drew) aM,aL,aK,aJ⟩)|(exact GH (by assumption) (by assumption))|(exact DM (by assumption) (by omega) (by omega) (by omega) (by omega) (by omega) (by omega)))
   (first|(go_at_call 252;refine(oz.out _ _ sL.out).mono ?_;rintro e xT ⟨x7,rfl,fI,cF⟩;have re:=cF.size;have lb:=hid (lb.out.ext cF);have RD:=hid fI;obtain⟨vL,wT,uj,rfl⟩:=fI.shape))
  all_goals go_wp2_with fail
  rename_i hS;obtain⟨hE,_,_,_,_,_,ol,oj,oh,_,_,_⟩:=hS;simp only[World.size_drew]at re;obtain⟨aj,ac,hr2⟩:=Cn ol oj oh;refine bodyPost_ret (v:= .tuple #[.agg #[.bool ef,.slice ea dX dQ,.slice wT vL uj],.int .i64 0]) (by simp[results,Tryz.results217,go_sem,aj,ac,hr2]) rfl ?_
  exact⟨_,rfl,Ag.put (w1:=wo) (Ag.mk (lb.out.mono (by have:=tt.out;omega)) (RD.out.mono (by first|omega|(simp only[World.size_drew];omega)))) (by omega) (by omega),hE⟩
 ·simp only[Bool.true_and]at i5;clear av aP aO aY aX aW aV au aN aM aL aK aJ aU;obtain⟨av,aP,aO,aY,aX,aW,aV⟩:=ak.out.three;obtain⟨au,aN,aM,aL,aK,aJ,aU⟩:=ai.out.three;go_wp2_with fail;clear av aP aO aY aX aW aV au aN aM aL aK aJ aU;refine(ip.out _ _ (H0.out.num.ext HX.out)).mono ?_
  rintro e eB ⟨x9,rfl,eW,a7⟩;have HX:=hid (HX.out.trans a7);have HW:=hid (HW.out.trans a7);have ak:=hid (ak.out.ext a7);have ai:=hid (ai.out.ext a7);have RN:=hid eW;obtain⟨jI,jQ,jD,rfl⟩:=eW.shape;clear eW;clear a7;obtain⟨av,aP,aO,aY,aX,aW,aV⟩:=ak.out.three;obtain⟨au,aN,aM,aL,aK,aJ,aU⟩:=ai.out.three;go_wp2_with fail;clear av aP aO aY aX aW aV au aN aM aL aK aJ aU;have tt:=hid (Nat.le_trans jz.out HW.out.size);refine(i5.out _ _ RN.out.arr).mono ?_
  rintro e w12 ⟨wV,rfl,dk,bE⟩;have HX:=hid (HX.out.trans bE);have HW:=hid (HW.out.trans bE);have RN:=hid (RN.out.ext bE);have ak:=hid (ak.out.ext bE);have ai:=hid (ai.out.ext bE);have RI:=hid dk;obtain⟨ef,dX,ea,dQ,rfl⟩:=dk.shape;clear dk;clear bE;obtain⟨av,aP,aO,aY,aX,aW,aV⟩:=ak.out.three;obtain⟨au,aN,aM,aL,aK,aJ,aU⟩:=ai.out.three;go_upto_region 8 with fail;clear RN;have jj:=ai.out.lt;have ir:=hid HX.out.size;have oH:Hid (wo.heap.size<=w12.heap.size):=hid (Nat.le_trans jz.out HW.out.size);clear av aP aO aY aX aW aV au aN aM aL aK aJ aU;have iM:=Blk.new w12 24 #[.bool ef,.slice ea dX dQ];have de:=(Ext.refl w12).alloc (.cells #[.bool ef,.slice ea dX dQ] 24);have HX:=hid (HX.out.trans de);have HW:=hid (HW.out.trans de);have RI:=hid (RI.out.ext de);have ak:=hid (ak.out.ext de);have ai:=hid (ai.out.ext de);have BI:=hid iM;generalize w12.alloc (.cells #[.bool ef,.slice ea dX dQ] 24)=w13 at *;generalize w12.heap.size=a12 at *;clear iM de;obtain⟨av,aP,aO,aY,aX,aW,aV⟩:=ak.out.three;obtain⟨au,aN,aM,aL,aK,aJ,aU⟩:=ai.out.three;obtain⟨la,k7,sG,sF,sE⟩:=BI.out.two;have fC:=ir.out;have q7:=HZ.out;have u7:=oH.out;have sL:=hid ((H0.out.den.ext HX.out).ext (Ext.refl w13).drew);have lb:=hid (RI.out.ext (Ext.refl w13).drew)
  go_region_held3 (fun w'=>Ext w w'/\w'.cell? ⟨w.heap.size,0,none⟩=some (Value.bool true)/\w'.cell? ⟨w.heap.size,1,none⟩=some (Value.slice A0 l0 c0)/\w'.cell? ⟨w.heap.size,2,none⟩=some (Value.slice D0 k0 e0)/\w'.cell? ⟨a12,0,none⟩=some (Value.bool ef)/\w'.cell? ⟨a12,1,none⟩=some (Value.slice ea dX dQ)/\w'.cell? ⟨w.heap.size+1,0,none⟩=some (was w' (w.heap.size+1) 0)/\w'.cell? ⟨w.heap.size+1,1,none⟩=some (was w' (w.heap.size+1) 1)/\w'.cell? ⟨w.heap.size+1,2,none⟩=some (was w' (w.heap.size+1) 2)/\w'.frozen? ⟨w.heap.size+1,0,none⟩=false/\w'.frozen? ⟨w.heap.size+1,1,none⟩=false/\w'.frozen? ⟨w.heap.size+1,2,none⟩=false)
   (first|(exact⟨HX.out.drew,av,aP,aO,la,k7,Ae (w:=w13.drew) au,Ae (w:=w13.drew) aN,Ae (w:=w13.drew) aM,aL,aK,aJ⟩)|(exact GH (by assumption) (by assumption))|(exact DM (by assumption) (by omega) (by omega) (by omega) (by omega) (by omega) (by omega)))
   (first|(go_at_call 252;refine(oz.out _ _ sL.out).mono ?_;rintro e xT ⟨x7,rfl,fI,cF⟩;have re:=cF.size;have lb:=hid (lb.out.ext cF);have RD:=hid fI;obtain⟨vL,wT,uj,rfl⟩:=fI.shape))
  all_goals go_wp2_with fail
  rename_i hS;obtain⟨hE,_,_,_,_,_,ol,oj,oh,_,_,_⟩:=hS;simp only[World.size_drew]at re;obtain⟨aj,ac,hr2⟩:=Cn ol oj oh;refine bodyPost_ret (v:= .tuple #[.agg #[.bool ef,.slice ea dX dQ,.slice wT vL uj],.int .i64 0]) (by simp[results,Tryz.results217,go_sem,aj,ac,hr2]) rfl ?_
  exact⟨_,rfl,Ag.put (w1:=wo) (Ag.mk (lb.out.mono (by have:=tt.out;omega)) (RD.out.mono (by first|omega|(simp only[World.size_drew];omega)))) (by omega) (by omega),hE⟩
theorem PN(w:World)(v0:Value)(p:Int)(q:Nat)(h0:Ao w v0 p q)(n0:(Ac p.natAbs).length<=1000000)(m0:(Ac q).length<=1000000)(n:Nat)(hn:n<=64)(nG:0<n)(hp:p≠0):
  Calls Tryz.prog 217 #[v0,.int .i64 (-(n:Int))] w fun e w'=>∃v',e= .returned (.tuple #[v',.int .i64 0])/\Ag w.heap.size w' v' (CM p q ^ n) (p.natAbs ^ n)/\Ext w w':=by
 have H0:=hid h0;have eY:=hid (fun W v a=>C1 W v p q a n0 m0);have hsb:(sgZ p == 0)=false:=by rw[beq_eq_false_iff_ne];unfold sgZ;split<;>(try split)<;>omega
 have wG:=hid (fun W v a=>Mw W v p q a n0 m0);have hi:=E8 n0 m0;have mb:(CM p q).natAbs=q:=by unfold CM;rw[B6]
 have tM:IntKind.i64.wrap (- -(n:Int))=(n:Int):=by rw[Int.neg_neg];exact IntWalk.i64_in _ (by omega)
 have hJ: - -(n:Int)=(n:Int):=Int.neg_neg _;have gM:¬-(n:Int)< -64:=by omega
 have mc:¬64< -(n:Int):=by omega
 have tT: -(n:Int)<0:=by omega
 generalize CM p q=P at *;generalize hQ:p.natAbs=Q at *;clear hQ;have n1:(Ac P.natAbs).length<=1000000:=hi.1;have m1:(Ac Q).length<=1000000:=hi.2;have ip:=hid (fun W m a=>Ff W m (Ac P.natAbs) n a n1 hn);have oz:=hid (fun W m a=>Ff W m (Ac Q) n a m1 hn);rw[Ad]at ip oz;have oZ:=La P n;have i5:=hid (fun W m a=>Cc W (decide (P<0) && decide (n % 2=1)) m (Ac (P.natAbs ^ n)) a (by have:=Bt n1 hn;omega));rw[Ad,oZ]at i5;have xf:=Bt n1 hn;have yL:=Bt m1 hn;obtain⟨r,hr⟩:∃r,n % 2=r:=⟨_,rfl⟩;have ac:(n:Int) % 2=(r:Int):=by omega
 have hr2:Int.tmod (n:Int) 2=(r:Int):=by rw[Int.tmod_eq_emod_of_nonneg (by omega)];omega
 have bg:((r:Int) == 1)=decide (n % 2=1):=by rw[hr,Bool.eq_iff_iff,beq_iff_eq,decide_eq_true_iff];omega
 generalize decide (n % 2=1)=d at *;obtain⟨b0,l0,A0,c0,k0,D0,e0,rfl⟩:=h0.shape;clear hr oZ xf yL n0 m0 n1 m1 hi mb hp;clear h0;generalize sgZ p=sg at *;go_enter Tryz.func217,Tryz.ntmps217;go_upto_region 1 with fail;have hb0:=((Blk.new w 26 #[.bool b0,.slice A0 l0 c0,.slice D0 k0 e0]).alloc (.cells #[.bool false,.slice none 0 0,.slice none 0 0] 26));have al:=(Blk.new (w.alloc (.cells #[.bool b0,.slice A0 l0 c0,.slice D0 k0 e0] 26)) 26 #[.bool false,.slice none 0 0,.slice none 0 0]);have aq:=(((Ext.refl w).alloc (.cells #[.bool b0,.slice A0 l0 c0,.slice D0 k0 e0] 26)).alloc (.cells #[.bool false,.slice none 0 0,.slice none 0 0] 26));have am:w.heap.size+1+1=((w.alloc (.cells #[.bool b0,.slice A0 l0 c0,.slice D0 k0 e0] 26)).alloc (.cells #[.bool false,.slice none 0 0,.slice none 0 0] 26)).heap.size:=by simp
 simp only[World.size_alloc]at al;generalize (w.alloc (.cells #[.bool b0,.slice A0 l0 c0,.slice D0 k0 e0] 26)).alloc (.cells #[.bool false,.slice none 0 0,.slice none 0 0] 26)=wo at *;have ak:=hid hb0;have ai:=hid al;have HX:=hid aq;have HZ:Hid (w.heap.size+1+1<=wo.heap.size):=hid (by omega);clear aq am hb0 al;have HW:=hid (Ext.refl wo);obtain⟨av,aP,aO,aY,aX,aW,aV⟩:=ak.out.three;obtain⟨au,aN,aM,aL,aK,aJ,aU⟩:=ai.out.three;go_wp2_with fail;clear av aP aO aY aX aW aV au aN aM aL aK aJ aU;refine(eY.out _ _ (H0.out.ext HX.out)).mono ?_
 rintro e eB ⟨rfl,a7⟩;have HX:=hid (HX.out.trans a7);have HW:=hid (HW.out.trans a7);have ak:=hid (ak.out.ext a7);have ai:=hid (ai.out.ext a7);clear a7;obtain⟨av,aP,aO,aY,aX,aW,aV⟩:=ak.out.three;obtain⟨au,aN,aM,aL,aK,aJ,aU⟩:=ai.out.three;go_wp2_with fail;clear av aP aO aY aX aW aV au aN aM aL aK aJ aU;have HWQ:=HW;refine(wG.out _ _ (H0.out.ext HX.out)).mono ?_
 rintro e w12 ⟨wV,rfl,dk,bE⟩;have HX:=hid (HX.out.trans bE);have HW:=hid (HW.out.trans bE);have ak:=hid (ak.out.ext bE);have ai:=hid (ai.out.ext bE);have QI:=hid dk;obtain⟨ef,dX,ea,dQ,fS,fY,fR,rfl⟩:=dk.shape;clear dk;clear bE;obtain⟨av,aP,aO,aY,aX,aW,aV⟩:=ak.out.three;obtain⟨au,aN,aM,aL,aK,aJ,aU⟩:=ai.out.three;go_upto_region 7 with fail;clear av aP aO aY aX aW aV au aN aM aL aK aJ aU;have q7:=HZ.out;have Zy:=HWQ.out.size;have ck:=QI.out.arr.sign;rw[<-ck]at i5;clear ck;have QI:=hid (((QI.out.far (a:=⟨w.heap.size,0,none⟩) (by first|omega|(simp only;omega)) (.bool ef)).far (a:=⟨w.heap.size,1,none⟩) (by first|omega|(simp only;omega)) (.slice ea dX dQ)).far (a:=⟨w.heap.size,2,none⟩) (by first|omega|(simp only;omega)) (.slice fY fS fR));have ai:=hid (((ai.out.far (p:=⟨w.heap.size,0,none⟩) (show w.heap.size+1≠_ by (try simp only)<;>omega) (.bool ef)).far (p:=⟨w.heap.size,1,none⟩) (show w.heap.size+1≠_ by (try simp only)<;>omega) (.slice ea dX dQ)).far (p:=⟨w.heap.size,2,none⟩) (show w.heap.size+1≠_ by (try simp only)<;>omega) (.slice fY fS fR));have xt:Blk (((w12.setCell ⟨w.heap.size,0,none⟩ (.bool ef)).setCell ⟨w.heap.size,1,none⟩ (.slice ea dX dQ)).setCell ⟨w.heap.size,2,none⟩ (.slice fY fS fR)) w.heap.size 26 #[.bool ef,.slice ea dX dQ,.slice fY fS fR]:=((ak.out.set_ 0 (.bool ef)).set_ 1 (.slice ea dX dQ)).set_ 2 (.slice fY fS fR);have ak:=hid xt;have HX:=hid (((HX.out.setCell (p:=⟨w.heap.size,0,none⟩) (Nat.le_refl _) (.bool ef)).setCell (p:=⟨w.heap.size,1,none⟩) (Nat.le_refl _) (.slice ea dX dQ)).setCell (p:=⟨w.heap.size,2,none⟩) (Nat.le_refl _) (.slice fY fS fR));have jz:Hid (wo.heap.size<=((((w12.setCell ⟨w.heap.size,0,none⟩ (.bool ef)).setCell ⟨w.heap.size,1,none⟩ (.slice ea dX dQ)).setCell ⟨w.heap.size,2,none⟩ (.slice fY fS fR))).heap.size):=hid (by simp only[World.size_setCell];have:=HW.out.size;omega);clear xt q7 Zy HW;generalize ((w12.setCell ⟨w.heap.size,0,none⟩ (.bool ef)).setCell ⟨w.heap.size,1,none⟩ (.slice ea dX dQ)).setCell ⟨w.heap.size,2,none⟩ (.slice fY fS fR)=w13 at *;have HW:=hid (Ext.refl w13);cases ef
 ·simp only[Bool.false_and]at i5;obtain⟨av,aP,aO,aY,aX,aW,aV⟩:=ak.out.three;obtain⟨au,aN,aM,aL,aK,aJ,aU⟩:=ai.out.three;go_wp2_with fail;clear av aP aO aY aX aW aV au aN aM aL aK aJ aU;refine(ip.out _ _ QI.out.arr.num).mono ?_
  rintro e xT ⟨x7,rfl,fI,cF⟩;have HX:=hid (HX.out.trans cF);have HW:=hid (HW.out.trans cF);have QI:=hid (QI.out.ext cF);have ak:=hid (ak.out.ext cF);have ai:=hid (ai.out.ext cF);have RN:=hid fI;obtain⟨vL,wT,uj,rfl⟩:=fI.shape;clear fI;clear cF;obtain⟨av,aP,aO,aY,aX,aW,aV⟩:=ak.out.three;obtain⟨au,aN,aM,aL,aK,aJ,aU⟩:=ai.out.three;go_wp2_with fail;clear av aP aO aY aX aW aV au aN aM aL aK aJ aU;have tt:=hid (Nat.le_trans jz.out HW.out.size);refine(i5.out _ _ RN.out.arr).mono ?_
  rintro e w15 ⟨Ze,rfl,kR,cn⟩;have HX:=hid (HX.out.trans cn);have HW:=hid (HW.out.trans cn);have QI:=hid (QI.out.ext cn);have RN:=hid (RN.out.ext cn);have ak:=hid (ak.out.ext cn);have ai:=hid (ai.out.ext cn);have RI:=hid kR;obtain⟨mm,mj,mF,lV,rfl⟩:=kR.shape;clear kR;clear cn;obtain⟨av,aP,aO,aY,aX,aW,aV⟩:=ak.out.three;obtain⟨au,aN,aM,aL,aK,aJ,aU⟩:=ai.out.three;go_upto_region 8 with fail;clear RN;have jj:=ai.out.lt;have ir:=hid HX.out.size;have oH:Hid (wo.heap.size<=w15.heap.size):=hid (Nat.le_trans jz.out HW.out.size);clear av aP aO aY aX aW aV au aN aM aL aK aJ aU;have nY:=Blk.new w15 24 #[.bool mm,.slice mF mj lV];have dg:=(Ext.refl w15).alloc (.cells #[.bool mm,.slice mF mj lV] 24);have HX:=hid (HX.out.trans dg);have HW:=hid (HW.out.trans dg);have QI:=hid (QI.out.ext dg);have RI:=hid (RI.out.ext dg);have ak:=hid (ak.out.ext dg);have ai:=hid (ai.out.ext dg);have BI:=hid nY;generalize w15.alloc (.cells #[.bool mm,.slice mF mj lV] 24)=w16 at *;generalize w15.heap.size=a15 at *;clear nY dg;obtain⟨av,aP,aO,aY,aX,aW,aV⟩:=ak.out.three;obtain⟨au,aN,aM,aL,aK,aJ,aU⟩:=ai.out.three;obtain⟨la,k7,sG,sF,sE⟩:=BI.out.two;have fC:=ir.out;have q7:=HZ.out;have u7:=oH.out;have sL:=hid (QI.out.arr.den.ext (Ext.refl w16).drew);have lb:=hid (RI.out.ext (Ext.refl w16).drew)
  go_region_held3 (fun w'=>Ext w w'/\w'.cell? ⟨w.heap.size,0,none⟩=some (Value.bool false)/\w'.cell? ⟨w.heap.size,1,none⟩=some (Value.slice ea dX dQ)/\w'.cell? ⟨w.heap.size,2,none⟩=some (Value.slice fY fS fR)/\w'.cell? ⟨a15,0,none⟩=some (Value.bool mm)/\w'.cell? ⟨a15,1,none⟩=some (Value.slice mF mj lV)/\w'.cell? ⟨w.heap.size+1,0,none⟩=some (was w' (w.heap.size+1) 0)/\w'.cell? ⟨w.heap.size+1,1,none⟩=some (was w' (w.heap.size+1) 1)/\w'.cell? ⟨w.heap.size+1,2,none⟩=some (was w' (w.heap.size+1) 2)/\w'.frozen? ⟨w.heap.size+1,0,none⟩=false/\w'.frozen? ⟨w.heap.size+1,1,none⟩=false/\w'.frozen? ⟨w.heap.size+1,2,none⟩=false)
   (first|(exact⟨HX.out.drew,av,aP,aO,la,k7,Ae (w:=w16.drew) au,Ae (w:=w16.drew) aN,Ae (w:=w16.drew) aM,aL,aK,aJ⟩)|(exact GH (by assumption) (by assumption))|(exact DM (by assumption) (by omega) (by omega) (by omega) (by omega) (by omega) (by omega)))
   (first|(go_at_call 252;refine(oz.out _ _ sL.out).mono ?_;rintro e YR ⟨Zd,rfl,nI,gU⟩;have q9:=gU.size;have lb:=hid (lb.out.ext gU);have RD:=hid nI;obtain⟨Vo,WM,ya,rfl⟩:=nI.shape))
  all_goals go_wp2_with fail
  rename_i hS;obtain⟨hE,_,_,_,_,_,ol,oj,oh,_,_,_⟩:=hS;simp only[World.size_drew]at q9;obtain⟨aj,ac,hr2⟩:=Cn ol oj oh;refine bodyPost_ret (v:= .tuple #[.agg #[.bool mm,.slice mF mj lV,.slice WM Vo ya],.int .i64 0]) (by simp[results,Tryz.results217,go_sem,aj,ac,hr2]) rfl ?_
  exact⟨_,rfl,Ag.put (w1:=wo) (Ag.mk (lb.out.mono (by have:=tt.out;omega)) (RD.out.mono (by first|omega|(simp only[World.size_drew];omega)))) (by omega) (by omega),hE⟩
 ·simp only[Bool.true_and]at i5;obtain⟨av,aP,aO,aY,aX,aW,aV⟩:=ak.out.three;obtain⟨au,aN,aM,aL,aK,aJ,aU⟩:=ai.out.three;go_wp2_with fail;clear av aP aO aY aX aW aV au aN aM aL aK aJ aU;refine(ip.out _ _ QI.out.arr.num).mono ?_
  rintro e xT ⟨x7,rfl,fI,cF⟩;have HX:=hid (HX.out.trans cF);have HW:=hid (HW.out.trans cF);have QI:=hid (QI.out.ext cF);have ak:=hid (ak.out.ext cF);have ai:=hid (ai.out.ext cF);have RN:=hid fI;obtain⟨vL,wT,uj,rfl⟩:=fI.shape;clear fI;clear cF;obtain⟨av,aP,aO,aY,aX,aW,aV⟩:=ak.out.three;obtain⟨au,aN,aM,aL,aK,aJ,aU⟩:=ai.out.three;go_wp2_with fail;clear av aP aO aY aX aW aV au aN aM aL aK aJ aU;have tt:=hid (Nat.le_trans jz.out HW.out.size);refine(i5.out _ _ RN.out.arr).mono ?_
  rintro e w15 ⟨Ze,rfl,kR,cn⟩;have HX:=hid (HX.out.trans cn);have HW:=hid (HW.out.trans cn);have QI:=hid (QI.out.ext cn);have RN:=hid (RN.out.ext cn);have ak:=hid (ak.out.ext cn);have ai:=hid (ai.out.ext cn);have RI:=hid kR;obtain⟨mm,mj,mF,lV,rfl⟩:=kR.shape;clear kR;clear cn;obtain⟨av,aP,aO,aY,aX,aW,aV⟩:=ak.out.three;obtain⟨au,aN,aM,aL,aK,aJ,aU⟩:=ai.out.three;go_upto_region 8 with fail;clear RN;have jj:=ai.out.lt;have ir:=hid HX.out.size;have oH:Hid (wo.heap.size<=w15.heap.size):=hid (Nat.le_trans jz.out HW.out.size);clear av aP aO aY aX aW aV au aN aM aL aK aJ aU;have nY:=Blk.new w15 24 #[.bool mm,.slice mF mj lV];have dg:=(Ext.refl w15).alloc (.cells #[.bool mm,.slice mF mj lV] 24);have HX:=hid (HX.out.trans dg);have HW:=hid (HW.out.trans dg);have QI:=hid (QI.out.ext dg);have RI:=hid (RI.out.ext dg);have ak:=hid (ak.out.ext dg);have ai:=hid (ai.out.ext dg);have BI:=hid nY;generalize w15.alloc (.cells #[.bool mm,.slice mF mj lV] 24)=w16 at *;generalize w15.heap.size=a15 at *;clear nY dg;obtain⟨av,aP,aO,aY,aX,aW,aV⟩:=ak.out.three;obtain⟨au,aN,aM,aL,aK,aJ,aU⟩:=ai.out.three;obtain⟨la,k7,sG,sF,sE⟩:=BI.out.two;have fC:=ir.out;have q7:=HZ.out;have u7:=oH.out;have sL:=hid (QI.out.arr.den.ext (Ext.refl w16).drew);have lb:=hid (RI.out.ext (Ext.refl w16).drew)
  go_region_held3 (fun w'=>Ext w w'/\w'.cell? ⟨w.heap.size,0,none⟩=some (Value.bool true)/\w'.cell? ⟨w.heap.size,1,none⟩=some (Value.slice ea dX dQ)/\w'.cell? ⟨w.heap.size,2,none⟩=some (Value.slice fY fS fR)/\w'.cell? ⟨a15,0,none⟩=some (Value.bool mm)/\w'.cell? ⟨a15,1,none⟩=some (Value.slice mF mj lV)/\w'.cell? ⟨w.heap.size+1,0,none⟩=some (was w' (w.heap.size+1) 0)/\w'.cell? ⟨w.heap.size+1,1,none⟩=some (was w' (w.heap.size+1) 1)/\w'.cell? ⟨w.heap.size+1,2,none⟩=some (was w' (w.heap.size+1) 2)/\w'.frozen? ⟨w.heap.size+1,0,none⟩=false/\w'.frozen? ⟨w.heap.size+1,1,none⟩=false/\w'.frozen? ⟨w.heap.size+1,2,none⟩=false)
   (first|(exact⟨HX.out.drew,av,aP,aO,la,k7,Ae (w:=w16.drew) au,Ae (w:=w16.drew) aN,Ae (w:=w16.drew) aM,aL,aK,aJ⟩)|(exact GH (by assumption) (by assumption))|(exact DM (by assumption) (by omega) (by omega) (by omega) (by omega) (by omega) (by omega)))
   (first|(go_at_call 252;refine(oz.out _ _ sL.out).mono ?_;rintro e YR ⟨Zd,rfl,nI,gU⟩;have q9:=gU.size;have lb:=hid (lb.out.ext gU);have RD:=hid nI;obtain⟨Vo,WM,ya,rfl⟩:=nI.shape))
  all_goals go_wp2_with fail
  rename_i hS;obtain⟨hE,_,_,_,_,_,ol,oj,oh,_,_,_⟩:=hS;simp only[World.size_drew]at q9;obtain⟨aj,ac,hr2⟩:=Cn ol oj oh;refine bodyPost_ret (v:= .tuple #[.agg #[.bool mm,.slice mF mj lV,.slice WM Vo ya],.int .i64 0]) (by simp[results,Tryz.results217,go_sem,aj,ac,hr2]) rfl ?_
  exact⟨_,rfl,Ag.put (w1:=wo) (Ag.mk (lb.out.mono (by have:=tt.out;omega)) (RD.out.mono (by first|omega|(simp only[World.size_drew];omega)))) (by omega) (by omega),hE⟩
theorem Kk(w:World)(v0:Value)(p:Int)(q:Nat)(h0:Ao w v0 p q)(n0:(Ac p.natAbs).length<=1000000)(m0:(Ac q).length<=1000000)(n:Nat)(hn:n<=64):
  Calls Tryz.prog 147 #[v0,.int .i64 (n:Int)] w fun e w'=>∃v',e= .returned (.tuple #[v',.int .i64 0])/\Ag w.heap.size w' v' (p ^ n) (q ^ n)/\Ext w w':=by
 have H0:=hid h0;have gM:¬(n:Int)< -64:=by omega
 have mc:¬64<(n:Int):=by omega
 have tT:¬(n:Int)<0:=by omega
 have ip:=hid (fun W m a=>I8 W m (Ac p.natAbs) n a n0 hn);have oz:=hid (fun W m a=>I8 W m (Ac q) n a m0 hn);rw[Ad]at ip oz;have oZ:=La p n;have i5:=hid (fun W m a=>BL W (decide (p<0) && decide (n % 2=1)) m (Ac (p.natAbs ^ n)) a (by have:=Bt n0 hn;omega));rw[Ad,oZ]at i5;obtain⟨r,hr⟩:∃r,n % 2=r:=⟨_,rfl⟩;have ac:(n:Int) % 2=(r:Int):=by omega
 have hr2:Int.tmod (n:Int) 2=(r:Int):=by rw[Int.tmod_eq_emod_of_nonneg (by omega)];omega
 have bg:((r:Int) == 1)=decide (n % 2=1):=by rw[hr,Bool.eq_iff_iff,beq_iff_eq,decide_eq_true_iff];omega
 generalize decide (n % 2=1)=d at *;obtain⟨b0,l0,A0,c0,k0,D0,e0,rfl⟩:=h0.shape;have ck:=h0.sign;rw[<-ck]at i5;have eZ:=hid h0.num;have lw:=hid h0.den;clear h0 ck hr oZ n0 m0;cases b0
 ·simp only[Bool.false_and]at i5;go_enter Tryz.func147,Tryz.ntmps147;go_upto_region 8 with fail;have hb0:=((Blk.new w 26 #[.bool false,.slice A0 l0 c0,.slice D0 k0 e0]).alloc (.cells #[.bool false,.slice none 0 0,.slice none 0 0] 26));have al:=(Blk.new (w.alloc (.cells #[.bool false,.slice A0 l0 c0,.slice D0 k0 e0] 26)) 26 #[.bool false,.slice none 0 0,.slice none 0 0]);have aq:=(((Ext.refl w).alloc (.cells #[.bool false,.slice A0 l0 c0,.slice D0 k0 e0] 26)).alloc (.cells #[.bool false,.slice none 0 0,.slice none 0 0] 26));have am:w.heap.size+1+1=((w.alloc (.cells #[.bool false,.slice A0 l0 c0,.slice D0 k0 e0] 26)).alloc (.cells #[.bool false,.slice none 0 0,.slice none 0 0] 26)).heap.size:=by simp
  simp only[World.size_alloc]at al;generalize (w.alloc (.cells #[.bool false,.slice A0 l0 c0,.slice D0 k0 e0] 26)).alloc (.cells #[.bool false,.slice none 0 0,.slice none 0 0] 26)=wo at *;have ak:=hid hb0;have ai:=hid al;have HX:=hid aq;have HZ:Hid (w.heap.size+1+1<=wo.heap.size):=hid (by omega);clear aq am hb0 al;obtain⟨av,aP,aO,aY,aX,aW,aV⟩:=ak.out.three;obtain⟨au,aN,aM,aL,aK,aJ,aU⟩:=ai.out.three;have HE0:=hid (Ext.refl wo).drew;have q7:=HZ.out;have Wx:=hid (Ext.refl wo).drew;refine wp_region_held_drew (S:=fun w'=>Ext w w'/\w'.cell? ⟨w.heap.size,0,none⟩=some (Value.bool false)/\w'.cell? ⟨w.heap.size,1,none⟩=some (Value.slice A0 l0 c0)/\w'.cell? ⟨w.heap.size,2,none⟩=some (Value.slice D0 k0 e0)/\w'.cell? ⟨w.heap.size+1,0,none⟩=some (was w' (w.heap.size+1) 0)/\w'.cell? ⟨w.heap.size+1,1,none⟩=some (was w' (w.heap.size+1) 1)/\w'.cell? ⟨w.heap.size+1,2,none⟩=some (was w' (w.heap.size+1) 2)/\w'.frozen? ⟨w.heap.size+1,0,none⟩=false/\w'.frozen? ⟨w.heap.size+1,1,none⟩=false/\w'.frozen? ⟨w.heap.size+1,2,none⟩=false) (by kernel_rfl) (by exact⟨HX.out.drew,av,aP,aO,Ae (w:=wo.drew) au,Ae (w:=wo.drew) aN,Ae (w:=wo.drew) aM,aL,aK,aJ⟩) (fun hHeld=> ?_);refine' wpAnyH_take (i:=0) (v:=_) rfl (by kernel_rfl) (by kernel_rfl) (by kernel_rfl) (fun _ _ _ h=>h) (Or.inl ⟨by rfl,?_⟩) hHeld ?_
  rotate_left
  ·(intro w' a9;(try dsimp only at a9);go_simp;(try with_reducible rfl))
  try simp only[Act.put,List.setIfInBounds_toArray,List.set_cons_zero,List.set_cons_succ]
  refine' wpAnyH_take (i:=1) (v:=_) rfl (by kernel_rfl) (by kernel_rfl) (by kernel_rfl) (fun _ _ _ h=>h) (Or.inl ⟨by rfl,?_⟩) hHeld ?_
  rotate_left
  ·(intro w' a9;(try dsimp only at a9);go_simp;(try with_reducible rfl))
  try simp only[Act.put,List.setIfInBounds_toArray,List.set_cons_zero,List.set_cons_succ]
  refine' wpAnyH_take (i:=2) (v:=_) rfl (by kernel_rfl) (by kernel_rfl) (by kernel_rfl) (fun _ _ _ h=>h) (Or.inl ⟨by rfl,?_⟩) hHeld ?_
  rotate_left
  ·(intro w' a9;(try dsimp only at a9);go_simp;(try with_reducible rfl))
  try simp only[Act.put,List.setIfInBounds_toArray,List.set_cons_zero,List.set_cons_succ]
  refine' wpAnyH_take (i:=3) (v:=_) rfl (by kernel_rfl) (by kernel_rfl) (by kernel_rfl) (fun _ _ _ h=>h) (Or.inl ⟨by rfl,?_⟩) hHeld ?_
  rotate_left
  ·(intro w' a9;(try dsimp only at a9);go_simp;(try with_reducible rfl))
  try simp only[Act.put,List.setIfInBounds_toArray,List.set_cons_zero,List.set_cons_succ]
  refine wpAnyH_take (i:=4) (v:=undef) rfl (by kernel_rfl) (by kernel_rfl) (by kernel_rfl) (fun _ _ _ h=>h) (Or.inr ⟨by rfl,rfl⟩) hHeld ?_
  try simp only[Act.put,List.setIfInBounds_toArray,List.set_cons_zero,List.set_cons_succ]
  refine wpAnyH_take (i:=5) (v:=undef) rfl (by kernel_rfl) (by kernel_rfl) (by kernel_rfl) (fun _ _ _ h=>h) (Or.inr ⟨by rfl,rfl⟩) hHeld ?_
  try simp only[Act.put,List.setIfInBounds_toArray,List.set_cons_zero,List.set_cons_succ]
  refine wpAnyH_take (i:=6) (v:=undef) rfl (by kernel_rfl) (by kernel_rfl) (by kernel_rfl) (fun _ _ _ h=>h) (Or.inr ⟨by rfl,rfl⟩) hHeld ?_
  try simp only[Act.put,List.setIfInBounds_toArray,List.set_cons_zero,List.set_cons_succ]
  refine' wpAnyH_take (i:=7) (v:=_) rfl (by kernel_rfl) (by kernel_rfl) (by kernel_rfl) (fun _ _ _ h=>h) (Or.inl ⟨by rfl,?_⟩) hHeld ?_
  rotate_left
  ·(intro w' a9;(try dsimp only at a9);go_simp;(try with_reducible rfl))
  try simp only[Act.put,List.setIfInBounds_toArray,List.set_cons_zero,List.set_cons_succ]
  refine' wpAnyH_take (i:=8) (v:=_) rfl (by kernel_rfl) (by kernel_rfl) (by kernel_rfl) (fun _ _ _ h=>h) (Or.inl ⟨by rfl,?_⟩) hHeld ?_
  rotate_left
  ·(intro w' a9;(try dsimp only at a9);go_simp;(try with_reducible rfl))
  try simp only[Act.put,List.setIfInBounds_toArray,List.set_cons_zero,List.set_cons_succ]
  refine' wpAnyH_take (i:=9) (v:=_) rfl (by kernel_rfl) (by kernel_rfl) (by kernel_rfl) (fun _ _ _ h=>h) (Or.inl ⟨by rfl,?_⟩) hHeld ?_
  rotate_left
  ·(intro w' a9;(try dsimp only at a9);go_simp;(try with_reducible rfl))
  try simp only[Act.put,List.setIfInBounds_toArray,List.set_cons_zero,List.set_cons_succ]
  refine' wpAnyH_take (i:=10) (v:=_) rfl (by kernel_rfl) (by kernel_rfl) (by kernel_rfl) (fun _ _ _ h=>h) (Or.inl ⟨by rfl,?_⟩) hHeld ?_
  rotate_left
  ·(intro w' a9;(try dsimp only at a9);go_simp;(try with_reducible rfl))
  try simp only[Act.put,List.setIfInBounds_toArray,List.set_cons_zero,List.set_cons_succ]
  refine' wpAnyH_take (i:=11) (v:=_) rfl (by kernel_rfl) (by kernel_rfl) (by kernel_rfl) (fun _ _ _ h=>h) (Or.inl ⟨by rfl,?_⟩) hHeld ?_
  rotate_left
  ·(intro w' a9;(try dsimp only at a9);go_simp;(try with_reducible rfl))
  try simp only[Act.put,List.setIfInBounds_toArray,List.set_cons_zero,List.set_cons_succ]
  refine' wpAnyH_take (i:=14) (v:=_) rfl (by kernel_rfl) (by kernel_rfl) (by kernel_rfl) (fun _ _ _ h=>h) (Or.inl ⟨by rfl,?_⟩) hHeld ?_
  rotate_left
  ·(intro w' a9;(try dsimp only at a9);go_simp;(try with_reducible rfl))
  try simp only[Act.put,List.setIfInBounds_toArray,List.set_cons_zero,List.set_cons_succ]
  refine' wpAnyH_take (i:=15) (v:=_) rfl (by kernel_rfl) (by kernel_rfl) (by kernel_rfl) (fun _ _ _ h=>h) (Or.inl ⟨by rfl,?_⟩) hHeld ?_
  rotate_left
  ·(intro w' a9;(try dsimp only at a9);go_simp;(try with_reducible rfl))
  try simp only[Act.put,List.setIfInBounds_toArray,List.set_cons_zero,List.set_cons_succ]
  refine' wpAnyH_take (i:=16) (v:=_) rfl (by kernel_rfl) (by kernel_rfl) (by kernel_rfl) (fun _ _ _ h=>h) (Or.inl ⟨by rfl,?_⟩) hHeld ?_
  rotate_left
  ·(intro w' a9;(try dsimp only at a9);go_simp;(try with_reducible rfl))
  try simp only[Act.put,List.setIfInBounds_toArray,List.set_cons_zero,List.set_cons_succ]
  refine wpAnyH_ready (rs:=[12]) (by kernel_rfl) (by simp) ?_
  refine AllReadyH.cons (i:=12) rfl (fun K hK=> ?_) AllReadyH.nil;go_simp
  (go_at_call 193;refine(ip.out _ _ (eZ.out.ext hHeld.1)).mono ?_;rintro e w7 ⟨r7,rfl,kB,bx⟩;have R7:=hid kB;have gQ:Hid (Ext wo w7):=hid (Wx.out.trans bx);obtain⟨g7,G7,j7,rfl⟩:=kB.shape)
  try go_wp2_with fail
  refine hK.out _ _ ?_ (fun hHeld=> ?_)
  ·(first|(exact hHeld)|(exact BX hHeld (by assumption))|(exact AZ hHeld (by omega) (by omega) (by omega) (by omega)))
  clear hK K;try simp only[Act.put,List.setIfInBounds_toArray,List.set_cons_zero,List.set_cons_succ]
  refine wpAnyH_ready (rs:=[13]) (by kernel_rfl) (by simp) ?_
  refine AllReadyH.cons (i:=13) rfl (fun K hK=> ?_) AllReadyH.nil;go_simp
  (go_at_call 64;refine(i5.out _ _ R7.out.arr).mono ?_;rintro e w8 ⟨r8,rfl,dU,bD⟩;have R8:=hid dU;have eJ:Hid (Ext wo w8):=hid (gQ.out.trans bD);obtain⟨f8,g8,G8,j8,rfl⟩:=dU.shape)
  try go_wp2_with fail
  refine hK.out _ _ ?_ (fun hHeld=> ?_)
  ·(first|(exact hHeld)|(exact BX hHeld (by assumption))|(exact AZ hHeld (by omega) (by omega) (by omega) (by omega)))
  clear hK K;try simp only[Act.put,List.setIfInBounds_toArray,List.set_cons_zero,List.set_cons_succ]
  refine wpAnyH_ready (rs:=[17]) (by kernel_rfl) (by simp) ?_
  refine AllReadyH.cons (i:=17) rfl (fun K hK=> ?_) AllReadyH.nil;go_simp
  (go_at_call 193;refine(oz.out _ _ (lw.out.ext hHeld.1)).mono ?_;rintro e w9 ⟨r9,rfl,iL,dn⟩;have R9:=hid iL;have R8:=hid (R8.out.ext dn);have jd:Hid (Ext wo w9):=hid (eJ.out.trans dn);obtain⟨g9,G9,j9,rfl⟩:=iL.shape)
  try go_wp2_with fail
  refine hK.out _ _ ?_ (fun hHeld=> ?_)
  ·(first|(exact hHeld)|(exact BX hHeld (by assumption))|(exact AZ hHeld (by omega) (by omega) (by omega) (by omega)))
  clear hK K;try simp only[Act.put,List.setIfInBounds_toArray,List.set_cons_zero,List.set_cons_succ]
  refine' wpAnyH_take (i:=18) (v:=_) rfl (by kernel_rfl) (by kernel_rfl) (by kernel_rfl) (fun _ _ _ h=>h) (Or.inl ⟨by rfl,?_⟩) hHeld ?_
  rotate_left
  ·(intro w' a9;(try dsimp only at a9);go_simp;(try with_reducible rfl))
  try simp only[Act.put,List.setIfInBounds_toArray,List.set_cons_zero,List.set_cons_succ]
  refine wpAnyH_ready (rs:=[19]) (by kernel_rfl) (by simp) ?_
  refine AllReadyH.cons (i:=19) rfl (fun K hK=> ?_) AllReadyH.nil;go_simp;try go_wp2_with fail
  refine hK.out _ _ ?_ (fun hHeld=> ?_)
  ·(first|(exact hHeld)|(exact BX hHeld (by assumption))|(exact AZ hHeld (by omega) (by omega) (by omega) (by omega)))
  clear hK K;try simp only[Act.put,List.setIfInBounds_toArray,List.set_cons_zero,List.set_cons_succ]
  refine wpAnyH_ready (rs:=[20]) (by kernel_rfl) (by simp) ?_
  refine AllReadyH.cons (i:=20) rfl (fun K hK=> ?_) AllReadyH.nil;go_simp;try go_wp2_with fail
  refine hK.out _ _ ?_ (fun hHeld=> ?_)
  ·(first|(exact hHeld)|(exact BX hHeld (by assumption))|(exact AZ hHeld (by omega) (by omega) (by omega) (by omega)))
  clear hK K;try simp only[Act.put,List.setIfInBounds_toArray,List.set_cons_zero,List.set_cons_succ]
  refine wpAnyH_done (by kernel_rfl) ?_ _
  go_wp2_with fail;obtain⟨hE,_,_,_,ol,oj,oh,_,_,_⟩:=hHeld;obtain⟨aj,ac,hr2⟩:=Cn ol oj oh;refine bodyPost_ret (v:= .tuple #[.agg #[.bool f8,.slice G8 g8 j8,.slice G9 g9 j9],.int .i64 0]) (by simp[results,Tryz.results147,go_sem,aj,ac,hr2]) rfl ?_
  exact⟨_,rfl,Ag.put (w1:=wo) (Ag.mk (R8.out.mono (by have:=gQ.out.size;omega)) (R9.out.mono (by have:=eJ.out.size;omega))) (by omega) (by omega),hE⟩
 ·simp only[Bool.true_and]at i5;go_enter Tryz.func147,Tryz.ntmps147;go_upto_region 8 with fail;have hb0:=((Blk.new w 26 #[.bool true,.slice A0 l0 c0,.slice D0 k0 e0]).alloc (.cells #[.bool false,.slice none 0 0,.slice none 0 0] 26));have al:=(Blk.new (w.alloc (.cells #[.bool true,.slice A0 l0 c0,.slice D0 k0 e0] 26)) 26 #[.bool false,.slice none 0 0,.slice none 0 0]);have aq:=(((Ext.refl w).alloc (.cells #[.bool true,.slice A0 l0 c0,.slice D0 k0 e0] 26)).alloc (.cells #[.bool false,.slice none 0 0,.slice none 0 0] 26));have am:w.heap.size+1+1=((w.alloc (.cells #[.bool true,.slice A0 l0 c0,.slice D0 k0 e0] 26)).alloc (.cells #[.bool false,.slice none 0 0,.slice none 0 0] 26)).heap.size:=by simp
  simp only[World.size_alloc]at al;generalize (w.alloc (.cells #[.bool true,.slice A0 l0 c0,.slice D0 k0 e0] 26)).alloc (.cells #[.bool false,.slice none 0 0,.slice none 0 0] 26)=wo at *;have ak:=hid hb0;have ai:=hid al;have HX:=hid aq;have HZ:Hid (w.heap.size+1+1<=wo.heap.size):=hid (by omega);clear aq am hb0 al;obtain⟨av,aP,aO,aY,aX,aW,aV⟩:=ak.out.three;obtain⟨au,aN,aM,aL,aK,aJ,aU⟩:=ai.out.three;have HE0:=hid (Ext.refl wo).drew;have q7:=HZ.out;have Wx:=hid (Ext.refl wo).drew;refine wp_region_held_drew (S:=fun w'=>Ext w w'/\w'.cell? ⟨w.heap.size,0,none⟩=some (Value.bool true)/\w'.cell? ⟨w.heap.size,1,none⟩=some (Value.slice A0 l0 c0)/\w'.cell? ⟨w.heap.size,2,none⟩=some (Value.slice D0 k0 e0)/\w'.cell? ⟨w.heap.size+1,0,none⟩=some (was w' (w.heap.size+1) 0)/\w'.cell? ⟨w.heap.size+1,1,none⟩=some (was w' (w.heap.size+1) 1)/\w'.cell? ⟨w.heap.size+1,2,none⟩=some (was w' (w.heap.size+1) 2)/\w'.frozen? ⟨w.heap.size+1,0,none⟩=false/\w'.frozen? ⟨w.heap.size+1,1,none⟩=false/\w'.frozen? ⟨w.heap.size+1,2,none⟩=false) (by kernel_rfl) (by exact⟨HX.out.drew,av,aP,aO,Ae (w:=wo.drew) au,Ae (w:=wo.drew) aN,Ae (w:=wo.drew) aM,aL,aK,aJ⟩) (fun hHeld=> ?_);refine' wpAnyH_take (i:=0) (v:=_) rfl (by kernel_rfl) (by kernel_rfl) (by kernel_rfl) (fun _ _ _ h=>h) (Or.inl ⟨by rfl,?_⟩) hHeld ?_
  rotate_left
  ·(intro w' a9;(try dsimp only at a9);go_simp;(try with_reducible rfl))
  try simp only[Act.put,List.setIfInBounds_toArray,List.set_cons_zero,List.set_cons_succ]
  refine' wpAnyH_take (i:=1) (v:=_) rfl (by kernel_rfl) (by kernel_rfl) (by kernel_rfl) (fun _ _ _ h=>h) (Or.inl ⟨by rfl,?_⟩) hHeld ?_
  rotate_left
  ·(intro w' a9;(try dsimp only at a9);go_simp;(try with_reducible rfl))
  try simp only[Act.put,List.setIfInBounds_toArray,List.set_cons_zero,List.set_cons_succ]
  refine' wpAnyH_take (i:=2) (v:=_) rfl (by kernel_rfl) (by kernel_rfl) (by kernel_rfl) (fun _ _ _ h=>h) (Or.inl ⟨by rfl,?_⟩) hHeld ?_
  rotate_left
  ·(intro w' a9;(try dsimp only at a9);go_simp;(try with_reducible rfl))
  try simp only[Act.put,List.setIfInBounds_toArray,List.set_cons_zero,List.set_cons_succ]
  refine' wpAnyH_take (i:=3) (v:=_) rfl (by kernel_rfl) (by kernel_rfl) (by kernel_rfl) (fun _ _ _ h=>h) (Or.inl ⟨by rfl,?_⟩) hHeld ?_
  rotate_left
  ·(intro w' a9;(try dsimp only at a9);go_simp;(try with_reducible rfl))
  try simp only[Act.put,List.setIfInBounds_toArray,List.set_cons_zero,List.set_cons_succ]
  refine' wpAnyH_take (i:=4) (v:=_) rfl (by kernel_rfl) (by kernel_rfl) (by kernel_rfl) (fun _ _ _ h=>h) (Or.inl ⟨by rfl,?_⟩) hHeld ?_
  rotate_left
  ·(intro w' a9;(try dsimp only at a9);go_simp;(try with_reducible rfl))
  try simp only[Act.put,List.setIfInBounds_toArray,List.set_cons_zero,List.set_cons_succ]
  refine' wpAnyH_take (i:=5) (v:=_) rfl (by kernel_rfl) (by kernel_rfl) (by kernel_rfl) (fun _ _ _ h=>h) (Or.inl ⟨by rfl,?_⟩) hHeld ?_
  rotate_left
  ·(intro w' a9;(try dsimp only at a9);go_simp;(try with_reducible rfl))
  try simp only[Act.put,List.setIfInBounds_toArray,List.set_cons_zero,List.set_cons_succ]
  refine' wpAnyH_take (i:=6) (v:=_) rfl (by kernel_rfl) (by kernel_rfl) (by kernel_rfl) (fun _ _ _ h=>h) (Or.inl ⟨by rfl,?_⟩) hHeld ?_
  rotate_left
  ·(intro w' a9;(try dsimp only at a9);go_simp;(try with_reducible rfl))
  try simp only[Act.put,List.setIfInBounds_toArray,List.set_cons_zero,List.set_cons_succ]
  refine' wpAnyH_take (i:=7) (v:=_) rfl (by kernel_rfl) (by kernel_rfl) (by kernel_rfl) (fun _ _ _ h=>h) (Or.inl ⟨by rfl,?_⟩) hHeld ?_
  rotate_left
  ·(intro w' a9;(try dsimp only at a9);go_simp;(try with_reducible rfl))
  try simp only[Act.put,List.setIfInBounds_toArray,List.set_cons_zero,List.set_cons_succ]
  refine' wpAnyH_take (i:=8) (v:=_) rfl (by kernel_rfl) (by kernel_rfl) (by kernel_rfl) (fun _ _ _ h=>h) (Or.inl ⟨by rfl,?_⟩) hHeld ?_
  rotate_left
  ·(intro w' a9;(try dsimp only at a9);go_simp;(try with_reducible rfl))
  try simp only[Act.put,List.setIfInBounds_toArray,List.set_cons_zero,List.set_cons_succ]
  refine' wpAnyH_take (i:=9) (v:=_) rfl (by kernel_rfl) (by kernel_rfl) (by kernel_rfl) (fun _ _ _ h=>h) (Or.inl ⟨by rfl,?_⟩) hHeld ?_
  rotate_left
  ·(intro w' a9;(try dsimp only at a9);go_simp;(try with_reducible rfl))
  try simp only[Act.put,List.setIfInBounds_toArray,List.set_cons_zero,List.set_cons_succ]
  refine' wpAnyH_take (i:=10) (v:=_) rfl (by kernel_rfl) (by kernel_rfl) (by kernel_rfl) (fun _ _ _ h=>h) (Or.inl ⟨by rfl,?_⟩) hHeld ?_
  rotate_left
  ·(intro w' a9;(try dsimp only at a9);go_simp;(try with_reducible rfl))
  try simp only[Act.put,List.setIfInBounds_toArray,List.set_cons_zero,List.set_cons_succ]
  refine' wpAnyH_take (i:=11) (v:=_) rfl (by kernel_rfl) (by kernel_rfl) (by kernel_rfl) (fun _ _ _ h=>h) (Or.inl ⟨by rfl,?_⟩) hHeld ?_
  rotate_left
  ·(intro w' a9;(try dsimp only at a9);go_simp;(try with_reducible rfl))
  try simp only[Act.put,List.setIfInBounds_toArray,List.set_cons_zero,List.set_cons_succ]
  refine' wpAnyH_take (i:=14) (v:=_) rfl (by kernel_rfl) (by kernel_rfl) (by kernel_rfl) (fun _ _ _ h=>h) (Or.inl ⟨by rfl,?_⟩) hHeld ?_
  rotate_left
  ·(intro w' a9;(try dsimp only at a9);go_simp;(try with_reducible rfl))
  try simp only[Act.put,List.setIfInBounds_toArray,List.set_cons_zero,List.set_cons_succ]
  refine' wpAnyH_take (i:=15) (v:=_) rfl (by kernel_rfl) (by kernel_rfl) (by kernel_rfl) (fun _ _ _ h=>h) (Or.inl ⟨by rfl,?_⟩) hHeld ?_
  rotate_left
  ·(intro w' a9;(try dsimp only at a9);go_simp;(try with_reducible rfl))
  try simp only[Act.put,List.setIfInBounds_toArray,List.set_cons_zero,List.set_cons_succ]
  refine' wpAnyH_take (i:=16) (v:=_) rfl (by kernel_rfl) (by kernel_rfl) (by kernel_rfl) (fun _ _ _ h=>h) (Or.inl ⟨by rfl,?_⟩) hHeld ?_
  rotate_left
  ·(intro w' a9;(try dsimp only at a9);go_simp;(try with_reducible rfl))
  try simp only[Act.put,List.setIfInBounds_toArray,List.set_cons_zero,List.set_cons_succ]
  refine wpAnyH_ready (rs:=[12]) (by kernel_rfl) (by simp) ?_
  refine AllReadyH.cons (i:=12) rfl (fun K hK=> ?_) AllReadyH.nil;go_simp
  (go_at_call 193;refine(ip.out _ _ (eZ.out.ext hHeld.1)).mono ?_;rintro e w7 ⟨r7,rfl,kB,bx⟩;have R7:=hid kB;have gQ:Hid (Ext wo w7):=hid (Wx.out.trans bx);obtain⟨g7,G7,j7,rfl⟩:=kB.shape)
  try go_wp2_with fail
  refine hK.out _ _ ?_ (fun hHeld=> ?_)
  ·(first|(exact hHeld)|(exact BX hHeld (by assumption))|(exact AZ hHeld (by omega) (by omega) (by omega) (by omega)))
  clear hK K;try simp only[Act.put,List.setIfInBounds_toArray,List.set_cons_zero,List.set_cons_succ]
  refine wpAnyH_ready (rs:=[13]) (by kernel_rfl) (by simp) ?_
  refine AllReadyH.cons (i:=13) rfl (fun K hK=> ?_) AllReadyH.nil;go_simp
  (go_at_call 64;refine(i5.out _ _ R7.out.arr).mono ?_;rintro e w8 ⟨r8,rfl,dU,bD⟩;have R8:=hid dU;have eJ:Hid (Ext wo w8):=hid (gQ.out.trans bD);obtain⟨f8,g8,G8,j8,rfl⟩:=dU.shape)
  try go_wp2_with fail
  refine hK.out _ _ ?_ (fun hHeld=> ?_)
  ·(first|(exact hHeld)|(exact BX hHeld (by assumption))|(exact AZ hHeld (by omega) (by omega) (by omega) (by omega)))
  clear hK K;try simp only[Act.put,List.setIfInBounds_toArray,List.set_cons_zero,List.set_cons_succ]
  refine wpAnyH_ready (rs:=[17]) (by kernel_rfl) (by simp) ?_
  refine AllReadyH.cons (i:=17) rfl (fun K hK=> ?_) AllReadyH.nil;go_simp
  (go_at_call 193;refine(oz.out _ _ (lw.out.ext hHeld.1)).mono ?_;rintro e w9 ⟨r9,rfl,iL,dn⟩;have R9:=hid iL;have R8:=hid (R8.out.ext dn);have jd:Hid (Ext wo w9):=hid (eJ.out.trans dn);obtain⟨g9,G9,j9,rfl⟩:=iL.shape)
  try go_wp2_with fail
  refine hK.out _ _ ?_ (fun hHeld=> ?_)
  ·(first|(exact hHeld)|(exact BX hHeld (by assumption))|(exact AZ hHeld (by omega) (by omega) (by omega) (by omega)))
  clear hK K;try simp only[Act.put,List.setIfInBounds_toArray,List.set_cons_zero,List.set_cons_succ]
  refine' wpAnyH_take (i:=18) (v:=_) rfl (by kernel_rfl) (by kernel_rfl) (by kernel_rfl) (fun _ _ _ h=>h) (Or.inl ⟨by rfl,?_⟩) hHeld ?_
  rotate_left
  ·(intro w' a9;(try dsimp only at a9);go_simp;(try with_reducible rfl))
  try simp only[Act.put,List.setIfInBounds_toArray,List.set_cons_zero,List.set_cons_succ]
  refine wpAnyH_ready (rs:=[19]) (by kernel_rfl) (by simp) ?_
  refine AllReadyH.cons (i:=19) rfl (fun K hK=> ?_) AllReadyH.nil;go_simp;try go_wp2_with fail
  refine hK.out _ _ ?_ (fun hHeld=> ?_)
  ·(first|(exact hHeld)|(exact BX hHeld (by assumption))|(exact AZ hHeld (by omega) (by omega) (by omega) (by omega)))
  clear hK K;try simp only[Act.put,List.setIfInBounds_toArray,List.set_cons_zero,List.set_cons_succ]
  refine wpAnyH_ready (rs:=[20]) (by kernel_rfl) (by simp) ?_
  refine AllReadyH.cons (i:=20) rfl (fun K hK=> ?_) AllReadyH.nil;go_simp;try go_wp2_with fail
  refine hK.out _ _ ?_ (fun hHeld=> ?_)
  ·(first|(exact hHeld)|(exact BX hHeld (by assumption))|(exact AZ hHeld (by omega) (by omega) (by omega) (by omega)))
  clear hK K;try simp only[Act.put,List.setIfInBounds_toArray,List.set_cons_zero,List.set_cons_succ]
  refine wpAnyH_done (by kernel_rfl) ?_ _
  go_wp2_with fail;obtain⟨hE,_,_,_,ol,oj,oh,_,_,_⟩:=hHeld;obtain⟨aj,ac,hr2⟩:=Cn ol oj oh;refine bodyPost_ret (v:= .tuple #[.agg #[.bool f8,.slice G8 g8 j8,.slice G9 g9 j9],.int .i64 0]) (by simp[results,Tryz.results147,go_sem,aj,ac,hr2]) rfl ?_
  exact⟨_,rfl,Ag.put (w1:=wo) (Ag.mk (R8.out.mono (by have:=gQ.out.size;omega)) (R9.out.mono (by have:=eJ.out.size;omega))) (by omega) (by omega),hE⟩
end Big
end Go.Proofs.YtkoaogkknnelaaaGreatDoor
