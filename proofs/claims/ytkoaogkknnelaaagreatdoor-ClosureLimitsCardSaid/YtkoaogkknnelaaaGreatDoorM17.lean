import Derived.Shelf.Strings.SlTrimAscii
import Derived.Lib.ItoaNum
import Derived.Test.YtkoaogkknnelaaaGreatDoorM14
set_option linter.unusedVariables false
set_option linter.unusedSimpArgs false
set_option maxRecDepth 100000
namespace Go.Proofs.YtkoaogkknnelaaaGreatDoor
namespace Big
open Lib renaming hid → J
open Go.RowKit
def BC(w:World):Prop:=∃m:Int,w.cell? ⟨0,0,none⟩=some (.int .i64 m)
theorem BC.ext{w w':World}(h:BC w)(hx:Ext w w'):BC w':=by
 obtain⟨m,h⟩:=h;exact⟨m,hx.keep h⟩
theorem CB{w:World}(h:w.ShapedOpen Tryz.prog):BC w:=Tryz.laysM145.s1_3 w h
theorem SZ(w:World)(l:List UInt8)(hl:l.length<=1073741824)(hm:BC w):
  Calls Tryz.prog 207 #[str l,.string ⟨#[46]⟩] w fun e w'=>e= .returned (.tuple #[str (whole l),str (Ba l),.bool (AD l)])/\Ext w w':=by
 obtain⟨m,hm⟩:=hm;have h:=Any.strings_Cut { Tryz.laysM145 with } ⟨l.toArray⟩ ⟨#[46]⟩ m w (by rw[Cc];omega) hm;have e:=SY l;have e1:Lib.cut (⟨l.toArray⟩:ByteArray).data.toList (⟨#[46]⟩:ByteArray).data.toList=(whole l,Ba l,AD l):=e;rw[e1]at h;refine h.mono ?_
 rintro e w' ⟨rfl,n,rfl⟩;exact⟨rfl,(Ext.refl w).drewN n⟩
theorem Pm(w:World)(l:List UInt8):
  Calls Tryz.prog 208 #[str l,.string ⟨#[48]⟩] w fun e w'=>e= .returned (str (l.dropWhile (· == 48)))/\w=w':=by
 refine(Tryz.strings_TrimLeft_one ⟨l.toArray⟩ 48 (by decide) w).mono ?_
 rintro e w' ⟨rfl,rfl⟩;exact⟨rfl,rfl⟩
theorem Po(w:World)(l:List UInt8)(hl:l.length<=1073741824)(h:l.all Bq=true):
  Calls Tryz.prog 210 #[str l,.string ⟨#[48,49,50,51,52,53,54,55,56,57]⟩] w fun e w'=>e= .returned (str [])/\Ext w w':=by
 refine(Any.strings_Trim_laid Tryz.lays160 (by kernel_rfl) ⟨l.toArray⟩ ⟨#[48,49,50,51,52,53,54,55,56,57]⟩ w (by rw[Cc];omega) (by decide) (ascii_of_all (by decide))).mono ?_
 rintro e w' ⟨rfl,hb⟩;have e1:Lib.trimS (⟨l.toArray⟩:ByteArray).data.toList (⟨#[48,49,50,51,52,53,54,55,56,57]⟩:ByteArray).data.toList=[]:=Pn l h;rw[e1];exact⟨rfl,hb⟩
def Hj(n:Nat):Nat:=if n=0 then 0 else n.log2+1
theorem J2{n:Nat}:Hj n=0↔n=0:=by
 unfold Hj;split
 ·simp[*]
 ·simp[*]
theorem R5{n b:Nat}(h1:2 ^ b<=n)(h2:n<2 ^ (b+1)):Hj n=b+1:=by
 have h0:n≠0:=by
  have:0<2 ^ b:=Nat.pow_pos (by omega);omega
 unfold Hj;rw[if_neg h0];have h3:=(Nat.le_log2 h0).2 h1;have h4:=(Nat.log2_lt h0).2 h2;omega
theorem M9{xs:List Nat}{n:Nat}(av:Ok xs)(ZE:n+1<=xs.length)(hz:val (xs.drop (n+1))=0)(ht:xs.getD n 0≠0):32*n+Lib.bitLen (xs.getD n 0)=Hj (val xs):=by
 have hx:=av.get n;obtain⟨b1,b2,b3⟩:=Lib.bitLenAux_bounds 64 (xs.getD n 0) (by omega) ht;have h1:=BF xs (n+1);rw[hz,Nat.mul_zero,Nat.add_zero,Ca]at h1;have h2:=BT av n;obtain⟨c,hc⟩:∃c,Lib.bitLenAux 64 (xs.getD n 0)=c+1:=⟨Lib.bitLenAux 64 (xs.getD n 0)-1,by omega⟩;unfold Lib.bitLen;rw[hc]at b2 b3 ⊢;rw[Nat.add_sub_cancel]at b2;generalize xs.getD n 0=y at *;rw[h1];refine(R5 (b:=32*n+c) ?_ ?_).symm
 ·rw[Nat.pow_add,Nat.pow_mul];exact Nat.le_trans (Nat.mul_le_mul_left _ b2) (Nat.le_add_left _ _)
 ·rw[Nat.add_assoc,Nat.pow_add,Nat.pow_mul,show (2:Nat) ^ 32=4294967296 from rfl];have h3:=Nat.mul_le_mul_left (4294967296 ^ n) (show y+1<=2 ^ (c+1) from b3);rw[Nat.mul_add,Nat.mul_one]at h3;omega
theorem R4(w:World)(v:Value)(xs:List Nat)(h:Arr w v xs)(hn:xs.length<=134217728):
  Calls Tryz.prog 135 #[v] w fun e w'=>e= .returned (.int .i64 (Hj (val xs):Nat))/\w=w':=by
 have HS:=J (Er w v xs h);have hle:=size_le xs;have no:=EN h.ok;obtain⟨av,A,c,rfl,hc,hm,ac⟩:=h.open;rcases Nat.eq_zero_or_pos (size xs) with h0|h0
 ·have HZ:=J (J2.2 (Ht h0));rw[HZ.o];rw[h0]at HS;clear hm ac h0 hle hc;go_enter Tryz.func135,Tryz.ntmps135;go_wp2_with fail;refine HS.o.mono ?_
  rintro e w' ⟨rfl,rfl⟩;go_wp2_with fail;go_ret;exact⟨rfl,rfl⟩
 ·obtain⟨n,dT⟩:∃n,size xs=n+1:=⟨size xs-1,by omega⟩;rw[dT]at HS hle no;have ht:xs.getD n 0≠0:=by
   intro e;have h1:=BF xs n;rw[Bo,e,no]at h1;simp only[Nat.mul_zero,Nat.add_zero]at h1;have h2:=Bg (n:=val xs) (k:=n) (by rw[h1];exact BT av n);rw[<-Lm av]at h2;omega
  have HB:=J (M9 av hle no ht);obtain⟨b,o,rfl,hb,ac⟩:=ac (by omega);have hx:=ac n (by omega);have fo:=av.get n;clear ac h0 no dT hc ht;obtain⟨y,hy⟩:∃y,xs.getD n 0=y:=⟨_,rfl⟩;rw[hy]at hx fo HB;clear hy;have HL:=J (Tryz.bits_Len32 (y:Int) w (by omega) (by omega));have fh:=Any.bitLen_le32 (y:Int) (by omega) (by omega);rw[Int.toNat_natCast]at HL fh;unfold maxLen at hm;simp only[d32]at hx;have hn0:(((n:Int)+1) == 0)=false:=by rw[beq_eq_false_iff_ne];omega
  generalize Lib.bitLen y=bl at *;go_enter Tryz.func135,Tryz.ntmps135;go_wp2_with fail;refine HS.o.mono ?_
  rintro e w' ⟨rfl,rfl⟩;go_wp2_with fail;refine HL.o.mono ?_
  rintro e w' ⟨rfl,rfl⟩;go_wp2_with fail;go_ret;exact⟨congrArg (fun z=>Ending.returned (.int .i64 z)) (by rw[<-HB.o];simp),rfl⟩
theorem ST(w:World)(v u:Value)(xs ys:List Nat)(h:Arr w v xs)(h':Arr w u ys)(hn:xs.length<=134217728)(ck:ys.length<=134217728):
  Calls Tryz.prog 274 #[v,u] w fun e w'=>∃v',e= .returned v'/\Own w.heap.size w' v' (Af (Nat.gcd (val xs) (val ys)))/\Ext w w':=by
 have HA:=J (BU w v xs h (by omega));have HB:=J (fun W hx=>BU W u ys (h'.ext hx) (by omega));have zw:(Af (val xs)).length<=134217728:=Nat.le_trans (AH h.ok) hn;have jt:(Af (val ys)).length<=134217728:=Nat.le_trans (AH h'.ok) ck;clear h h' hn ck;generalize val xs=X at *;generalize val ys=Y at *;go_enter Tryz.func274,Tryz.ntmps274;go_wp2_with fail;refine HA.o.mono ?_
 rintro e w1 ⟨v1,rfl,cO,am⟩;have ah:=J am;have fC:=J cO;obtain⟨n1,A1,c1,rfl⟩:=cO.shape;clear cO am;go_wp2_with fail;refine(HB.o _ ah.o).mono ?_
 rintro e w2 ⟨v2,rfl,bN,au⟩;have el:=J (bN.mono ah.o.size);have mA:=J (fC.o.ext au);have aq:=J (ah.o.trans au);obtain⟨n2,A2,c2,rfl⟩:=bN.shape;clear bN au;go_wp2_with fail
 go_loopg [0,1] Y (fun gh s0 s1 wr=>∃(g x:Nat) (na:Nat) (Aa:Option Addr) (ca nb:Nat) (Ab:Option Addr) (cb:Nat),gh=g/\s0= .slice Aa na ca/\s1= .slice Ab nb cb/\Own w.heap.size wr s0 (Af x)/\Own w.heap.size wr s1 (Af g)/\Nat.gcd x g=Nat.gcd X Y/\(Af x).length<=134217728/\(Af g).length<=134217728/\Ext w wr)
 case atStart=>exact⟨Y,X,n1,A1,c1,n2,A2,c2,rfl,rfl,rfl,mA.o,el.o,rfl,zw,jt,aq.o⟩
 case round=>
  obtain⟨g,x,na,Aa,ca,nb,Ab,cb,iD,rfl,rfl,nL,nK,hg,hlx,rX,an⟩:=hrel;have fl:=J iD;clear iD;have HG:=J hg;have mV:=J an;have HOA:=J nL;have wZ:=J nK;have hnb:=nK.len;have ly:=nL.len;clear hg an HA HB fC ah mA el aq;rcases Nat.eq_zero_or_pos g with h0|h0
  ·subst h0;rw[Da,List.length_nil]at hnb;subst hnb;have HV:Hid (Own w.heap.size wr (.slice Aa na ca) (Af (Nat.gcd X Y))):=J (by
    have h1:=HG.o;rw[Nat.gcd_zero_right]at h1;rw[<-h1];exact nL)
   clear nL nK ly;go_wp2_with fail;go_ret;exact⟨_,rfl,HV.o,mV.o⟩
  ·have hl1:0<nb:=by
    rw[hnb];exact List.length_pos_iff.2 (fun e=>by rw[Ef]at e;omega)
   have HD:=J (FK wr _ _ _ _ nL.arr nK.arr hlx rX (by rw[Ah];omega));rw[Ah,Ah]at HD;have gx:=Nat.mod_lt x h0;have zt:=Nat.le_trans (B5 (Nat.le_of_lt gx)) rX;have dE:=J (show Nat.gcd g (x % g)=Nat.gcd X Y by rw[<-M0,HG.o]);have hb0:((nb:Int) != 0)=true:=by rw[bne_iff_ne];omega
   have aX:((nb:Int) == 0)=false:=by rw[beq_eq_false_iff_ne];omega
   clear nL nK ly hnb;go_wp2_with fail;refine HD.o.mono ?_
   rintro e w3 ⟨v3,u3,rfl,pA,gp,ae⟩;have aD:=J (wZ.o.ext ae);have eE:=J (gp.mono mV.o.size);have aj:=J (mV.o.trans ae);obtain⟨n3,A3,c3,rfl⟩:=pA.shape;obtain⟨n4,A4,c4,rfl⟩:=gp.shape;clear pA gp ae;go_wp2_with fail
   go_roundg (x % g)
   case rel=>exact⟨x % g,g,nb,Ab,cb,n4,A4,c4,rfl,rfl,rfl,aD.o,eE.o,dE.o,rX,zt,aj.o⟩
   case measure=>rw[fl.o];exact gx
def IZ(w0 wr:World)(xs:List Nat)(m c k cy:Nat):Prop:=
 ∃ys:List Nat,ys.length=k/\Ok ys/\val ys+4294967296 ^ k*cy=val (xs.take k)*m+c/\
  Blk wr w0.heap.size 183 (cells (ys++List.replicate (xs.length+1-k) 0))/\Ext w0 wr
theorem IZ.step {w0 wr:World} {xs ys:List Nat} {m c k q x:Nat} (hk:k<xs.length) (hl:ys.length=k) (av:Ok ys)
  (hv:val (ys++[(q+x*m) % 4294967296])+4294967296 ^ (k+1)*((q+x*m) / 4294967296)=val (xs.take (k+1))*m+c)
  (hb:Blk wr w0.heap.size 183 (cells (ys++List.replicate (xs.length+1-k) 0))) (he:Ext w0 wr):
  IZ w0 (wr.setCell ⟨w0.heap.size,k,none⟩ (d32 ((q+x*m) % 4294967296))) xs m c (k+1) ((q+x*m) / 4294967296):=by
 refine⟨ys++[(q+x*m) % 4294967296],by simp[hl],av.snoc (Nat.mod_lt _ (by omega)),hv,?_,he.setCell (Nat.le_refl _) _⟩;have h1:=hb.set_ k (d32 ((q+x*m) % 4294967296));rw[CI,show xs.length+1-k=(xs.length-k)+1 by omega]at h1;have h2:=Hu ys (xs.length-k) ((q+x*m) % 4294967296);rw[hl]at h2;rw[h2]at h1;rw[show xs.length+1-(k+1)=xs.length-k by omega];exact h1
theorem GI(w:World)(v:Value)(xs:List Nat)(m c:Nat)(h:Arr w v xs)(hn:xs.length<=536870912)(hm:m<4294967296)(hc:c<4294967296):
  Calls Tryz.prog 246 #[v,.int .u32 (m:Int),.int .u32 (c:Int)] w fun e w'=>∃v',e= .returned v'/\Own w.heap.size w' v' (Af (val xs*m+c))/\Ext w w':=by
 have HA:=J h;obtain⟨av,A,cap,rfl,dK,gP,ac⟩:=h.open;have HM:=J gP;have HC:=J ac;have dZ:=Fw xs.length (by omega);have mF:=J dZ;clear h ac gP dK;go_enter Tryz.func246,Tryz.ntmps246;go_wp2_with fail;clear dZ;go_loopw [8,19] (fun cy i wr=>∃k q:Nat,k<=xs.length/\q<4294967296/\i= .int .i64 k/\cy= .int .u64 q/\IZ w wr xs m c k q) (fun _ i _=>xs.length-(intOf i).toNat)
 case atStart=>exact⟨0,c,Nat.zero_le _,hc,rfl,rfl,[],rfl,Cx,by simp[val],Blk.new _ _ _,(Ext.refl w).alloc _⟩
 case round=>
  obtain⟨k,q,hk,hq,rfl,rfl,ys,hl,dq,hv,aw,an⟩:=hrel;have HV:=J hv;clear hv;have HB:=J aw;clear aw;have HL:=J hl;clear hl;by_cases hlt:k<xs.length
  ·obtain⟨b,o,rfl,hb,ac⟩:=HC.o (by omega);have hx:=(an.cell hb).trans (ac k hlt);have ai:=HB.o.cell k;have hfz:=HB.o.frozen k;rw[CK _ _ (by simp[HL.o];omega)]at ai;clear ac;have fo:=av.get k;have HS:=J (I8 xs ys k m c q hlt HL.o HV.o);have hp:=IU fo hm;obtain⟨x,hxe⟩:∃x,xs.getD k 0=x:=⟨_,rfl⟩;rw[hxe]at hx fo hp HS;clear hxe;have hp':(x:Int)*(m:Int)<=18446744065119617025:=by rw[<-Int.natCast_mul];omega
   have hp0:0<=(x:Int)*(m:Int):=by rw[<-Int.natCast_mul];omega
   simp only[d32]at hx ai
   go_wp2
   go_round
   case rel=>
    refine⟨k+1,(q+x*m) / 4294967296,by omega,?_,by go_num,by go_num,?_⟩
    ·exact Nat.div_lt_of_lt_mul (by omega)
    ·exact IZ.step hlt HL.o dq HS.o HB.o an
   case measure=>simp[intOf];omega
  ·obtain rfl:k=xs.length:=by omega
   have ai:=HB.o.cell xs.length;have hfz:=HB.o.frozen xs.length;rw[CK _ _ (by simp[HL.o])]at ai;have bQ:Own w.heap.size (wr.setCell ⟨w.heap.size,xs.length,none⟩ (d32 q)) (.slice (some ⟨w.heap.size,0,none⟩) (xs.length+1) (xs.length+1)) (ys++[q]):=by
    have h1:=HB.o.set_ xs.length (d32 q);have h2:=Hu ys 0 q;rw[HL.o]at h2;rw[CI,show xs.length+1-xs.length=0+1 by omega,h2]at h1;have h3:=Own.block (B:=w.heap.size) (dq.snoc hq) (by simpa using h1) (Nat.le_refl _) (by simp[HL.o];omega)
    simpa [HL.o] using h3
   have hval:val (ys++[q])=val xs*m+c:=by
    rw[Cm,HL.o,HV.o,List.take_of_length_le (Nat.le_refl _)]
   have HT:=J (BU _ _ _ bQ.arr (by simp[HL.o];omega));rw[hval]at HT;have WT:=J hval;have HO:=J bQ;clear hval bQ;simp only[d32]at ai;go_wp2_with fail;refine HT.o.mono ?_
   rintro e w' ⟨v',rfl,ho,hx⟩;go_wp2_with fail;go_ret;have he:Ext w (wr.setCell ⟨w.heap.size,xs.length,none⟩ (d32 q)):=an.setCell (Nat.le_refl _) _;exact⟨_,rfl,ho.mono he.size,he.trans hx⟩
theorem Qe(X g:Nat):(Af (X / g)).length<=(Af X).length:=B5 (Nat.div_le_self _ _)
def S6(X Y:Nat)(w:World)(e:Ending)(w':World):Prop:=
 ∃v' u',e= .returned (.tuple #[v',u',.bool true])/\Own w.heap.size w' v' (Af (X / Nat.gcd X Y))/\Own w.heap.size w' u' (Af (Y / Nat.gcd X Y))/\Ext w w'
theorem Oa(w:World)(v u:Value)(xs ys:List Nat)(h:Arr w v xs)(h':Arr w u ys)(hn:xs.length<=134217728)(ck:ys.length<=134217728)(hy:val ys≠0):
  Calls Tryz.prog 250 #[v,u] w (S6 (val xs) (val ys) w):=by
 have HB:=J (R4 w u ys h' ck);have hb0:Hj (val ys)≠0:=fun e=>hy (J2.1 e)
 have HG:=J (ST w v u xs ys h h' hn ck);have fH:(Af (Nat.gcd (val xs) (val ys))).length<=134217728:=Nat.le_trans (B5 (Nat.gcd_le_right _ (Nat.pos_of_ne_zero hy))) (Nat.le_trans (AH h'.ok) ck);have lG:Nat.gcd (val xs) (val ys)≠0:=fun e=>hy (Nat.gcd_eq_zero_iff.1 e).2
 have js:=J (fun W z hx a=>FK W v z xs (Af (Nat.gcd (val xs) (val ys))) (h.ext hx) a hn fH (by rw[Ah];exact lG));have lX:=J (fun W z hx a=>FK W u z ys (Af (Nat.gcd (val xs) (val ys))) (h'.ext hx) a ck fH (by rw[Ah];exact lG));rw[Ah]at js lX;obtain⟨nv,Av,cv,rfl⟩:=h.shape;obtain⟨nu,Au,cu,rfl⟩:=h'.shape;generalize val xs=X at *;generalize val ys=Y at *;have fW:((Hj Y:Int) == 0)=false:=by rw[beq_eq_false_iff_ne];omega
 generalize Hj Y=bY at *;clear h h' hn ck hy lG fH hb0;go_enter Tryz.func250,Tryz.ntmps250;go_wp2_with fail;refine HB.o.mono ?_
 rintro e w1 ⟨rfl,rfl⟩;go_wp2_with fail;refine HG.o.mono ?_
 rintro e w1 ⟨v1,rfl,cO,am⟩;have ah:=J am;have fC:=J cO;obtain⟨n1,A1,c1,rfl⟩:=cO.shape;clear cO am;go_wp2_with fail;refine(js.o _ _ ah.o fC.o.arr).mono ?_
 rintro e w2 ⟨v2,u2,rfl,bN,hr2,au⟩;have aq:=J (ah.o.trans au);have el:=J (bN.mono ah.o.size);have mA:=J (fC.o.ext au);obtain⟨n2,A2,c2,rfl⟩:=bN.shape;obtain⟨n2',Xq,WP,rfl⟩:=hr2.shape;clear bN hr2 au;go_wp2_with fail;refine(lX.o _ _ aq.o mA.o.arr).mono ?_
 rintro e w3 ⟨v3,u3,rfl,dr,gp,ae⟩;have aj:=J (aq.o.trans ae);have j7:=J (dr.mono aq.o.size);have sU:=J (el.o.ext ae);obtain⟨n3,A3,c3,rfl⟩:=dr.shape;obtain⟨n3',A3',c3',rfl⟩:=gp.shape;clear dr gp ae;go_wp2_with fail;go_ret3;exact⟨_,_,rfl,sU.o,j7.o,aj.o⟩
def J8(xs:List Nat)(m n:Nat)(w:World)(e:Ending)(w':World):Prop:=
 ∃v' zs,e= .returned v'/\Arr w' v' zs/\val zs=val xs*m ^ n/\zs.length<=xs.length+n/\Ext w w'
def D3(w wr:World)(xs:List Nat)(m n k:Nat)(v:Value):Prop:=
 ∃zs,Arr wr v zs/\val zs*m ^ k=val xs*m ^ n/\zs.length+k<=xs.length+n/\Ext w wr
theorem D3.shape{w wr:World}{xs:List Nat}{m n k:Nat}{v:Value}(h:D3 w wr xs m n k v):∃n A c,v= .slice A n c:=by
 obtain⟨zs,h1,_⟩:=h;exact h1.shape
theorem D3.step {w wr w':World} {xs zs:List Nat} {m n k j a:Nat} {v:Value} (hk:k=j+a) (ha:1<=a) (hv:val zs*m ^ k=val xs*m ^ n) (hl:zs.length+k<=xs.length+n) (hx:Ext w wr) (av:Ok zs)
  (ho:Own wr.heap.size w' v (Af (val zs*m ^ a+0))) (hm:m ^ a<4294967296) (hx':Ext wr w'):D3 w w' xs m n j v:=by
 refine⟨_,ho.arr,?_,?_,hx.trans hx'⟩
 ·rw[Ah,Nat.add_zero,Nat.mul_assoc,<-Nat.pow_add,Nat.add_comm a j,<-hk,hv]
 ·have:=DM av hm (c:=0) (by omega);omega
theorem PB(w:World)(v:Value)(xs:List Nat)(n:Nat)(h:Arr w v xs)(hn:xs.length<=67108864)(ck:n<=67108864):
  Calls Tryz.prog 213 #[v,.int .u32 10,.int .i64 (n:Int)] w (J8 xs 10 n w):=by
 have HA:=J h;obtain⟨nv,Av,cv,rfl⟩:=h.shape;clear h;go_enter Tryz.func213,Tryz.ntmps213;go_wp2_with fail;go_loopw [0,2] (fun s0 s2 wr=>∃k:Nat,k<=n/\s2= .int .i64 (k:Int)/\D3 w wr xs 10 n k s0) (fun _ s2 _=>(intOf s2).toNat)
 case atStart=>exact⟨n,Nat.le_refl _,rfl,xs,HA.o,rfl,Nat.le_refl _,Ext.refl _⟩
 case round=>
  obtain⟨k,hk,rfl,hat⟩:=hrel;obtain⟨ns,As,cs,rfl⟩:=hat.shape;have jz:=J hat;obtain⟨zs,ha,hv,hl,hx⟩:=hat;have mO:zs.length<=536870912:=by omega
  by_cases h9:9<=k
  ·obtain⟨j,rfl⟩:∃j,k=j+9:=⟨k-9,by omega⟩;have HP:=J (GI wr _ zs 1000000000 0 ha mO (by decide) (by decide));rw[show ((1000000000:Nat):Int)=1000000000 from rfl,show ((0:Nat):Int)=0 from rfl]at HP;have aF:=J (fun w' v' ho hx'=>D3.step (w':=w') (v:=v') (j:=j) (a:=9) rfl (by omega) hv hl hx ha.ok ho (by decide) hx');rw[show (10:Nat) ^ 9=1000000000 from rfl]at aF;clear ha hv hl hx;go_wp2_with fail;refine HP.o.mono ?_
   rintro e w2 ⟨v2,rfl,bN,au⟩;have iG:=J (aF.o _ _ bN au);obtain⟨n2,A2,c2,rfl⟩:=bN.shape;clear bN au;go_wp2_with fail;go_roundw
   case rel=>exact⟨j,by omega,by go_num,iG.o⟩
   case measure=>simp[intOf];omega
  ·clear ha hv hl hx mO;go_wp2_with fail;go_loopw [0,2] (fun s0 s2 wr=>∃k:Nat,k<=n/\s2= .int .i64 (k:Int)/\D3 w wr xs 10 n k s0) (fun _ s2 _=>(intOf s2).toNat)
   case atStart=>exact⟨k,hk,rfl,jz.o⟩
   case round=>
    clear hk h9 jz;obtain⟨k,hk,rfl,hat⟩:=hrel;obtain⟨ns,As,cs,rfl⟩:=hat.shape;have jz:=J hat;obtain⟨zs,ha,hv,hl,hx⟩:=hat;have mO:zs.length<=536870912:=by omega
    rcases Nat.eq_zero_or_pos k with h0|h0
    ·subst h0;have HF:Hid (J8 xs 10 n w (.returned (.slice As ns cs)) wr):=J ⟨_,zs,rfl,ha,by rw[<-hv];simp,by omega,hx⟩;clear ha hv hl hx mO;go_wp2_with fail;go_ret;exact HF.o
    ·obtain⟨j,rfl⟩:∃j,k=j+1:=⟨k-1,by omega⟩;have HP:=J (GI wr _ zs 10 0 ha mO (by decide) (by decide));rw[show ((10:Nat):Int)=10 from rfl,show ((0:Nat):Int)=0 from rfl]at HP;have aF:=J (fun w' v' ho hx'=>D3.step (w':=w') (v:=v') (j:=j) (a:=1) rfl (by omega) hv hl hx ha.ok ho (by decide) hx');rw[Nat.pow_one]at aF;clear ha hv hl hx;go_wp2_with fail;refine HP.o.mono ?_
     rintro e w2 ⟨v2,rfl,bN,au⟩;have iG:=J (aF.o _ _ bN au);obtain⟨n2,A2,c2,rfl⟩:=bN.shape;clear bN au;go_wp2_with fail;go_roundw
     case rel=>exact⟨j,by omega,by go_num,iG.o⟩
     case measure=>simp[intOf]
theorem ML(w:World)(v u:Value)(z:Int)(ys:List Nat)(h:CG w v z)(h':Arr w u ys)(hn:(Af z.natAbs).length<=134217728)(ck:ys.length<=134217728)(hy:val ys≠0):
  Calls Tryz.prog 211 #[v,u] w fun e w'=>∃v',e= .returned v'/\BB w.heap.size w' v' (MM z (val ys)) (MO z (val ys))/\Ext w w':=by
 have HA:=J h;have HB:=J h';obtain⟨b,n,A,c,rfl⟩:=h.shape;have HL:=J (fun W hx=>Oa W (.slice A n c) u (Af z.natAbs) ys (h.mag.ext hx) (h'.ext hx) hn ck hy);rw[Ah]at HL;have HI:=J (fun W m a=>MU W b m (Af (z.natAbs / Nat.gcd z.natAbs (val ys))) a (Nat.le_trans (Qe _ _) (by omega)));rw[Ah]at HI;have HS:=J h.sign;clear h h';go_enter Tryz.func211,Tryz.ntmps211;go_wp2_with fail;have hb0:=(Blk.new w 24 #[.bool b,.slice A n c]).alloc (.cells #[.bool false,.slice none 0 0,.slice none 0 0] 26);have aX:=Blk.new (w.alloc (.cells #[.bool b,.slice A n c] 24)) 26 #[.bool false,.slice none 0 0,.slice none 0 0];have ny:=((Ext.refl w).alloc (.cells #[.bool b,.slice A n c] 24)).alloc (.cells #[.bool false,.slice none 0 0,.slice none 0 0] 26);have rF:w.heap.size+1<((w.alloc (.cells #[.bool b,.slice A n c] 24)).alloc (.cells #[.bool false,.slice none 0 0,.slice none 0 0] 26)).heap.size:=by simp
 simp only[World.size_alloc]at aX;generalize (w.alloc (.cells #[.bool b,.slice A n c] 24)).alloc (.cells #[.bool false,.slice none 0 0,.slice none 0 0] 26)=wo at *;refine(HL.o _ ny).mono ?_
 rintro e w1 ⟨v1,u1,rfl,cO,cI,am⟩;have fy:=hb0.ext am;have fg:=aX.ext am;have fC:=J cO;have wT:=J cI;obtain⟨n1,A1,c1,rfl⟩:=cO.shape;obtain⟨n2,A2,c2,rfl⟩:=cI.shape;obtain⟨h0,h1,_,_,_⟩:=fy.two;have tf:=J fg;have ah:=J (ny.trans am);have fK:=J am.size;clear hb0 aX am cO cI fy fg ny;go_wp2_with fail;refine(HI.o _ _ fC.o.arr).mono ?_
 rintro e w2 ⟨v2,rfl,fz,au⟩;have eY:=J fz;have eN:=J (wT.o.ext au);have fg:=tf.o.ext au;obtain⟨b3,n3,A3,c3,rfl⟩:=fz.shape;have k0:=fg.three;have aq:=J (ah.o.trans au);have gU:=J fg;clear fz au fg;go_wp2_with fail;obtain⟨e9,cI,hr2⟩:=Cb gU.o (.bool b3) (.slice A3 n3 c3) (.slice A2 n2 c2);refine bodyPost_ret (v:= .agg #[.bool b3,.slice A3 n3 c3,.slice A2 n2 c2]) (by simp[results,Tryz.results211,go_sem,e9,cI,hr2]) rfl ?_
 have fu:BB wo.heap.size w2 (.agg #[.bool b3,.slice A3 n3 c3,.slice A2 n2 c2]) (MM z (val ys)) (MO z (val ys)):=BB.mk (by
  have h1:=eY.o.mono fK.o;rw[HS.o]at h1;exact h1) eN.o
 exact⟨_,rfl,fu.put rF (by omega),((aq.o.setCell (Nat.le_succ _) _).setCell (Nat.le_succ _) _).setCell (Nat.le_succ _) _⟩
end Big
end Go.Proofs.YtkoaogkknnelaaaGreatDoor
