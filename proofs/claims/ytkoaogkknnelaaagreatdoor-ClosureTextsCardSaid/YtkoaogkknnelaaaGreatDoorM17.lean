import Derived.Shelf.Strings.SlTrimAscii
import Derived.Lib.ItoaNum
import Derived.Test.YtkoaogkknnelaaaGreatDoorM14
set_option linter.unusedVariables false
set_option linter.unusedSimpArgs false
set_option maxRecDepth 100000
namespace Go.Proofs.YtkoaogkknnelaaaGreatDoor
namespace Big
open Lib renaming hid → J
open Go.RowKit
def BT(w:World):Prop:=∃m:Int,w.cell? ⟨0,0,none⟩=some (.int .i64 m)
theorem BT.ext{w w':World}(h:BT w)(hx:Ext w w'):BT w':=by
 obtain⟨m,h⟩:=h;exact⟨m,hx.keep h⟩
theorem Jz{w:World}(h:w.ShapedOpen Tryz.prog):BT w:=Tryz.laysM145.s1_3 w h
theorem TH(w:World)(l:List UInt8)(hl:l.length<=1073741824)(hm:BT w):
  Calls Tryz.prog 207 #[str l,.string ⟨#[46]⟩] w fun e w'=>e= .returned (.tuple #[str (whole l),str (AX l),.bool (AB l)])/\Ext w w':=by
 obtain⟨m,hm⟩:=hm;have h:=Any.strings_Cut { Tryz.laysM145 with } ⟨l.toArray⟩ ⟨#[46]⟩ m w (by rw[Cl];omega) hm;have e:=TG l;have e1:Lib.cut (⟨l.toArray⟩:ByteArray).data.toList (⟨#[46]⟩:ByteArray).data.toList=(whole l,AX l,AB l):=e;rw[e1]at h;refine h.mono ?_
 rintro e w' ⟨rfl,n,rfl⟩;exact⟨rfl,(Ext.refl w).drewN n⟩
theorem PK(w:World)(l:List UInt8):
  Calls Tryz.prog 208 #[str l,.string ⟨#[48]⟩] w fun e w'=>e= .returned (str (l.dropWhile (· == 48)))/\w=w':=by
 refine(Tryz.strings_TrimLeft_one ⟨l.toArray⟩ 48 (by decide) w).mono ?_
 rintro e w' ⟨rfl,rfl⟩;exact⟨rfl,rfl⟩
theorem PM(w:World)(l:List UInt8)(hl:l.length<=1073741824)(h:l.all Bx=true):
  Calls Tryz.prog 210 #[str l,.string ⟨#[48,49,50,51,52,53,54,55,56,57]⟩] w fun e w'=>e= .returned (str [])/\Ext w w':=by
 refine(Any.strings_Trim_laid Tryz.lays160 (by kernel_rfl) ⟨l.toArray⟩ ⟨#[48,49,50,51,52,53,54,55,56,57]⟩ w (by rw[Cl];omega) (by decide) (ascii_of_all (by decide))).mono ?_
 rintro e w' ⟨rfl,hb⟩;have e1:Lib.trimS (⟨l.toArray⟩:ByteArray).data.toList (⟨#[48,49,50,51,52,53,54,55,56,57]⟩:ByteArray).data.toList=[]:=PL l h;rw[e1];exact⟨rfl,hb⟩
def Hd(n:Nat):Nat:=if n=0 then 0 else n.log2+1
theorem JW{n:Nat}:Hd n=0↔n=0:=by
 unfold Hd;split
 ·simp[*]
 ·simp[*]
theorem SP{n b:Nat}(h1:2 ^ b<=n)(h2:n<2 ^ (b+1)):Hd n=b+1:=by
 have h0:n≠0:=by
  have:0<2 ^ b:=qbB (by omega);omega
 unfold Hd;rw[if_neg h0];have h3:=(Nat.le_log2 h0).2 h1;have h4:=(Nat.log2_lt h0).2 h2;omega
theorem Nl{xs:List Nat}{n:Nat}(an:Ok xs)(_hl:n+1<=xs.length)(hz:val (xs.drop (n+1))=0)(ht:xs.getD n 0≠0):32*n+Lib.bitLen (xs.getD n 0)=Hd (val xs):=by
 have hx:=an.get n;obtain⟨b1,b2,b3⟩:=Lib.bitLenAux_bounds 64 (xs.getD n 0) (by omega) ht;have h1:=BK xs (n+1);rw[hz,qbz,qbc,Cj]at h1;have h2:=B3 an n;obtain⟨c,hc⟩:∃c,Lib.bitLenAux 64 (xs.getD n 0)=c+1:=⟨Lib.bitLenAux 64 (xs.getD n 0)-1,by omega⟩;unfold Lib.bitLen;rw[hc]at b2 b3 ⊢;rw[qbE]at b2;generalize xs.getD n 0=y at *;rw[h1];refine(SP (b:=32*n+c) ?_ ?_).symm
 ·rw[Nat.pow_add,Nat.pow_mul];exact qaf (qaN _ b2) (Nat.le_add_left _ _)
 ·rw[qbT,Nat.pow_add,Nat.pow_mul,show (2:Nat) ^ 32=4294967296 from rfl];have h3:=qaN (4294967296 ^ n) (show y+1<=2 ^ (c+1) from b3);rw[qaI,qbj]at h3;omega
theorem SO(w:World)(v:Value)(xs:List Nat)(h:Arr w v xs)(hn:xs.length<=134217728):
  Calls Tryz.prog 135 #[v] w fun e w'=>e= .returned (.int .i64 (Hd (val xs):Nat))/\w=w':=by
 have HS:=J (Ee w v xs h);have hle:=size_le xs;have nS:=EH h.ok;obtain⟨an,A,c,rfl,hc,hm,aa⟩:=h.open;rcases qar (size xs) with h0|h0
 ·have HZ:=J (JW.2 (Hq h0));rw[HZ.o];rw[h0]at HS;clear hm aa h0 hle hc;go_enter Tryz.func135,Tryz.ntmps135;go_wp2_with fail;refine HS.o.mono ?_
  rintro e w' ⟨rfl,rfl⟩;go_wp2_with fail;go_ret;exact⟨rfl,rfl⟩
 ·obtain⟨n,dA⟩:∃n,size xs=n+1:=⟨size xs-1,by omega⟩;rw[dA]at HS hle nS;have ht:xs.getD n 0≠0:=by
   intro e;have h1:=BK xs n;rw[Br,e,nS]at h1;simp only[qbz,qbc]at h1;have h2:=Bg (n:=val xs) (k:=n) (by rw[h1];exact B3 an n);rw[<-Lj an]at h2;omega
  have HB:=J (Nl an hle nS ht);obtain⟨b,o,rfl,hb,aa⟩:=aa (by omega);have hx:=aa n (by omega);have fp:=an.get n;clear aa h0 nS dA hc ht;obtain⟨y,hy⟩:∃y,xs.getD n 0=y:=⟨_,rfl⟩;rw[hy]at hx fp HB;clear hy;have HL:=J (Tryz.bits_Len32 (y:Int) w (by omega) (by omega));have eM:=Any.bitLen_le32 (y:Int) (by omega) (by omega);rw[qaq]at HL eM;unfold maxLen at hm;simp only[d32]at hx;have hn0:(((n:Int)+1) == 0)=false:=by rw[beq_eq_false_iff_ne];omega
  generalize Lib.bitLen y=bl at *;go_enter Tryz.func135,Tryz.ntmps135;go_wp2_with fail;refine HS.o.mono ?_
  rintro e w' ⟨rfl,rfl⟩;go_wp2_with fail;refine HL.o.mono ?_
  rintro e w' ⟨rfl,rfl⟩;go_wp2_with fail;go_ret;exact⟨congrArg (fun z=>Ending.returned (.int .i64 z)) (by rw[<-HB.o];simp),rfl⟩
theorem Tz(w:World)(v u:Value)(xs ys:List Nat)(h:Arr w v xs)(h':Arr w u ys)(hn:xs.length<=134217728)(cC:ys.length<=134217728):
  Calls Tryz.prog 274 #[v,u] w fun e w'=>∃v',e= .returned v'/\Own w.heap.size w' v' (Af (Nat.gcd (val xs) (val ys)))/\Ext w w':=by
 have HA:=J (B4 w v xs h (by omega));have HB:=J (fun W hx=>B4 W u ys (h'.ext hx) (by omega));have Vg:(Af (val xs)).length<=134217728:=qaf (AG h.ok) hn;have mM:(Af (val ys)).length<=134217728:=qaf (AG h'.ok) cC;clear h h' hn cC;generalize val xs=X at *;generalize val ys=Y at *;go_enter Tryz.func274,Tryz.ntmps274;go_wp2_with fail;refine HA.o.mono ?_
 rintro e w1 ⟨v1,rfl,cK,ar⟩;have ah:=J ar;have fM:=J cK;obtain⟨n1,A1,c1,rfl⟩:=cK.shape;clear cK ar;go_wp2_with fail;refine(HB.o _ ah.o).mono ?_
 rintro e w2 ⟨v2,rfl,bN,al⟩;have eF:=J (bN.mono ah.o.size);have nf:=J (fM.o.ext al);have am:=J (ah.o.trans al);obtain⟨n2,A2,c2,rfl⟩:=bN.shape;clear bN al;go_wp2_with fail
 go_loopg [0,1] Y (fun gh s0 s1 wr=>∃(g x:Nat) (na:Nat) (Aa:Option Addr) (ca nb:Nat) (Ab:Option Addr) (cb:Nat),gh=g/\s0= .slice Aa na ca/\s1= .slice Ab nb cb/\Own w.heap.size wr s0 (Af x)/\Own w.heap.size wr s1 (Af g)/\Nat.gcd x g=Nat.gcd X Y/\(Af x).length<=134217728/\(Af g).length<=134217728/\Ext w wr)
 case atStart=>exact⟨Y,X,n1,A1,c1,n2,A2,c2,rfl,rfl,rfl,nf.o,eF.o,rfl,Vg,mM,am.o⟩
 case round=>
  obtain⟨g,x,na,Aa,ca,nb,Ab,cb,iT,rfl,rfl,oy,ov,hg,hlx,tm,ai⟩:=hrel;have fo:=J iT;clear iT;have HG:=J hg;have nF:=J ai;have HOA:=J oy;have WH:=J ov;have hnb:=ov.len;have lW:=oy.len;clear hg ai HA HB fM ah nf eF am;rcases qar g with h0|h0
  ·subst h0;rw[Cs,qaE]at hnb;subst hnb;have HV:Hid (Own w.heap.size wr (.slice Aa na ca) (Af (Nat.gcd X Y))):=J (by
    have h1:=HG.o;rw[Nat.gcd_zero_right]at h1;rw[<-h1];exact oy)
   clear oy ov lW;go_wp2_with fail;go_ret;exact⟨_,rfl,HV.o,nF.o⟩
  ·have hl1:0<nb:=by
    rw[hnb];exact qcj.2 (fun e=>by rw[DX]at e;omega)
   have HD:=J (FK wr _ _ _ _ oy.arr ov.arr hlx tm (by rw[Ah];omega));rw[Ah,Ah]at HD;have gE:=qbl x h0;have Vd:=qaf (BW (qaR gE)) tm;have du:=J (show Nat.gcd g (x % g)=Nat.gcd X Y by rw[<-M8,HG.o]);have hb0:((nb:Int) != 0)=true:=by rw[bne_iff_ne];omega
   have av:((nb:Int) == 0)=false:=by rw[beq_eq_false_iff_ne];omega
   clear oy ov lW hnb;go_wp2_with fail;refine HD.o.mono ?_
   rintro e w3 ⟨v3,u3,rfl,qr,gV,ae⟩;have aC:=J (WH.o.ext ae);have eE:=J (gV.mono nF.o.size);have ag:=J (nF.o.trans ae);obtain⟨n3,A3,c3,rfl⟩:=qr.shape;obtain⟨n4,A4,c4,rfl⟩:=gV.shape;clear qr gV ae;go_wp2_with fail
   go_roundg (x % g)
   case rel=>exact⟨x % g,g,nb,Ab,cb,n4,A4,c4,rfl,rfl,rfl,aC.o,eE.o,du.o,tm,Vd,ag.o⟩
   case measure=>rw[fo.o];exact gE
def IT(w0 wr:World)(xs:List Nat)(m c k cy:Nat):Prop:=
 ∃ys:List Nat,ys.length=k/\Ok ys/\val ys+4294967296 ^ k*cy=val (xs.take k)*m+c/\
  Blk wr w0.heap.size 183 (cells (ys++List.replicate (xs.length+1-k) 0))/\Ext w0 wr
theorem IT.step {w0 wr:World} {xs ys:List Nat} {m c k q x:Nat} (hk:k<xs.length) (hl:ys.length=k) (an:Ok ys)
  (hv:val (ys++[(q+x*m) % 4294967296])+4294967296 ^ (k+1)*((q+x*m) / 4294967296)=val (xs.take (k+1))*m+c)
  (hb:Blk wr w0.heap.size 183 (cells (ys++List.replicate (xs.length+1-k) 0))) (he:Ext w0 wr):
  IT w0 (wr.setCell ⟨w0.heap.size,k,none⟩ (d32 ((q+x*m) % 4294967296))) xs m c (k+1) ((q+x*m) / 4294967296):=by
 refine⟨ys++[(q+x*m) % 4294967296],by simp[hl],an.snoc (qbl _ (by omega)),hv,?_,he.setCell (qad _) _⟩;have h1:=hb.set_ k (d32 ((q+x*m) % 4294967296));rw[CI,show xs.length+1-k=(xs.length-k)+1 by omega]at h1;have h2:=Hr ys (xs.length-k) ((q+x*m) % 4294967296);rw[hl]at h2;rw[h2]at h1;rw[show xs.length+1-(k+1)=xs.length-k by omega];exact h1
theorem GA(w:World)(v:Value)(xs:List Nat)(m c:Nat)(h:Arr w v xs)(hn:xs.length<=536870912)(hm:m<4294967296)(hc:c<4294967296):
  Calls Tryz.prog 246 #[v,.int .u32 (m:Int),.int .u32 (c:Int)] w fun e w'=>∃v',e= .returned v'/\Own w.heap.size w' v' (Af (val xs*m+c))/\Ext w w':=by
 have HA:=J h;obtain⟨an,A,cap,rfl,eA,gY,aa⟩:=h.open;have HM:=J gY;have HC:=J aa;have dF:=Fr xs.length (by omega);have ni:=J dF;clear h aa gY eA;go_enter Tryz.func246,Tryz.ntmps246;go_wp2_with fail;clear dF;go_loopw [8,19] (fun cy i wr=>∃k q:Nat,k<=xs.length/\q<4294967296/\i= .int .i64 k/\cy= .int .u64 q/\IT w wr xs m c k q) (fun _ i _=>xs.length-(intOf i).toNat)
 case atStart=>exact⟨0,c,qal _,hc,rfl,rfl,[],rfl,CT,by simp[val],Blk.new _ _ _,(Ext.refl w).alloc _⟩
 case round=>
  obtain⟨k,q,hk,hq,rfl,rfl,ys,hl,dE,hv,ax,ai⟩:=hrel;have HV:=J hv;clear hv;have HB:=J ax;clear ax;have HL:=J hl;clear hl;by_cases hlt:k<xs.length
  ·obtain⟨b,o,rfl,hb,aa⟩:=HC.o (by omega);have hx:=(ai.cell hb).trans (aa k hlt);have af:=HB.o.cell k;have hfz:=HB.o.frozen k;rw[CK _ _ (by simp[HL.o];omega)]at af;clear aa;have fp:=an.get k;have HS:=J (I1 xs ys k m c q hlt HL.o HV.o);have hp:=IP fp hm;obtain⟨x,hxe⟩:∃x,xs.getD k 0=x:=⟨_,rfl⟩;rw[hxe]at hx fp hp HS;clear hxe;have hp':(x:Int)*(m:Int)<=18446744065119617025:=by rw[<-Int.natCast_mul];omega
   have hp0:0<=(x:Int)*(m:Int):=by rw[<-Int.natCast_mul];omega
   simp only[d32]at hx af
   go_wp2
   go_round
   case rel=>
    refine⟨k+1,(q+x*m) / 4294967296,by omega,?_,by go_num,by go_num,?_⟩
    ·exact qbx (by omega)
    ·exact IT.step hlt HL.o dE HS.o HB.o ai
   case measure=>simp[intOf];omega
  ·obtain rfl:k=xs.length:=by omega
   have af:=HB.o.cell xs.length;have hfz:=HB.o.frozen xs.length;rw[CK _ _ (by simp[HL.o])]at af;have bP:Own w.heap.size (wr.setCell ⟨w.heap.size,xs.length,none⟩ (d32 q)) (.slice (some ⟨w.heap.size,0,none⟩) (xs.length+1) (xs.length+1)) (ys++[q]):=by
    have h1:=HB.o.set_ xs.length (d32 q);have h2:=Hr ys 0 q;rw[HL.o]at h2;rw[CI,show xs.length+1-xs.length=0+1 by omega,h2]at h1;have h3:=Own.block (B:=w.heap.size) (dE.snoc hq) (by simpa using h1) (qad _) (by simp[HL.o];omega)
    simpa [HL.o] using h3
   have hval:val (ys++[q])=val xs*m+c:=by
    rw[Cu,HL.o,HV.o,qak (qad _)]
   have HT:=J (B4 _ _ _ bP.arr (by simp[HL.o];omega));rw[hval]at HT;have YE:=J hval;have HO:=J bP;clear hval bP;simp only[d32]at af;go_wp2_with fail;refine HT.o.mono ?_
   rintro e w' ⟨v',rfl,ho,hx⟩;go_wp2_with fail;go_ret;have he:Ext w (wr.setCell ⟨w.heap.size,xs.length,none⟩ (d32 q)):=ai.setCell (qad _) _;exact⟨_,rfl,ho.mono he.size,he.trans hx⟩
theorem QI(X g:Nat):(Af (X / g)).length<=(Af X).length:=BW (Nat.div_le_self _ _)
def TM(X Y:Nat)(w:World)(e:Ending)(w':World):Prop:=
 ∃v' u',e= .returned (.tuple #[v',u',.bool true])/\Own w.heap.size w' v' (Af (X / Nat.gcd X Y))/\Own w.heap.size w' u' (Af (Y / Nat.gcd X Y))/\Ext w w'
theorem Oq(w:World)(v u:Value)(xs ys:List Nat)(h:Arr w v xs)(h':Arr w u ys)(hn:xs.length<=134217728)(cC:ys.length<=134217728)(hy:val ys≠0):
  Calls Tryz.prog 250 #[v,u] w (TM (val xs) (val ys) w):=by
 have HB:=J (SO w u ys h' cC);have hb0:Hd (val ys)≠0:=fun e=>hy (JW.1 e)
 have HG:=J (Tz w v u xs ys h h' hn cC);have fR:(Af (Nat.gcd (val xs) (val ys))).length<=134217728:=qaf (BW (Nat.gcd_le_right _ (Nat.pos_of_ne_zero hy))) (qaf (AG h'.ok) cC);have jR:Nat.gcd (val xs) (val ys)≠0:=fun e=>hy (Nat.gcd_eq_zero_iff.1 e).2
 have lP:=J (fun W z hx a=>FK W v z xs (Af (Nat.gcd (val xs) (val ys))) (h.ext hx) a hn fR (by rw[Ah];exact jR));have nP:=J (fun W z hx a=>FK W u z ys (Af (Nat.gcd (val xs) (val ys))) (h'.ext hx) a cC fR (by rw[Ah];exact jR));rw[Ah]at lP nP;obtain⟨nv,Av,cv,rfl⟩:=h.shape;obtain⟨nu,Au,cu,rfl⟩:=h'.shape;generalize val xs=X at *;generalize val ys=Y at *;have fA:((Hd Y:Int) == 0)=false:=by rw[beq_eq_false_iff_ne];omega
 generalize Hd Y=bY at *;clear h h' hn cC hy jR fR hb0;go_enter Tryz.func250,Tryz.ntmps250;go_wp2_with fail;refine HB.o.mono ?_
 rintro e w1 ⟨rfl,rfl⟩;go_wp2_with fail;refine HG.o.mono ?_
 rintro e w1 ⟨v1,rfl,cK,ar⟩;have ah:=J ar;have fM:=J cK;obtain⟨n1,A1,c1,rfl⟩:=cK.shape;clear cK ar;go_wp2_with fail;refine(lP.o _ _ ah.o fM.o.arr).mono ?_
 rintro e w2 ⟨v2,u2,rfl,bN,hr2,al⟩;have am:=J (ah.o.trans al);have eF:=J (bN.mono ah.o.size);have nf:=J (fM.o.ext al);obtain⟨n2,A2,c2,rfl⟩:=bN.shape;obtain⟨n2',Y7,Yz,rfl⟩:=hr2.shape;clear bN hr2 al;go_wp2_with fail;refine(nP.o _ _ am.o nf.o.arr).mono ?_
 rintro e w3 ⟨v3,u3,rfl,ek,gV,ae⟩;have ag:=J (am.o.trans ae);have kH:=J (ek.mono am.o.size);have uk:=J (eF.o.ext ae);obtain⟨n3,A3,c3,rfl⟩:=ek.shape;obtain⟨n3',A3',c3',rfl⟩:=gV.shape;clear ek gV ae;go_wp2_with fail;go_ret3;exact⟨_,_,rfl,uk.o,kH.o,ag.o⟩
def J2(xs:List Nat)(m n:Nat)(w:World)(e:Ending)(w':World):Prop:=
 ∃v' zs,e= .returned v'/\Arr w' v' zs/\val zs=val xs*m ^ n/\zs.length<=xs.length+n/\Ext w w'
def DO(w wr:World)(xs:List Nat)(m n k:Nat)(v:Value):Prop:=
 ∃zs,Arr wr v zs/\val zs*m ^ k=val xs*m ^ n/\zs.length+k<=xs.length+n/\Ext w wr
theorem DO.shape{w wr:World}{xs:List Nat}{m n k:Nat}{v:Value}(h:DO w wr xs m n k v):∃n A c,v= .slice A n c:=by
 obtain⟨zs,h1,_⟩:=h;exact h1.shape
theorem DO.step {w wr w':World} {xs zs:List Nat} {m n k j a:Nat} {v:Value} (hk:k=j+a) (ha:1<=a) (hv:val zs*m ^ k=val xs*m ^ n) (hl:zs.length+k<=xs.length+n) (hx:Ext w wr) (an:Ok zs)
  (ho:Own wr.heap.size w' v (Af (val zs*m ^ a+0))) (hm:m ^ a<4294967296) (hx':Ext wr w'):DO w w' xs m n j v:=by
 refine⟨_,ho.arr,?_,?_,hx.trans hx'⟩
 ·rw[Ah,qbc,qaY,<-Nat.pow_add,qck a j,<-hk,hv]
 ·have:=DB an hm (c:=0) (by omega);omega
theorem P1(w:World)(v:Value)(xs:List Nat)(n:Nat)(h:Arr w v xs)(hn:xs.length<=67108864)(cC:n<=67108864):
  Calls Tryz.prog 213 #[v,.int .u32 10,.int .i64 (n:Int)] w (J2 xs 10 n w):=by
 have HA:=J h;obtain⟨nv,Av,cv,rfl⟩:=h.shape;clear h;go_enter Tryz.func213,Tryz.ntmps213;go_wp2_with fail;go_loopw [0,2] (fun s0 s2 wr=>∃k:Nat,k<=n/\s2= .int .i64 (k:Int)/\DO w wr xs 10 n k s0) (fun _ s2 _=>(intOf s2).toNat)
 case atStart=>exact⟨n,qad _,rfl,xs,HA.o,rfl,qad _,Ext.refl _⟩
 case round=>
  obtain⟨k,hk,rfl,hat⟩:=hrel;obtain⟨ns,As,cs,rfl⟩:=hat.shape;have fH:=J hat;obtain⟨zs,ha,hv,hl,hx⟩:=hat;have nw:zs.length<=536870912:=by omega
  by_cases h9:9<=k
  ·obtain⟨j,rfl⟩:∃j,k=j+9:=⟨k-9,by omega⟩;have HP:=J (GA wr _ zs 1000000000 0 ha nw (by decide) (by decide));rw[show ((1000000000:Nat):Int)=1000000000 from rfl,show ((0:Nat):Int)=0 from rfl]at HP;have aP:=J (fun w' v' ho hx'=>DO.step (w':=w') (v:=v') (j:=j) (a:=9) rfl (by omega) hv hl hx ha.ok ho (by decide) hx');rw[show (10:Nat) ^ 9=1000000000 from rfl]at aP;clear ha hv hl hx;go_wp2_with fail;refine HP.o.mono ?_
   rintro e w2 ⟨v2,rfl,bN,al⟩;have fj:=J (aP.o _ _ bN al);obtain⟨n2,A2,c2,rfl⟩:=bN.shape;clear bN al;go_wp2_with fail;go_roundw
   case rel=>exact⟨j,by omega,by go_num,fj.o⟩
   case measure=>simp[intOf];omega
  ·clear ha hv hl hx nw;go_wp2_with fail;go_loopw [0,2] (fun s0 s2 wr=>∃k:Nat,k<=n/\s2= .int .i64 (k:Int)/\DO w wr xs 10 n k s0) (fun _ s2 _=>(intOf s2).toNat)
   case atStart=>exact⟨k,hk,rfl,fH.o⟩
   case round=>
    clear hk h9 fH;obtain⟨k,hk,rfl,hat⟩:=hrel;obtain⟨ns,As,cs,rfl⟩:=hat.shape;have fH:=J hat;obtain⟨zs,ha,hv,hl,hx⟩:=hat;have nw:zs.length<=536870912:=by omega
    rcases qar k with h0|h0
    ·subst h0;have HF:Hid (J2 xs 10 n w (.returned (.slice As ns cs)) wr):=J ⟨_,zs,rfl,ha,by rw[<-hv];simp,by omega,hx⟩;clear ha hv hl hx nw;go_wp2_with fail;go_ret;exact HF.o
    ·obtain⟨j,rfl⟩:∃j,k=j+1:=⟨k-1,by omega⟩;have HP:=J (GA wr _ zs 10 0 ha nw (by decide) (by decide));rw[show ((10:Nat):Int)=10 from rfl,show ((0:Nat):Int)=0 from rfl]at HP;have aP:=J (fun w' v' ho hx'=>DO.step (w':=w') (v:=v') (j:=j) (a:=1) rfl (by omega) hv hl hx ha.ok ho (by decide) hx');rw[Nat.pow_one]at aP;clear ha hv hl hx;go_wp2_with fail;refine HP.o.mono ?_
     rintro e w2 ⟨v2,rfl,bN,al⟩;have fj:=J (aP.o _ _ bN al);obtain⟨n2,A2,c2,rfl⟩:=bN.shape;clear bN al;go_wp2_with fail;go_roundw
     case rel=>exact⟨j,by omega,by go_num,fj.o⟩
     case measure=>simp[intOf]
theorem MR(w:World)(v u:Value)(z:Int)(ys:List Nat)(h:Cf w v z)(h':Arr w u ys)(hn:(Af z.natAbs).length<=134217728)(cC:ys.length<=134217728)(hy:val ys≠0):
  Calls Tryz.prog 211 #[v,u] w fun e w'=>∃v',e= .returned v'/\BH w.heap.size w' v' (MS z (val ys)) (MV z (val ys))/\Ext w w':=by
 have HA:=J h;have HB:=J h';obtain⟨b,n,A,c,rfl⟩:=h.shape;have HL:=J (fun W hx=>Oq W (.slice A n c) u (Af z.natAbs) ys (h.mag.ext hx) (h'.ext hx) hn cC hy);rw[Ah]at HL;have HI:=J (fun W m a=>M2 W b m (Af (z.natAbs / Nat.gcd z.natAbs (val ys))) a (qaf (QI _ _) (by omega)));rw[Ah]at HI;have HS:=J h.sign;clear h h';go_enter Tryz.func211,Tryz.ntmps211;go_wp2_with fail;have hb0:=(Blk.new w 24 #[.bool b,.slice A n c]).alloc (.cells #[.bool false,.slice none 0 0,.slice none 0 0] 26);have av:=Blk.new (w.alloc (.cells #[.bool b,.slice A n c] 24)) 26 #[.bool false,.slice none 0 0,.slice none 0 0];have nX:=((Ext.refl w).alloc (.cells #[.bool b,.slice A n c] 24)).alloc (.cells #[.bool false,.slice none 0 0,.slice none 0 0] 26);have sN:w.heap.size+1<((w.alloc (.cells #[.bool b,.slice A n c] 24)).alloc (.cells #[.bool false,.slice none 0 0,.slice none 0 0] 26)).heap.size:=by simp
 simp only[World.size_alloc]at av;generalize (w.alloc (.cells #[.bool b,.slice A n c] 24)).alloc (.cells #[.bool false,.slice none 0 0,.slice none 0 0] 26)=wo at *;refine(HL.o _ nX).mono ?_
 rintro e w1 ⟨v1,u1,rfl,cK,cB,ar⟩;have g3:=hb0.ext ar;have eS:=av.ext ar;have fM:=J cK;have ym:=J cB;obtain⟨n1,A1,c1,rfl⟩:=cK.shape;obtain⟨n2,A2,c2,rfl⟩:=cB.shape;obtain⟨h0,h1,_,_,_⟩:=g3.two;have WV:=J eS;have ah:=J (nX.trans ar);have fV:=J ar.size;clear hb0 av ar cK cB g3 eS nX;go_wp2_with fail;refine(HI.o _ _ fM.o.arr).mono ?_
 rintro e w2 ⟨v2,rfl,eT,al⟩;have fG:=J eT;have eO:=J (ym.o.ext al);have eS:=WV.o.ext al;obtain⟨b3,n3,A3,c3,rfl⟩:=eT.shape;have k0:=eS.three;have am:=J (ah.o.trans al);have ie:=J eS;clear eT al eS;go_wp2_with fail;obtain⟨dN,cB,hr2⟩:=Ck ie.o (.bool b3) (.slice A3 n3 c3) (.slice A2 n2 c2);refine bodyPost_ret (v:= .agg #[.bool b3,.slice A3 n3 c3,.slice A2 n2 c2]) (by simp[results,Tryz.results211,go_sem,dN,cB,hr2]) rfl ?_
 have fx:BH wo.heap.size w2 (.agg #[.bool b3,.slice A3 n3 c3,.slice A2 n2 c2]) (MS z (val ys)) (MV z (val ys)):=BH.mk (by
  have h1:=fG.o.mono fV.o;rw[HS.o]at h1;exact h1) eO.o
 exact⟨_,rfl,fx.put sN (by omega),((am.o.setCell (Nat.le_succ _) _).setCell (Nat.le_succ _) _).setCell (Nat.le_succ _) _⟩
end Big
end Go.Proofs.YtkoaogkknnelaaaGreatDoor
