import Derived.Test.YtkoaogkknnelaaaGreatDoorM14
import Derived.Lib.ConvBytes
set_option linter.unusedVariables false
set_option linter.unusedSimpArgs false
set_option maxHeartbeats 1000000
set_option maxRecDepth 100000
namespace Go.Proofs.YtkoaogkknnelaaaGreatDoor
namespace Big
open Lib renaming hid → J
open Go.RowKit
theorem Gt{g:Nat}(h:0<g):0<(Af g).length:=qcj.2 (fun e=>by rw[DX]at e;omega)
theorem RR(w:World)(v u:Value)(X Y:Nat)(h:Arr w v (Af X))(h':Arr w u (Af Y))(hn:(Af X).length<=134217728)(cC:(Af Y).length<=134217728):
  Calls Tryz.prog 167 #[v,u] w fun e w'=>∃v',e= .returned v'/\Arr w' v' (Af (Nat.gcd X Y))/\Ext w w':=by
 have HA:=J h;have HB:=J h';obtain⟨n1,A1,c1,rfl⟩:=h.shape;obtain⟨n2,A2,c2,rfl⟩:=h'.shape;clear h h';go_enter Tryz.func167,Tryz.ntmps167;go_wp2_with fail
 go_loopg [0,1] Y (fun gh s0 s1 wr=>∃(g x:Nat) (na:Nat) (Aa:Option Addr) (ca nb:Nat) (Ab:Option Addr) (cb:Nat),gh=g/\s0= .slice Aa na ca/\s1= .slice Ab nb cb/\Arr wr s0 (Af x)/\Arr wr s1 (Af g)/\Nat.gcd x g=Nat.gcd X Y/\(Af x).length<=134217728/\(Af g).length<=134217728/\Ext w wr)
 case atStart=>exact⟨Y,X,n1,A1,c1,n2,A2,c2,rfl,rfl,rfl,HA.o,HB.o,rfl,hn,cC,Ext.refl _⟩
 case round=>
  obtain⟨g,x,na,Aa,ca,nb,Ab,cb,iT,rfl,rfl,oy,ov,hg,hlx,tm,ai⟩:=hrel;have fo:=J iT;have HG:=J hg;have nF:=J ai;have WH:=J ov;have hnb:=ov.len;clear iT hg ai HA HB;rcases qar g with h0|h0
  ·subst h0;rw[Cs,qaE]at hnb;subst hnb;have HV:Hid (Arr wr (.slice Aa na ca) (Af (Nat.gcd X Y))):=J (by
    have h1:=HG.o;rw[Nat.gcd_zero_right]at h1;rw[<-h1];exact oy)
   clear oy ov;go_wp2_with fail;go_ret;exact⟨_,rfl,HV.o,nF.o⟩
  ·have hl1:0<nb:=by rw[hnb];exact Gt h0
   have HD:=J (FJ wr _ _ _ _ oy ov hlx tm (by rw[Ah];exact h0));rw[Ah,Ah]at HD;have gE:=qbl x h0;have Vd:=qaf (BW (qaR gE)) tm;have du:=J (show Nat.gcd g (x % g)=Nat.gcd X Y by rw[<-M8,HG.o]);have hb0:(0:Int)<(nb:Int):=by omega
   clear oy ov hnb;go_wp2_with fail;refine HD.o.mono ?_
   rintro e w3 ⟨v3,u3,rfl,qr,gV,ae⟩;have aC:=J (WH.o.ext ae);have eE:=J gV;have ag:=J (nF.o.trans ae);obtain⟨n3,A3,c3,rfl⟩:=qr.arr.2.shape;obtain⟨n4,A4,c4,rfl⟩:=gV.2.shape;clear qr gV ae;go_wp2_with fail
   go_roundg (x % g)
   case rel=>exact⟨x % g,g,nb,Ab,cb,n4,A4,c4,rfl,rfl,rfl,aC.o,eE.o,du.o,tm,Vd,ag.o⟩
   case measure=>rw[fo.o];exact gE
theorem Ms(w:World)(v u:Value)(X Y:Nat)(h:Arr w v (Af X))(h':Arr w u (Af Y))(hn:(Af X).length<=134217728)(cC:(Af Y).length<=134217728)(hy:0<Y):
  Calls Tryz.prog 168 #[v,u] w fun e w'=>∃v',e= .returned v'/\Own w.heap.size w' v' (Af (X / Y))/\Ext w w':=by
 have HD:=J (FJ w v u _ _ h h' hn cC (by rw[Ah];exact hy));rw[Ah,Ah]at HD;clear h h';go_enter Tryz.func168,Tryz.ntmps168;go_wp2_with fail;refine HD.o.mono ?_
 rintro e w3 ⟨v3,u3,rfl,qr,gV,ae⟩;have HQ3:=J qr;have ag:=J ae;obtain⟨n3,A3,c3,rfl⟩:=qr.arr.2.shape;obtain⟨n4,A4,c4,rfl⟩:=gV.2.shape;clear qr gV ae;go_wp2_with fail;go_ret;exact⟨_,rfl,HQ3.o,ag.o⟩
def S2(X Y:Nat)(w:World)(e:Ending)(w':World):Prop:=
 ∃v' u',e= .returned (.tuple #[v',u',.bool true])/\Own w.heap.size w' v' (Af (X / Nat.gcd X Y))/\Own w.heap.size w' u' (Af (Y / Nat.gcd X Y))/\Ext w w'
theorem Mo(w:World)(v u:Value)(X Y:Nat)(h:Arr w v (Af X))(h':Arr w u (Af Y))(hn:(Af X).length<=134217728)(cC:(Af Y).length<=134217728)(hy:0<Y):
  Calls Tryz.prog 121 #[v,u] w (S2 X Y w):=by
 have HG:=J (RR w v u X Y h h' hn cC);have jR:0<Nat.gcd X Y:=Nat.gcd_pos_of_pos_right _ hy;have fR:(Af (Nat.gcd X Y)).length<=134217728:=qaf (BW (Nat.gcd_le_right _ hy)) cC;have lP:=J (fun W z hx a=>Ms W v z X (Nat.gcd X Y) (h.ext hx) a hn fR jR);have nP:=J (fun W z hx a=>Ms W u z Y (Nat.gcd X Y) (h'.ext hx) a cC fR jR);obtain⟨nv,Av,cv,rfl⟩:=h.shape;obtain⟨nu,Au,cu,rfl⟩:=h'.shape;have hl:=h'.len;have oB:=Gt hy;rw[<-hl]at oB;have mM:((nu:Int) == 0)=false:=by rw[beq_eq_false_iff_ne];omega
 clear h h' hn cC fR hl jR oB;go_enter Tryz.func121,Tryz.ntmps121;go_wp2_with fail;refine HG.o.mono ?_
 rintro e w1 ⟨v1,rfl,cK,ar⟩;have ah:=J ar;have fM:=J cK;obtain⟨n1,A1,c1,rfl⟩:=cK.2.shape;clear cK ar;go_wp2_with fail;refine(lP.o _ _ ah.o fM.o).mono ?_
 rintro e w2 ⟨v2,rfl,bN,al⟩;have am:=J (ah.o.trans al);have eF:=J (bN.mono ah.o.size);have nf:=J (fM.o.ext al);obtain⟨n2,A2,c2,rfl⟩:=bN.shape;clear bN al;go_wp2_with fail;refine(nP.o _ _ am.o nf.o).mono ?_
 rintro e w3 ⟨v3,rfl,ek,ae⟩;have ag:=J (am.o.trans ae);have kH:=J (ek.mono am.o.size);have uk:=J (eF.o.ext ae);obtain⟨n3,A3,c3,rfl⟩:=ek.shape;clear ek ae;go_wp2_with fail;go_ret3;exact⟨_,_,rfl,uk.o,kH.o,ag.o⟩
def MP(x y:Int):Int:=sgn (decide (x<0) != decide (y<0)) (x.natAbs / Nat.gcd x.natAbs y.natAbs)
def MQ(x y:Int):Nat:=y.natAbs / Nat.gcd x.natAbs y.natAbs
theorem P7(w:World)(v u:Value)(x y:Int)(h:Cf w v x)(h':Cf w u y)(hn:(Af x.natAbs).length<=134217728)(cC:(Af y.natAbs).length<=134217728)(hy:y≠0):
  Calls Tryz.prog 63 #[v,u] w fun e w'=>∃v',e= .returned (.tuple #[v',.int .i64 0])/\BH w.heap.size w' v' (MP x y) (MQ x y)/\Ext w w':=by
 obtain⟨b,n,A,c,rfl⟩:=h.shape;obtain⟨b',n',A',c',rfl⟩:=h'.shape;have HL:=J (fun W hx=>Mo W (.slice A n c) (.slice A' n' c') x.natAbs y.natAbs (h.mag.ext hx) (h'.mag.ext hx) hn cC (by omega));have HI:=J (fun W m a=>FF W (b != b') m (Af (x.natAbs / Nat.gcd x.natAbs y.natAbs)) a (qaf (BW (Nat.div_le_self _ _)) (by omega)));rw[Ah]at HI;have HS:=J h.sign;have HS':=J h'.sign;clear h h' hn cC;go_enter Tryz.func63,Tryz.ntmps63;go_wp2_with fail;have hb0:=((Blk.new w 24 #[.bool b,.slice A n c]).alloc (.cells #[.bool b',.slice A' n' c'] 24)).alloc (.cells #[.bool false,.slice none 0 0,.slice none 0 0] 26);have av:=(Blk.new (w.alloc (.cells #[.bool b,.slice A n c] 24)) 24 #[.bool b',.slice A' n' c']).alloc (.cells #[.bool false,.slice none 0 0,.slice none 0 0] 26);have hb2:=Blk.new ((w.alloc (.cells #[.bool b,.slice A n c] 24)).alloc (.cells #[.bool b',.slice A' n' c'] 24)) 26 #[.bool false,.slice none 0 0,.slice none 0 0];have nX:=(((Ext.refl w).alloc (.cells #[.bool b,.slice A n c] 24)).alloc (.cells #[.bool b',.slice A' n' c'] 24)).alloc (.cells #[.bool false,.slice none 0 0,.slice none 0 0] 26);have sN:w.heap.size+1+1<(((w.alloc (.cells #[.bool b,.slice A n c] 24)).alloc (.cells #[.bool b',.slice A' n' c'] 24)).alloc (.cells #[.bool false,.slice none 0 0,.slice none 0 0] 26)).heap.size:=by simp
 simp only[World.size_alloc]at av hb2;generalize ((w.alloc (.cells #[.bool b,.slice A n c] 24)).alloc (.cells #[.bool b',.slice A' n' c'] 24)).alloc (.cells #[.bool false,.slice none 0 0,.slice none 0 0] 26)=wo at *;refine(HL.o _ nX).mono ?_
 rintro e w1 ⟨v1,u1,rfl,cK,cB,ar⟩;have g3:=hb0.ext ar;have eS:=av.ext ar;have hk2:=hb2.ext ar;have fM:=J cK;have ym:=J cB;obtain⟨n1,A1,c1,rfl⟩:=cK.shape;obtain⟨n2,A2,c2,rfl⟩:=cB.shape;obtain⟨h0,h1,_,_,_⟩:=g3.two;obtain⟨h2,h3,_,_,_⟩:=eS.two;have WV:=J hk2;have ah:=J (nX.trans ar);have fV:=J ar.size;clear hb0 av hb2 ar cK cB g3 eS hk2 nX;go_wp2_with fail;refine(HI.o _ _ fM.o.arr).mono ?_
 rintro e w2 ⟨v2,rfl,eT,al⟩;have fG:=J eT;have eO:=J (ym.o.ext al);have eS:=WV.o.ext al;obtain⟨b3,n3,A3,c3,rfl⟩:=eT.shape;have k0:=eS.three;have am:=J (ah.o.trans al);have ie:=J eS;clear eT al eS;go_wp2_with fail;obtain⟨dN,cB,hr2⟩:=Ck ie.o (.bool b3) (.slice A3 n3 c3) (.slice A2 n2 c2);refine bodyPost_ret (v:= .tuple #[.agg #[.bool b3,.slice A3 n3 c3,.slice A2 n2 c2],.int .i64 0]) (by simp[results,Tryz.results63,go_sem,dN,cB,hr2]) rfl ?_
 have fx:BH wo.heap.size w2 (.agg #[.bool b3,.slice A3 n3 c3,.slice A2 n2 c2]) (MP x y) (MQ x y):=BH.mk (by
  have h1:=fG.o.mono fV.o;rw[HS.o,HS'.o]at h1;exact h1) eO.o
 exact⟨_,rfl,fx.put sN (by omega),((am.o.setCell (by show _<=w.heap.size+1+1;omega) _).setCell (by show _<=w.heap.size+1+1;omega) _).setCell (by show _<=w.heap.size+1+1;omega) _⟩
theorem RP(w:World)(v u:Value)(x y:Int)(h:Cf w v x)(h':Cf w u y)(hn:(Af x.natAbs).length<=134217728)(cC:(Af y.natAbs).length<=134217728)(hy:y≠0):
  Calls Tryz.prog 118 #[v,u] w fun e w'=>∃v',e= .returned v'/\BH w.heap.size w' v' (MP x y) (MQ x y)/\Ext w w':=by
 have HA:=J h;have HB:=J h';obtain⟨b,n,A,c,rfl⟩:=h.shape;obtain⟨b',n',A',c',rfl⟩:=h'.shape;have HM:=J (fun W hx=>P7 W _ _ x y (h.ext hx) (h'.ext hx) hn cC hy);clear h h' hn cC;go_enter Tryz.func118,Tryz.ntmps118;go_wp2_with fail;have hb2:=Blk.new ((w.alloc (.cells #[.bool b,.slice A n c] 24)).alloc (.cells #[.bool b',.slice A' n' c'] 24)) 26 #[.bool false,.slice none 0 0,.slice none 0 0];have nX:=(((Ext.refl w).alloc (.cells #[.bool b,.slice A n c] 24)).alloc (.cells #[.bool b',.slice A' n' c'] 24)).alloc (.cells #[.bool false,.slice none 0 0,.slice none 0 0] 26);simp only[World.size_alloc]at hb2;generalize ((w.alloc (.cells #[.bool b,.slice A n c] 24)).alloc (.cells #[.bool b',.slice A' n' c'] 24)).alloc (.cells #[.bool false,.slice none 0 0,.slice none 0 0] 26)=wo at *;refine(HM.o _ nX).mono ?_
 rintro e w1 ⟨v1,rfl,cK,ar⟩;have fM:=J cK;obtain⟨b1,n1,A1,c1,n2,A2,c2,rfl⟩:=cK.shape;have hk2:=hb2.ext ar;have HK:=J hk2;have ah:=J (nX.trans ar);have fV:=J ar.size;have YJ:=J hb2.lt;have k0:=hk2.three;clear cK ar hk2 hb2 nX;go_wp2_with fail;obtain⟨dN,cB,hr2⟩:=Ck HK.o (.bool b1) (.slice A1 n1 c1) (.slice A2 n2 c2);obtain⟨we,dU,cn,_⟩:=((((HK.o.set_ 0 (.bool b1)).set_ 1 (.slice A1 n1 c1)).set_ 2 (.slice A2 n2 c2)).alloc (.cells #[.bool b1,.slice A1 n1 c1,.slice A2 n2 c2] 26)).three;refine bodyPost_ret (v:= .agg #[.bool b1,.slice A1 n1 c1,.slice A2 n2 c2]) (by simp[results,Tryz.results118,go_sem,we,dU,cn]) rfl ?_
 have fx:=(fM.o.put (w:=w) YJ.o (by have:=YJ.o;omega)).ext ((Ext.refl _).alloc (.cells #[.bool b1,.slice A1 n1 c1,.slice A2 n2 c2] 26));exact⟨_,rfl,fx,(((ah.o.setCell (by show _<=w.heap.size+1+1;omega) _).setCell (by show _<=w.heap.size+1+1;omega) _).setCell (by show _<=w.heap.size+1+1;omega) _).alloc _⟩
theorem FZ{l:List UInt8}(h:(AB l && ((AX l == []) || ((AX l).getLast? == some 48)))=true):H8 l=true:=by
 unfold H8;rw[h];rfl
theorem EZ{l:List UInt8}(h:(AB l && ((AX l == []) || ((AX l).getLast? == some 48)))=false):H8 l=((whole l == []) || ((whole l)[0]? == some 48 && decide (1<(whole l).length))):=by
 unfold H8;rw[h];rfl
theorem KY(P:List UInt8)(k:Nat)(h:P.length=k+1):(P.getLast? == some 48)=((Ad P k:Int) == 48):=by
 have h1:P.getLast? =some P[k]:=by
  rw[List.getLast?_eq_getElem?,show P.length-1=k by omega,qaa (by omega)]
 rw[h1,BC P k (by omega),qbi];simp only[beq_iff_eq,qaw];constructor
 ·intro e;rw[e];rfl
 ·intro e;apply qcw.1;have:P[k].toNat=48:=by omega
  rw[this];rfl
theorem GG(W:List UInt8)(k:Nat)(h:W.length=k+1):(W[0]? == some 48)=((Ad W 0:Int) == 48):=by
 rw[BC W 0 (by omega),qaa (by omega),qbi];simp only[beq_iff_eq,qaw];constructor
 ·intro e;rw[e];rfl
 ·intro e;apply qcw.1;have:W[0].toNat=48:=by omega
  rw[this];rfl
theorem RJ(w:World)(n:Nat)(hn:n<=100000):
  Calls Tryz.prog 171 #[.int .i64 (n:Int)] w fun e w'=>∃v',e= .returned v'/\BY w.heap.size w' v' ((10 ^ n:Nat):Int)/\Ext w w':=by
 have kG:=J (fun W=>IM W 1 (by decide));rw[show ((1:Nat):Int)=1 from rfl]at kG;have nj:Hid (∀k,k<=n->(Af (10 ^ k)).length<=100001):=J (fun k hk=>F8 (k:=k+1) (Nat.pow_lt_pow_right (by decide) (by omega)) (by omega));go_enter Tryz.func171,Tryz.ntmps171;go_wp2_with fail;refine(kG.o _).mono ?_
 rintro e w1 ⟨v1,rfl,cK,ar⟩;have aA:=J ((Blk.new w 24 #[.bool false,.slice none 0 0]).ext ar);have ah:=J (((Ext.refl w).alloc (.cells #[.bool false,.slice none 0 0] 24)).trans ar);have fM:=J (cK.mono (show w.heap.size+1<=_ by simp));obtain⟨n1,A1,c1,rfl⟩:=cK.arr.2.shape;clear cK ar;go_wp2_with fail;go_loopw [3,6] (fun s3 s6 wr=>∃(k:Nat) (m:Nat) (A:Option Addr) (c:Nat),k<=n/\s6= .int .i64 (k:Int)/\s3= .slice A m c/\Own (w.heap.size+1) wr s3 (Af (10 ^ k))/\Blk wr w.heap.size 24 #[.bool false,.slice none 0 0]/\Ext w wr) (fun _ s6 _=>n-(intOf s6).toNat)
 case atStart=>exact⟨0,n1,A1,c1,qal _,rfl,rfl,fM.o,aA.o,ah.o⟩
 case round=>
  obtain⟨k,m,A,c,hk,rfl,rfl,ho,hb,hx⟩:=hrel;have HO:=J ho;have HB:=J hb;have HX:=J hx;have hsz:=hb.lt;by_cases hlt:k<n
  ·have HS:=J (Fa wr _ _ 10 0 ho.arr (by have:=nj.o k hk;omega) (by decide) (by decide));rw[Ah,qbc,<-qaZ,show ((10:Nat):Int)=10 from rfl,show ((0:Nat):Int)=0 from rfl]at HS;clear ho hb hx;go_wp2_with fail;refine HS.o.mono ?_
   rintro e w2 ⟨v2,rfl,bN,al⟩;have eF:=J (bN.mono hsz);have aF:=J (HB.o.ext al);have am:=J (HX.o.trans al);obtain⟨n2,A2,c2,rfl⟩:=bN.arr.2.shape;clear bN al;go_wp2_with fail;go_roundw
   case rel=>exact⟨k+1,n2,A2,c2,by omega,by go_num,rfl,eF.o,aF.o,am.o⟩
   case measure=>simp[intOf];omega
  ·obtain rfl:k=n:=by omega
   have HI:=J (FF wr false _ _ ho.arr (by have:=nj.o k hk;omega));rw[Ah]at HI;clear ho hb hx;go_wp2_with fail;refine HI.o.mono ?_
   rintro e w2 ⟨v2,rfl,eT,al⟩;have fG:=J (eT.mono hsz);have hb2:=HB.o.ext al;have aF:=J hb2;have am:=J (HX.o.trans al);obtain⟨b2,n2,A2,c2,rfl⟩:=eT.shape;have k0:=hb2.two;clear eT al hb2;go_wp2_with fail;obtain⟨dN,cB⟩:=Ec aF.o (.bool b2) (.slice A2 n2 c2);refine bodyPost_ret (v:= .agg #[.bool b2,.slice A2 n2 c2]) (by simp[results,Tryz.results171,go_sem,dN,cB]) rfl ?_
   have af:=BY.stored aF.o fG.o (Nat.lt_succ_self _) am.o (qad _);exact⟨_,rfl,af⟩
def Ua(w:World)(l:List UInt8)(e:Ending)(w':World):Prop:=
 ∃a b:List UInt8,e= .returned (.tuple #[str a,str b,.bool (CR l)])/\(CR l=true->a=whole l/\b=AX l)/\Ext w w'
theorem Pj{l:List UInt8}{k:Nat}(h:AB l=true)(hk:l.length=k+1):(AX l=[]->Ad l k=46)/\(AX l≠[]->((AX l).getLast? == some 48)=((Ad l k:Int) == 48)):=by
 rcases Cy l with ⟨_,h2⟩|⟨h1,_⟩
 ·have hg:Ad l k=Ad (whole l++46::AX l) k:=congrArg (fun z=>Ad z k) h2;have ak:=congrArg List.length h2;rw[qab,qat,hk]at ak;constructor
  ·intro hp;rw[hg];rw[hp]at ak ⊢;simp only[qaE]at ak;unfold Ad;rw[qac,qao (by omega),show k-(whole l).length=0 by omega];rfl
  ·intro hp;obtain⟨j,hj⟩:∃j,(AX l).length=j+1:=⟨(AX l).length-1,by have:=qcj.2 hp;omega⟩;rw[KY (AX l) j hj,hg];have:Ad (whole l++46::AX l) k=Ad (AX l) j:=by
    unfold Ad;rw[qac,qac,qao (by omega),show k-(whole l).length=j+1 by omega,List.getElem?_cons_succ]
   rw[this]
 ·rw[h]at h1;cases h1
theorem Jm{l:List UInt8}{k:Nat}(ha:DP l=true)(h:AB l=true)(hp:AX l≠[])(hk:l.length=k+1):48<=Ad l k:=by
 rcases Cy l with ⟨_,h2⟩|⟨h1,_⟩
 ·have hg:Ad l k=Ad (whole l++46::AX l) k:=congrArg (fun z=>Ad z k) h2;have ak:=congrArg List.length h2;rw[qab,qat,hk]at ak;obtain⟨j,hj⟩:∃j,(AX l).length=j+1:=⟨(AX l).length-1,by have:=qcj.2 hp;omega⟩;have h3:Ad (whole l++46::AX l) k=Ad (AX l) j:=by
   unfold Ad;rw[qac,qac,qao (by omega),show k-(whole l).length=j+1 by omega,List.getElem?_cons_succ]
  rw[hg,h3,BC _ _ (by omega)];have h4:Bx (AX l)[j]=true:=by
   unfold DP at ha;rw[qcx,qaM]at ha;exact qbI.1 ha.2 _ (qap _)
  unfold Bx at h4;simp only[qaM,decide_eq_true_eq]at h4;exact h4.1
 ·rw[h]at h1;cases h1
theorem Na{l:List UInt8}(h:0<(whole l).length):((whole l)[0]? == some 48)=((Ad l 0:Int) == 48):=by
 obtain⟨k,hk⟩:∃k,(whole l).length=k+1:=⟨(whole l).length-1,by omega⟩;rw[GG (whole l) k hk];have:Ad (whole l) 0=Ad l 0:=by
  have h1:=Gv l;rw[<-h1];unfold Ad;rw[qac,qac,qcs h]
 rw[this]
theorem Lr(w:World)(l:List UInt8)(hl:l.length<=1073741824):
  Calls Tryz.prog 169 #[str l] w (Ua w l):=by
 go_enter Tryz.func169,Tryz.ntmps169;go_wp2_with fail;go_loopw [5,6] (fun s5 s6 wr=>∃i p:Nat,i<=l.length/\s6= .int .i64 (i:Int)/\s5= .int .i64 (p:Int)/\Hid (DP (l.take i)=true)/\Hid (p=if AB (l.take i) then (whole l).length else l.length)/\w=wr) (fun _ s6 _=>l.length-(intOf s6).toNat)
 case atStart=>exact⟨0,l.length,qal _,rfl,rfl,J (by rw[qaK];rfl),J (by rw[qaK];rfl),rfl⟩
 case round=>
  obtain⟨i,p,hi,rfl,rfl,HA,HP,rfl⟩:=hrel;by_cases hlt:i<l.length
  ·have af:=Qa hlt HA.o;have fz:=BC l i hlt;have gJ:=J af.1;have fj:=J af.2;have HFD:=J (QX l i hlt);have HDT:=J (Nf (l:=l) (j:=i));have ao:Hid (DP (l.take (i+1))=false->CR l=false):=J (fun h=>by rw[Cx,RS h,Bool.and_false]);have eM:=CL l i;clear af;generalize l[i]=c at *;have xq:(c == 46)=((Ad l i:Int) == 46):=by
    rw[fz,qbi];simp only[beq_iff_eq];constructor
    ·intro e;rw[e];rfl
    ·intro e;apply qcw.1;have:c.toNat=46:=by omega
     rw[this];rfl
   have zu:Bx c=(decide (48<=Ad l i) && decide (Ad l i<=57)):=by rw[fz];rfl
   have iS:=J xq;have uI:=J zu;clear xq zu fz;cases hD:AB (l.take i)
   ·have hp:p=l.length:=by rw[HP.o,hD];rfl
    subst hp;cases h46:((Ad l i:Int) == 46)
    ·rcases qam (Ad l i) 48 with xG|xG
     ·have HG:Hid (CR l=false):=J (ao.o (by rw[gJ.o,hD,iS.o,h46,uI.o];simp;omega));have ec:decide ((Ad l i:Int)<48)=true:=by rw[decide_eq_true_iff];omega
      have tV:(Ad l i:Int)<48:=by omega
      clear hD;go_wp2_with fail;go_ret3;exact⟨[],[],by rw[HG.o];rfl,(fun h=>by rw[HG.o]at h;cases h),Ext.refl _⟩
     ·have ec:decide ((Ad l i:Int)<48)=false:=by simp;omega
      have tV:¬(Ad l i:Int)<48:=by omega
      rcases qam 57 (Ad l i) with Wb|Wb
      ·have HG:Hid (CR l=false):=J (ao.o (by rw[gJ.o,hD,iS.o,h46,uI.o];simp;omega));have bE:decide ((57:Int)<(Ad l i:Int))=true:=by rw[decide_eq_true_iff];omega
       have tU:(57:Int)<(Ad l i:Int):=by omega
       clear hD;go_wp2_with fail;go_ret3;exact⟨[],[],by rw[HG.o];rfl,(fun h=>by rw[HG.o]at h;cases h),Ext.refl _⟩
      ·have bE:decide ((57:Int)<(Ad l i:Int))=false:=by simp;omega
       have tU:¬(57:Int)<(Ad l i:Int):=by omega
       have bJ:Hid (DP (l.take (i+1))=true):=J (by rw[gJ.o,iS.o,h46,uI.o];simp;omega);have dQ:Hid (AB (l.take (i+1))=AB (l.take i)):=J (by rw[fj.o,iS.o,h46,qbv]);clear hD;go_wp2_with fail;go_roundw
       case rel=>exact⟨i+1,_,by omega,by go_num,rfl,bJ,J (by rw[dQ.o];exact HP.o),(by first|rfl|trivial)⟩
       case measure=>simp[intOf];omega
    ·have HN:Hid ((whole l).length=i):=J (HFD.o hD (by have:=iS.o;rw[h46]at this;simpa using this));have bJ:Hid (DP (l.take (i+1))=true):=J (by rw[gJ.o,hD,iS.o,h46];rfl);have dQ:Hid (AB (l.take (i+1))=true):=J (by rw[fj.o,iS.o,h46,Bool.or_true]);have hpp:((l.length:Int) == (l.length:Int))=true:=by simp
     clear hD;go_wp2_with fail;go_roundw
     case rel=>exact⟨i+1,i,by omega,by go_num,rfl,bJ,J (by rw[dQ.o,HN.o];rfl),(by first|rfl|trivial)⟩
     case measure=>simp[intOf];omega
   ·have qu:p=(whole l).length:=by rw[HP.o,hD];rfl
    have hlt2:=HDT.o hD;have sU:((p:Int) == (l.length:Int))=false:=by rw[beq_eq_false_iff_ne];omega
    cases h46:((Ad l i:Int) == 46)
    ·rcases qam (Ad l i) 48 with xG|xG
     ·have HG:Hid (CR l=false):=J (ao.o (by rw[gJ.o,hD,iS.o,h46,uI.o];simp;omega));have ec:decide ((Ad l i:Int)<48)=true:=by rw[decide_eq_true_iff];omega
      have tV:(Ad l i:Int)<48:=by omega
      clear hD;go_wp2_with fail;go_ret3;exact⟨[],[],by rw[HG.o];rfl,(fun h=>by rw[HG.o]at h;cases h),Ext.refl _⟩
     ·have ec:decide ((Ad l i:Int)<48)=false:=by simp;omega
      have tV:¬(Ad l i:Int)<48:=by omega
      rcases qam 57 (Ad l i) with Wb|Wb
      ·have HG:Hid (CR l=false):=J (ao.o (by rw[gJ.o,hD,iS.o,h46,uI.o];simp;omega));have bE:decide ((57:Int)<(Ad l i:Int))=true:=by rw[decide_eq_true_iff];omega
       have tU:(57:Int)<(Ad l i:Int):=by omega
       clear hD;go_wp2_with fail;go_ret3;exact⟨[],[],by rw[HG.o];rfl,(fun h=>by rw[HG.o]at h;cases h),Ext.refl _⟩
      ·have bE:decide ((57:Int)<(Ad l i:Int))=false:=by simp;omega
       have tU:¬(57:Int)<(Ad l i:Int):=by omega
       have bJ:Hid (DP (l.take (i+1))=true):=J (by rw[gJ.o,iS.o,h46,uI.o];simp;omega);have dQ:Hid (AB (l.take (i+1))=AB (l.take i)):=J (by rw[fj.o,iS.o,h46,qbv]);clear hD;go_wp2_with fail;go_roundw
       case rel=>exact⟨i+1,_,by omega,by go_num,rfl,bJ,J (by rw[dQ.o];exact HP.o),(by first|rfl|trivial)⟩
       case measure=>simp[intOf];omega
    ·have xG:(Ad l i:Int)<48:=by
      have:(Ad l i:Int)=46:=by simpa using h46
      omega
     have HG:Hid (CR l=false):=J (ao.o (by rw[gJ.o,hD,uI.o];simp;omega));have ec:decide ((Ad l i:Int)<48)=true:=by simpa using xG
     clear hD qu hlt2;go_wp2_with fail;go_ret3;exact⟨[],[],by rw[HG.o];rfl,(fun h=>by rw[HG.o]at h;cases h),Ext.refl _⟩
  ·obtain rfl:i=l.length:=by omega
   rw[qak (qad _)]at HA HP;have qu:p=(whole l).length:=by
    rw[HP.o];cases hD:AB l
    ·rw[FP hD];rfl
    ·rfl
   subst qu;clear HP;rcases qar (whole l).length with dZ|dZ
   ·have HG:Hid (CR l=false):=J (by
     have h1:whole l=[]:=qau dZ;have h2:H8 l=true:=by unfold H8;rw[h1];simp
     rw[Cx,h2];rfl)
    have hz:(((whole l).length:Int) == 0)=true:=by rw[dZ];rfl
    clear dZ;go_wp2_with fail;go_ret3;exact⟨[],[],by rw[HG.o];rfl,(fun h=>by rw[HG.o]at h;cases h),Ext.refl _⟩
   ·have hz:(((whole l).length:Int) == 0)=false:=by rw[beq_eq_false_iff_ne];omega
    have Zt:=IY l;have oB:(0:Int)<(l.length:Int):=by omega
    have zE:Hid ((whole l == [])=false):=J (by rw[beq_eq_false_iff_ne];intro e;rw[e]at dZ;simp at dZ);have oO:=Na dZ;rcases qam 1 (whole l).length with Yr|Yr
    ·have hd:(1:Int)<((whole l).length:Int):=by omega
     cases hb0:((Ad l 0:Int) == 48)
     ·have xZ:Hid (((whole l)[0]? == some 48 && decide (1<(whole l).length))=false):=J (by rw[oO,hb0];rfl);clear oO;cases hD:AB l
      ·have sG:=FP hD;have HG:Hid (CR l=true):=J (by rw[Cx,HA.o,EZ (by rw[hD];rfl),zE.o,xZ.o];rfl);have sU:(((whole l).length:Int) == (l.length:Int))=true:=by rw[beq_iff_eq];omega
       have uU:¬((whole l).length:Int)<(l.length:Int):=by omega
       have HE:Hid (whole l=l/\AX l=[]):=J (by
        rcases Cy l with ⟨h1,_⟩|⟨_,h2,h3⟩
        ·rw[hD]at h1;cases h1
        ·exact⟨h2.symm,h3⟩)
       clear hD sG;go_wp2_with fail;go_ret3;exact⟨l,[],by rw[HG.o];rfl,(fun _=>⟨HE.o.1.symm,HE.o.2.symm⟩),Ext.refl _⟩
      ·have Vc:(whole l).length<l.length:=of_decide_eq_true hD;have sU:(((whole l).length:Int) == (l.length:Int))=false:=by rw[beq_eq_false_iff_ne];omega
       have uU:((whole l).length:Int)<(l.length:Int):=by omega
       obtain⟨k,hk⟩:∃k,l.length=k+1:=⟨l.length-1,by omega⟩;have hks:(l.length:Int)-1=(k:Int):=by omega
       have g3:(k:Int)<(l.length:Int):=by omega
       have kJ:=J (Pj hD hk);rcases qar (AX l).length with hp0|hp0
       ·have gW:AX l=[]:=qau hp0;have HG:Hid (CR l=false):=J (by rw[Cx,FZ (by rw[hD,gW];rfl)];rfl);have fz:=kJ.o.1 gW;have av:((Ad l k:Int) == 48)=false:=by rw[fz];rfl
        have hb2:((Ad l k:Int) == 46)=true:=by rw[fz];rfl
        clear hD hk hp0 gW fz;go_wp2_with fail;go_ret3;exact⟨[],[],by rw[HG.o];rfl,(fun h=>by rw[HG.o]at h;cases h),Ext.refl _⟩
       ·have gW:AX l≠[]:=fun e=>by rw[e]at hp0;simp at hp0
        have js:(AX l == [])=false:=by rw[beq_eq_false_iff_ne];exact gW
        have fz:=kJ.o.2 gW;cases hb:((Ad l k:Int) == 48)
        ·have HG:Hid (CR l=true):=J (by rw[Cx,HA.o,EZ (by rw[hD,js,fz,hb];rfl),zE.o,xZ.o];rfl);have hb2:((Ad l k:Int) == 46)=false:=by
          have h1:=Jm HA.o hD gW hk;rw[beq_eq_false_iff_ne];omega
         have qT:=J (Gv l);have vm:=J (K6 hD);have aB:IntKind.i64.wrap (((whole l).length:Int)+1)=((whole l).length:Int)+1:=IntWalk.i64_in _ (by omega);have aY:(0:Int)<=((whole l).length:Int)+1:=by omega
         have a5:((whole l).length:Int)+1<=(l.length:Int):=by omega
         have hw4:(((whole l).length:Int)+1).toNat=(whole l).length+1:=by omega
         have cA:((whole l).length:Int)<=(l.length:Int):=by omega
         clear hD hk hp0 gW fz js;go_wp2_with fail;go_quiet (fail);go_wp2_with fail;go_ret3;exact⟨_,_,by rw[HG.o];rfl,(fun _=>⟨qT.o,vm.o⟩),(Ext.refl _).drewN _⟩
        ·have HG:Hid (CR l=false):=J (by rw[Cx,FZ (by rw[hD,js,fz,hb];rfl)];rfl);clear hD hk hp0 gW fz js;go_wp2_with fail;go_ret3;exact⟨[],[],by rw[HG.o];rfl,(fun h=>by rw[HG.o]at h;cases h),Ext.refl _⟩
     ·have HG:Hid (CR l=false):=J (by
       have h2:H8 l=true:=by unfold H8;rw[oO,hb0];simp[Yr]
       rw[Cx,h2];rfl)
      clear oO;go_wp2_with fail;go_ret3;exact⟨[],[],by rw[HG.o];rfl,(fun h=>by rw[HG.o]at h;cases h),Ext.refl _⟩
    ·have hd:¬(1:Int)<((whole l).length:Int):=by omega
     have xZ:Hid (((whole l)[0]? == some 48 && decide (1<(whole l).length))=false):=J (by rw[decide_eq_false (by omega),Bool.and_false]);clear oO;cases hD:AB l
     ·have sG:=FP hD;have HG:Hid (CR l=true):=J (by rw[Cx,HA.o,EZ (by rw[hD];rfl),zE.o,xZ.o];rfl);have sU:(((whole l).length:Int) == (l.length:Int))=true:=by rw[beq_iff_eq];omega
      have uU:¬((whole l).length:Int)<(l.length:Int):=by omega
      have HE:Hid (whole l=l/\AX l=[]):=J (by
       rcases Cy l with ⟨h1,_⟩|⟨_,h2,h3⟩
       ·rw[hD]at h1;cases h1
       ·exact⟨h2.symm,h3⟩)
      clear hD sG;go_wp2_with fail;go_ret3;exact⟨l,[],by rw[HG.o];rfl,(fun _=>⟨HE.o.1.symm,HE.o.2.symm⟩),Ext.refl _⟩
     ·have Vc:(whole l).length<l.length:=of_decide_eq_true hD;have sU:(((whole l).length:Int) == (l.length:Int))=false:=by rw[beq_eq_false_iff_ne];omega
      have uU:((whole l).length:Int)<(l.length:Int):=by omega
      obtain⟨k,hk⟩:∃k,l.length=k+1:=⟨l.length-1,by omega⟩;have hks:(l.length:Int)-1=(k:Int):=by omega
      have g3:(k:Int)<(l.length:Int):=by omega
      have kJ:=J (Pj hD hk);rcases qar (AX l).length with hp0|hp0
      ·have gW:AX l=[]:=qau hp0;have HG:Hid (CR l=false):=J (by rw[Cx,FZ (by rw[hD,gW];rfl)];rfl);have fz:=kJ.o.1 gW;have av:((Ad l k:Int) == 48)=false:=by rw[fz];rfl
       have hb2:((Ad l k:Int) == 46)=true:=by rw[fz];rfl
       clear hD hk hp0 gW fz;go_wp2_with fail;go_ret3;exact⟨[],[],by rw[HG.o];rfl,(fun h=>by rw[HG.o]at h;cases h),Ext.refl _⟩
      ·have gW:AX l≠[]:=fun e=>by rw[e]at hp0;simp at hp0
       have js:(AX l == [])=false:=by rw[beq_eq_false_iff_ne];exact gW
       have fz:=kJ.o.2 gW;cases hb:((Ad l k:Int) == 48)
       ·have HG:Hid (CR l=true):=J (by rw[Cx,HA.o,EZ (by rw[hD,js,fz,hb];rfl),zE.o,xZ.o];rfl);have hb2:((Ad l k:Int) == 46)=false:=by
         have h1:=Jm HA.o hD gW hk;rw[beq_eq_false_iff_ne];omega
        have qT:=J (Gv l);have vm:=J (K6 hD);have aB:IntKind.i64.wrap (((whole l).length:Int)+1)=((whole l).length:Int)+1:=IntWalk.i64_in _ (by omega);have aY:(0:Int)<=((whole l).length:Int)+1:=by omega
        have a5:((whole l).length:Int)+1<=(l.length:Int):=by omega
        have hw4:(((whole l).length:Int)+1).toNat=(whole l).length+1:=by omega
        have cA:((whole l).length:Int)<=(l.length:Int):=by omega
        clear hD hk hp0 gW fz js;go_wp2_with fail;go_quiet (fail);go_wp2_with fail;go_ret3;exact⟨_,_,by rw[HG.o];rfl,(fun _=>⟨qT.o,vm.o⟩),(Ext.refl _).drewN _⟩
       ·have HG:Hid (CR l=false):=J (by rw[Cx,FZ (by rw[hD,js,fz,hb];rfl)];rfl);clear hD hk hp0 gW fz js;go_wp2_with fail;go_ret3;exact⟨[],[],by rw[HG.o];rfl,(fun h=>by rw[HG.o]at h;cases h),Ext.refl _⟩
def B9(w:World)(l:List UInt8):World:=Lib.bytesWorld w 5 ⟨l.toArray⟩
theorem FX(w:World)(l:List UInt8):Ext w (B9 w l):=by
 refine⟨?_,?_,?_,?_,fun k hk=>Lib.bytesWorld_at_old w _ _ k hk⟩
 ·simp[B9,Lib.bytesWorld,World.freeze,World.alloc,World.drew,-World.alloc_eq,-World.drew_eq]
 ·simp[B9,Lib.bytesWorld,World.freeze,World.alloc,World.drew,-World.alloc_eq,-World.drew_eq]
 ·simp[B9,Lib.bytesWorld,World.freeze,World.alloc,World.drew,-World.alloc_eq,-World.drew_eq]
 ·unfold B9;rw[Lib.bytesWorld_size];omega
theorem Fl(w:World)(l:List UInt8)(j:Nat)(h:j<l.length):(B9 w l).cell? ⟨w.heap.size,j,none⟩=some (.int .u8 (Ad l j:Int)):=by
 unfold B9 Ad;rw[Lib.bytesWorld_cell w _ _ j (by rw[Cl];exact h)]
theorem OY(w:World)(l:List UInt8):w.heap.size<(B9 w l).heap.size:=by unfold B9;rw[Lib.bytesWorld_size];omega
theorem DF(w:World)(l:List UInt8):∃c,(convert 9 221 (str l)).run Tryz.prog w= .ok (.slice (some ⟨w.heap.size,0,none⟩) l.length c) (B9 w l)/\l.length<=c:=by
 have:=Lib.run_convert_string_bytes (P:=Tryz.prog) w 9 221 5 ⟨l.toArray⟩ Tryz.underlying9 Tryz.underlying221 Tryz.underlying5;rw[Cl]at this;exact⟨_,this,grownCap_ge w l.length 0 _⟩
def T1(l:List UInt8):Int:=MS (Bk (whole l++AX l)) (10 ^ (AX l).length)
def T3(l:List UInt8):Nat:=MV (Bk (whole l++AX l)) (10 ^ (AX l).length)
def Gj(w:World)(l:List UInt8)(e:Ending)(w':World):Prop:=
 ∃v',e= .returned (.tuple #[v',.int .i64 (Bz l:Int)])/\BH w.heap.size w' v' (if Bz l=0 then T1 l else 0) (if Bz l=0 then T3 l else 0)/\Ext w w'
end Big
end Go.Proofs.YtkoaogkknnelaaaGreatDoor
