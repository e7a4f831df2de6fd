import Derived.Test.YtkoaogkknnelaaaGreatDoorM14
import Derived.Lib.ConvBytes
set_option linter.unusedVariables false
set_option linter.unusedSimpArgs false
set_option maxHeartbeats 1000000
set_option maxRecDepth 100000
namespace Go.Proofs.YtkoaogkknnelaaaGreatDoor
namespace Big
open Lib renaming hid → J
open Go.RowKit
theorem Gw{g:Nat}(h:0<g):0<(Af g).length:=List.length_pos_iff.2 (fun e=>by rw[Ef]at e;omega)
theorem Rg(w:World)(v u:Value)(X Y:Nat)(h:Arr w v (Af X))(h':Arr w u (Af Y))(hn:(Af X).length<=134217728)(ck:(Af Y).length<=134217728):
  Calls Tryz.prog 167 #[v,u] w fun e w'=>∃v',e= .returned v'/\Arr w' v' (Af (Nat.gcd X Y))/\Ext w w':=by
 have HA:=J h;have HB:=J h';obtain⟨n1,A1,c1,rfl⟩:=h.shape;obtain⟨n2,A2,c2,rfl⟩:=h'.shape;clear h h';go_enter Tryz.func167,Tryz.ntmps167;go_wp2_with fail
 go_loopg [0,1] Y (fun gh s0 s1 wr=>∃(g x:Nat) (na:Nat) (Aa:Option Addr) (ca nb:Nat) (Ab:Option Addr) (cb:Nat),gh=g/\s0= .slice Aa na ca/\s1= .slice Ab nb cb/\Arr wr s0 (Af x)/\Arr wr s1 (Af g)/\Nat.gcd x g=Nat.gcd X Y/\(Af x).length<=134217728/\(Af g).length<=134217728/\Ext w wr)
 case atStart=>exact⟨Y,X,n1,A1,c1,n2,A2,c2,rfl,rfl,rfl,HA.o,HB.o,rfl,hn,ck,Ext.refl _⟩
 case round=>
  obtain⟨g,x,na,Aa,ca,nb,Ab,cb,iD,rfl,rfl,nL,nK,hg,hlx,rX,an⟩:=hrel;have fl:=J iD;have HG:=J hg;have mV:=J an;have wZ:=J nK;have hnb:=nK.len;clear iD hg an HA HB;rcases Nat.eq_zero_or_pos g with h0|h0
  ·subst h0;rw[Da,List.length_nil]at hnb;subst hnb;have HV:Hid (Arr wr (.slice Aa na ca) (Af (Nat.gcd X Y))):=J (by
    have h1:=HG.o;rw[Nat.gcd_zero_right]at h1;rw[<-h1];exact nL)
   clear nL nK;go_wp2_with fail;go_ret;exact⟨_,rfl,HV.o,mV.o⟩
  ·have hl1:0<nb:=by rw[hnb];exact Gw h0
   have HD:=J (It wr _ _ _ _ nL nK hlx rX (by rw[Ah];exact h0));rw[Ah,Ah]at HD;have gx:=Nat.mod_lt x h0;have zt:=Nat.le_trans (B5 (Nat.le_of_lt gx)) rX;have dE:=J (show Nat.gcd g (x % g)=Nat.gcd X Y by rw[<-M0,HG.o]);have hb0:(0:Int)<(nb:Int):=by omega
   clear nL nK hnb;go_wp2_with fail;refine HD.o.mono ?_
   rintro e w3 ⟨v3,u3,rfl,pA,gp,ae⟩;have aD:=J (wZ.o.ext ae);have eE:=J gp;have aj:=J (mV.o.trans ae);obtain⟨n3,A3,c3,rfl⟩:=pA.arr.2.shape;obtain⟨n4,A4,c4,rfl⟩:=gp.2.shape;clear pA gp ae;go_wp2_with fail
   go_roundg (x % g)
   case rel=>exact⟨x % g,g,nb,Ab,cb,n4,A4,c4,rfl,rfl,rfl,aD.o,eE.o,dE.o,rX,zt,aj.o⟩
   case measure=>rw[fl.o];exact gx
theorem Mk(w:World)(v u:Value)(X Y:Nat)(h:Arr w v (Af X))(h':Arr w u (Af Y))(hn:(Af X).length<=134217728)(ck:(Af Y).length<=134217728)(hy:0<Y):
  Calls Tryz.prog 168 #[v,u] w fun e w'=>∃v',e= .returned v'/\Own w.heap.size w' v' (Af (X / Y))/\Ext w w':=by
 have HD:=J (It w v u _ _ h h' hn ck (by rw[Ah];exact hy));rw[Ah,Ah]at HD;clear h h';go_enter Tryz.func168,Tryz.ntmps168;go_wp2_with fail;refine HD.o.mono ?_
 rintro e w3 ⟨v3,u3,rfl,pA,gp,ae⟩;have ZZ:=J pA;have aj:=J ae;obtain⟨n3,A3,c3,rfl⟩:=pA.arr.2.shape;obtain⟨n4,A4,c4,rfl⟩:=gp.2.shape;clear pA gp ae;go_wp2_with fail;go_ret;exact⟨_,rfl,ZZ.o,aj.o⟩
def Sg(X Y:Nat)(w:World)(e:Ending)(w':World):Prop:=
 ∃v' u',e= .returned (.tuple #[v',u',.bool true])/\Own w.heap.size w' v' (Af (X / Nat.gcd X Y))/\Own w.heap.size w' u' (Af (Y / Nat.gcd X Y))/\Ext w w'
theorem Mj(w:World)(v u:Value)(X Y:Nat)(h:Arr w v (Af X))(h':Arr w u (Af Y))(hn:(Af X).length<=134217728)(ck:(Af Y).length<=134217728)(hy:0<Y):
  Calls Tryz.prog 121 #[v,u] w (Sg X Y w):=by
 have HG:=J (Rg w v u X Y h h' hn ck);have lG:0<Nat.gcd X Y:=Nat.gcd_pos_of_pos_right _ hy;have fH:(Af (Nat.gcd X Y)).length<=134217728:=Nat.le_trans (B5 (Nat.gcd_le_right _ hy)) ck;have js:=J (fun W z hx a=>Mk W v z X (Nat.gcd X Y) (h.ext hx) a hn fH lG);have lX:=J (fun W z hx a=>Mk W u z Y (Nat.gcd X Y) (h'.ext hx) a ck fH lG);obtain⟨nv,Av,cv,rfl⟩:=h.shape;obtain⟨nu,Au,cu,rfl⟩:=h'.shape;have hl:=h'.len;have nO:=Gw hy;rw[<-hl]at nO;have jt:((nu:Int) == 0)=false:=by rw[beq_eq_false_iff_ne];omega
 clear h h' hn ck fH hl lG nO;go_enter Tryz.func121,Tryz.ntmps121;go_wp2_with fail;refine HG.o.mono ?_
 rintro e w1 ⟨v1,rfl,cO,am⟩;have ah:=J am;have fC:=J cO;obtain⟨n1,A1,c1,rfl⟩:=cO.2.shape;clear cO am;go_wp2_with fail;refine(js.o _ _ ah.o fC.o).mono ?_
 rintro e w2 ⟨v2,rfl,bN,au⟩;have aq:=J (ah.o.trans au);have el:=J (bN.mono ah.o.size);have mA:=J (fC.o.ext au);obtain⟨n2,A2,c2,rfl⟩:=bN.shape;clear bN au;go_wp2_with fail;refine(lX.o _ _ aq.o mA.o).mono ?_
 rintro e w3 ⟨v3,rfl,dr,ae⟩;have aj:=J (aq.o.trans ae);have j7:=J (dr.mono aq.o.size);have sU:=J (el.o.ext ae);obtain⟨n3,A3,c3,rfl⟩:=dr.shape;clear dr ae;go_wp2_with fail;go_ret3;exact⟨_,_,rfl,sU.o,j7.o,aj.o⟩
def MJ(x y:Int):Int:=sgn (decide (x<0) != decide (y<0)) (x.natAbs / Nat.gcd x.natAbs y.natAbs)
def MK(x y:Int):Nat:=y.natAbs / Nat.gcd x.natAbs y.natAbs
theorem PK(w:World)(v u:Value)(x y:Int)(h:CG w v x)(h':CG w u y)(hn:(Af x.natAbs).length<=134217728)(ck:(Af y.natAbs).length<=134217728)(hy:y≠0):
  Calls Tryz.prog 63 #[v,u] w fun e w'=>∃v',e= .returned (.tuple #[v',.int .i64 0])/\BB w.heap.size w' v' (MJ x y) (MK x y)/\Ext w w':=by
 obtain⟨b,n,A,c,rfl⟩:=h.shape;obtain⟨b',n',A',c',rfl⟩:=h'.shape;have HL:=J (fun W hx=>Mj W (.slice A n c) (.slice A' n' c') x.natAbs y.natAbs (h.mag.ext hx) (h'.mag.ext hx) hn ck (by omega));have HI:=J (fun W m a=>Jl W (b != b') m (Af (x.natAbs / Nat.gcd x.natAbs y.natAbs)) a (Nat.le_trans (B5 (Nat.div_le_self _ _)) (by omega)));rw[Ah]at HI;have HS:=J h.sign;have ZW:=J h'.sign;clear h h' hn ck;go_enter Tryz.func63,Tryz.ntmps63;go_wp2_with fail;have hb0:=((Blk.new w 24 #[.bool b,.slice A n c]).alloc (.cells #[.bool b',.slice A' n' c'] 24)).alloc (.cells #[.bool false,.slice none 0 0,.slice none 0 0] 26);have aX:=(Blk.new (w.alloc (.cells #[.bool b,.slice A n c] 24)) 24 #[.bool b',.slice A' n' c']).alloc (.cells #[.bool false,.slice none 0 0,.slice none 0 0] 26);have hb2:=Blk.new ((w.alloc (.cells #[.bool b,.slice A n c] 24)).alloc (.cells #[.bool b',.slice A' n' c'] 24)) 26 #[.bool false,.slice none 0 0,.slice none 0 0];have ny:=(((Ext.refl w).alloc (.cells #[.bool b,.slice A n c] 24)).alloc (.cells #[.bool b',.slice A' n' c'] 24)).alloc (.cells #[.bool false,.slice none 0 0,.slice none 0 0] 26);have rF:w.heap.size+1+1<(((w.alloc (.cells #[.bool b,.slice A n c] 24)).alloc (.cells #[.bool b',.slice A' n' c'] 24)).alloc (.cells #[.bool false,.slice none 0 0,.slice none 0 0] 26)).heap.size:=by simp
 simp only[World.size_alloc]at aX hb2;generalize ((w.alloc (.cells #[.bool b,.slice A n c] 24)).alloc (.cells #[.bool b',.slice A' n' c'] 24)).alloc (.cells #[.bool false,.slice none 0 0,.slice none 0 0] 26)=wo at *;refine(HL.o _ ny).mono ?_
 rintro e w1 ⟨v1,u1,rfl,cO,cI,am⟩;have fy:=hb0.ext am;have fg:=aX.ext am;have hk2:=hb2.ext am;have fC:=J cO;have wT:=J cI;obtain⟨n1,A1,c1,rfl⟩:=cO.shape;obtain⟨n2,A2,c2,rfl⟩:=cI.shape;obtain⟨h0,h1,_,_,_⟩:=fy.two;obtain⟨h2,h3,_,_,_⟩:=fg.two;have tf:=J hk2;have ah:=J (ny.trans am);have fK:=J am.size;clear hb0 aX hb2 am cO cI fy fg hk2 ny;go_wp2_with fail;refine(HI.o _ _ fC.o.arr).mono ?_
 rintro e w2 ⟨v2,rfl,fz,au⟩;have eY:=J fz;have eN:=J (wT.o.ext au);have fg:=tf.o.ext au;obtain⟨b3,n3,A3,c3,rfl⟩:=fz.shape;have k0:=fg.three;have aq:=J (ah.o.trans au);have gU:=J fg;clear fz au fg;go_wp2_with fail;obtain⟨e9,cI,hr2⟩:=Cb gU.o (.bool b3) (.slice A3 n3 c3) (.slice A2 n2 c2);refine bodyPost_ret (v:= .tuple #[.agg #[.bool b3,.slice A3 n3 c3,.slice A2 n2 c2],.int .i64 0]) (by simp[results,Tryz.results63,go_sem,e9,cI,hr2]) rfl ?_
 have fu:BB wo.heap.size w2 (.agg #[.bool b3,.slice A3 n3 c3,.slice A2 n2 c2]) (MJ x y) (MK x y):=BB.mk (by
  have h1:=eY.o.mono fK.o;rw[HS.o,ZW.o]at h1;exact h1) eN.o
 exact⟨_,rfl,fu.put rF (by omega),((aq.o.setCell (by show _<=w.heap.size+1+1;omega) _).setCell (by show _<=w.heap.size+1+1;omega) _).setCell (by show _<=w.heap.size+1+1;omega) _⟩
theorem Rd(w:World)(v u:Value)(x y:Int)(h:CG w v x)(h':CG w u y)(hn:(Af x.natAbs).length<=134217728)(ck:(Af y.natAbs).length<=134217728)(hy:y≠0):
  Calls Tryz.prog 118 #[v,u] w fun e w'=>∃v',e= .returned v'/\BB w.heap.size w' v' (MJ x y) (MK x y)/\Ext w w':=by
 have HA:=J h;have HB:=J h';obtain⟨b,n,A,c,rfl⟩:=h.shape;obtain⟨b',n',A',c',rfl⟩:=h'.shape;have HM:=J (fun W hx=>PK W _ _ x y (h.ext hx) (h'.ext hx) hn ck hy);clear h h' hn ck;go_enter Tryz.func118,Tryz.ntmps118;go_wp2_with fail;have hb2:=Blk.new ((w.alloc (.cells #[.bool b,.slice A n c] 24)).alloc (.cells #[.bool b',.slice A' n' c'] 24)) 26 #[.bool false,.slice none 0 0,.slice none 0 0];have ny:=(((Ext.refl w).alloc (.cells #[.bool b,.slice A n c] 24)).alloc (.cells #[.bool b',.slice A' n' c'] 24)).alloc (.cells #[.bool false,.slice none 0 0,.slice none 0 0] 26);simp only[World.size_alloc]at hb2;generalize ((w.alloc (.cells #[.bool b,.slice A n c] 24)).alloc (.cells #[.bool b',.slice A' n' c'] 24)).alloc (.cells #[.bool false,.slice none 0 0,.slice none 0 0] 26)=wo at *;refine(HM.o _ ny).mono ?_
 rintro e w1 ⟨v1,rfl,cO,am⟩;have fC:=J cO;obtain⟨b1,n1,A1,c1,n2,A2,c2,rfl⟩:=cO.shape;have hk2:=hb2.ext am;have HK:=J hk2;have ah:=J (ny.trans am);have fK:=J am.size;have WX:=J hb2.lt;have k0:=hk2.three;clear cO am hk2 hb2 ny;go_wp2_with fail;obtain⟨e9,cI,hr2⟩:=Cb HK.o (.bool b1) (.slice A1 n1 c1) (.slice A2 n2 c2);obtain⟨VU,eF,gk,_⟩:=((((HK.o.set_ 0 (.bool b1)).set_ 1 (.slice A1 n1 c1)).set_ 2 (.slice A2 n2 c2)).alloc (.cells #[.bool b1,.slice A1 n1 c1,.slice A2 n2 c2] 26)).three;refine bodyPost_ret (v:= .agg #[.bool b1,.slice A1 n1 c1,.slice A2 n2 c2]) (by simp[results,Tryz.results118,go_sem,VU,eF,gk]) rfl ?_
 have fu:=(fC.o.put (w:=w) WX.o (by have:=WX.o;omega)).ext ((Ext.refl _).alloc (.cells #[.bool b1,.slice A1 n1 c1,.slice A2 n2 c2] 26));exact⟨_,rfl,fu,(((ah.o.setCell (by show _<=w.heap.size+1+1;omega) _).setCell (by show _<=w.heap.size+1+1;omega) _).setCell (by show _<=w.heap.size+1+1;omega) _).alloc _⟩
theorem F0{l:List UInt8}(h:(AD l && ((Ba l == []) || ((Ba l).getLast? == some 48)))=true):Ie l=true:=by
 unfold Ie;rw[h];rfl
theorem E6{l:List UInt8}(h:(AD l && ((Ba l == []) || ((Ba l).getLast? == some 48)))=false):Ie l=((whole l == []) || ((whole l)[0]? == some 48 && decide (1<(whole l).length))):=by
 unfold Ie;rw[h];rfl
theorem KY(P:List UInt8)(k:Nat)(h:P.length=k+1):(P.getLast? == some 48)=((Ac P k:Int) == 48):=by
 have h1:P.getLast? =some P[k]:=by
  rw[List.getLast?_eq_getElem?,show P.length-1=k by omega,List.getElem?_eq_getElem (by omega)]
 rw[h1,Bu P k (by omega),Bool.eq_iff_iff];simp only[beq_iff_eq,Option.some.injEq];constructor
 ·intro e;rw[e];rfl
 ·intro e;apply UInt8.toNat_inj.1;have:P[k].toNat=48:=by omega
  rw[this];rfl
theorem GO(W:List UInt8)(k:Nat)(h:W.length=k+1):(W[0]? == some 48)=((Ac W 0:Int) == 48):=by
 rw[Bu W 0 (by omega),List.getElem?_eq_getElem (by omega),Bool.eq_iff_iff];simp only[beq_iff_eq,Option.some.injEq];constructor
 ·intro e;rw[e];rfl
 ·intro e;apply UInt8.toNat_inj.1;have:W[0].toNat=48:=by omega
  rw[this];rfl
theorem Q9(w:World)(n:Nat)(hn:n<=100000):
  Calls Tryz.prog 171 #[.int .i64 (n:Int)] w fun e w'=>∃v',e= .returned v'/\BE w.heap.size w' v' ((10 ^ n:Nat):Int)/\Ext w w':=by
 have ne:=J (fun W=>SE W 1 (by decide));rw[show ((1:Nat):Int)=1 from rfl]at ne;have qf:Hid (∀k,k<=n->(Af (10 ^ k)).length<=100001):=J (fun k hk=>Gc (k:=k+1) (Nat.pow_lt_pow_right (by decide) (by omega)) (by omega));go_enter Tryz.func171,Tryz.ntmps171;go_wp2_with fail;refine(ne.o _).mono ?_
 rintro e w1 ⟨v1,rfl,cO,am⟩;have aM:=J ((Blk.new w 24 #[.bool false,.slice none 0 0]).ext am);have ah:=J (((Ext.refl w).alloc (.cells #[.bool false,.slice none 0 0] 24)).trans am);have fC:=J (cO.mono (show w.heap.size+1<=_ by simp));obtain⟨n1,A1,c1,rfl⟩:=cO.arr.2.shape;clear cO am;go_wp2_with fail;go_loopw [3,6] (fun s3 s6 wr=>∃(k:Nat) (m:Nat) (A:Option Addr) (c:Nat),k<=n/\s6= .int .i64 (k:Int)/\s3= .slice A m c/\Own (w.heap.size+1) wr s3 (Af (10 ^ k))/\Blk wr w.heap.size 24 #[.bool false,.slice none 0 0]/\Ext w wr) (fun _ s6 _=>n-(intOf s6).toNat)
 case atStart=>exact⟨0,n1,A1,c1,Nat.zero_le _,rfl,rfl,fC.o,aM.o,ah.o⟩
 case round=>
  obtain⟨k,m,A,c,hk,rfl,rfl,ho,hb,hx⟩:=hrel;have HO:=J ho;have HB:=J hb;have HX:=J hx;have cQ:=hb.lt;by_cases hlt:k<n
  ·have HS:=J (Fe wr _ _ 10 0 ho.arr (by have:=qf.o k hk;omega) (by decide) (by decide));rw[Ah,Nat.add_zero,<-Nat.pow_succ,show ((10:Nat):Int)=10 from rfl,show ((0:Nat):Int)=0 from rfl]at HS;clear ho hb hx;go_wp2_with fail;refine HS.o.mono ?_
   rintro e w2 ⟨v2,rfl,bN,au⟩;have el:=J (bN.mono cQ);have aP:=J (HB.o.ext au);have aq:=J (HX.o.trans au);obtain⟨n2,A2,c2,rfl⟩:=bN.arr.2.shape;clear bN au;go_wp2_with fail;go_roundw
   case rel=>exact⟨k+1,n2,A2,c2,by omega,by go_num,rfl,el.o,aP.o,aq.o⟩
   case measure=>simp[intOf];omega
  ·obtain rfl:k=n:=by omega
   have HI:=J (Jl wr false _ _ ho.arr (by have:=qf.o k hk;omega));rw[Ah]at HI;clear ho hb hx;go_wp2_with fail;refine HI.o.mono ?_
   rintro e w2 ⟨v2,rfl,fz,au⟩;have eY:=J (fz.mono cQ);have hb2:=HB.o.ext au;have aP:=J hb2;have aq:=J (HX.o.trans au);obtain⟨b2,n2,A2,c2,rfl⟩:=fz.shape;have k0:=hb2.two;clear fz au hb2;go_wp2_with fail;obtain⟨e9,cI⟩:=FD aP.o (.bool b2) (.slice A2 n2 c2);refine bodyPost_ret (v:= .agg #[.bool b2,.slice A2 n2 c2]) (by simp[results,Tryz.results171,go_sem,e9,cI]) rfl ?_
   have ai:=BE.stored aP.o eY.o (Nat.lt_succ_self _) aq.o (Nat.le_refl _);exact⟨_,rfl,ai⟩
def TB(w:World)(l:List UInt8)(e:Ending)(w':World):Prop:=
 ∃a b:List UInt8,e= .returned (.tuple #[str a,str b,.bool (CU l)])/\(CU l=true->a=whole l/\b=Ba l)/\Ext w w'
theorem OZ{l:List UInt8}{k:Nat}(h:AD l=true)(hk:l.length=k+1):(Ba l=[]->Ac l k=46)/\(Ba l≠[]->((Ba l).getLast? == some 48)=((Ac l k:Int) == 48)):=by
 rcases Co l with ⟨_,h2⟩|⟨h1,_⟩
 ·have hg:Ac l k=Ac (whole l++46::Ba l) k:=congrArg (fun z=>Ac z k) h2;have ao:=congrArg List.length h2;rw[List.length_append,List.length_cons,hk]at ao;constructor
  ·intro hp;rw[hg];rw[hp]at ao ⊢;simp only[List.length_nil]at ao;unfold Ac;rw[List.getD_eq_getElem?_getD,List.getElem?_append_right (by omega),show k-(whole l).length=0 by omega];rfl
  ·intro hp;obtain⟨j,hj⟩:∃j,(Ba l).length=j+1:=⟨(Ba l).length-1,by have:=List.length_pos_iff.2 hp;omega⟩;rw[KY (Ba l) j hj,hg];have:Ac (whole l++46::Ba l) k=Ac (Ba l) j:=by
    unfold Ac;rw[List.getD_eq_getElem?_getD,List.getD_eq_getElem?_getD,List.getElem?_append_right (by omega),show k-(whole l).length=j+1 by omega,List.getElem?_cons_succ]
   rw[this]
 ·rw[h]at h1;cases h1
theorem Ju{l:List UInt8}{k:Nat}(ha:D4 l=true)(h:AD l=true)(hp:Ba l≠[])(hk:l.length=k+1):48<=Ac l k:=by
 rcases Co l with ⟨_,h2⟩|⟨h1,_⟩
 ·have hg:Ac l k=Ac (whole l++46::Ba l) k:=congrArg (fun z=>Ac z k) h2;have ao:=congrArg List.length h2;rw[List.length_append,List.length_cons,hk]at ao;obtain⟨j,hj⟩:∃j,(Ba l).length=j+1:=⟨(Ba l).length-1,by have:=List.length_pos_iff.2 hp;omega⟩;have h3:Ac (whole l++46::Ba l) k=Ac (Ba l) j:=by
   unfold Ac;rw[List.getD_eq_getElem?_getD,List.getD_eq_getElem?_getD,List.getElem?_append_right (by omega),show k-(whole l).length=j+1 by omega,List.getElem?_cons_succ]
  rw[hg,h3,Bu _ _ (by omega)];have h4:Bq (Ba l)[j]=true:=by
   unfold D4 at ha;rw[List.all_append,Bool.and_eq_true]at ha;exact List.all_eq_true.1 ha.2 _ (List.getElem_mem _)
  unfold Bq at h4;simp only[Bool.and_eq_true,decide_eq_true_eq]at h4;exact h4.1
 ·rw[h]at h1;cases h1
theorem M2{l:List UInt8}(h:0<(whole l).length):((whole l)[0]? == some 48)=((Ac l 0:Int) == 48):=by
 obtain⟨k,hk⟩:∃k,(whole l).length=k+1:=⟨(whole l).length-1,by omega⟩;rw[GO (whole l) k hk];have:Ac (whole l) 0=Ac l 0:=by
  have h1:=GB l;rw[<-h1];unfold Ac;rw[List.getD_eq_getElem?_getD,List.getD_eq_getElem?_getD,List.getElem?_take_of_lt h]
 rw[this]
theorem Ls(w:World)(l:List UInt8)(hl:l.length<=1073741824):
  Calls Tryz.prog 169 #[str l] w (TB w l):=by
 go_enter Tryz.func169,Tryz.ntmps169;go_wp2_with fail;go_loopw [5,6] (fun s5 s6 wr=>∃i p:Nat,i<=l.length/\s6= .int .i64 (i:Int)/\s5= .int .i64 (p:Int)/\Hid (D4 (l.take i)=true)/\Hid (p=if AD (l.take i) then (whole l).length else l.length)/\w=wr) (fun _ s6 _=>l.length-(intOf s6).toNat)
 case atStart=>exact⟨0,l.length,Nat.zero_le _,rfl,rfl,J (by rw[List.take_zero];rfl),J (by rw[List.take_zero];rfl),rfl⟩
 case round=>
  obtain⟨i,p,hi,rfl,rfl,HA,HP,rfl⟩:=hrel;by_cases hlt:i<l.length
  ·have ai:=PM hlt HA.o;have fv:=Bu l i hlt;have iP:=J ai.1;have iG:=J ai.2;have HFD:=J (Qr l i hlt);have HDT:=J (M4 (l:=l) (j:=i));have ar:Hid (D4 (l.take (i+1))=false->CU l=false):=J (fun h=>by rw[Cn,Rh h,Bool.and_false]);have fh:=CM l i;clear ai;generalize l[i]=c at *;have vH:(c == 46)=((Ac l i:Int) == 46):=by
    rw[fv,Bool.eq_iff_iff];simp only[beq_iff_eq];constructor
    ·intro e;rw[e];rfl
    ·intro e;apply UInt8.toNat_inj.1;have:c.toNat=46:=by omega
     rw[this];rfl
   have xP:Bq c=(decide (48<=Ac l i) && decide (Ac l i<=57)):=by rw[fv];rfl
   have iB:=J vH;have tA:=J xP;clear vH xP fv;cases hD:AD (l.take i)
   ·have hp:p=l.length:=by rw[HP.o,hD];rfl
    subst hp;cases h46:((Ac l i:Int) == 46)
    ·rcases Nat.lt_or_ge (Ac l i) 48 with wg|wg
     ·have HG:Hid (CU l=false):=J (ar.o (by rw[iP.o,hD,iB.o,h46,tA.o];simp;omega));have cx:decide ((Ac l i:Int)<48)=true:=by rw[decide_eq_true_iff];omega
      have sB:(Ac l i:Int)<48:=by omega
      clear hD;go_wp2_with fail;go_ret3;exact⟨[],[],by rw[HG.o];rfl,(fun h=>by rw[HG.o]at h;cases h),Ext.refl _⟩
     ·have cx:decide ((Ac l i:Int)<48)=false:=by simp;omega
      have sB:¬(Ac l i:Int)<48:=by omega
      rcases Nat.lt_or_ge 57 (Ac l i) with Uw|Uw
      ·have HG:Hid (CU l=false):=J (ar.o (by rw[iP.o,hD,iB.o,h46,tA.o];simp;omega));have ba:decide ((57:Int)<(Ac l i:Int))=true:=by rw[decide_eq_true_iff];omega
       have sA:(57:Int)<(Ac l i:Int):=by omega
       clear hD;go_wp2_with fail;go_ret3;exact⟨[],[],by rw[HG.o];rfl,(fun h=>by rw[HG.o]at h;cases h),Ext.refl _⟩
      ·have ba:decide ((57:Int)<(Ac l i:Int))=false:=by simp;omega
       have sA:¬(57:Int)<(Ac l i:Int):=by omega
       have gH:Hid (D4 (l.take (i+1))=true):=J (by rw[iP.o,iB.o,h46,tA.o];simp;omega);have dM:Hid (AD (l.take (i+1))=AD (l.take i)):=J (by rw[iG.o,iB.o,h46,Bool.or_false]);clear hD;go_wp2_with fail;go_roundw
       case rel=>exact⟨i+1,_,by omega,by go_num,rfl,gH,J (by rw[dM.o];exact HP.o),(by first|rfl|trivial)⟩
       case measure=>simp[intOf];omega
    ·have HN:Hid ((whole l).length=i):=J (HFD.o hD (by have:=iB.o;rw[h46]at this;simpa using this));have gH:Hid (D4 (l.take (i+1))=true):=J (by rw[iP.o,hD,iB.o,h46];rfl);have dM:Hid (AD (l.take (i+1))=true):=J (by rw[iG.o,iB.o,h46,Bool.or_true]);have hpp:((l.length:Int) == (l.length:Int))=true:=by simp
     clear hD;go_wp2_with fail;go_roundw
     case rel=>exact⟨i+1,i,by omega,by go_num,rfl,gH,J (by rw[dM.o,HN.o];rfl),(by first|rfl|trivial)⟩
     case measure=>simp[intOf];omega
   ·have pC:p=(whole l).length:=by rw[HP.o,hD];rfl
    have hlt2:=HDT.o hD;have rL:((p:Int) == (l.length:Int))=false:=by rw[beq_eq_false_iff_ne];omega
    cases h46:((Ac l i:Int) == 46)
    ·rcases Nat.lt_or_ge (Ac l i) 48 with wg|wg
     ·have HG:Hid (CU l=false):=J (ar.o (by rw[iP.o,hD,iB.o,h46,tA.o];simp;omega));have cx:decide ((Ac l i:Int)<48)=true:=by rw[decide_eq_true_iff];omega
      have sB:(Ac l i:Int)<48:=by omega
      clear hD;go_wp2_with fail;go_ret3;exact⟨[],[],by rw[HG.o];rfl,(fun h=>by rw[HG.o]at h;cases h),Ext.refl _⟩
     ·have cx:decide ((Ac l i:Int)<48)=false:=by simp;omega
      have sB:¬(Ac l i:Int)<48:=by omega
      rcases Nat.lt_or_ge 57 (Ac l i) with Uw|Uw
      ·have HG:Hid (CU l=false):=J (ar.o (by rw[iP.o,hD,iB.o,h46,tA.o];simp;omega));have ba:decide ((57:Int)<(Ac l i:Int))=true:=by rw[decide_eq_true_iff];omega
       have sA:(57:Int)<(Ac l i:Int):=by omega
       clear hD;go_wp2_with fail;go_ret3;exact⟨[],[],by rw[HG.o];rfl,(fun h=>by rw[HG.o]at h;cases h),Ext.refl _⟩
      ·have ba:decide ((57:Int)<(Ac l i:Int))=false:=by simp;omega
       have sA:¬(57:Int)<(Ac l i:Int):=by omega
       have gH:Hid (D4 (l.take (i+1))=true):=J (by rw[iP.o,iB.o,h46,tA.o];simp;omega);have dM:Hid (AD (l.take (i+1))=AD (l.take i)):=J (by rw[iG.o,iB.o,h46,Bool.or_false]);clear hD;go_wp2_with fail;go_roundw
       case rel=>exact⟨i+1,_,by omega,by go_num,rfl,gH,J (by rw[dM.o];exact HP.o),(by first|rfl|trivial)⟩
       case measure=>simp[intOf];omega
    ·have wg:(Ac l i:Int)<48:=by
      have:(Ac l i:Int)=46:=by simpa using h46
      omega
     have HG:Hid (CU l=false):=J (ar.o (by rw[iP.o,hD,tA.o];simp;omega));have cx:decide ((Ac l i:Int)<48)=true:=by simpa using wg
     clear hD pC hlt2;go_wp2_with fail;go_ret3;exact⟨[],[],by rw[HG.o];rfl,(fun h=>by rw[HG.o]at h;cases h),Ext.refl _⟩
  ·obtain rfl:i=l.length:=by omega
   rw[List.take_of_length_le (Nat.le_refl _)]at HA HP;have pC:p=(whole l).length:=by
    rw[HP.o];cases hD:AD l
    ·rw[FP hD];rfl
    ·rfl
   subst pC;clear HP;rcases Nat.eq_zero_or_pos (whole l).length with ej|ej
   ·have HG:Hid (CU l=false):=J (by
     have h1:whole l=[]:=List.eq_nil_of_length_eq_zero ej;have h2:Ie l=true:=by unfold Ie;rw[h1];simp
     rw[Cn,h2];rfl)
    have hz:(((whole l).length:Int) == 0)=true:=by rw[ej];rfl
    clear ej;go_wp2_with fail;go_ret3;exact⟨[],[],by rw[HG.o];rfl,(fun h=>by rw[HG.o]at h;cases h),Ext.refl _⟩
   ·have hz:(((whole l).length:Int) == 0)=false:=by rw[beq_eq_false_iff_ne];omega
    have XT:=I6 l;have nO:(0:Int)<(l.length:Int):=by omega
    have xW:Hid ((whole l == [])=false):=J (by rw[beq_eq_false_iff_ne];intro e;rw[e]at ej;simp at ej);have lH:=M2 ej;rcases Nat.lt_or_ge 1 (whole l).length with WI|WI
    ·have hd:(1:Int)<((whole l).length:Int):=by omega
     cases hb0:((Ac l 0:Int) == 48)
     ·have wG:Hid (((whole l)[0]? == some 48 && decide (1<(whole l).length))=false):=J (by rw[lH,hb0];rfl);clear lH;cases hD:AD l
      ·have rz:=FP hD;have HG:Hid (CU l=true):=J (by rw[Cn,HA.o,E6 (by rw[hD];rfl),xW.o,wG.o];rfl);have rL:(((whole l).length:Int) == (l.length:Int))=true:=by rw[beq_iff_eq];omega
       have tM:¬((whole l).length:Int)<(l.length:Int):=by omega
       have HE:Hid (whole l=l/\Ba l=[]):=J (by
        rcases Co l with ⟨h1,_⟩|⟨_,h2,h3⟩
        ·rw[hD]at h1;cases h1
        ·exact⟨h2.symm,h3⟩)
       clear hD rz;go_wp2_with fail;go_ret3;exact⟨l,[],by rw[HG.o];rfl,(fun _=>⟨HE.o.1.symm,HE.o.2.symm⟩),Ext.refl _⟩
      ·have hlt3:(whole l).length<l.length:=of_decide_eq_true hD;have rL:(((whole l).length:Int) == (l.length:Int))=false:=by rw[beq_eq_false_iff_ne];omega
       have tM:((whole l).length:Int)<(l.length:Int):=by omega
       obtain⟨k,hk⟩:∃k,l.length=k+1:=⟨l.length-1,by omega⟩;have YE:(l.length:Int)-1=(k:Int):=by omega
       have fy:(k:Int)<(l.length:Int):=by omega
       have ka:=J (OZ hD hk);rcases Nat.eq_zero_or_pos (Ba l).length with hp0|hp0
       ·have gN:Ba l=[]:=List.eq_nil_of_length_eq_zero hp0;have HG:Hid (CU l=false):=J (by rw[Cn,F0 (by rw[hD,gN];rfl)];rfl);have fv:=ka.o.1 gN;have aX:((Ac l k:Int) == 48)=false:=by rw[fv];rfl
        have hb2:((Ac l k:Int) == 46)=true:=by rw[fv];rfl
        clear hD hk hp0 gN fv;go_wp2_with fail;go_ret3;exact⟨[],[],by rw[HG.o];rfl,(fun h=>by rw[HG.o]at h;cases h),Ext.refl _⟩
       ·have gN:Ba l≠[]:=fun e=>by rw[e]at hp0;simp at hp0
        have jc:(Ba l == [])=false:=by rw[beq_eq_false_iff_ne];exact gN
        have fv:=ka.o.2 gN;cases hb:((Ac l k:Int) == 48)
        ·have HG:Hid (CU l=true):=J (by rw[Cn,HA.o,E6 (by rw[hD,jc,fv,hb];rfl),xW.o,wG.o];rfl);have hb2:((Ac l k:Int) == 46)=false:=by
          have h1:=Ju HA.o hD gN hk;rw[beq_eq_false_iff_ne];omega
         have p7:=J (GB l);have t9:=J (La hD);have aL:IntKind.i64.wrap (((whole l).length:Int)+1)=((whole l).length:Int)+1:=IntWalk.i64_in _ (by omega);have aY:(0:Int)<=((whole l).length:Int)+1:=by omega
         have bf:((whole l).length:Int)+1<=(l.length:Int):=by omega
         have hw4:(((whole l).length:Int)+1).toNat=(whole l).length+1:=by omega
         have dQ:((whole l).length:Int)<=(l.length:Int):=by omega
         clear hD hk hp0 gN fv jc;go_wp2_with fail;go_quiet (fail);go_wp2_with fail;go_ret3;exact⟨_,_,by rw[HG.o];rfl,(fun _=>⟨p7.o,t9.o⟩),(Ext.refl _).drewN _⟩
        ·have HG:Hid (CU l=false):=J (by rw[Cn,F0 (by rw[hD,jc,fv,hb];rfl)];rfl);clear hD hk hp0 gN fv jc;go_wp2_with fail;go_ret3;exact⟨[],[],by rw[HG.o];rfl,(fun h=>by rw[HG.o]at h;cases h),Ext.refl _⟩
     ·have HG:Hid (CU l=false):=J (by
       have h2:Ie l=true:=by unfold Ie;rw[lH,hb0];simp[WI]
       rw[Cn,h2];rfl)
      clear lH;go_wp2_with fail;go_ret3;exact⟨[],[],by rw[HG.o];rfl,(fun h=>by rw[HG.o]at h;cases h),Ext.refl _⟩
    ·have hd:¬(1:Int)<((whole l).length:Int):=by omega
     have wG:Hid (((whole l)[0]? == some 48 && decide (1<(whole l).length))=false):=J (by rw[decide_eq_false (by omega),Bool.and_false]);clear lH;cases hD:AD l
     ·have rz:=FP hD;have HG:Hid (CU l=true):=J (by rw[Cn,HA.o,E6 (by rw[hD];rfl),xW.o,wG.o];rfl);have rL:(((whole l).length:Int) == (l.length:Int))=true:=by rw[beq_iff_eq];omega
      have tM:¬((whole l).length:Int)<(l.length:Int):=by omega
      have HE:Hid (whole l=l/\Ba l=[]):=J (by
       rcases Co l with ⟨h1,_⟩|⟨_,h2,h3⟩
       ·rw[hD]at h1;cases h1
       ·exact⟨h2.symm,h3⟩)
      clear hD rz;go_wp2_with fail;go_ret3;exact⟨l,[],by rw[HG.o];rfl,(fun _=>⟨HE.o.1.symm,HE.o.2.symm⟩),Ext.refl _⟩
     ·have hlt3:(whole l).length<l.length:=of_decide_eq_true hD;have rL:(((whole l).length:Int) == (l.length:Int))=false:=by rw[beq_eq_false_iff_ne];omega
      have tM:((whole l).length:Int)<(l.length:Int):=by omega
      obtain⟨k,hk⟩:∃k,l.length=k+1:=⟨l.length-1,by omega⟩;have YE:(l.length:Int)-1=(k:Int):=by omega
      have fy:(k:Int)<(l.length:Int):=by omega
      have ka:=J (OZ hD hk);rcases Nat.eq_zero_or_pos (Ba l).length with hp0|hp0
      ·have gN:Ba l=[]:=List.eq_nil_of_length_eq_zero hp0;have HG:Hid (CU l=false):=J (by rw[Cn,F0 (by rw[hD,gN];rfl)];rfl);have fv:=ka.o.1 gN;have aX:((Ac l k:Int) == 48)=false:=by rw[fv];rfl
       have hb2:((Ac l k:Int) == 46)=true:=by rw[fv];rfl
       clear hD hk hp0 gN fv;go_wp2_with fail;go_ret3;exact⟨[],[],by rw[HG.o];rfl,(fun h=>by rw[HG.o]at h;cases h),Ext.refl _⟩
      ·have gN:Ba l≠[]:=fun e=>by rw[e]at hp0;simp at hp0
       have jc:(Ba l == [])=false:=by rw[beq_eq_false_iff_ne];exact gN
       have fv:=ka.o.2 gN;cases hb:((Ac l k:Int) == 48)
       ·have HG:Hid (CU l=true):=J (by rw[Cn,HA.o,E6 (by rw[hD,jc,fv,hb];rfl),xW.o,wG.o];rfl);have hb2:((Ac l k:Int) == 46)=false:=by
         have h1:=Ju HA.o hD gN hk;rw[beq_eq_false_iff_ne];omega
        have p7:=J (GB l);have t9:=J (La hD);have aL:IntKind.i64.wrap (((whole l).length:Int)+1)=((whole l).length:Int)+1:=IntWalk.i64_in _ (by omega);have aY:(0:Int)<=((whole l).length:Int)+1:=by omega
        have bf:((whole l).length:Int)+1<=(l.length:Int):=by omega
        have hw4:(((whole l).length:Int)+1).toNat=(whole l).length+1:=by omega
        have dQ:((whole l).length:Int)<=(l.length:Int):=by omega
        clear hD hk hp0 gN fv jc;go_wp2_with fail;go_quiet (fail);go_wp2_with fail;go_ret3;exact⟨_,_,by rw[HG.o];rfl,(fun _=>⟨p7.o,t9.o⟩),(Ext.refl _).drewN _⟩
       ·have HG:Hid (CU l=false):=J (by rw[Cn,F0 (by rw[hD,jc,fv,hb];rfl)];rfl);clear hD hk hp0 gN fv jc;go_wp2_with fail;go_ret3;exact⟨[],[],by rw[HG.o];rfl,(fun h=>by rw[HG.o]at h;cases h),Ext.refl _⟩
def B0(w:World)(l:List UInt8):World:=Lib.bytesWorld w 5 ⟨l.toArray⟩
theorem FX(w:World)(l:List UInt8):Ext w (B0 w l):=by
 refine⟨?_,?_,?_,?_,fun k hk=>Lib.bytesWorld_at_old w _ _ k hk⟩
 ·simp[B0,Lib.bytesWorld,World.freeze,World.alloc,World.drew,-World.alloc_eq,-World.drew_eq]
 ·simp[B0,Lib.bytesWorld,World.freeze,World.alloc,World.drew,-World.alloc_eq,-World.drew_eq]
 ·simp[B0,Lib.bytesWorld,World.freeze,World.alloc,World.drew,-World.alloc_eq,-World.drew_eq]
 ·unfold B0;rw[Lib.bytesWorld_size];omega
theorem Fq(w:World)(l:List UInt8)(j:Nat)(h:j<l.length):(B0 w l).cell? ⟨w.heap.size,j,none⟩=some (.int .u8 (Ac l j:Int)):=by
 unfold B0 Ac;rw[Lib.bytesWorld_cell w _ _ j (by rw[Cc];exact h)]
theorem OD(w:World)(l:List UInt8):w.heap.size<(B0 w l).heap.size:=by unfold B0;rw[Lib.bytesWorld_size];omega
theorem DR(w:World)(l:List UInt8):∃c,(convert 9 221 (str l)).run Tryz.prog w= .ok (.slice (some ⟨w.heap.size,0,none⟩) l.length c) (B0 w l)/\l.length<=c:=by
 have:=Lib.run_convert_string_bytes (P:=Tryz.prog) w 9 221 5 ⟨l.toArray⟩ Tryz.underlying9 Tryz.underlying221 Tryz.underlying5;rw[Cc]at this;exact⟨_,this,grownCap_ge w l.length 0 _⟩
def Tn(l:List UInt8):Int:=MM (Bi (whole l++Ba l)) (10 ^ (Ba l).length)
def Ts(l:List UInt8):Nat:=MO (Bi (whole l++Ba l)) (10 ^ (Ba l).length)
def Gl(w:World)(l:List UInt8)(e:Ending)(w':World):Prop:=
 ∃v',e= .returned (.tuple #[v',.int .i64 (Bs l:Int)])/\BB w.heap.size w' v' (if Bs l=0 then Tn l else 0) (if Bs l=0 then Ts l else 0)/\Ext w w'
end Big
end Go.Proofs.YtkoaogkknnelaaaGreatDoor
