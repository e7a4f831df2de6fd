import Derived.Test.YtkoaogkknnelaaaGreatDoorM26
set_option linter.unusedVariables false
set_option linter.unusedSimpArgs false
set_option maxHeartbeats 4000000
set_option maxRecDepth 100000
namespace Go.Proofs.YtkoaogkknnelaaaGreatDoor
namespace Big
open Lib (hid)
open Go.RowKit
theorem EH{V L:Nat}(h:(Ac V).length<=L)(j:Nat):(Ac (V ^ j)).length<=j*L+1:=by
 induction j with
 |zero=>
  rw[Nat.pow_zero];have:(Ac 1).length=1:=by decide+kernel
  omega
 |succ j ih=>
  rw[Nat.pow_succ,Nat.add_mul,Nat.one_mul];have:=AJ ih h;omega
theorem BF{V:Nat}(h:(Ac V).length<=1000000){j:Nat}(hj:j<=64):(Ac (V ^ j)).length<=64000001:=by
 have h1:=EH h j;have h2:j*1000000<=64*1000000:=Nat.mul_le_mul_right _ hj;omega
theorem Ka:Ac 1=[1]:=by decide+kernel
theorem KZ{m:Nat}(h:(Ac m).length=1):Ac m=[m]:=by
 have h0:m≠0:=by rintro rfl;simp[Bi]at h
 rw[Cj m h0]at h ⊢;have h1:Ac (m / 4294967296)=[]:=List.eq_nil_of_length_eq_zero (by simpa using h);rw[h1];have h2:=BB.1 h1
 congr 1
 omega
theorem NV:∀a:Fin 65,bits .and .i64 (a.val:Int) 1=((a.val % 2:Nat):Int):=by decide+kernel
theorem Rb(n k:Nat):n / 2 ^ k=2*(n / 2 ^ (k+1))+n / 2 ^ k % 2:=by
 rw[Nat.pow_succ,<-Nat.div_div_eq_div_mul];omega
theorem Ix(w:World)(v0:Value)(xs:List Nat)(h0:Arr w v0 xs)(n0:xs.length<=268435456):
  Calls Tryz.prog 276 #[v0] w fun e w'=>∃v',e= .returned v'/\Own w.heap.size w' v' (Ac (val xs*val xs))/\Ext w w':=by
 have H0:=hid h0;have HM:=hid (fun W m m' a b=>EF W m m' xs xs a b (by omega) (by omega));obtain⟨l0,A0,c0,rfl⟩:=h0.shape;clear h0;go_enter Tryz.func276,Tryz.ntmps276;go_wp2_with fail;have aC:=(Ext.refl w);have az:w.heap.size=w.heap.size:=by simp
 have HX:=hid (Ext.refl w);clear aC az;refine(HM.out _ _ _ (H0.out.ext HX.out) (H0.out.ext HX.out)).mono ?_
 rintro e w1 ⟨r0,rfl,aQ,hx0⟩;have HX:=hid (HX.out.trans hx0);have ep:=hid hx0.size;have R0:=hid aQ;obtain⟨g0,G0,j0,rfl⟩:=aQ.shape;clear hx0 aQ;go_wp2_with fail;go_ret;exact⟨_,rfl,R0.out,HX.out⟩
def EU(w wr:World)(V n:Nat)(s5 s6:Value):Prop:=
 (∃k:Nat,k<=6/\s6= .int .i64 (k:Int)/\Own w.heap.size wr s5 (Ac (V ^ (n / 2 ^ (k+1))))/\Ext w wr)\/(s6= .int .i64 (-1)/\Own w.heap.size wr s5 (Ac (V ^ n))/\Ext w wr)
theorem EU.next{w wr:World}{V n k:Nat}{s5:Value}(hk:k<=6)(ho:Own w.heap.size wr s5 (Ac (V ^ (n / 2 ^ k))))(hx:Ext w wr):EU w wr V n s5 (.int .i64 ((k:Int)-1)):=by
 cases k with
 |zero=>right;rw[Nat.pow_zero,Nat.div_one]at ho;exact⟨rfl,ho,hx⟩
 |succ k=>left;exact⟨k,by omega,by congr 1;omega,ho,hx⟩
theorem E6(w:World)(v0:Value)(xs:List Nat)(n:Nat)(h0:Arr w v0 xs)(hl:xs.length<=1000000)(hn:n<=64):
  Calls Tryz.prog 252 #[v0,.int .i64 (n:Int)] w fun e w'=>∃v',e= .returned v'/\Own w.heap.size w' v' (Ac (val xs ^ n))/\Ext w w':=by
 have H0:=hid h0;have hV:(Ac (val xs)).length<=1000000:=Nat.le_trans (Az h0.ok) hl;have dM:=hid (fun W=>FV W 1 (by decide));obtain⟨l0,A0,c0,rfl⟩:=h0.shape;have oj:¬(n:Int)<0:=by omega
 have dH:¬(64:Int)<(n:Int):=by omega
 have hn2:(n:Int)<=64:=by omega
 have Xu:(0:Int)<=(n:Int):=by omega
 have xv:min (n:Int) 64=(n:Int):=by omega
 clear h0;generalize hVe:val xs=V at *;have yR:=hid hVe;clear hVe;go_enter Tryz.func252,Tryz.ntmps252;go_wp2_with fail;refine(dM.out _).mono ?_
 rintro e w1 ⟨r0,rfl,aQ,hx0⟩;have R0:=hid aQ;have ar:=hid hx0;obtain⟨g0,G0,j0,rfl⟩:=aQ.shape;clear aQ hx0 oj dH hn2 Xu;go_wp2_with fail;clear xv;go_loopw [5,6] (fun s5 s6 wr=>EU w wr V n s5 s6) (fun _ s6 _=>(intOf s6+1).toNat)
 case atStart=>exact .inl ⟨6,by omega,rfl,by rw[show n / 2 ^ (6+1)=0 from Nat.div_eq_of_lt (by omega),Nat.pow_zero];exact R0.out,ar.out⟩
 case round=>
  rcases hrel with ⟨k,hk,rfl,ho,hx⟩|⟨rfl,ho,hx⟩
  ·have mj:(0:Int)<=(k:Int):=by omega
   have XM:(k:Int)<=64:=by omega
   obtain⟨m1,iD⟩:∃m1,m1=n / 2 ^ (k+1):=⟨_,rfl⟩;rw[<-iD]at ho;have vz:=Rb n k;rw[<-iD]at vz;have cx:n / 2 ^ k<=n:=Nat.div_le_self _ _;obtain⟨b,hb⟩:∃b,b=n / 2 ^ k % 2:=⟨_,rfl⟩;have fE:bits .and .i64 ((n:Int) / 2 ^ k) 1=(b:Int):=by
    have h1:=NV ⟨n / 2 ^ k,by omega⟩;rw[hb,<-h1]
    congr 1
   rw[<-hb]at vz;have hb2:b<=1:=by omega
   have kL:=hid vz;have tN:2*m1<=64:=by omega
   have HO:=hid ho;have HX:=hid hx;obtain⟨g5,A5,c5,rfl⟩:=ho.shape;have aB:=ho.arr.len;have gY:V ^ m1*V ^ m1=V ^ (2*m1):=by rw[Nat.two_mul,Nat.pow_add]
   have ib:=hid (fun W m a=>Ix W m (Ac (V ^ m1)) a (by have:=BF hV (show m1<=64 by omega);omega));rw[Ad,gY]at ib;obtain⟨og,A5',c5',he5,_,_,aa⟩:=ho.arr.open;injection he5 with e1 e2 e3
   subst e1;have gT:=hid hV;have uX:=hid hl;have rF:=hid tN;clear e2 e3 hb vz cx iD gY hV hl tN;by_cases hone:V ^ m1=1
   ·have VK:V ^ (2*m1)=1:=by rw[Nat.two_mul,Nat.pow_add,hone]
    have ee:Hid (Own w.heap.size wr (.slice A5 g5 c5) (Ac (V ^ (2*m1)))):=hid (by rw[VK,<-hone];exact HO.out);rw[hone,Ka]at aa aB;obtain⟨bb,oo,rfl,_,hc⟩:=aa (by simp);have hx0:wr.cell? ⟨bb,oo,none⟩=some (.int .u32 1):=hc 0 (by simp);rw[List.length_singleton]at aB;subst aB;clear aa hc ho hx hone VK og;have mG:b=0\/b=1:=by omega
    rcases mG with rfl|rfl
    ·have fE:bits .and .i64 ((n:Int) / 2 ^ k) 1=0:=fE;go_wp2_with fail;go_roundw
     case rel=>exact EU.next hk (by rw[kL.out,Nat.add_zero];exact ee.out) (HX.out)
     case measure=>simp[intOf]<;>omega
    ·have pE:=hid (fun W m a c=>EF W m (.slice A0 l0 c0) (Ac (V ^ (2*m1))) xs a c (by have:=BF gT.out rF.out;omega) (by have:=uX.out;omega));rw[Ad,yR.out]at pE;have fE:bits .and .i64 ((n:Int) / 2 ^ k) 1=1:=fE;go_wp2_with fail;refine(pE.out _ _ ee.out.arr (H0.out.ext HX.out)).mono ?_
     rintro e w9 ⟨r9,rfl,iH,eG⟩;have R9:=hid (iH.mono (HX.out).size);have eD:=hid ((HX.out).trans eG);obtain⟨g9,G9,j9,rfl⟩:=iH.shape;clear iH eG;go_wp2_with fail;go_roundw
     case rel=>exact EU.next hk (by rw[kL.out,Nat.pow_succ];exact R9.out) eD.out
     case measure=>simp[intOf]<;>omega
   ·by_cases hg:g5=1
    ·subst hg;have hl1:=KZ aB.symm;rw[hl1]at aa;obtain⟨bb,oo,rfl,_,hc⟩:=aa (by simp);have hx0:=hc 0 (by simp);rw[Nat.add_zero]at hx0;simp only[List.getD_cons_zero]at hx0;have hlt:V ^ m1<4294967296:=by
      have:=og.get 0;rw[hl1]at this;exact this
     generalize V ^ m1=Y at *;simp only[d32]at hx0;have nY:((Y:Int) != 1)=true:=by rw[bne_iff_ne];omega
     have WR:((Y:Int) == 1)=false:=by rw[beq_eq_false_iff_ne];omega
     clear aa hc ho hx hl1 aB og;go_wp2_with fail;refine(ib.out _ _ HO.out.arr).mono ?_
     rintro e w8 ⟨r8,rfl,il,cp⟩;have R8:=hid (il.mono HX.out.size);have df:=hid (HX.out.trans cp);obtain⟨g8,G8,j8,rfl⟩:=il.shape;clear il cp;have mG:b=0\/b=1:=by omega
     rcases mG with rfl|rfl
     ·have fE:bits .and .i64 ((n:Int) / 2 ^ k) 1=0:=fE;go_wp2_with fail;go_roundw
      case rel=>exact EU.next hk (by rw[kL.out,Nat.add_zero];exact R8.out) (df.out)
      case measure=>simp[intOf]<;>omega
     ·have pE:=hid (fun W m a c=>EF W m (.slice A0 l0 c0) (Ac (V ^ (2*m1))) xs a c (by have:=BF gT.out rF.out;omega) (by have:=uX.out;omega));rw[Ad,yR.out]at pE;have fE:bits .and .i64 ((n:Int) / 2 ^ k) 1=1:=fE;go_wp2_with fail;refine(pE.out _ _ R8.out.arr (H0.out.ext df.out)).mono ?_
      rintro e w9 ⟨r9,rfl,iH,eG⟩;have R9:=hid (iH.mono (df.out).size);have eD:=hid ((df.out).trans eG);obtain⟨g9,G9,j9,rfl⟩:=iH.shape;clear iH eG;go_wp2_with fail;go_roundw
      case rel=>exact EU.next hk (by rw[kL.out,Nat.pow_succ];exact R9.out) eD.out
      case measure=>simp[intOf]<;>omega
    ·have hne:((g5:Int) != 1)=true:=by rw[bne_iff_ne];omega
     have hne2:((g5:Int) == 1)=false:=by rw[beq_eq_false_iff_ne];omega
     clear aa ho hx aB og hg;go_wp2_with fail;refine(ib.out _ _ HO.out.arr).mono ?_
     rintro e w8 ⟨r8,rfl,il,cp⟩;have R8:=hid (il.mono HX.out.size);have df:=hid (HX.out.trans cp);obtain⟨g8,G8,j8,rfl⟩:=il.shape;clear il cp;have mG:b=0\/b=1:=by omega
     rcases mG with rfl|rfl
     ·have fE:bits .and .i64 ((n:Int) / 2 ^ k) 1=0:=fE;go_wp2_with fail;go_roundw
      case rel=>exact EU.next hk (by rw[kL.out,Nat.add_zero];exact R8.out) (df.out)
      case measure=>simp[intOf]<;>omega
     ·have pE:=hid (fun W m a c=>EF W m (.slice A0 l0 c0) (Ac (V ^ (2*m1))) xs a c (by have:=BF gT.out rF.out;omega) (by have:=uX.out;omega));rw[Ad,yR.out]at pE;have fE:bits .and .i64 ((n:Int) / 2 ^ k) 1=1:=fE;go_wp2_with fail;refine(pE.out _ _ R8.out.arr (H0.out.ext df.out)).mono ?_
      rintro e w9 ⟨r9,rfl,iH,eG⟩;have R9:=hid (iH.mono (df.out).size);have eD:=hid ((df.out).trans eG);obtain⟨g9,G9,j9,rfl⟩:=iH.shape;clear iH eG;go_wp2_with fail;go_roundw
      case rel=>exact EU.next hk (by rw[kL.out,Nat.pow_succ];exact R9.out) eD.out
      case measure=>simp[intOf]<;>omega
  ·have HO:=hid ho;have HX:=hid hx;obtain⟨g5,A5,c5,rfl⟩:=ho.shape;clear ho hx;go_wp2_with fail;go_ret;exact⟨_,rfl,HO.out,HX.out⟩
def Up(N:Nat)(w:World)(e:Ending)(w':World):Prop:=
 ∃v' ok p q,e= .returned (.tuple #[v',.bool ok])/\Aj w.heap.size w' v' p q/\(ok=true->Low p q/\(Ac p.natAbs).length<=N/\(Ac q).length<=N)/\Ext w w'
def Un(N:Nat)(w:World)(e:Ending)(w':World):Prop:=
 ∃v' u' ok p q r s,e= .returned (.tuple #[v',u',.bool ok])/\Aj w.heap.size w' v' p q/\Aj w.heap.size w' u' r s/\(ok=true->(Low p q/\(Ac p.natAbs).length<=N/\(Ac q).length<=N)/\(Low r s/\(Ac r.natAbs).length<=N/\(Ac s).length<=N))/\Ext w w'
theorem RZ(n:Nat):n<2 ^ Be n:=by
 unfold Be;split
 ·simp[*]
 ·exact Nat.lt_log2_self
theorem Sa{n k:Nat}(h:n<2 ^ k):Be n<=k:=by
 unfold Be;split
 ·omega
 ·rename_i h0;have:=(Nat.log2_lt h0).2 h;omega
theorem Jm{n L:Nat}(h:(Ac n).length<=L):Be n<=32*L:=by
 refine Sa ?_
 have h1:=Ck (Ce n);rw[Ad]at h1;have h2:=DL h;rw[Nat.pow_mul];exact Nat.lt_of_lt_of_le h1 h2
theorem JG{b L:Nat}(h:b<=32*L):(Ac (2 ^ b)).length<=L+1:=by
 refine AG ?_
 have h1:2 ^ b<=2 ^ (32*L):=Nat.pow_le_pow_right (by omega) h;rw[Nat.pow_mul,show (2:Nat) ^ 32=4294967296 from rfl]at h1;rw[Nat.pow_succ];have:0<4294967296 ^ L:=E7 L;omega
theorem LY(w:World)(v0:Value)(xs:List Nat)(h0:Arr w v0 xs)(hl:xs.length<=10000)(jM:0<val xs):
  Calls Tryz.prog 296 #[v0,.int .i64 2] w fun e w'=>∃v' r,e= .returned v'/\DU (val xs) r/\Own w.heap.size w' v' (Ac r)/\Ext w w':=by
 have H0:=hid h0;have hV:(Ac (val xs)).length<=10000:=Nat.le_trans (Az h0.ok) hl;have dM:=hid (fun W=>FV W 1 (by decide));have jn:=hid (fun W hx=>DR W v0 xs (h0.ext hx) (by omega));have hB:=Jm hV;have hlt:=RZ (val xs);have uO:=hid (show val xs<2 ^ ((Be (val xs)+1) / 2)*2 ^ ((Be (val xs)+1) / 2) from Nat.lt_of_lt_of_le hlt (P3 _));obtain⟨l0,A0,c0,rfl⟩:=h0.shape;clear h0 hlt;have uX:=hid hl;have zn:=hid jM;have gT:=hid hV;clear hl jM hV;generalize Be (val xs)=B at *;obtain⟨S,hS⟩:∃S,S=(B+1) / 2:=⟨_,rfl⟩;have ii:Int.tdiv ((B:Int)+2-1) 2=(S:Int):=by rw[Int.tdiv_eq_ediv_of_nonneg (by omega)];omega
 have mb:((B:Int)+2-1) / 2=(S:Int):=by omega
 have ma:Int.tdiv ((B:Int)+1) 2=(S:Int):=by rw[Int.tdiv_eq_ediv_of_nonneg (by omega)];omega
 have Xl:((B:Int)+1) / 2=(S:Int):=by omega
 have Yt:(B:Int)<=320000:=by omega
 have vN:(0:Int)<=(B:Int):=by omega
 rw[<-hS]at uO;have sB:=hid (fun W m a=>Kv W m (Ac 1) S a (by rw[Ka];simp) (by omega));rw[Ad,Nat.one_mul]at sB;have lk:Hid ((Ac (2 ^ S)).length<=10001):=hid (JG (by omega));clear hS hB;go_enter Tryz.func296,Tryz.ntmps296;go_wp2_with fail;refine(dM.out _).mono ?_
 rintro e w1 ⟨r0,rfl,aQ,hx0⟩;have R0:=hid aQ;have ar:=hid hx0;obtain⟨g0,G0,j0,rfl⟩:=aQ.shape;clear aQ hx0;go_wp2_with fail;refine(jn.out _ ar.out).mono ?_
 rintro e w2 ⟨rfl,rfl⟩;go_wp2_with fail;refine(sB.out _ _ R0.out.arr).mono ?_
 rintro e w3 ⟨r1,rfl,bg,aj⟩;have R1:=hid (bg.mono ar.out.size);have ay:=hid (ar.out.trans aj);obtain⟨g1,G1,j1,rfl⟩:=bg.shape;clear bg aj ii mb ma Xl Yt vN dM jn sB;go_wp2_with fail
 go_loopg [5] (2 ^ S) (fun gh s5 wr=>∃(x g5 c5:Nat) (A5:Option Addr),gh=x/\s5= .slice A5 g5 c5/\0<x/\Own w.heap.size wr s5 (Ac x)/\(∀s,s*s<=val xs->s<=x)/\(Ac x).length<=10001/\Ext w wr)
 case atStart=>exact⟨2 ^ S,g1,j1,G1,rfl,rfl,Nat.pow_pos (by omega),R1.out,KS uO.out,lk.out,ay.out⟩
 case round=>
  obtain⟨x,g5,c5,A5,hgg,rfl,hx0,ho,ev,nA,ad⟩:=hrel;have iw:=hid hgg;have HO:=hid ho;have HX:=hid ad;have m9:=hid ev;have YU:=hid nA;have cX:=hid hx0;have HP:=hid (fun W m a=>E6 W m (Ac x) 1 a (by omega) (by omega));rw[Ad,Nat.pow_one]at HP;have HD:=hid (fun W m a b=>D2 W (.slice A0 l0 c0) m xs (Ac x) a b (by have:=uX.out;omega) (by omega) (by rw[Ad];omega));unfold GF at HD;rw[Ad]at HD;have lM:=hid (fun W m a=>ED W m (Ac x) 1 0 a (by omega) (by decide) (by decide));rw[Ad,Nat.mul_one,Nat.add_zero]at lM;have vt:(Ac (val xs / x)).length<=10000:=Nat.le_trans (Ay (Nat.div_le_self _ _)) gT.out;have HA:=hid (fun W m m' a b=>OE W m m' (Ac x) (Ac (val xs / x)) a b (by omega) (by omega));rw[Ad,Ad]at HA;have kU:(Ac (x+val xs / x)).length<=20002:=by have:=Cx nA vt;omega
  have HQ:=hid (fun W m a=>IK W m (Ac (x+val xs / x)) 2 a (by omega) (by decide) (by decide));rw[Ad]at HQ;have nX:(Ac ((x+val xs / x) / 2)).length<=20002:=Nat.le_trans (Ay (Nat.div_le_self _ _)) kU;have HC:=hid (fun W m m' a b=>D5 W m m' (Ac ((x+val xs / x) / 2)) (Ac x) a b (by omega) (by omega));rw[Ad,Ad]at HC;have o8:= @LX (val xs) x hx0;have oi:=fun s=> @Nu (val xs) x s hx0
  clear hgg ho ad ev hx0 vt kU nX nA;generalize (x+val xs / x) / 2=y at *;have oz:= @DQ y x;generalize BQ y x=cc at *;have HK:=hid (And.intro o8 (And.intro oi oz));have iK:cc<0\/0<=cc:=by omega
  clear o8 oi oz;go_wp2_with fail;refine(HP.out _ _ HO.out.arr).mono ?_
  rintro e w4 ⟨r4,rfl,i8,bD⟩;have R4:=hid i8;have bu:=hid (HX.out.trans bD);have mT:=hid (HO.out.ext bD);obtain⟨g4,G4,j4,rfl⟩:=i8.shape;clear i8 bD;go_wp2_with fail;refine(HD.out _ _ (H0.out.ext bu.out) R4.out.arr).mono ?_
  rintro e w5 ⟨r5,r6,rfl,eB,la,hx5⟩;have R5:=hid eB;have cW:=hid (bu.out.trans hx5);have sE:=hid (mT.out.ext hx5);obtain⟨g6,G6,j6,rfl⟩:=eB.shape;obtain⟨g7,G7,j7,rfl⟩:=la.shape;clear eB la hx5;go_wp2_with fail;refine(lM.out _ _ sE.out.arr).mono ?_
  rintro e w6 ⟨r8,rfl,il,cF⟩;have R8:=hid il;have cV:=hid (cW.out.trans cF);have fJ:=hid (sE.out.ext cF);have YN:=hid (R5.out.ext cF);obtain⟨g8,G8,j8,rfl⟩:=il.shape;clear il cF;go_wp2_with fail;refine(HA.out _ _ _ R8.out.arr YN.out.arr).mono ?_
  rintro e w7 ⟨r9,rfl,iH,ch⟩;have R9:=hid iH;have cU:=hid (cV.out.trans ch);have lp:=hid (fJ.out.ext ch);obtain⟨g9,G9,j9,rfl⟩:=iH.shape;clear iH ch;go_wp2_with fail;refine(HQ.out _ _ R9.out.arr).mono ?_
  rintro e w8 ⟨ra,rfl,xL,cp⟩;have df:=hid (cU.out.trans cp);have uU:=hid (lp.out.ext cp);have RA:=hid (xL.mono cU.out.size);obtain⟨ga,GA,ja,rfl⟩:=xL.shape;clear xL cp;rcases iK with hc1|hc1
  ·have dK:¬(0:Int)<=cc:=by omega
   go_wp2_with fail;refine(HC.out _ _ _ RA.out.arr uU.out.arr).mono ?_
   rintro e w9 ⟨rfl,eG⟩;have eD:=hid (df.out.trans eG);have YM:=hid (RA.out.ext eG);clear eG;go_wp2_with fail;have UP:y<x:=HK.out.2.2.1 hc1;have hy0:0<y:=by
    have h1:=HK.out.2.1 1 (by have:=zn.out;omega);omega
   go_roundg y
   case rel=>exact⟨y,ga,ja,GA,rfl,rfl,hy0,YM.out,HK.out.2.1,Nat.le_trans (Ay (Nat.le_of_lt UP)) YU.out,eD.out⟩
   case measure=>rw[iw.out];exact UP
  ·have dK:(0:Int)<=cc:=hc1;go_wp2_with fail;refine(HC.out _ _ _ RA.out.arr uU.out.arr).mono ?_
   rintro e w9 ⟨rfl,eG⟩;have eD:=hid (df.out.trans eG);have Zl:=hid (uU.out.ext eG);clear eG;go_wp2_with fail;go_ret;have kT:x<=y:=by
    rcases Nat.lt_or_ge y x with h|h
    ·have:=HK.out.2.2.2 h;omega
    ·exact h
   exact⟨_,x,rfl,Nv m9.out (HK.out.1 kT),Zl.out,eD.out⟩
theorem Nj(w:World)(v0:Value)(xs:List Nat)(h0:Arr w v0 xs)(n0:xs.length<=10000)(hz:val xs=0):
  Calls Tryz.prog 279 #[v0] w fun e w'=>e= .returned (.tuple #[.slice none 0 0,.slice none 0 0])/\Ext w w':=by
 have H0:=hid h0;have cE:=hid (fun W m a=>Bh W m xs a (by omega));have aE:(Ac (val xs)).length=0:=by rw[hz];rfl
 obtain⟨l0,A0,c0,rfl⟩:=h0.shape;clear h0 hz;go_enter Tryz.func279,Tryz.ntmps279;go_wp2_with fail;have aC:=(Ext.refl w);have az:w.heap.size=w.heap.size:=by simp
 have HX:=hid (Ext.refl w);clear aC az;refine(cE.out _ _ (H0.out.ext HX.out)).mono ?_
 rintro e w1 ⟨r0,rfl,aQ,hx0⟩;have HX:=hid (HX.out.trans hx0);have ep:=hid hx0.size;have R0:=hid aQ;obtain⟨g0,G0,j0,rfl⟩:=aQ.shape;clear hx0 aQ;have em:=R0.out.arr.len;have eC:g0=0:=em.trans aE;subst eC;clear em aE;go_wp2_with fail;go_ret2;exact⟨rfl,HX.out⟩
theorem Pr(w:World)(v0:Value)(xs:List Nat)(h0:Arr w v0 xs)(n0:xs.length<=10000)(hz:0<val xs):
  Calls Tryz.prog 279 #[v0] w fun e w'=>∃v' u' r,e= .returned (.tuple #[v',u'])/\DU (val xs) r/\Own w.heap.size w' v' (Ac r)/\Own w.heap.size w' u' (Ac (val xs-r*r))/\Ext w w':=by
 have H0:=hid h0;have cE:=hid (fun W m a=>Bh W m xs a (by omega));have hV:(Ac (val xs)).length<=10000:=Nat.le_trans (Az h0.ok) n0;have cZ:=hid (fun W m a=>LY W m (Ac (val xs)) a hV (by rw[Ad];omega));rw[Ad]at cZ;have Zf:=hid (fun W m m' (r:Nat) a b (hr:(Ac (r*r)).length<=536870912) (cx:r*r<=val xs)=>KQ W m m' (Ac (val xs)) (Ac (r*r)) a b (by omega) hr (by rw[Ad,Ad];exact cx));have ib:=hid (fun W m r a hr=>Ix W m (Ac r) a hr);have hl1:0<(Ac (val xs)).length:=by rw[List.length_pos_iff];intro e;rw[BB]at e;omega
 have gT:=hid hV;obtain⟨l0,A0,c0,rfl⟩:=h0.shape;clear h0 hz hV n0;go_enter Tryz.func279,Tryz.ntmps279;go_wp2_with fail;have aC:=(Ext.refl w);have az:w.heap.size=w.heap.size:=by simp
 have HX:=hid (Ext.refl w);clear aC az;refine(cE.out _ _ (H0.out.ext HX.out)).mono ?_
 rintro e w1 ⟨r0,rfl,aQ,hx0⟩;have HX:=hid (HX.out.trans hx0);have ep:=hid hx0.size;have R0:=hid aQ;obtain⟨g0,G0,j0,rfl⟩:=aQ.shape;clear hx0 aQ;have em:=R0.out.arr.len;have vF:0<g0:=by omega
 have nG:((g0:Int) == 0)=false:=by rw[beq_eq_false_iff_ne];omega
 clear em hl1 vF;go_wp2_with fail;refine(cZ.out _ _ R0.out.arr).mono ?_
 rintro e w2 ⟨r1,r,rfl,gY,bg,aj⟩;have aP:=hid (HX.out.trans aj);have R1:=hid (bg.mono HX.out.size);have YR:=hid (R0.out.ext aj);have o9:(Ac r).length<=10000:=Nat.le_trans (Ay gY.le) gT.out;have ob:(Ac (r*r)).length<=10000:=Nat.le_trans (Ay gY.1) gT.out;have HQ:=hid (fun W m a=>ib.out W m r a (by omega));rw[Ad]at HQ;have HU:=hid (fun W m m' a b=>Zf.out W m m' r a b (by omega) gY.1);rw[Ad,Ad]at HU;have HS:=hid gY;obtain⟨g1,G1,j1,rfl⟩:=bg.shape;clear bg aj gY o9 ob;go_wp2_with fail;refine(HQ.out _ _ R1.out.arr).mono ?_
 rintro e w3 ⟨r2,rfl,ba,ah⟩;have ay:=hid (aP.out.trans ah);have YP:=hid (R1.out.ext ah);have YQ:=hid (YR.out.ext ah);have R2:=hid ba;obtain⟨g2,G2,j2,rfl⟩:=ba.shape;clear ba ah;go_wp2_with fail;refine(HU.out _ _ _ YQ.out.arr R2.out.arr).mono ?_
 rintro e w4 ⟨r3,rfl,dn,ab⟩;have bu:=hid (ay.out.trans ab);have YO:=hid (YP.out.ext ab);have R3:=hid (dn.mono ay.out.size);obtain⟨g3,G3,j3,rfl⟩:=dn.shape;clear dn ab;go_wp2_with fail;go_ret2;exact⟨_,_,r,rfl,HS.out,YO.out,R3.out,bu.out⟩
def Sh(V:Nat)(w:World)(e:Ending)(w':World):Prop:=
 ∃v' r,DU V r/\e= .returned (.tuple #[v',.bool (decide (V=r*r))])/\(V=r*r->Own w.heap.size w' v' (Ac r))/\(∃n A c,v'= .slice A n c)/\Ext w w'
theorem Hn(w:World)(v0:Value)(xs:List Nat)(h0:Arr w v0 xs)(n0:xs.length<=10000):Calls Tryz.prog 254 #[v0] w (Sh (val xs) w):=by
 rcases Nat.eq_zero_or_pos (val xs) with hz|hz
 ·have HS:=hid (Nj w v0 xs h0 n0 hz);have HZ:=hid hz;obtain⟨l0,A0,c0,rfl⟩:=h0.shape;clear h0 hz;go_enter Tryz.func254,Tryz.ntmps254;go_wp2_with fail;refine HS.out.mono ?_
  rintro e w1 ⟨rfl,hx⟩;go_wp2_with fail;go_ret2;exact⟨_,0,by rw[HZ.out];exact DU.zero,by rw[HZ.out];rfl,fun _=>Own.none_ _ _,⟨0,none,0,rfl⟩,hx⟩
 ·have HS:=hid (Pr w v0 xs h0 n0 hz);obtain⟨l0,A0,c0,rfl⟩:=h0.shape;clear h0 hz;go_enter Tryz.func254,Tryz.ntmps254;go_wp2_with fail;refine HS.out.mono ?_
  rintro e w1 ⟨v',u',r,rfl,gY,hi,pf,hx⟩;have ib:=hid gY;have HI:=hid hi;have HX:=hid hx;have aB:=pf.arr;obtain⟨g1,G1,j1,rfl⟩:=hi.shape;obtain⟨g2,G2,j2,rfl⟩:=pf.shape;have hl:=pf.arr.len;by_cases hV:val xs=r*r
  ·have hd:decide (val xs=r*r)=true:=decide_eq_true hV;have HD:=hid hd;rw[hV,Nat.sub_self,Bi,List.length_nil]at hl;subst hl;clear aB hi pf hx gY hV hd;go_wp2_with fail;go_ret2;exact⟨.slice G1 g1 j1,r,ib.out,by rw[HD.out];rfl,fun _=>HI.out,⟨_,_,_,rfl⟩,HX.out⟩
  ·have HD:=hid (decide_eq_false hV);have hp:0<g2:=by
    rw[hl,List.length_pos_iff];intro e;rw[BB]at e;exact hV (gY.rest.1 e)
   have hne:((g2:Int) != 0)=true:=by rw[bne_iff_ne];omega
   have HV:=hid hV;clear aB hi pf hx gY hV hl hp;go_wp2_with fail;go_ret2;exact⟨.slice none 0 0,r,ib.out,by rw[HD.out];rfl,fun e=>absurd e HV.out,⟨0,none,0,rfl⟩,HX.out⟩
def Gz(p:Int)(q:Nat)(w:World)(e:Ending)(w':World):Prop:=
 ∃v',Ext w w'/\((∃r s:Nat,p=((r*r:Nat):Int)/\q=s*s/\e= .returned (.tuple #[v',.bool true])/\Aj w.heap.size w' v' (r:Int) s)\/
  (¬(∃r s:Nat,p=((r*r:Nat):Int)/\q=s*s)/\e= .returned (.tuple #[v',.bool false])/\Aj w.heap.size w' v' 0 0))
theorem OW(w:World)(v0:Value)(p:Int)(q:Nat)(h0:Aw w v0 p q)(sA:(Ac p.natAbs).length<=10000)(vP:(Ac q).length<=10000)(hp:p<0):
  Calls Tryz.prog 219 #[v0] w (Gz p q w):=by
 have H0:=hid h0;obtain⟨b0,l0,A0,c0,k0,D0,e0,rfl⟩:=h0.shape;have cC:=h0.sign;rw[decide_eq_true hp]at cC;subst cC;have HP:=hid hp;clear h0 hp;go_enter Tryz.func219,Tryz.ntmps219;go_wp2_with fail;refine bodyPost_ret (v:= .tuple #[.agg #[.bool false,.slice none 0 0,.slice none 0 0],.bool false]) (by simp[results,Tryz.results219,go_sem]) rfl ?_
 exact⟨_,((Ext.refl w).alloc _).alloc _,.inr ⟨by rintro⟨r,s,h1,_⟩;have:=HP.out;omega,rfl,Aj.zero _ _⟩⟩
theorem OV(w:World)(v0:Value)(p:Int)(q:Nat)(h0:Aw w v0 p q)(n0:(Ac p.natAbs).length<=10000)(m0:(Ac q).length<=10000)(hp:¬p<0):
  Calls Tryz.prog 219 #[v0] w (Gz p q w):=by
 have H0:=hid h0;have oH:=hid (fun W m a=>Hn W m (Ac p.natAbs) a (by omega));have zl:=hid (fun W m a=>Hn W m (Ac q) a (by omega));unfold Sh at oH zl;rw[Ad]at oH zl;have kK:=hid n0;have sF:=hid m0;obtain⟨b0,l0,A0,c0,k0,D0,e0,rfl⟩:=h0.shape;have cC:=h0.sign;rw[decide_eq_false hp]at cC;subst cC;have HP:=hid hp;have jh:=hid h0.num;clear h0 hp n0 m0;have fx:((p.natAbs:Nat):Int)=p:=by have:=HP.out;omega
 have jz:=hid fx;clear fx;generalize p.natAbs=m at *;go_enter Tryz.func219,Tryz.ntmps219;go_wp2_with fail;have hb0:=((Blk.new w 26 #[.bool false,.slice A0 l0 c0,.slice D0 k0 e0]).alloc (.cells #[.bool false,.slice none 0 0,.slice none 0 0] 26));have aq:=(Blk.new (w.alloc (.cells #[.bool false,.slice A0 l0 c0,.slice D0 k0 e0] 26)) 26 #[.bool false,.slice none 0 0,.slice none 0 0]);have aC:=(((Ext.refl w).alloc (.cells #[.bool false,.slice A0 l0 c0,.slice D0 k0 e0] 26)).alloc (.cells #[.bool false,.slice none 0 0,.slice none 0 0] 26));have az:w.heap.size+1+1=((w.alloc (.cells #[.bool false,.slice A0 l0 c0,.slice D0 k0 e0] 26)).alloc (.cells #[.bool false,.slice none 0 0,.slice none 0 0] 26)).heap.size:=by simp
 simp only[World.size_alloc]at aq;generalize (w.alloc (.cells #[.bool false,.slice A0 l0 c0,.slice D0 k0 e0] 26)).alloc (.cells #[.bool false,.slice none 0 0,.slice none 0 0] 26)=wo at *;have am:=hid hb0;have ag:=hid aq;have HX:=hid aC;have HZ:Hid (w.heap.size+1+1<=wo.heap.size):=hid (by omega);clear aC az hb0 aq;refine(oH.out _ _ (jh.out.ext HX.out)).mono ?_
 rintro e w1 ⟨r0,r,tm,rfl,aQ,⟨g0,G0,j0,rfl⟩,hx0⟩;have ar:=hid (HX.out.trans hx0);have zW:=hid (ag.out.ext hx0);have zX:=hid (am.out.ext hx0);have R0:=hid aQ;have rj:=hid tm;have ep:=hid hx0.size;clear aQ tm hx0;have q0:=zX.out.three;go_wp2_with fail;refine(zl.out _ _ (H0.out.den.ext ar.out)).mono ?_
 rintro e w2 ⟨r1,s,tl,rfl,bg,⟨g1,G1,j1,rfl⟩,aj⟩;have aP:=hid (ar.out.trans aj);have oS:=hid (zW.out.ext aj);have km:=hid aj;have R1:=hid bg;have fV:=hid tl;clear bg tl aj q0;have t0:=oS.out.three;by_cases hm:m=r*r
 ·have ld:decide (m=r*r)=true:=decide_eq_true hm;rw[ld];by_cases hq:q=s*s
  ·have dE:decide (q=s*s)=true:=decide_eq_true hq;rw[dE];have mS:=hid ((R0.out hm).ext km.out);have ro:=hid (R1.out hq);have HM:=hid hm;have HQ:=hid hq;have o9:(Ac r).length<=10000:=Nat.le_trans (Ay rj.out.le) (by rw[hm];rw[<-hm];exact kK.out);have HI:=hid (fun W m a=>B4 W false m (Ac r) a (by omega));rw[Ad,show sgn false r=(r:Int) from rfl]at HI;clear hm hq ld dE o9;go_wp2_with fail;refine(HI.out _ _ mS.out.arr).mono ?_
   rintro e w3 ⟨r2,rfl,ba,ah⟩;have ay:=hid (aP.out.trans ah);have vk:=hid (oS.out.ext ah);have zj:=hid (ro.out.ext ah);have uI:=hid km.out.size;have R2:=hid ba;obtain⟨f2,g2,G2,j2,rfl⟩:=ba.shape;clear ba ah t0;have t0:=vk.out.three;go_wp2_with fail;obtain⟨ak,ae,hr2⟩:=Ak vk.out (.bool f2) (.slice G2 g2 j2) (.slice G1 g1 j1);refine bodyPost_ret (v:= .tuple #[.agg #[.bool f2,.slice G2 g2 j2,.slice G1 g1 j1],.bool true]) (by simp[results,Tryz.results219,go_sem,ak,ae,hr2]) rfl ?_
   refine⟨_,((ay.out.setCell (Nat.le_succ _) _).setCell (Nat.le_succ _) _).setCell (Nat.le_succ _) _,.inl ⟨r,s,by rw[<-jz.out,HM.out],HQ.out,rfl,?_⟩⟩;exact Aj.put (w1:=wo) (Aj.mk (R2.out.mono (by have:=ep.out;have:=uI.out;omega)) (zj.out.mono ep.out)) (by have:=HZ.out;omega) (by have:=HZ.out;omega)
  ·have dE:decide (q=s*s)=false:=decide_eq_false hq;rw[dE];have HQ:=hid hq;clear hm hq ld dE;go_wp2_with fail;obtain⟨ak,ae,hr2⟩:=Ak oS.out (.bool false) (.slice none 0 0) (.slice none 0 0);refine bodyPost_ret (v:= .tuple #[.agg #[.bool false,.slice none 0 0,.slice none 0 0],.bool false]) (by simp[results,Tryz.results219,go_sem,ak,ae,hr2]) rfl ?_
   refine⟨_,((aP.out.setCell (Nat.le_succ _) _).setCell (Nat.le_succ _) _).setCell (Nat.le_succ _) _,.inr ⟨?_,rfl,Aj.zero _ _⟩⟩;rintro⟨r',s',_,h2⟩;refine HQ.out ?_
   have h3:=fV.out.uniq (by rw[h2];exact DU.sq s');rw[h3];exact h2
 ·have ld:decide (m=r*r)=false:=decide_eq_false hm;rw[ld];have HM:=hid hm;clear hm ld;go_wp2_with fail;obtain⟨ak,ae,hr2⟩:=Ak oS.out (.bool false) (.slice none 0 0) (.slice none 0 0);refine bodyPost_ret (v:= .tuple #[.agg #[.bool false,.slice none 0 0,.slice none 0 0],.bool false]) (by simp[results,Tryz.results219,go_sem,ak,ae,hr2]) rfl ?_
  refine⟨_,((aP.out.setCell (Nat.le_succ _) _).setCell (Nat.le_succ _) _).setCell (Nat.le_succ _) _,.inr ⟨?_,rfl,Aj.zero _ _⟩⟩;rintro⟨r',s',h1,_⟩;refine HM.out ?_
  have h2:m=r'*r':=by have:=jz.out;omega
  have h3:=rj.out.uniq (by rw[h2];exact DU.sq r');rw[h3];exact h2
theorem OX(w:World)(v0:Value)(p:Int)(q:Nat)(h0:Aw w v0 p q)(n0:(Ac p.natAbs).length<=10000)(m0:(Ac q).length<=10000):
  Calls Tryz.prog 219 #[v0] w (Gz p q w):=by
 by_cases hp:p<0
 ·exact OW w v0 p q h0 n0 m0 hp
 ·exact OV w v0 p q h0 n0 m0 hp
end Big
end Go.Proofs.YtkoaogkknnelaaaGreatDoor
