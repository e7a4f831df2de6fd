import Derived.Test.YtkoaogkknnelaaaGreatDoorM17
import Derived.Test.YtkoaogkknnelaaaGreatDoorM15
set_option linter.unusedVariables false
set_option linter.unusedSimpArgs false
set_option maxHeartbeats 1000000
set_option maxRecDepth 100000
namespace Go.Proofs.YtkoaogkknnelaaaGreatDoor
namespace Big
open Lib renaming hid → J
open Go.RowKit
theorem LF(w:World)(l:List UInt8)(h:20001<l.length):
  Calls Tryz.prog 209 #[str l] w fun e w'=>e= .returned (.tuple #[.slice none 0 0,.int .i64 7])/\w=w':=by
 have h':(20001:Int)<(l.length:Int):=by omega
 clear h;go_enter Tryz.func209,Tryz.ntmps209;go_wp2_with fail;go_ret2;exact⟨rfl,rfl⟩
theorem Kk(w:World):
  Calls Tryz.prog 209 #[str []] w fun e w'=>e= .returned (.tuple #[.slice none 0 0,.int .i64 6])/\w=w':=by
 go_enter Tryz.func209,Tryz.ntmps209;go_wp2_with fail;go_ret2;exact⟨rfl,rfl⟩
theorem LD(w:World)(l:List UInt8)(h0:Ad l 0=48)(h1:1<l.length)(h:l.length<=20001):
  Calls Tryz.prog 209 #[str l] w fun e w'=>e= .returned (.tuple #[.slice none 0 0,.int .i64 6])/\w=w':=by
 have Yv:((Ad l 0:Int) == 48)=true:=by rw[h0];rfl
 have hle:¬(20001:Int)<(l.length:Int):=by omega
 have hne:(l == [])=false:=by cases l<;>simp_all
 clear h h0;go_enter Tryz.func209,Tryz.ntmps209;go_wp2_with fail;go_ret2;exact⟨rfl,rfl⟩
def Uh(w0 wr:World)(out:Value)(l:List UInt8)(k j c:Nat):Prop:=
 ∃a:Nat,Own w0.heap.size wr out (Af a)/\Bk (l.take k)=a*10 ^ j+c/\a<10 ^ k/\Ext w0 wr
def LX(w0:World)(r:Nat × Nat)(e:Ending)(w':World):Prop:=
 ∃v':Value,e= .returned (.tuple #[v',.int .i64 (r.2:Int)])/\Own w0.heap.size w' v' (Af r.1)/\Ext w0 w'
theorem LE(w:World)(l:List UInt8)(hne:l≠[])(hz:¬(Ad l 0=48/\1<l.length))(h:l.length<=20001)(r:Nat × Nat)(cB:l.all Bx=true->r=(Bk l,0))(hr2:l.all Bx=false->r=(0,6)):
  Calls Tryz.prog 209 #[str l] w (LX w r):=by
 have ym:=J cB;have eO:=J hr2;clear cB hr2;have hle:¬(20001:Int)<(l.length:Int):=by omega
 have ZT:(l == [])=false:=by cases l<;>simp_all
 have oB:0<l.length:=by cases l<;>simp_all
 have ku:((Ad l 0:Int) == 48)=false\/(((Ad l 0:Int) == 48)=true/\¬(1:Int)<(l.length:Int)):=by
  by_cases h0:Ad l 0=48
  ·exact .inr ⟨by rw[h0];rfl,by omega⟩
  ·exact .inl (by rw[beq_eq_false_iff_ne];omega)
 have HL:=J h;clear h hne hz;rcases ku with Yv|⟨Yv,h11⟩
 all_goals
  go_enter Tryz.func209,Tryz.ntmps209;go_wp2_with fail;go_loopw [4,5,6,25] (fun out cv sv i wr=>∃k j c:Nat,k<=l.length/\j<=8/\c<10 ^ j/\(k=l.length->j=0)/\i= .int .i64 k/\cv= .int .u32 c/\sv= .int .u32 ((10 ^ j:Nat):Int)/\(l.take k).all Bx=true/\Uh w wr out l k j c) (fun _ _ _ i _=>l.length-(intOf i).toNat)
  case atStart=>exact⟨0,0,0,by omega,by omega,by omega,fun _=>rfl,rfl,rfl,rfl,rfl,0,Own.none_ _ _,rfl,by omega,Ext.refl _⟩
  case round=>
   obtain⟨k,j,c,hk,hj,hc,oC,rfl,rfl,rfl,hall,hN⟩:=hrel;by_cases hlt:k<l.length
   ·have hb:=CL l k;have iJ:=BC l k hlt;have hdig:=QL l[k];rw[<-iJ]at hdig;have mF:=Rw l k hlt;have iz:=Jr l k hlt;rw[<-iJ]at iz;rw[hall,qaQ]at mF;have HAF:=J (fun hf=>LU hlt hf);have kL:=J hdig;have zI:=J mF;have i7:=J iz;clear iJ hdig mF iz;obtain⟨b,fA⟩:∃b,Ad l k=b:=⟨_,rfl⟩;have my:=J fA;rw[fA]at kL i7 hb;have HC10:=J hc;by_cases hd:48<=b/\b<=57
    ·have ph:=J (zI.o.trans (kL.o.2 hd));obtain⟨a,ac,d9,V0,ai⟩:=hN;have hP8:=Kd hj;have V3:=PO hj;have gf:=J hall;have Xf:=J V0;have gZ:=Km V0;have eQ:=J (M5 (d:=b-48) d9);have ng:=J d9;clear hall V0 d9 oC;have zM:=J (show 10 ^ (j+1)=10*10 ^ j by rw[qaZ,qbb]);obtain⟨P,hP⟩:∃P,10 ^ j=P:=⟨_,rfl⟩;rw[hP]at hc hP8 V3 eQ ng zM ⊢;have HP:=J hP;clear hP;have Zu:IntKind.u32.wrap (10*(c:Int))=((10*c:Nat):Int):=by rw[IntWalk.u32_in _ (by omega)];omega
     obtain⟨ec,bE⟩:=hd;have e1:(10*(c:Int)+((b:Int)-48))=((10*c+(b-48):Nat):Int):=by omega
     have e2:(P:Int)*10=((P*10:Nat):Int):=by omega
     have E1:=J e1;have E2:=J e2;clear e1 e2;by_cases hflush:j=8\/k+1=l.length
     ·have lq:((P:Int)*10 == 1000000000)=true\/(((P:Int)*10 == 1000000000)=false/\((k:Int) == (l.length:Int)-1)=true):=by
       by_cases h8:P*10=1000000000
       ·exact .inl (by rw[beq_iff_eq];omega)
       ·exact .inr ⟨by rw[beq_eq_false_iff_ne];omega,by rw[beq_iff_eq];omega⟩
      have fX:=J (GA wr _ (Af a) (P*10) (10*c+(b-48)) ac.arr (by omega) (by omega) (by omega));clear V3;have HK:=J hflush;clear hflush;have wF:Bk (l.take (k+1))=a*(P*10)+(10*c+(b-48)):=by rw[i7.o,eQ.o,qbb P 10]
      have ki:=Ih ph.o (show k+1<=l.length by omega);have fE:=J wF;have sf:=J ki;clear wF ki;rcases lq with lq|⟨Vy,Vx⟩
      all_goals
       go_wp2_with fail;rw[E1.o,E2.o];refine fX.o.mono ?_
       rintro e w1 ⟨v1,rfl,cK,ar⟩;rw[Ah,<-fE.o]at cK;go_wp2_with fail;go_roundw
       case rel=>exact⟨k+1,0,0,by omega,by omega,by omega,fun _=>rfl,by go_num,rfl,rfl,ph.o,_,cK.mono ai.size,by simp,sf.o,ai.trans ar⟩
       case measure=>simp[intOf];omega
     ·have Vy:((P:Int)*10 == 1000000000)=false:=by rw[beq_eq_false_iff_ne];omega
      have Vx:((k:Int) == (l.length:Int)-1)=false:=by rw[beq_eq_false_iff_ne];omega
      have ki:=Ih ph.o (show k+1<=l.length by omega);have sf:=J ki;have xA:a<10 ^ (k+1):=qaj Xf.o (qbw (by omega) (by omega));have Xe:=J xA;have YS:=J hflush;clear V3 ki xA hflush;go_wp2_with fail;go_roundw
      case rel=>
       refine⟨k+1,j+1,10*c+(b-48),by omega,by have:=YS.o;omega,by rw[zM.o];omega,fun he=>absurd (Or.inr he) YS.o,by go_num,by rw[E1.o],?_,ph.o,a,ac,by rw[i7.o,eQ.o,zM.o],Xe.o,ai⟩;rw[zM.o,qbb 10 P,E2.o]
      case measure=>simp[intOf];omega
    ·have xv:Bx l[k]=false:=by
      rw[<-Bool.not_eq_true];exact fun ht=>hd (kL.o.1 ht)
     have ao:=J (HAF.o xv);obtain⟨a,ac,ww,VZ,ai⟩:=hN;clear ww VZ ac;have lV:b<48\/57<b:=by omega
     clear xv hc oC hall hd hj hk;generalize 10 ^ j=P at *;rcases lV with jt|jt
     all_goals
      go_wp2_with fail;go_ret2;rw[eO.o ao.o];exact⟨_,rfl,Own.none_ _ _,ai⟩
   ·obtain rfl:k=l.length:=by omega
    obtain⟨a,ac,d9,_,ai⟩:=hN;have mO:=oC rfl;subst mO;rw[qak (qad _)]at d9 hall;have hc0:c=0:=by simpa using hc
    subst hc0;have lW:Bk l=a:=by simpa using d9
    have db:=J lW;have gf:=J hall;clear d9 lW hall hc oC;go_wp2_with fail;go_ret2;rw[ym.o gf.o,db.o];exact⟨_,rfl,ac,ai⟩
theorem MK(w:World)(l:List UInt8):Calls Tryz.prog 209 #[str l] w (LX w (IQ l)):=by
 unfold IQ;by_cases h1:20001<l.length
 ·rw[if_pos h1];refine(LF w l h1).mono ?_
  rintro e w' ⟨rfl,rfl⟩;exact⟨_,rfl,Own.none_ _ _,Ext.refl _⟩
 ·rw[if_neg h1];by_cases h2:l=[]
  ·subst h2;rw[if_pos rfl];refine(Kk w).mono ?_
   rintro e w' ⟨rfl,rfl⟩;exact⟨_,rfl,Own.none_ _ _,Ext.refl _⟩
  ·rw[if_neg h2];have oB:0<l.length:=by cases l<;>simp_all
   have hb:Ad l 0=48↔l[0]? =some 48:=by
    rw[BC l 0 oB,qaa oB];constructor
    ·intro h;exact congrArg some (qcw.1 h)
    ·intro h;injection h with h;rw[h];rfl
   by_cases h3:l[0]? =some 48/\1<l.length
   ·rw[if_pos h3];refine(LD w l (hb.2 h3.1) h3.2 (by omega)).mono ?_
    rintro e w' ⟨rfl,rfl⟩;exact⟨_,rfl,Own.none_ _ _,Ext.refl _⟩
   ·rw[if_neg h3];exact LE w l h2 (fun h=>h3 ⟨hb.1 h.1,h.2⟩) (by omega) _ (fun h=>if_pos h) (fun h=>if_neg (by rw[h];decide))
theorem Mx(w:World)(l:List UInt8)(h:400<l.length):Calls Tryz.prog 182 #[str l] w (Gj w l):=by
 have hc:Bz l=7:=if_pos h;have h':(400:Int)<(l.length:Int):=by omega
 have HC:=J hc;clear h hc;go_enter Tryz.func182,Tryz.ntmps182;go_wp2_with fail;obtain⟨dN,cB,hr2⟩:=Ck (Blk.new w 26 #[.bool false,.slice none 0 0,.slice none 0 0]) (.bool false) (.slice none 0 0) (.slice none 0 0);refine bodyPost_ret (v:= .tuple #[.agg #[.bool false,.slice none 0 0,.slice none 0 0],.int .i64 7]) (by simp[results,Tryz.results182,go_sem]) rfl ?_
 exact⟨_,by rw[HC.o];rfl,by rw[HC.o];exact BH.zero _ _,(Ext.refl w).alloc _⟩
theorem Jn(w:World)(l:List UInt8)(hm:BT w):Calls Tryz.prog 182 #[str l] w (Gj w l):=by
 rcases qam 400 l.length with hl|hl
 ·exact Mx w l hl
 have uF:=J (fun W hx=>TH W l (by omega) (hm.ext hx));have hpl:(AX l).length<=l.length:=by
  rcases Cy l with ⟨_,h1⟩|⟨_,_,h2⟩
  ·have:=congrArg List.length h1;simp at this;omega
  ·rw[h2];simp
 have nZ:=IY l;have pB:=J (EZ (l:=l));have uz:=J (FZ (l:=l));have eU:Bz l=if H8 l then 6 else if (whole l++AX l).all Bx then 0 else 6:=by
  unfold Bz CR;rw[if_neg (by omega)];cases H8 l<;>cases (whole l++AX l).all Bx<;>rfl
 have mu:=J eU;have d9:T1 l=MS (Bk (whole l++AX l)) (10 ^ (AX l).length):=rfl;have xp:T3 l=MV (Bk (whole l++AX l)) (10 ^ (AX l).length):=rfl;have ng:=J d9;have rh:=J xp;have xI:¬(400:Int)<(l.length:Int):=by omega
 clear hm eU d9 xp;generalize whole l=W at *;generalize AX l=P at *;generalize AB l=D at *;generalize H8 l=bad at *;go_enter Tryz.func182,Tryz.ntmps182;go_wp2_with fail;refine(uF.o _ ((Ext.refl w).alloc _)).mono ?_
 rintro e w1 ⟨rfl,ar⟩;have ah:=J (((Ext.refl w).alloc (.cells #[.bool false,.slice none 0 0,.slice none 0 0] 26)).trans ar);have aA:=J ((Blk.new w 26 #[.bool false,.slice none 0 0,.slice none 0 0]).ext ar);clear ar;go_upto_region 4 with fail
 go_cut [46] from 20 to 46 (fun s46 wx=>s46= .bool bad/\wx=w1)
 case first=>
  clear uF;cases D
  ·have HF:Hid ((false && ((P == []) || (P.getLast? == some 48)))=false):=J rfl;have fN:=J (pB.o HF.o);rcases qar W.length with dZ|dZ
   ·obtain rfl:W=[]:=qau dZ;have cP:Hid (bad=true):=J (by rw[fN.o];rfl);have ql:(([]:List UInt8) == [])=true:=rfl;clear dZ;go_wp2_with fail;go_meet;exact⟨by rw[cP.o],rfl⟩
   ·have ql:(W == [])=false:=by cases W<;>simp_all
    obtain⟨kw,nZ⟩:∃k,W.length=k+1:=⟨W.length-1,by omega⟩;have vH:(0:Int)<(W.length:Int):=by omega
    have oO:=GG W kw nZ;rw[oO,ql]at fN;clear dZ oO;cases hz:((Ad W 0:Int) == 48)
    ·have cP:Hid (bad=false):=J (by rw[fN.o,hz];rfl);clear nZ;go_wp2_with fail;go_meet;exact⟨by rw[cP.o],rfl⟩
    ·by_cases hl1:1<W.length
     ·have cP:Hid (bad=true):=J (by rw[fN.o,hz];simp[hl1]);have ec:(1:Int)<(W.length:Int):=by omega
      have bE:decide ((1:Int)<(W.length:Int))=true:=by rw[decide_eq_true_iff];omega
      clear nZ;go_wp2_with fail;go_meet;exact⟨by rw[cP.o],rfl⟩
     ·have cP:Hid (bad=false):=J (by rw[fN.o,hz];simp[hl1]);have ec:¬(1:Int)<(W.length:Int):=by omega
      have bE:decide ((1:Int)<(W.length:Int))=false:=by simp;omega
      clear nZ;go_wp2_with fail;go_meet;exact⟨by rw[cP.o],rfl⟩
  ·rcases qar P.length with hp0|hp0
   ·obtain rfl:P=[]:=qau hp0;have cP:Hid (bad=true):=J (uz.o rfl);have sU:(([]:List UInt8) == [])=true:=rfl;clear hp0;go_wp2_with fail;go_meet;exact⟨by rw[cP.o],rfl⟩
   ·have sU:(P == [])=false:=by cases P<;>simp_all
    obtain⟨k,sT⟩:∃k,P.length=k+1:=⟨P.length-1,by omega⟩;have mM:=KY P k sT;have fP:(P.length:Int)-1=(k:Int):=by omega
    clear hp0;have hkp:(k:Int)<(P.length:Int):=by omega
    cases hz1:((Ad P k:Int) == 48)
    ·have HF:Hid ((true && ((P == []) || (P.getLast? == some 48)))=false):=J (by rw[mM,sU,hz1];rfl);clear mM sT;have fN:=J (pB.o HF.o);rcases qar W.length with dZ|dZ
     ·obtain rfl:W=[]:=qau dZ;have cP:Hid (bad=true):=J (by rw[fN.o];rfl);have ql:(([]:List UInt8) == [])=true:=rfl;clear dZ;go_wp2_with fail;go_meet;exact⟨by rw[cP.o],rfl⟩
     ·have ql:(W == [])=false:=by cases W<;>simp_all
      obtain⟨kw,nZ⟩:∃k,W.length=k+1:=⟨W.length-1,by omega⟩;have vH:(0:Int)<(W.length:Int):=by omega
      have oO:=GG W kw nZ;rw[oO,ql]at fN;clear dZ oO;cases hz:((Ad W 0:Int) == 48)
      ·have cP:Hid (bad=false):=J (by rw[fN.o,hz];rfl);clear nZ;go_wp2_with fail;go_meet;exact⟨by rw[cP.o],rfl⟩
      ·by_cases hl1:1<W.length
       ·have cP:Hid (bad=true):=J (by rw[fN.o,hz];simp[hl1]);have ec:(1:Int)<(W.length:Int):=by omega
        have bE:decide ((1:Int)<(W.length:Int))=true:=by rw[decide_eq_true_iff];omega
        clear nZ;go_wp2_with fail;go_meet;exact⟨by rw[cP.o],rfl⟩
       ·have cP:Hid (bad=false):=J (by rw[fN.o,hz];simp[hl1]);have ec:¬(1:Int)<(W.length:Int):=by omega
        have bE:decide ((1:Int)<(W.length:Int))=false:=by simp;omega
        clear nZ;go_wp2_with fail;go_meet;exact⟨by rw[cP.o],rfl⟩
    ·have cP:Hid (bad=true):=J (uz.o (by rw[mM,hz1];simp));clear mM sT;go_wp2_with fail;go_meet;exact⟨by rw[cP.o],rfl⟩
 case rest=>
  obtain⟨rfl,rfl⟩:=hcut;clear pB uz uF;have k0:=aA.o.three;cases bad
  ·have eU:=mu.o;simp only[qbg,if_false]at eU;have lz:∀W',(binOp .add 9 (str W) (str P)).run Tryz.prog W'= .ok (str (W++P)) W':=Ap W P (by omega);have hL:(W++P).length<=800:=by rw[qab];omega
   have k6:=J (fun W'=>PK W' (W++P));have pz:=J (fun W'=>MK W' (K7 (W++P)));rw[Kp _ hL]at pz;have HTD:=J (fun W'=>PM W' (W++P) (by omega));have WJ:=J (Js (W++P));have hdig:K7 (W++P)=if (W++P).dropWhile (· == 48)=[] then [48] else (W++P).dropWhile (· == 48):=rfl
   have kL:=J hdig;clear hdig mu;generalize W++P=L at *;generalize hZ:L.dropWhile (· == 48)=Z at *;have HZ:=J hZ;clear hZ;cases hall:L.all Bx
   ·have db:Hid (∀W',Calls Tryz.prog 209 #[str (K7 L)] W' (LX W' (0,6))):=J (fun W'=>by
     have:=pz.o W'
     rwa [hall]at this)
    rw[hall]at eU;have HC:Hid (Bz l=6):=J eU;clear hall eU pz;rcases qar Z.length with aR|aR
    ·obtain rfl:Z=[]:=qau aR;have Ux:(([]:List UInt8) == [])=true:=rfl;rw[kL.o,if_pos rfl]at db;clear aR;go_wp2_with fail;refine(k6.o _).mono ?_
     rintro e w2 ⟨rfl,rfl⟩;go_wp2_with fail;refine(db.o _).mono ?_
     rintro e w3 ⟨v3,rfl,ek,ae⟩;obtain⟨n3,A3,c3,rfl⟩:=ek.shape;have hk:=aA.o.ext ae;have ag:=J (ah.o.trans ae);have aC:=J hk;clear ek ae k0;have k0:=hk.three;clear hk;go_wp2_with fail;obtain⟨dN,cB,hr2⟩:=Ck aC.o (.bool false) (.slice none 0 0) (.slice none 0 0);refine bodyPost_ret (v:= .tuple #[.agg #[.bool false,.slice none 0 0,.slice none 0 0],.int .i64 6]) (by simp[results,Tryz.results182,go_sem,dN,cB,hr2]) rfl ?_
     exact⟨_,by rw[HC.o];rfl,by rw[HC.o];exact BH.zero _ _,((ag.o.setCell (qad _) _).setCell (qad _) _).setCell (qad _) _⟩
    ·have Ux:(Z == [])=false:=by cases Z<;>simp_all
     have vw:Z≠[]:=by cases Z<;>simp_all
     rw[kL.o,if_neg vw]at db;clear aR vw;go_wp2_with fail;refine(k6.o _).mono ?_
     rintro e w2 ⟨rfl,rfl⟩;go_wp2_with fail;refine(db.o _).mono ?_
     rintro e w3 ⟨v3,rfl,ek,ae⟩;obtain⟨n3,A3,c3,rfl⟩:=ek.shape;have hk:=aA.o.ext ae;have ag:=J (ah.o.trans ae);have aC:=J hk;clear ek ae k0;have k0:=hk.three;clear hk;go_wp2_with fail;obtain⟨dN,cB,hr2⟩:=Ck aC.o (.bool false) (.slice none 0 0) (.slice none 0 0);refine bodyPost_ret (v:= .tuple #[.agg #[.bool false,.slice none 0 0,.slice none 0 0],.int .i64 6]) (by simp[results,Tryz.results182,go_sem,dN,cB,hr2]) rfl ?_
     exact⟨_,by rw[HC.o];rfl,by rw[HC.o];exact BH.zero _ _,((ag.o.setCell (qad _) _).setCell (qad _) _).setCell (qad _) _⟩
   ·have db:Hid (∀W',Calls Tryz.prog 209 #[str (K7 L)] W' (LX W' (Bk L,0))):=J (fun W'=>by
     have:=pz.o W'
     rwa [hall]at this)
    rw[hall]at eU;have HC:Hid (Bz l=0):=J eU;have yf:=J (fun W'=>HTD.o W' hall);have uU:(Af (Bk L)).length<=800:=F8 (WJ.o hall) hL;have iO:=J (fun W' m a=>M2 W' false m (Af (Bk L)) a (by omega));rw[Ah]at iO;have hsg:sgn false (Bk L)=((Bk L:Nat):Int):=rfl;rw[hsg]at iO;have kG:=J (fun W'=>R9 W' 1 (by decide));rw[show ((1:Nat):Int)=1 from rfl]at kG;have om:P.length<=400:=by omega
    have qX:=J (fun W' m a=>P1 W' m (Af 1) P.length a (by decide) (by omega));have gR:Hid ((Af 1).length<=10/\P.length<=400):=J ⟨by decide,om⟩;have mj:Hid (∀W' a b zs,Cf W' a ((Bk L:Nat):Int)->Arr W' b zs->zs.length<=134217728->val zs=val (Af 1)*10 ^ P.length->Calls Tryz.prog 211 #[a,b] W' fun e w'=>∃v',e= .returned v'/\BH W'.heap.size w' v' (MS ((Bk L:Nat):Int) (10 ^ P.length)) (MV ((Bk L:Nat):Int) (10 ^ P.length))/\Ext W' w'):=J (fun W' a b zs h1 h2 h3 h4=>by
     have:=MR W' a b _ zs h1 h2 (by rw[qcp];omega) h3 (by rw[h4,Ah,qbC];exact Nat.ne_of_gt (qbB (by decide)))
     rwa [h4,Ah,qbC]at this)
    clear hall eU pz uU hsg om;rcases qar Z.length with aR|aR
    ·obtain rfl:Z=[]:=qau aR;have Ux:(([]:List UInt8) == [])=true:=rfl;rw[kL.o,if_pos rfl]at db;clear aR;go_wp2_with fail;refine(k6.o _).mono ?_
     rintro e w2 ⟨rfl,rfl⟩;go_wp2_with fail;refine(db.o _).mono ?_
     rintro e w3 ⟨v3,rfl,ek,ae⟩;have kH:=J ek;obtain⟨n3,A3,c3,rfl⟩:=ek.shape;have ag:=J (ah.o.trans ae);have aC:=J (aA.o.ext ae);clear ek ae k0;go_wp2_with fail;refine(yf.o _).mono ?_
     rintro e w4 ⟨rfl,aJ⟩;have ne:=J (kH.o.ext aJ);have aD:=J (ag.o.trans aJ);have eK:=J (aC.o.ext aJ);clear aJ;have hle:(([]:List UInt8) == [])=true:=rfl;go_wp2_with fail;refine(iO.o _ _ ne.o.arr).mono ?_
     rintro e w5 ⟨v5,rfl,oE,hx5⟩;have yH:=J oE;obtain⟨b5,n5,A5,c5,rfl⟩:=oE.shape;have ba:=J (aD.o.trans hx5);have cm:=J (eK.o.ext hx5);clear oE hx5;go_wp2_with fail;refine(kG.o _).mono ?_
     rintro e w6 ⟨v6,rfl,mK,bz⟩;have cj:=J mK;obtain⟨n6,A6,c6,rfl⟩:=mK.shape;have yG:=J (yH.o.ext bz);have aZ:=J (ba.o.trans bz);have bK:=J (cm.o.ext bz);clear mK bz;go_wp2_with fail;refine(qX.o _ _ cj.o.arr).mono ?_
     rintro e w7 ⟨v7,zs,rfl,tQ,sK,Vh,bG⟩;obtain⟨n7,A7,c7,rfl⟩:=tQ.shape;have WY:=J (yG.o.ext bG).arr;have aN:=J (aZ.o.trans bG);have dD:=J (bK.o.ext bG);have HV7:=J sK;have nk:=J (mj.o w7 _ _ zs WY.o tQ (by have:=gR.o;omega) sK);clear tQ sK bG Vh;go_wp2_with fail;refine nk.o.mono ?_
     rintro e w8 ⟨v8,rfl,cD,bS⟩;obtain⟨b8,n8,A8,c8,rk,sl,rT,rfl⟩:=cD.shape;have k9:=J cD;have cp:=J (aN.o.trans bS);have hk:=dD.o.ext bS;have jM:=J hk;have pi:=J aN.o.size;have pD:=J dD.o.lt;clear cD bS;have k0:=hk.three;clear hk;go_wp2_with fail;obtain⟨dN,cB,hr2⟩:=Ck jM.o (.bool b8) (.slice A8 n8 c8) (.slice sl rk rT);refine bodyPost_ret (v:= .tuple #[.agg #[.bool b8,.slice A8 n8 c8,.slice sl rk rT],.int .i64 0]) (by simp[results,Tryz.results182,go_sem,dN,cB,hr2]) rfl ?_
     have fx:=k9.o.put (w:=w) pD.o pi.o;exact⟨_,by rw[HC.o];rfl,by rw[HC.o,if_pos rfl,if_pos rfl,ng.o,rh.o];exact fx,((cp.o.setCell (qad _) _).setCell (qad _) _).setCell (qad _) _⟩
    ·have Ux:(Z == [])=false:=by cases Z<;>simp_all
     have vw:Z≠[]:=by cases Z<;>simp_all
     rw[kL.o,if_neg vw]at db;clear aR vw;go_wp2_with fail;refine(k6.o _).mono ?_
     rintro e w2 ⟨rfl,rfl⟩;go_wp2_with fail;refine(db.o _).mono ?_
     rintro e w3 ⟨v3,rfl,ek,ae⟩;have kH:=J ek;obtain⟨n3,A3,c3,rfl⟩:=ek.shape;have ag:=J (ah.o.trans ae);have aC:=J (aA.o.ext ae);clear ek ae k0;go_wp2_with fail;refine(yf.o _).mono ?_
     rintro e w4 ⟨rfl,aJ⟩;have ne:=J (kH.o.ext aJ);have aD:=J (ag.o.trans aJ);have eK:=J (aC.o.ext aJ);clear aJ;have hle:(([]:List UInt8) == [])=true:=rfl;go_wp2_with fail;refine(iO.o _ _ ne.o.arr).mono ?_
     rintro e w5 ⟨v5,rfl,oE,hx5⟩;have yH:=J oE;obtain⟨b5,n5,A5,c5,rfl⟩:=oE.shape;have ba:=J (aD.o.trans hx5);have cm:=J (eK.o.ext hx5);clear oE hx5;go_wp2_with fail;refine(kG.o _).mono ?_
     rintro e w6 ⟨v6,rfl,mK,bz⟩;have cj:=J mK;obtain⟨n6,A6,c6,rfl⟩:=mK.shape;have yG:=J (yH.o.ext bz);have aZ:=J (ba.o.trans bz);have bK:=J (cm.o.ext bz);clear mK bz;go_wp2_with fail;refine(qX.o _ _ cj.o.arr).mono ?_
     rintro e w7 ⟨v7,zs,rfl,tQ,sK,Vh,bG⟩;obtain⟨n7,A7,c7,rfl⟩:=tQ.shape;have WY:=J (yG.o.ext bG).arr;have aN:=J (aZ.o.trans bG);have dD:=J (bK.o.ext bG);have HV7:=J sK;have nk:=J (mj.o w7 _ _ zs WY.o tQ (by have:=gR.o;omega) sK);clear tQ sK bG Vh;go_wp2_with fail;refine nk.o.mono ?_
     rintro e w8 ⟨v8,rfl,cD,bS⟩;obtain⟨b8,n8,A8,c8,rk,sl,rT,rfl⟩:=cD.shape;have k9:=J cD;have cp:=J (aN.o.trans bS);have hk:=dD.o.ext bS;have jM:=J hk;have pi:=J aN.o.size;have pD:=J dD.o.lt;clear cD bS;have k0:=hk.three;clear hk;go_wp2_with fail;obtain⟨dN,cB,hr2⟩:=Ck jM.o (.bool b8) (.slice A8 n8 c8) (.slice sl rk rT);refine bodyPost_ret (v:= .tuple #[.agg #[.bool b8,.slice A8 n8 c8,.slice sl rk rT],.int .i64 0]) (by simp[results,Tryz.results182,go_sem,dN,cB,hr2]) rfl ?_
     have fx:=k9.o.put (w:=w) pD.o pi.o;exact⟨_,by rw[HC.o];rfl,by rw[HC.o,if_pos rfl,if_pos rfl,ng.o,rh.o];exact fx,((cp.o.setCell (qad _) _).setCell (qad _) _).setCell (qad _) _⟩
  ·have HC:Hid (Bz l=6):=J mu.o;clear mu;go_wp2_with fail;obtain⟨dN,cB,hr2⟩:=Ck aA.o (.bool false) (.slice none 0 0) (.slice none 0 0);refine bodyPost_ret (v:= .tuple #[.agg #[.bool false,.slice none 0 0,.slice none 0 0],.int .i64 6]) (by simp[results,Tryz.results182,go_sem,dN,cB,hr2]) rfl ?_
   exact⟨_,by rw[HC.o];rfl,by rw[HC.o];exact BH.zero _ _,((ah.o.setCell (qad _) _).setCell (qad _) _).setCell (qad _) _⟩
theorem Dr.below{w w':World}(h:Dr w w')(B:Nat):Below B w w':=by
 have h1:=h.grown none;exact⟨h1.os,h1.tape,h1.output,h1.size,fun g _=>by rw[h.heap]⟩
theorem Gd{l:List UInt8}{a:Nat}(ha:a<l.length):∃c t,l.drop a=c::t/\c.toNat=Ad l a/\l[a]? =some c:=by
 refine⟨l[a],l.drop (a+1),qbQ ha,(BC l a ha).symm,qaa ha⟩
theorem NG{l:List UInt8}{a:Nat}(ha:a<l.length)(h:Ej (Ad l a)=true):Dl (l.drop a)=if An BU (l.drop a)<=24 then some (2,An BU (l.drop a)) else none:=by
 obtain⟨c,t,h1,h2,_⟩:=Gd ha;rw[h1];unfold Dl;simp only;rw[h2,if_pos h]
theorem PN{l:List UInt8}{a:Nat}(ha:a<l.length)(h0:Ej (Ad l a)=false)(h:Dp (Ad l a)=true):Dl (l.drop a)=if Bz ((l.drop a).take (An Cw (l.drop a)))=0 then some (1,An Cw (l.drop a)) else none:=by
 obtain⟨c,t,h1,h2,_⟩:=Gd ha;rw[h1];unfold Dl;simp only;rw[h2,h0,h];simp
theorem Rs{l:List UInt8}{a:Nat}(ha:a<l.length)(h0:Ej (Ad l a)=false)(h:Dp (Ad l a)=false):Dl (l.drop a)=if Gp (Ad l a) then some (3,1) else none:=by
 obtain⟨c,t,h1,h2,_⟩:=Gd ha;rw[h1];unfold Dl;simp only;rw[h2,h0,h];simp
theorem OZ{l:List UInt8}{a:Nat}(ha:a<l.length):l[a]? =some 32↔Ad l a=32:=by
 obtain⟨c,t,_,h2,h3⟩:=Gd ha;rw[h3,<-h2];constructor
 ·intro h;injection h with h;rw[h];rfl
 ·intro h
  congr 1
  apply qcw.1;rw[h];rfl
def IU(w:World)(l:List UInt8)(e:Ending)(w':World):Prop:=
 ∃v,e= .returned (.tuple #[v,.int .i64 ((Bj l).2.1:Int),.int .i64 ((Bj l).2.2:Int)])/\w'.ownsRow w.heap.size 122 3 v (Bj l).1.length (Dk (Bj l).1)/\Ext w w'
end Big
end Go.Proofs.YtkoaogkknnelaaaGreatDoor
