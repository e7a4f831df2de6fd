import Derived.Test.YtkoaogkknnelaaaGreatDoorM17
import Derived.Test.YtkoaogkknnelaaaGreatDoorM15
set_option linter.unusedVariables false
set_option linter.unusedSimpArgs false
set_option maxHeartbeats 1000000
set_option maxRecDepth 100000
namespace Go.Proofs.YtkoaogkknnelaaaGreatDoor
namespace Big
open Lib renaming hid → J
open Go.RowKit
theorem LG(w:World)(l:List UInt8)(h:20001<l.length):
  Calls Tryz.prog 209 #[str l] w fun e w'=>e= .returned (.tuple #[.slice none 0 0,.int .i64 7])/\w=w':=by
 have h':(20001:Int)<(l.length:Int):=by omega
 clear h;go_enter Tryz.func209,Tryz.ntmps209;go_wp2_with fail;go_ret2;exact⟨rfl,rfl⟩
theorem Kk(w:World):
  Calls Tryz.prog 209 #[str []] w fun e w'=>e= .returned (.tuple #[.slice none 0 0,.int .i64 6])/\w=w':=by
 go_enter Tryz.func209,Tryz.ntmps209;go_wp2_with fail;go_ret2;exact⟨rfl,rfl⟩
theorem LE(w:World)(l:List UInt8)(h0:Ac l 0=48)(h1:1<l.length)(h:l.length<=20001):
  Calls Tryz.prog 209 #[str l] w fun e w'=>e= .returned (.tuple #[.slice none 0 0,.int .i64 6])/\w=w':=by
 have WL:((Ac l 0:Int) == 48)=true:=by rw[h0];rfl
 have hle:¬(20001:Int)<(l.length:Int):=by omega
 have hne:(l == [])=false:=by cases l<;>simp_all
 clear h h0;go_enter Tryz.func209,Tryz.ntmps209;go_wp2_with fail;go_ret2;exact⟨rfl,rfl⟩
def TR(w0 wr:World)(out:Value)(l:List UInt8)(k j c:Nat):Prop:=
 ∃a:Nat,Own w0.heap.size wr out (Af a)/\Bi (l.take k)=a*10 ^ j+c/\a<10 ^ k/\Ext w0 wr
def LV(w0:World)(r:Nat × Nat)(e:Ending)(w':World):Prop:=
 ∃v':Value,e= .returned (.tuple #[v',.int .i64 (r.2:Int)])/\Own w0.heap.size w' v' (Af r.1)/\Ext w0 w'
theorem LF(w:World)(l:List UInt8)(hne:l≠[])(hz:¬(Ac l 0=48/\1<l.length))(h:l.length<=20001)(r:Nat × Nat)(cI:l.all Bq=true->r=(Bi l,0))(hr2:l.all Bq=false->r=(0,6)):
  Calls Tryz.prog 209 #[str l] w (LV w r):=by
 have wT:=J cI;have eN:=J hr2;clear cI hr2;have hle:¬(20001:Int)<(l.length:Int):=by omega
 have Ym:(l == [])=false:=by cases l<;>simp_all
 have nO:0<l.length:=by cases l<;>simp_all
 have vG:((Ac l 0:Int) == 48)=false\/(((Ac l 0:Int) == 48)=true/\¬(1:Int)<(l.length:Int)):=by
  by_cases h0:Ac l 0=48
  ·exact .inr ⟨by rw[h0];rfl,by omega⟩
  ·exact .inl (by rw[beq_eq_false_iff_ne];omega)
 have HL:=J h;clear h hne hz;rcases vG with WL|⟨WL,h11⟩
 all_goals
  go_enter Tryz.func209,Tryz.ntmps209;go_wp2_with fail;go_loopw [4,5,6,25] (fun out cv sv i wr=>∃k j c:Nat,k<=l.length/\j<=8/\c<10 ^ j/\(k=l.length->j=0)/\i= .int .i64 k/\cv= .int .u32 c/\sv= .int .u32 ((10 ^ j:Nat):Int)/\(l.take k).all Bq=true/\TR w wr out l k j c) (fun _ _ _ i _=>l.length-(intOf i).toNat)
  case atStart=>exact⟨0,0,0,by omega,by omega,by omega,fun _=>rfl,rfl,rfl,rfl,rfl,0,Own.none_ _ _,rfl,by omega,Ext.refl _⟩
  case round=>
   obtain⟨k,j,c,hk,hj,hc,lD,rfl,rfl,rfl,hall,hN⟩:=hrel;by_cases hlt:k<l.length
   ·have hb:=CM l k;have iq:=Bu l k hlt;have hdig:=Qh l[k];rw[<-iq]at hdig;have kL:=Q0 l k hlt;have ie:=Jz l k hlt;rw[<-iq]at ie;rw[hall,Bool.true_and]at kL;have HAF:=J (fun hf=>LT hlt hf);have kg:=J hdig;have xY:=J kL;have k8:=J ie;clear iq hdig kL ie;obtain⟨b,fW⟩:∃b,Ac l k=b:=⟨_,rfl⟩;have ua:=J fW;rw[fW]at kg k8 hb;have HC10:=J hc;by_cases hd:48<=b/\b<=57
    ·have oy:=J (xY.o.trans (kg.o.2 hd));obtain⟨a,ag,dY,Uk,an⟩:=hN;have Ze:=Ke hj;have Uo:=Pq hj;have fQ:=J hall;have VA:=J Uk;have fG:=Km Uk;have cP:=J (MX (d:=b-48) dY);have mB:=J dY;clear hall Uk dY lD;have x9:=J (show 10 ^ (j+1)=10*10 ^ j by rw[Nat.pow_succ,Nat.mul_comm]);obtain⟨P,hP⟩:∃P,10 ^ j=P:=⟨_,rfl⟩;rw[hP]at hc Ze Uo cP mB x9 ⊢;have HP:=J hP;clear hP;have XU:IntKind.u32.wrap (10*(c:Int))=((10*c:Nat):Int):=by rw[IntWalk.u32_in _ (by omega)];omega
     obtain⟨cx,ba⟩:=hd;have e1:(10*(c:Int)+((b:Int)-48))=((10*c+(b-48):Nat):Int):=by omega
     have e2:(P:Int)*10=((P*10:Nat):Int):=by omega
     have E1:=J e1;have E2:=J e2;clear e1 e2;by_cases hflush:j=8\/k+1=l.length
     ·have kS:((P:Int)*10 == 1000000000)=true\/(((P:Int)*10 == 1000000000)=false/\((k:Int) == (l.length:Int)-1)=true):=by
       by_cases h8:P*10=1000000000
       ·exact .inl (by rw[beq_iff_eq];omega)
       ·exact .inr ⟨by rw[beq_eq_false_iff_ne];omega,by rw[beq_iff_eq];omega⟩
      have eO:=J (GI wr _ (Af a) (P*10) (10*c+(b-48)) ag.arr (by omega) (by omega) (by omega));clear Uo;have HK:=J hflush;clear hflush;have pD:Bi (l.take (k+1))=a*(P*10)+(10*c+(b-48)):=by rw[k8.o,cP.o,Nat.mul_comm P 10]
      have jH:=Ik oy.o (show k+1<=l.length by omega);have fw:=J pD;have qW:=J jH;clear pD jH;rcases kS with kS|⟨zK,zJ⟩
      all_goals
       go_wp2_with fail;rw[E1.o,E2.o];refine eO.o.mono ?_
       rintro e w1 ⟨v1,rfl,cO,am⟩;rw[Ah,<-fw.o]at cO;go_wp2_with fail;go_roundw
       case rel=>exact⟨k+1,0,0,by omega,by omega,by omega,fun _=>rfl,by go_num,rfl,rfl,oy.o,_,cO.mono an.size,by simp,qW.o,an.trans am⟩
       case measure=>simp[intOf];omega
     ·have zK:((P:Int)*10 == 1000000000)=false:=by rw[beq_eq_false_iff_ne];omega
      have zJ:((k:Int) == (l.length:Int)-1)=false:=by rw[beq_eq_false_iff_ne];omega
      have jH:=Ik oy.o (show k+1<=l.length by omega);have qW:=J jH;have vT:a<10 ^ (k+1):=Nat.lt_of_lt_of_le VA.o (Nat.pow_le_pow_right (by omega) (by omega));have Vz:=J vT;have W9:=J hflush;clear Uo jH vT hflush;go_wp2_with fail;go_roundw
      case rel=>
       refine⟨k+1,j+1,10*c+(b-48),by omega,by have:=W9.o;omega,by rw[x9.o];omega,fun he=>absurd (Or.inr he) W9.o,by go_num,by rw[E1.o],?_,oy.o,a,ag,by rw[k8.o,cP.o,x9.o],Vz.o,an⟩;rw[x9.o,Nat.mul_comm 10 P,E2.o]
      case measure=>simp[intOf];omega
    ·have vN:Bq l[k]=false:=by
      rw[<-Bool.not_eq_true];exact fun ht=>hd (kg.o.1 ht)
     have ar:=J (HAF.o vN);obtain⟨a,ag,uX,Uj,an⟩:=hN;clear uX Uj ag;have lx:b<48\/57<b:=by omega
     clear vN hc lD hall hd hj hk;generalize 10 ^ j=P at *;rcases lx with lC|lC
     all_goals
      go_wp2_with fail;go_ret2;rw[eN.o ar.o];exact⟨_,rfl,Own.none_ _ _,an⟩
   ·obtain rfl:k=l.length:=by omega
    obtain⟨a,ag,dY,_,an⟩:=hN;have o3:=lD rfl;subst o3;rw[List.take_of_length_le (Nat.le_refl _)]at dY hall;have hc0:c=0:=by simpa using hc
    subst hc0;have ly:Bi l=a:=by simpa using dY
    have bG:=J ly;have fQ:=J hall;clear dY ly hall hc lD;go_wp2_with fail;go_ret2;rw[wT.o fQ.o,bG.o];exact⟨_,rfl,ag,an⟩
theorem MB(w:World)(l:List UInt8):Calls Tryz.prog 209 #[str l] w (LV w (IV l)):=by
 unfold IV;by_cases h1:20001<l.length
 ·rw[if_pos h1];refine(LG w l h1).mono ?_
  rintro e w' ⟨rfl,rfl⟩;exact⟨_,rfl,Own.none_ _ _,Ext.refl _⟩
 ·rw[if_neg h1];by_cases h2:l=[]
  ·subst h2;rw[if_pos rfl];refine(Kk w).mono ?_
   rintro e w' ⟨rfl,rfl⟩;exact⟨_,rfl,Own.none_ _ _,Ext.refl _⟩
  ·rw[if_neg h2];have nO:0<l.length:=by cases l<;>simp_all
   have hb:Ac l 0=48↔l[0]? =some 48:=by
    rw[Bu l 0 nO,List.getElem?_eq_getElem nO];constructor
    ·intro h;exact congrArg some (UInt8.toNat_inj.1 h)
    ·intro h;injection h with h;rw[h];rfl
   by_cases h3:l[0]? =some 48/\1<l.length
   ·rw[if_pos h3];refine(LE w l (hb.2 h3.1) h3.2 (by omega)).mono ?_
    rintro e w' ⟨rfl,rfl⟩;exact⟨_,rfl,Own.none_ _ _,Ext.refl _⟩
   ·rw[if_neg h3];exact LF w l h2 (fun h=>h3 ⟨hb.1 h.1,h.2⟩) (by omega) _ (fun h=>if_pos h) (fun h=>if_neg (by rw[h];decide))
theorem Mp(w:World)(l:List UInt8)(h:400<l.length):Calls Tryz.prog 182 #[str l] w (Gl w l):=by
 have hc:Bs l=7:=if_pos h;have h':(400:Int)<(l.length:Int):=by omega
 have HC:=J hc;clear h hc;go_enter Tryz.func182,Tryz.ntmps182;go_wp2_with fail;obtain⟨e9,cI,hr2⟩:=Cb (Blk.new w 26 #[.bool false,.slice none 0 0,.slice none 0 0]) (.bool false) (.slice none 0 0) (.slice none 0 0);refine bodyPost_ret (v:= .tuple #[.agg #[.bool false,.slice none 0 0,.slice none 0 0],.int .i64 7]) (by simp[results,Tryz.results182,go_sem]) rfl ?_
 exact⟨_,by rw[HC.o];rfl,by rw[HC.o];exact BB.zero _ _,(Ext.refl w).alloc _⟩
theorem Jv(w:World)(l:List UInt8)(hm:BC w):Calls Tryz.prog 182 #[str l] w (Gl w l):=by
 rcases Nat.lt_or_ge 400 l.length with hl|hl
 ·exact Mp w l hl
 have tu:=J (fun W hx=>SZ W l (by omega) (hm.ext hx));have hpl:(Ba l).length<=l.length:=by
  rcases Co l with ⟨_,h1⟩|⟨_,_,h2⟩
  ·have:=congrArg List.length h1;simp at this;omega
  ·rw[h2];simp
 have nA:=I6 l;have oF:=J (E6 (l:=l));have tl:=J (F0 (l:=l));have eU:Bs l=if Ie l then 6 else if (whole l++Ba l).all Bq then 0 else 6:=by
  unfold Bs CU;rw[if_neg (by omega)];cases Ie l<;>cases (whole l++Ba l).all Bq<;>rfl
 have lY:=J eU;have dY:Tn l=MM (Bi (whole l++Ba l)) (10 ^ (Ba l).length):=rfl;have vF:Ts l=MO (Bi (whole l++Ba l)) (10 ^ (Ba l).length):=rfl;have mB:=J dY;have ql:=J vF;have wi:¬(400:Int)<(l.length:Int):=by omega
 clear hm eU dY vF;generalize whole l=W at *;generalize Ba l=P at *;generalize AD l=D at *;generalize Ie l=bad at *;go_enter Tryz.func182,Tryz.ntmps182;go_wp2_with fail;refine(tu.o _ ((Ext.refl w).alloc _)).mono ?_
 rintro e w1 ⟨rfl,am⟩;have ah:=J (((Ext.refl w).alloc (.cells #[.bool false,.slice none 0 0,.slice none 0 0] 26)).trans am);have aM:=J ((Blk.new w 26 #[.bool false,.slice none 0 0,.slice none 0 0]).ext am);clear am;go_upto_region 4 with fail
 go_cut [46] from 20 to 46 (fun s46 wx=>s46= .bool bad/\wx=w1)
 case first=>
  clear tu;cases D
  ·have HF:Hid ((false && ((P == []) || (P.getLast? == some 48)))=false):=J rfl;have fD:=J (oF.o HF.o);rcases Nat.eq_zero_or_pos W.length with ej|ej
   ·obtain rfl:W=[]:=List.eq_nil_of_length_eq_zero ej;have cT:Hid (bad=true):=J (by rw[fD.o];rfl);have pr:(([]:List UInt8) == [])=true:=rfl;clear ej;go_wp2_with fail;go_meet;exact⟨by rw[cT.o],rfl⟩
   ·have pr:(W == [])=false:=by cases W<;>simp_all
    obtain⟨kw,nA⟩:∃k,W.length=k+1:=⟨W.length-1,by omega⟩;have uq:(0:Int)<(W.length:Int):=by omega
    have lH:=GO W kw nA;rw[lH,pr]at fD;clear ej lH;cases hz:((Ac W 0:Int) == 48)
    ·have cT:Hid (bad=false):=J (by rw[fD.o,hz];rfl);clear nA;go_wp2_with fail;go_meet;exact⟨by rw[cT.o],rfl⟩
    ·by_cases hl1:1<W.length
     ·have cT:Hid (bad=true):=J (by rw[fD.o,hz];simp[hl1]);have cx:(1:Int)<(W.length:Int):=by omega
      have ba:decide ((1:Int)<(W.length:Int))=true:=by rw[decide_eq_true_iff];omega
      clear nA;go_wp2_with fail;go_meet;exact⟨by rw[cT.o],rfl⟩
     ·have cT:Hid (bad=false):=J (by rw[fD.o,hz];simp[hl1]);have cx:¬(1:Int)<(W.length:Int):=by omega
      have ba:decide ((1:Int)<(W.length:Int))=false:=by simp;omega
      clear nA;go_wp2_with fail;go_meet;exact⟨by rw[cT.o],rfl⟩
  ·rcases Nat.eq_zero_or_pos P.length with hp0|hp0
   ·obtain rfl:P=[]:=List.eq_nil_of_length_eq_zero hp0;have cT:Hid (bad=true):=J (tl.o rfl);have rL:(([]:List UInt8) == [])=true:=rfl;clear hp0;go_wp2_with fail;go_meet;exact⟨by rw[cT.o],rfl⟩
   ·have rL:(P == [])=false:=by cases P<;>simp_all
    obtain⟨k,rK⟩:∃k,P.length=k+1:=⟨P.length-1,by omega⟩;have jt:=KY P k rK;have fE:(P.length:Int)-1=(k:Int):=by omega
    clear hp0;have hkp:(k:Int)<(P.length:Int):=by omega
    cases hz1:((Ac P k:Int) == 48)
    ·have HF:Hid ((true && ((P == []) || (P.getLast? == some 48)))=false):=J (by rw[jt,rL,hz1];rfl);clear jt rK;have fD:=J (oF.o HF.o);rcases Nat.eq_zero_or_pos W.length with ej|ej
     ·obtain rfl:W=[]:=List.eq_nil_of_length_eq_zero ej;have cT:Hid (bad=true):=J (by rw[fD.o];rfl);have pr:(([]:List UInt8) == [])=true:=rfl;clear ej;go_wp2_with fail;go_meet;exact⟨by rw[cT.o],rfl⟩
     ·have pr:(W == [])=false:=by cases W<;>simp_all
      obtain⟨kw,nA⟩:∃k,W.length=k+1:=⟨W.length-1,by omega⟩;have uq:(0:Int)<(W.length:Int):=by omega
      have lH:=GO W kw nA;rw[lH,pr]at fD;clear ej lH;cases hz:((Ac W 0:Int) == 48)
      ·have cT:Hid (bad=false):=J (by rw[fD.o,hz];rfl);clear nA;go_wp2_with fail;go_meet;exact⟨by rw[cT.o],rfl⟩
      ·by_cases hl1:1<W.length
       ·have cT:Hid (bad=true):=J (by rw[fD.o,hz];simp[hl1]);have cx:(1:Int)<(W.length:Int):=by omega
        have ba:decide ((1:Int)<(W.length:Int))=true:=by rw[decide_eq_true_iff];omega
        clear nA;go_wp2_with fail;go_meet;exact⟨by rw[cT.o],rfl⟩
       ·have cT:Hid (bad=false):=J (by rw[fD.o,hz];simp[hl1]);have cx:¬(1:Int)<(W.length:Int):=by omega
        have ba:decide ((1:Int)<(W.length:Int))=false:=by simp;omega
        clear nA;go_wp2_with fail;go_meet;exact⟨by rw[cT.o],rfl⟩
    ·have cT:Hid (bad=true):=J (tl.o (by rw[jt,hz1];simp));clear jt rK;go_wp2_with fail;go_meet;exact⟨by rw[cT.o],rfl⟩
 case rest=>
  obtain⟨rfl,rfl⟩:=hcut;clear oF tl tu;have k0:=aM.o.three;cases bad
  ·have eU:=lY.o;simp only[Bool.false_eq_true,if_false]at eU;have vU:∀W',(binOp .add 9 (str W) (str P)).run Tryz.prog W'= .ok (str (W++P)) W':=Io W P (by omega);have hL:(W++P).length<=800:=by rw[List.length_append];omega
   have kE:=J (fun W'=>Pm W' (W++P));have oD:=J (fun W'=>MB W' (Lb (W++P)));rw[Kn _ hL]at oD;have ZT:=J (fun W'=>Po W' (W++P) (by omega));have U7:=J (JA (W++P));have hdig:Lb (W++P)=if (W++P).dropWhile (· == 48)=[] then [48] else (W++P).dropWhile (· == 48):=rfl
   have kg:=J hdig;clear hdig lY;generalize W++P=L at *;generalize hZ:L.dropWhile (· == 48)=Z at *;have HZ:=J hZ;clear hZ;cases hall:L.all Bq
   ·have bG:Hid (∀W',Calls Tryz.prog 209 #[str (Lb L)] W' (LV W' (0,6))):=J (fun W'=>by
     have:=oD.o W'
     rwa [hall]at this)
    rw[hall]at eU;have HC:Hid (Bs l=6):=J eU;clear hall eU oD;rcases Nat.eq_zero_or_pos Z.length with aU|aU
    ·obtain rfl:Z=[]:=List.eq_nil_of_length_eq_zero aU;have yH:(([]:List UInt8) == [])=true:=rfl;rw[kg.o,if_pos rfl]at bG;clear aU;go_wp2_with fail;refine(kE.o _).mono ?_
     rintro e w2 ⟨rfl,rfl⟩;go_wp2_with fail;refine(bG.o _).mono ?_
     rintro e w3 ⟨v3,rfl,dr,ae⟩;obtain⟨n3,A3,c3,rfl⟩:=dr.shape;have hk:=aM.o.ext ae;have aj:=J (ah.o.trans ae);have aD:=J hk;clear dr ae k0;have k0:=hk.three;clear hk;go_wp2_with fail;obtain⟨e9,cI,hr2⟩:=Cb aD.o (.bool false) (.slice none 0 0) (.slice none 0 0);refine bodyPost_ret (v:= .tuple #[.agg #[.bool false,.slice none 0 0,.slice none 0 0],.int .i64 6]) (by simp[results,Tryz.results182,go_sem,e9,cI,hr2]) rfl ?_
     exact⟨_,by rw[HC.o];rfl,by rw[HC.o];exact BB.zero _ _,((aj.o.setCell (Nat.le_refl _) _).setCell (Nat.le_refl _) _).setCell (Nat.le_refl _) _⟩
    ·have yH:(Z == [])=false:=by cases Z<;>simp_all
     have uf:Z≠[]:=by cases Z<;>simp_all
     rw[kg.o,if_neg uf]at bG;clear aU uf;go_wp2_with fail;refine(kE.o _).mono ?_
     rintro e w2 ⟨rfl,rfl⟩;go_wp2_with fail;refine(bG.o _).mono ?_
     rintro e w3 ⟨v3,rfl,dr,ae⟩;obtain⟨n3,A3,c3,rfl⟩:=dr.shape;have hk:=aM.o.ext ae;have aj:=J (ah.o.trans ae);have aD:=J hk;clear dr ae k0;have k0:=hk.three;clear hk;go_wp2_with fail;obtain⟨e9,cI,hr2⟩:=Cb aD.o (.bool false) (.slice none 0 0) (.slice none 0 0);refine bodyPost_ret (v:= .tuple #[.agg #[.bool false,.slice none 0 0,.slice none 0 0],.int .i64 6]) (by simp[results,Tryz.results182,go_sem,e9,cI,hr2]) rfl ?_
     exact⟨_,by rw[HC.o];rfl,by rw[HC.o];exact BB.zero _ _,((aj.o.setCell (Nat.le_refl _) _).setCell (Nat.le_refl _) _).setCell (Nat.le_refl _) _⟩
   ·have bG:Hid (∀W',Calls Tryz.prog 209 #[str (Lb L)] W' (LV W' (Bi L,0))):=J (fun W'=>by
     have:=oD.o W'
     rwa [hall]at this)
    rw[hall]at eU;have HC:Hid (Bs l=0):=J eU;have wM:=J (fun W'=>ZT.o W' hall);have tM:(Af (Bi L)).length<=800:=Gc (U7.o hall) hL;have fc:=J (fun W' m a=>MU W' false m (Af (Bi L)) a (by omega));rw[Ah]at fc;have hsg:sgn false (Bi L)=((Bi L:Nat):Int):=rfl;rw[hsg]at fc;have ne:=J (fun W'=>Ru W' 1 (by decide));rw[show ((1:Nat):Int)=1 from rfl]at ne;have nH:P.length<=400:=by omega
    have qa:=J (fun W' m a=>PB W' m (Af 1) P.length a (by decide) (by omega));have yd:Hid ((Af 1).length<=10/\P.length<=400):=J ⟨by decide,nH⟩;have lQ:Hid (∀W' a b zs,CG W' a ((Bi L:Nat):Int)->Arr W' b zs->zs.length<=134217728->val zs=val (Af 1)*10 ^ P.length->Calls Tryz.prog 211 #[a,b] W' fun e w'=>∃v',e= .returned v'/\BB W'.heap.size w' v' (MM ((Bi L:Nat):Int) (10 ^ P.length)) (MO ((Bi L:Nat):Int) (10 ^ P.length))/\Ext W' w'):=J (fun W' a b zs h1 h2 h3 h4=>by
     have:=ML W' a b _ zs h1 h2 (by rw[Int.natAbs_natCast];omega) h3 (by rw[h4,Ah,Nat.one_mul];exact Nat.ne_of_gt (Nat.pow_pos (by decide)))
     rwa [h4,Ah,Nat.one_mul]at this)
    clear hall eU oD tM hsg nH;rcases Nat.eq_zero_or_pos Z.length with aU|aU
    ·obtain rfl:Z=[]:=List.eq_nil_of_length_eq_zero aU;have yH:(([]:List UInt8) == [])=true:=rfl;rw[kg.o,if_pos rfl]at bG;clear aU;go_wp2_with fail;refine(kE.o _).mono ?_
     rintro e w2 ⟨rfl,rfl⟩;go_wp2_with fail;refine(bG.o _).mono ?_
     rintro e w3 ⟨v3,rfl,dr,ae⟩;have j7:=J dr;obtain⟨n3,A3,c3,rfl⟩:=dr.shape;have aj:=J (ah.o.trans ae);have aD:=J (aM.o.ext ae);clear dr ae k0;go_wp2_with fail;refine(wM.o _).mono ?_
     rintro e w4 ⟨rfl,aR⟩;have jm:=J (j7.o.ext aR);have aE:=J (aj.o.trans aR);have eJ:=J (aD.o.ext aR);clear aR;have hle:(([]:List UInt8) == [])=true:=rfl;go_wp2_with fail;refine(fc.o _ _ jm.o.arr).mono ?_
     rintro e w5 ⟨v5,rfl,nQ,hx5⟩;have xn:=J nQ;obtain⟨b5,n5,A5,c5,rfl⟩:=nQ.shape;have bg:=J (aE.o.trans hx5);have dP:=J (eJ.o.ext hx5);clear nQ hx5;go_wp2_with fail;refine(ne.o _).mono ?_
     rintro e w6 ⟨v6,rfl,mf,be⟩;have dj:=J mf;obtain⟨n6,A6,c6,rfl⟩:=mf.shape;have xm:=J (xn.o.ext be);have aO:=J (bg.o.trans be);have bv:=J (dP.o.ext be);clear mf be;go_wp2_with fail;refine(qa.o _ _ dj.o.arr).mono ?_
     rintro e w7 ⟨v7,zs,rfl,sr,rC,zx,bq⟩;obtain⟨n7,A7,c7,rfl⟩:=sr.shape;have Vj:=J (xm.o.ext bq).arr;have ay:=J (aO.o.trans bq);have bX:=J (bv.o.ext bq);have ZO:=J rC;have mG:=J (lQ.o w7 _ _ zs Vj.o sr (by have:=yd.o;omega) rC);clear sr rC bq zx;go_wp2_with fail;refine mG.o.mono ?_
     rintro e w8 ⟨v8,rfl,cK,bI⟩;obtain⟨b8,n8,A8,c8,qr,rf,qR,rfl⟩:=cK.shape;have iu:=J cK;have bV:=J (ay.o.trans bI);have hk:=bX.o.ext bI;have fP:=J hk;have oz:=J ay.o.size;have oI:=J bX.o.lt;clear cK bI;have k0:=hk.three;clear hk;go_wp2_with fail;obtain⟨e9,cI,hr2⟩:=Cb fP.o (.bool b8) (.slice A8 n8 c8) (.slice rf qr qR);refine bodyPost_ret (v:= .tuple #[.agg #[.bool b8,.slice A8 n8 c8,.slice rf qr qR],.int .i64 0]) (by simp[results,Tryz.results182,go_sem,e9,cI,hr2]) rfl ?_
     have fu:=iu.o.put (w:=w) oI.o oz.o;exact⟨_,by rw[HC.o];rfl,by rw[HC.o,if_pos rfl,if_pos rfl,mB.o,ql.o];exact fu,((bV.o.setCell (Nat.le_refl _) _).setCell (Nat.le_refl _) _).setCell (Nat.le_refl _) _⟩
    ·have yH:(Z == [])=false:=by cases Z<;>simp_all
     have uf:Z≠[]:=by cases Z<;>simp_all
     rw[kg.o,if_neg uf]at bG;clear aU uf;go_wp2_with fail;refine(kE.o _).mono ?_
     rintro e w2 ⟨rfl,rfl⟩;go_wp2_with fail;refine(bG.o _).mono ?_
     rintro e w3 ⟨v3,rfl,dr,ae⟩;have j7:=J dr;obtain⟨n3,A3,c3,rfl⟩:=dr.shape;have aj:=J (ah.o.trans ae);have aD:=J (aM.o.ext ae);clear dr ae k0;go_wp2_with fail;refine(wM.o _).mono ?_
     rintro e w4 ⟨rfl,aR⟩;have jm:=J (j7.o.ext aR);have aE:=J (aj.o.trans aR);have eJ:=J (aD.o.ext aR);clear aR;have hle:(([]:List UInt8) == [])=true:=rfl;go_wp2_with fail;refine(fc.o _ _ jm.o.arr).mono ?_
     rintro e w5 ⟨v5,rfl,nQ,hx5⟩;have xn:=J nQ;obtain⟨b5,n5,A5,c5,rfl⟩:=nQ.shape;have bg:=J (aE.o.trans hx5);have dP:=J (eJ.o.ext hx5);clear nQ hx5;go_wp2_with fail;refine(ne.o _).mono ?_
     rintro e w6 ⟨v6,rfl,mf,be⟩;have dj:=J mf;obtain⟨n6,A6,c6,rfl⟩:=mf.shape;have xm:=J (xn.o.ext be);have aO:=J (bg.o.trans be);have bv:=J (dP.o.ext be);clear mf be;go_wp2_with fail;refine(qa.o _ _ dj.o.arr).mono ?_
     rintro e w7 ⟨v7,zs,rfl,sr,rC,zx,bq⟩;obtain⟨n7,A7,c7,rfl⟩:=sr.shape;have Vj:=J (xm.o.ext bq).arr;have ay:=J (aO.o.trans bq);have bX:=J (bv.o.ext bq);have ZO:=J rC;have mG:=J (lQ.o w7 _ _ zs Vj.o sr (by have:=yd.o;omega) rC);clear sr rC bq zx;go_wp2_with fail;refine mG.o.mono ?_
     rintro e w8 ⟨v8,rfl,cK,bI⟩;obtain⟨b8,n8,A8,c8,qr,rf,qR,rfl⟩:=cK.shape;have iu:=J cK;have bV:=J (ay.o.trans bI);have hk:=bX.o.ext bI;have fP:=J hk;have oz:=J ay.o.size;have oI:=J bX.o.lt;clear cK bI;have k0:=hk.three;clear hk;go_wp2_with fail;obtain⟨e9,cI,hr2⟩:=Cb fP.o (.bool b8) (.slice A8 n8 c8) (.slice rf qr qR);refine bodyPost_ret (v:= .tuple #[.agg #[.bool b8,.slice A8 n8 c8,.slice rf qr qR],.int .i64 0]) (by simp[results,Tryz.results182,go_sem,e9,cI,hr2]) rfl ?_
     have fu:=iu.o.put (w:=w) oI.o oz.o;exact⟨_,by rw[HC.o];rfl,by rw[HC.o,if_pos rfl,if_pos rfl,mB.o,ql.o];exact fu,((bV.o.setCell (Nat.le_refl _) _).setCell (Nat.le_refl _) _).setCell (Nat.le_refl _) _⟩
  ·have HC:Hid (Bs l=6):=J lY.o;clear lY;go_wp2_with fail;obtain⟨e9,cI,hr2⟩:=Cb aM.o (.bool false) (.slice none 0 0) (.slice none 0 0);refine bodyPost_ret (v:= .tuple #[.agg #[.bool false,.slice none 0 0,.slice none 0 0],.int .i64 6]) (by simp[results,Tryz.results182,go_sem,e9,cI,hr2]) rfl ?_
   exact⟨_,by rw[HC.o];rfl,by rw[HC.o];exact BB.zero _ _,((ah.o.setCell (Nat.le_refl _) _).setCell (Nat.le_refl _) _).setCell (Nat.le_refl _) _⟩
theorem Dr.below{w w':World}(h:Dr w w')(B:Nat):Below B w w':=by
 have h1:=h.grown none;exact⟨h1.os,h1.tape,h1.output,h1.size,fun g _=>by rw[h.heap]⟩
theorem Ext.below{w w':World}(h:Ext w w'){B:Nat}(hB:B<=w.heap.size):Below B w w':=Below.mono h hB
theorem Gg{l:List UInt8}{a:Nat}(ha:a<l.length):∃c t,l.drop a=c::t/\c.toNat=Ac l a/\l[a]? =some c:=by
 refine⟨l[a],l.drop (a+1),List.drop_eq_getElem_cons ha,(Bu l a ha).symm,List.getElem?_eq_getElem ha⟩
theorem Nq{l:List UInt8}{a:Nat}(ha:a<l.length)(h:Ev (Ac l a)=true):C6 (l.drop a)=if Aj BN (l.drop a)<=24 then some (2,Aj BN (l.drop a)) else none:=by
 obtain⟨c,t,h1,h2,_⟩:=Gg ha;rw[h1];unfold C6;simp only;rw[h2,if_pos h]
theorem Pp{l:List UInt8}{a:Nat}(ha:a<l.length)(h0:Ev (Ac l a)=false)(h:Dz (Ac l a)=true):C6 (l.drop a)=if Bs ((l.drop a).take (Aj Ci (l.drop a)))=0 then some (1,Aj Ci (l.drop a)) else none:=by
 obtain⟨c,t,h1,h2,_⟩:=Gg ha;rw[h1];unfold C6;simp only;rw[h2,h0,h];simp
theorem QW{l:List UInt8}{a:Nat}(ha:a<l.length)(h0:Ev (Ac l a)=false)(h:Dz (Ac l a)=false):C6 (l.drop a)=if Gs (Ac l a) then some (3,1) else none:=by
 obtain⟨c,t,h1,h2,_⟩:=Gg ha;rw[h1];unfold C6;simp only;rw[h2,h0,h];simp
theorem OE{l:List UInt8}{a:Nat}(ha:a<l.length):l[a]? =some 32↔Ac l a=32:=by
 obtain⟨c,t,_,h2,h3⟩:=Gg ha;rw[h3,<-h2];constructor
 ·intro h;injection h with h;rw[h];rfl
 ·intro h
  congr 1
  apply UInt8.toNat_inj.1;rw[h];rfl
def I0(w:World)(l:List UInt8)(e:Ending)(w':World):Prop:=
 ∃v,e= .returned (.tuple #[v,.int .i64 ((Bh l).2.1:Int),.int .i64 ((Bh l).2.2:Int)])/\w'.ownsRow w.heap.size 122 3 v (Bh l).1.length (Dq (Bh l).1)/\Ext w w'
end Big
end Go.Proofs.YtkoaogkknnelaaaGreatDoor
