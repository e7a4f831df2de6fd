import Derived.Test.YtkoaogkknnelaaaGreatDoorM18
set_option linter.unusedVariables false
set_option linter.unusedSimpArgs false
set_option maxHeartbeats 1000000
set_option maxRecDepth 100000
namespace Go.Proofs.YtkoaogkknnelaaaGreatDoor
namespace Big
open Lib (hid)
open Go.RowKit
theorem PQ(X g:Nat):(Ac (X / g)).length<=(Ac X).length:=Ay (Nat.div_le_self _ _)
def Tl(X Y:Nat)(w:World)(e:Ending)(w':World):Prop:=
 ∃v' u',e= .returned (.tuple #[v',u',.bool true])/\Own w.heap.size w' v' (Ac (X / Nat.gcd X Y))/\Own w.heap.size w' u' (Ac (Y / Nat.gcd X Y))/\Ext w w'
theorem NB(w:World)(v u:Value)(xs ys:List Nat)(h:Arr w v xs)(h':Arr w u ys)(hn:xs.length<=134217728)(bh:ys.length<=134217728)(hy:val ys≠0):
  Calls Tryz.prog 250 #[v,u] w (Tl (val xs) (val ys) w):=by
 have HB:=hid (DR w u ys h' bh);have hb0:Be (val ys)≠0:=fun e=>hy (DS.1 e)
 have HG:=hid (S5 w v u xs ys h h' hn bh);have em:(Ac (Nat.gcd (val xs) (val ys))).length<=134217728:=Nat.le_trans (Ay (Nat.gcd_le_right _ (Nat.pos_of_ne_zero hy))) (Nat.le_trans (Az h'.ok) bh);have mr:Nat.gcd (val xs) (val ys)≠0:=fun e=>hy (Nat.gcd_eq_zero_iff.1 e).2
 have iV:=hid (fun W z hx a=>D2 W v z xs (Ac (Nat.gcd (val xs) (val ys))) (h.ext hx) a hn em (by rw[Ad];exact mr));have lP:=hid (fun W z hx a=>D2 W u z ys (Ac (Nat.gcd (val xs) (val ys))) (h'.ext hx) a bh em (by rw[Ad];exact mr));rw[Ad]at iV lP;obtain⟨nv,Av,cv,rfl⟩:=h.shape;obtain⟨nu,Au,cu,rfl⟩:=h'.shape;generalize val xs=X at *;generalize val ys=Y at *;have dZ:((Be Y:Int) == 0)=false:=by rw[beq_eq_false_iff_ne];omega
 generalize Be Y=bY at *;clear h h' hn bh hy mr em hb0;go_enter Tryz.func250,Tryz.ntmps250;go_wp2_with fail;refine HB.out.mono ?_
 rintro e w1 ⟨rfl,rfl⟩;go_wp2_with fail;refine HG.out.mono ?_
 rintro e w1 ⟨v1,rfl,de,aj⟩;have ar:=hid aj;have eM:=hid de;obtain⟨n1,A1,c1,rfl⟩:=de.shape;clear de aj;go_wp2_with fail;refine(iV.out _ _ ar.out eM.out.arr).mono ?_
 rintro e w2 ⟨v2,u2,rfl,cM,hr2,ah⟩;have aP:=hid (ar.out.trans ah);have ee:=hid (cM.mono ar.out.size);have lq:=hid (eM.out.ext ah);obtain⟨n2,A2,c2,rfl⟩:=cM.shape;obtain⟨ZQ,Wp,VT,rfl⟩:=hr2.shape;clear cM hr2 ah;go_wp2_with fail;refine(lP.out _ _ aP.out lq.out.arr).mono ?_
 rintro e w3 ⟨v3,u3,rfl,gZ,bf,ab⟩;have ay:=hid (aP.out.trans ab);have rx:=hid (gZ.mono aP.out.size);have ry:=hid (ee.out.ext ab);obtain⟨n3,A3,c3,rfl⟩:=gZ.shape;obtain⟨ZP,A3',c3',rfl⟩:=bf.shape;clear gZ bf ab;go_wp2_with fail;go_ret3;exact⟨_,_,rfl,ry.out,rx.out,ay.out⟩
def Jq(xs:List Nat)(m n:Nat)(w:World)(e:Ending)(w':World):Prop:=
 ∃v' zs,e= .returned v'/\Arr w' v' zs/\val zs=val xs*m ^ n/\zs.length<=xs.length+n/\Ext w w'
def Dp(w wr:World)(xs:List Nat)(m n k:Nat)(v:Value):Prop:=
 ∃zs,Arr wr v zs/\val zs*m ^ k=val xs*m ^ n/\zs.length+k<=xs.length+n/\Ext w wr
theorem Dp.shape{w wr:World}{xs:List Nat}{m n k:Nat}{v:Value}(h:Dp w wr xs m n k v):∃n A c,v= .slice A n c:=by
 obtain⟨zs,h1,_⟩:=h;exact h1.shape
theorem Dp.step {w wr w':World} {xs zs:List Nat} {m n k j a:Nat} {v:Value} (hk:k=j+a) (ha:1<=a) (hv:val zs*m ^ k=val xs*m ^ n) (hl:zs.length+k<=xs.length+n) (hx:Ext w wr) (ax:Ok zs)
  (ho:Own wr.heap.size w' v (Ac (val zs*m ^ a+0))) (hm:m ^ a<4294967296) (hx':Ext wr w'):Dp w w' xs m n j v:=by
 refine⟨_,ho.arr,?_,?_,hx.trans hx'⟩
 ·rw[Ad,Nat.add_zero,Nat.mul_assoc,<-Nat.pow_add,Nat.add_comm a j,<-hk,hv]
 ·have:=Db ax hm (c:=0) (by omega);omega
theorem O3(w:World)(v:Value)(xs:List Nat)(n:Nat)(h:Arr w v xs)(hn:xs.length<=67108864)(bh:n<=67108864):
  Calls Tryz.prog 213 #[v,.int .u32 10,.int .i64 (n:Int)] w (Jq xs 10 n w):=by
 have HA:=hid h;obtain⟨nv,Av,cv,rfl⟩:=h.shape;clear h;go_enter Tryz.func213,Tryz.ntmps213;go_wp2_with fail;go_loopw [0,2] (fun s0 s2 wr=>∃k:Nat,k<=n/\s2= .int .i64 (k:Int)/\Dp w wr xs 10 n k s0) (fun _ s2 _=>(intOf s2).toNat)
 case atStart=>exact⟨n,Nat.le_refl _,rfl,xs,HA.out,rfl,Nat.le_refl _,Ext.refl _⟩
 case round=>
  obtain⟨k,hk,rfl,hat⟩:=hrel;obtain⟨ns,As,cs,rfl⟩:=hat.shape;have fW:=hid hat;obtain⟨zs,ha,hv,hl,hx⟩:=hat;have kQ:zs.length<=536870912:=by omega
  by_cases h9:9<=k
  ·obtain⟨j,rfl⟩:∃j,k=j+9:=⟨k-9,by omega⟩;have HP:=hid (ED wr _ zs 1000000000 0 ha kQ (by decide) (by decide));rw[show ((1000000000:Nat):Int)=1000000000 from rfl,show ((0:Nat):Int)=0 from rfl]at HP;have bZ:=hid (fun w' v' ho hx'=>Dp.step (w':=w') (v:=v') (j:=j) (a:=9) rfl (by omega) hv hl hx ha.ok ho (by decide) hx');rw[show (10:Nat) ^ 9=1000000000 from rfl]at bZ;clear ha hv hl hx;go_wp2_with fail;refine HP.out.mono ?_
   rintro e w2 ⟨v2,rfl,cM,ah⟩;have ka:=hid (bZ.out _ _ cM ah);obtain⟨n2,A2,c2,rfl⟩:=cM.shape;clear cM ah;go_wp2_with fail;go_roundw
   case rel=>exact⟨j,by omega,by go_num,ka.out⟩
   case measure=>simp[intOf];omega
  ·clear ha hv hl hx kQ;go_wp2_with fail;go_loopw [0,2] (fun s0 s2 wr=>∃k:Nat,k<=n/\s2= .int .i64 (k:Int)/\Dp w wr xs 10 n k s0) (fun _ s2 _=>(intOf s2).toNat)
   case atStart=>exact⟨k,hk,rfl,fW.out⟩
   case round=>
    clear hk h9 fW;obtain⟨k,hk,rfl,hat⟩:=hrel;obtain⟨ns,As,cs,rfl⟩:=hat.shape;have fW:=hid hat;obtain⟨zs,ha,hv,hl,hx⟩:=hat;have kQ:zs.length<=536870912:=by omega
    rcases Nat.eq_zero_or_pos k with h0|h0
    ·subst h0;have HF:Hid (Jq xs 10 n w (.returned (.slice As ns cs)) wr):=hid ⟨_,zs,rfl,ha,by rw[<-hv];simp,by omega,hx⟩;clear ha hv hl hx kQ;go_wp2_with fail;go_ret;exact HF.out
    ·obtain⟨j,rfl⟩:∃j,k=j+1:=⟨k-1,by omega⟩;have HP:=hid (ED wr _ zs 10 0 ha kQ (by decide) (by decide));rw[show ((10:Nat):Int)=10 from rfl,show ((0:Nat):Int)=0 from rfl]at HP;have bZ:=hid (fun w' v' ho hx'=>Dp.step (w':=w') (v:=v') (j:=j) (a:=1) rfl (by omega) hv hl hx ha.ok ho (by decide) hx');rw[Nat.pow_one]at bZ;clear ha hv hl hx;go_wp2_with fail;refine HP.out.mono ?_
     rintro e w2 ⟨v2,rfl,cM,ah⟩;have ka:=hid (bZ.out _ _ cM ah);obtain⟨n2,A2,c2,rfl⟩:=cM.shape;clear cM ah;go_wp2_with fail;go_roundw
     case rel=>exact⟨j,by omega,by go_num,ka.out⟩
     case measure=>simp[intOf]
theorem Fe(w:World)(v u:Value)(z:Int)(ys:List Nat)(h:Ar w v z)(h':Arr w u ys)(hn:(Ac z.natAbs).length<=134217728)(bh:ys.length<=134217728)(hy:val ys≠0):
  Calls Tryz.prog 211 #[v,u] w fun e w'=>∃v',e= .returned v'/\Aj w.heap.size w' v' (EG z (val ys)) (Ec z (val ys))/\Ext w w':=by
 have HA:=hid h;have HB:=hid h';obtain⟨b,n,A,c,rfl⟩:=h.shape;have HL:=hid (fun W hx=>NB W (.slice A n c) u (Ac z.natAbs) ys (h.mag.ext hx) (h'.ext hx) hn bh hy);rw[Ad]at HL;have HI:=hid (fun W m a=>B4 W b m (Ac (z.natAbs / Nat.gcd z.natAbs (val ys))) a (Nat.le_trans (PQ _ _) (by omega)));rw[Ad]at HI;have HS:=hid h.sign;clear h h';go_enter Tryz.func211,Tryz.ntmps211;go_wp2_with fail;have hb0:=(Blk.new w 24 #[.bool b,.slice A n c]).alloc (.cells #[.bool false,.slice none 0 0,.slice none 0 0] 26);have aq:=Blk.new (w.alloc (.cells #[.bool b,.slice A n c] 24)) 26 #[.bool false,.slice none 0 0,.slice none 0 0];have aC:=((Ext.refl w).alloc (.cells #[.bool b,.slice A n c] 24)).alloc (.cells #[.bool false,.slice none 0 0,.slice none 0 0] 26);have az:w.heap.size+1<((w.alloc (.cells #[.bool b,.slice A n c] 24)).alloc (.cells #[.bool false,.slice none 0 0,.slice none 0 0] 26)).heap.size:=by simp
 simp only[World.size_alloc]at aq;generalize (w.alloc (.cells #[.bool b,.slice A n c] 24)).alloc (.cells #[.bool false,.slice none 0 0,.slice none 0 0] 26)=wo at *;refine(HL.out _ aC).mono ?_
 rintro e w1 ⟨v1,u1,rfl,de,ae,aj⟩;have mj:=hb0.ext aj;have eQ:=aq.ext aj;have eM:=hid de;have ro:=hid ae;obtain⟨n1,A1,c1,rfl⟩:=de.shape;obtain⟨n2,A2,c2,rfl⟩:=ae.shape;obtain⟨h0,h1,_,_,_⟩:=mj.two;have lO:=hid eQ;have ar:=hid (aC.trans aj);have mQ:=hid aj.size;clear hb0 aq aj de ae mj eQ aC;go_wp2_with fail;refine(HI.out _ _ eM.out.arr).mono ?_
 rintro e w2 ⟨v2,rfl,ba,ah⟩;have fL:=hid ba;have fH:=hid (ro.out.ext ah);have eQ:=lO.out.ext ah;obtain⟨b3,n3,A3,c3,rfl⟩:=ba.shape;have k0:=eQ.three;have aP:=hid (ar.out.trans ah);have ey:=hid eQ;clear ba ah eQ;go_wp2_with fail;obtain⟨ak,ae,hr2⟩:=Ak ey.out (.bool b3) (.slice A3 n3 c3) (.slice A2 n2 c2);refine bodyPost_ret (v:= .agg #[.bool b3,.slice A3 n3 c3,.slice A2 n2 c2]) (by simp[results,Tryz.results211,go_sem,ak,ae,hr2]) rfl ?_
 have dj:Aj wo.heap.size w2 (.agg #[.bool b3,.slice A3 n3 c3,.slice A2 n2 c2]) (EG z (val ys)) (Ec z (val ys)):=Aj.mk (by
  have h1:=fL.out.mono mQ.out;rw[HS.out]at h1;exact h1) fH.out
 exact⟨_,rfl,dj.put az (by omega),((aP.out.setCell (Nat.le_succ _) _).setCell (Nat.le_succ _) _).setCell (Nat.le_succ _) _⟩
theorem KX(w:World)(l:List UInt8)(h:20001<l.length):
  Calls Tryz.prog 209 #[str l] w fun e w'=>e= .returned (.tuple #[.slice none 0 0,.int .i64 7])/\w=w':=by
 have h':(20001:Int)<(l.length:Int):=by omega
 clear h;go_enter Tryz.func209,Tryz.ntmps209;go_wp2_with fail;go_ret2;exact⟨rfl,rfl⟩
theorem JE(w:World):
  Calls Tryz.prog 209 #[str []] w fun e w'=>e= .returned (.tuple #[.slice none 0 0,.int .i64 6])/\w=w':=by
 go_enter Tryz.func209,Tryz.ntmps209;go_wp2_with fail;go_ret2;exact⟨rfl,rfl⟩
theorem KV(w:World)(l:List UInt8)(h0:Ae l 0=48)(h1:1<l.length)(h:l.length<=20001):
  Calls Tryz.prog 209 #[str l] w fun e w'=>e= .returned (.tuple #[.slice none 0 0,.int .i64 6])/\w=w':=by
 have VO:((Ae l 0:Int) == 48)=true:=by rw[h0];rfl
 have cx:¬(20001:Int)<(l.length:Int):=by omega
 have hne:(l == [])=false:=by cases l<;>simp_all
 clear h h0;go_enter Tryz.func209,Tryz.ntmps209;go_wp2_with fail;go_ret2;exact⟨rfl,rfl⟩
def Ui(w0 wr:World)(out:Value)(l:List UInt8)(k j c:Nat):Prop:=
 ∃a:Nat,Own w0.heap.size wr out (Ac a)/\Bd (l.take k)=a*10 ^ j+c/\a<10 ^ k/\Ext w0 wr
def Le(w0:World)(r:Nat × Nat)(e:Ending)(w':World):Prop:=
 ∃v':Value,e= .returned (.tuple #[v',.int .i64 (r.2:Int)])/\Own w0.heap.size w' v' (Ac r.1)/\Ext w0 w'
theorem KW(w:World)(l:List UInt8)(hne:l≠[])(hz:¬(Ae l 0=48/\1<l.length))(h:l.length<=20001)(r:Nat × Nat)(ae:l.all Bk=true->r=(Bd l,0))(hr2:l.all Bk=false->r=(0,6)):
  Calls Tryz.prog 209 #[str l] w (Le w r):=by
 have ro:=hid ae;have fH:=hid hr2;clear ae hr2;have cx:¬(20001:Int)<(l.length:Int):=by omega
 have Xt:(l == [])=false:=by cases l<;>simp_all
 have k7:0<l.length:=by cases l<;>simp_all
 have uc:((Ae l 0:Int) == 48)=false\/(((Ae l 0:Int) == 48)=true/\¬(1:Int)<(l.length:Int)):=by
  by_cases h0:Ae l 0=48
  ·exact .inr ⟨by rw[h0];rfl,by omega⟩
  ·exact .inl (by rw[beq_eq_false_iff_ne];omega)
 have HL:=hid h;clear h hne hz;rcases uc with VO|⟨VO,h11⟩
 all_goals
  go_enter Tryz.func209,Tryz.ntmps209;go_wp2_with fail;go_loopw [4,5,6,25] (fun out cv sv i wr=>∃k j c:Nat,k<=l.length/\j<=8/\c<10 ^ j/\(k=l.length->j=0)/\i= .int .i64 k/\cv= .int .u32 c/\sv= .int .u32 ((10 ^ j:Nat):Int)/\(l.take k).all Bk=true/\Ui w wr out l k j c) (fun _ _ _ i _=>l.length-(intOf i).toNat)
  case atStart=>exact⟨0,0,0,by omega,by omega,by omega,fun _=>rfl,rfl,rfl,rfl,rfl,0,Own.none_ _ _,rfl,by omega,Ext.refl _⟩
  case round=>
   obtain⟨k,j,c,hk,hj,hc,tS,rfl,rfl,rfl,hall,hN⟩:=hrel;by_cases hlt:k<l.length
   ·have hb:=CA l k;have gD:=Bq l k hlt;have hdig:=PX l[k];rw[<-gD]at hdig;have jK:=Qy l k hlt;have gn:=IX l k hlt;rw[<-gD]at gn;rw[hall,Bool.true_and]at jK;have ZI:=hid (fun hf=>K9 hlt hf);have jl:=hid hdig;have vT:=hid jK;have kf:=hid gn;clear gD hdig jK gn;obtain⟨b,dZ⟩:∃b,Ae l k=b:=⟨_,rfl⟩;have Wl:=hid dZ;rw[dZ]at jl kf hb;have ZC:=hid hc;by_cases hd:48<=b/\b<=57
    ·have pB:=hid (vT.out.trans (jl.out.2 hd));obtain⟨a,ai,dG,yn,ad⟩:=hN;have Ym:=Jz hj;have yr:=ON hj;have fg:=hid hall;have Fn:=hid yn;have qt:=JH yn;have fM:=hid (Mh (d:=b-48) dG);have jh:=hid dG;clear hall yn dG tS;have vW:=hid (show 10 ^ (j+1)=10*10 ^ j by rw[Nat.pow_succ,Nat.mul_comm]);obtain⟨P,hP⟩:∃P,10 ^ j=P:=⟨_,rfl⟩;rw[hP]at hc Ym yr fM jh vW ⊢;have HP:=hid hP;clear hP;have W0:IntKind.u32.wrap (10*(c:Int))=((10*c:Nat):Int):=by rw[IntWalk.u32_in _ (by omega)];omega
     obtain⟨dE,ed⟩:=hd;have e1:(10*(c:Int)+((b:Int)-48))=((10*c+(b-48):Nat):Int):=by omega
     have e2:(P:Int)*10=((P*10:Nat):Int):=by omega
     have E1:=hid e1;have E2:=hid e2;clear e1 e2;by_cases hflush:j=8\/k+1=l.length
     ·have kD:((P:Int)*10 == 1000000000)=true\/(((P:Int)*10 == 1000000000)=false/\((k:Int) == (l.length:Int)-1)=true):=by
       by_cases h8:P*10=1000000000
       ·exact .inl (by rw[beq_iff_eq];omega)
       ·exact .inr ⟨by rw[beq_eq_false_iff_ne];omega,by rw[beq_iff_eq];omega⟩
      have sD:=hid (ED wr _ (Ac a) (P*10) (10*c+(b-48)) ai.arr (by omega) (by omega) (by omega));clear yr;have HK:=hid hflush;clear hflush;have tD:Bd (l.take (k+1))=a*(P*10)+(10*c+(b-48)):=by rw[kf.out,fM.out,Nat.mul_comm P 10]
      have i1:=He pB.out (show k+1<=l.length by omega);have oJ:=hid tD;have pF:=hid i1;clear tD i1;rcases kD with kD|⟨xT,xS⟩
      all_goals
       go_wp2_with fail;rw[E1.out,E2.out];refine sD.out.mono ?_
       rintro e w1 ⟨v1,rfl,de,aj⟩;rw[Ad,<-oJ.out]at de;go_wp2_with fail;go_roundw
       case rel=>exact⟨k+1,0,0,by omega,by omega,by omega,fun _=>rfl,by go_num,rfl,rfl,pB.out,_,de.mono ad.size,by simp,pF.out,ad.trans aj⟩
       case measure=>simp[intOf];omega
     ·have xT:((P:Int)*10 == 1000000000)=false:=by rw[beq_eq_false_iff_ne];omega
      have xS:((k:Int) == (l.length:Int)-1)=false:=by rw[beq_eq_false_iff_ne];omega
      have i1:=He pB.out (show k+1<=l.length by omega);have pF:=hid i1;have um:a<10 ^ (k+1):=Nat.lt_of_lt_of_le Fn.out (Nat.pow_le_pow_right (by omega) (by omega));have zY:=hid um;have Wa:=hid hflush;clear yr i1 um hflush;go_wp2_with fail;go_roundw
      case rel=>
       refine⟨k+1,j+1,10*c+(b-48),by omega,by have:=Wa.out;omega,by rw[vW.out];omega,fun he=>absurd (Or.inr he) Wa.out,by go_num,by rw[E1.out],?_,pB.out,a,ai,by rw[kf.out,fM.out,vW.out],zY.out,ad⟩;rw[vW.out,Nat.mul_comm 10 P,E2.out]
      case measure=>simp[intOf];omega
    ·have uh:Bk l[k]=false:=by
      rw[<-Bool.not_eq_true];exact fun ht=>hd (jl.out.1 ht)
     have aA:=hid (ZI.out uh);obtain⟨a,ai,tB,ym,ad⟩:=hN;clear tB ym ai;have lF:b<48\/57<b:=by omega
     clear uh hc tS hall hd hj hk;generalize 10 ^ j=P at *;rcases lF with iE|iE
     all_goals
      go_wp2_with fail;go_ret2;rw[fH.out aA.out];exact⟨_,rfl,Own.none_ _ _,ad⟩
   ·obtain rfl:k=l.length:=by omega
    obtain⟨a,ai,dG,_,ad⟩:=hN;have si:=tS rfl;subst si;rw[List.take_of_length_le (Nat.le_refl _)]at dG hall;have hc0:c=0:=by simpa using hc
    subst hc0;have jv:Bd l=a:=by simpa using dG
    have mV:=hid jv;have fg:=hid hall;clear dG jv hall hc tS;go_wp2_with fail;go_ret2;rw[ro.out fg.out,mV.out];exact⟨_,rfl,ai,ad⟩
theorem L0(w:World)(l:List UInt8):Calls Tryz.prog 209 #[str l] w (Le w (In l)):=by
 unfold In;by_cases h1:20001<l.length
 ·rw[if_pos h1];refine(KX w l h1).mono ?_
  rintro e w' ⟨rfl,rfl⟩;exact⟨_,rfl,Own.none_ _ _,Ext.refl _⟩
 ·rw[if_neg h1];by_cases h2:l=[]
  ·subst h2;rw[if_pos rfl];refine(JE w).mono ?_
   rintro e w' ⟨rfl,rfl⟩;exact⟨_,rfl,Own.none_ _ _,Ext.refl _⟩
  ·rw[if_neg h2];have k7:0<l.length:=by cases l<;>simp_all
   have hb:Ae l 0=48↔l[0]? =some 48:=by
    rw[Bq l 0 k7,List.getElem?_eq_getElem k7];constructor
    ·intro h;exact congrArg some (UInt8.toNat_inj.1 h)
    ·intro h;injection h with h;rw[h];rfl
   by_cases h3:l[0]? =some 48/\1<l.length
   ·rw[if_pos h3];refine(KV w l (hb.2 h3.1) h3.2 (by omega)).mono ?_
    rintro e w' ⟨rfl,rfl⟩;exact⟨_,rfl,Own.none_ _ _,Ext.refl _⟩
   ·rw[if_neg h3];exact KW w l h2 (fun h=>h3 ⟨hb.1 h.1,h.2⟩) (by omega) _ (fun h=>if_pos h) (fun h=>if_neg (by rw[h];decide))
theorem LN(w:World)(l:List UInt8)(h:400<l.length):Calls Tryz.prog 182 #[str l] w (DG w l):=by
 have hc:AX l=7:=if_pos h;have h':(400:Int)<(l.length:Int):=by omega
 have HC:=hid hc;clear h hc;go_enter Tryz.func182,Tryz.ntmps182;go_wp2_with fail;obtain⟨ak,ae,hr2⟩:=Ak (Blk.new w 26 #[.bool false,.slice none 0 0,.slice none 0 0]) (.bool false) (.slice none 0 0) (.slice none 0 0);refine bodyPost_ret (v:= .tuple #[.agg #[.bool false,.slice none 0 0,.slice none 0 0],.int .i64 7]) (by simp[results,Tryz.results182,go_sem]) rfl ?_
 exact⟨_,by rw[HC.out];rfl,by rw[HC.out];exact Aj.zero _ _,(Ext.refl w).alloc _⟩
theorem FT(w:World)(l:List UInt8)(hm:BW w):Calls Tryz.prog 182 #[str l] w (DG w l):=by
 rcases Nat.lt_or_ge 400 l.length with hl|hl
 ·exact LN w l hl
 have rP:=hid (fun W hx=>Tg W l (by omega) (hm.ext hx));have hpl:(AS l).length<=l.length:=by
  rcases B5 l with ⟨_,h1⟩|⟨_,_,h2⟩
  ·have:=congrArg List.length h1;simp at this;omega
  ·rw[h2];simp
 have lY:=F5 l;have mZ:=hid (Es (l:=l));have rK:=hid (Fm (l:=l));have en:AX l=if GX l then 6 else if (whole l++AS l).all Bk then 0 else 6:=by
  unfold AX Cu;rw[if_neg (by omega)];cases GX l<;>cases (whole l++AS l).all Bk<;>rfl
 have kO:=hid en;have dG:Ic l=EG (Bd (whole l++AS l)) (10 ^ (AS l).length):=rfl;have t9:If l=Ec (Bd (whole l++AS l)) (10 ^ (AS l).length):=rfl;have jh:=hid dG;have oP:=hid t9;have uy:¬(400:Int)<(l.length:Int):=by omega
 clear hm en dG t9;generalize whole l=W at *;generalize AS l=P at *;generalize AF l=D at *;generalize GX l=bad at *;go_enter Tryz.func182,Tryz.ntmps182;go_wp2_with fail;refine(rP.out _ ((Ext.refl w).alloc _)).mono ?_
 rintro e w1 ⟨rfl,aj⟩;have ar:=hid (((Ext.refl w).alloc (.cells #[.bool false,.slice none 0 0,.slice none 0 0] 26)).trans aj);have ag:=hid ((Blk.new w 26 #[.bool false,.slice none 0 0,.slice none 0 0]).ext aj);clear aj;go_upto_region 4 with fail
 go_cut [46] from 20 to 46 (fun s46 wx=>s46= .bool bad/\wx=w1)
 case first=>
  clear rP;cases D
  ·have HF:Hid ((false && ((P == []) || (P.getLast? == some 48)))=false):=hid rfl;have am:=hid (mZ.out HF.out);rcases Nat.eq_zero_or_pos W.length with dO|dO
   ·obtain rfl:W=[]:=List.eq_nil_of_length_eq_zero dO;have fv:Hid (bad=true):=hid (by rw[am.out];rfl);have oa:(([]:List UInt8) == [])=true:=rfl;clear dO;go_wp2_with fail;go_meet;exact⟨by rw[fv.out],rfl⟩
   ·have oa:(W == [])=false:=by cases W<;>simp_all
    obtain⟨kw,lY⟩:∃k,W.length=k+1:=⟨W.length-1,by omega⟩;have wP:(0:Int)<(W.length:Int):=by omega
    have mv:=FZ W kw lY;rw[mv,oa]at am;clear dO mv;cases hz:((Ae W 0:Int) == 48)
    ·have fv:Hid (bad=false):=hid (by rw[am.out,hz];rfl);clear lY;go_wp2_with fail;go_meet;exact⟨by rw[fv.out],rfl⟩
    ·by_cases hl1:1<W.length
     ·have fv:Hid (bad=true):=hid (by rw[am.out,hz];simp[hl1]);have dE:(1:Int)<(W.length:Int):=by omega
      have ed:decide ((1:Int)<(W.length:Int))=true:=by rw[decide_eq_true_iff];omega
      clear lY;go_wp2_with fail;go_meet;exact⟨by rw[fv.out],rfl⟩
     ·have fv:Hid (bad=false):=hid (by rw[am.out,hz];simp[hl1]);have dE:¬(1:Int)<(W.length:Int):=by omega
      have ed:decide ((1:Int)<(W.length:Int))=false:=by simp;omega
      clear lY;go_wp2_with fail;go_meet;exact⟨by rw[fv.out],rfl⟩
  ·rcases Nat.eq_zero_or_pos P.length with hp0|hp0
   ·obtain rfl:P=[]:=List.eq_nil_of_length_eq_zero hp0;have fv:Hid (bad=true):=hid (rK.out rfl);have qk:(([]:List UInt8) == [])=true:=rfl;clear hp0;go_wp2_with fail;go_meet;exact⟨by rw[fv.out],rfl⟩
   ·have qk:(P == [])=false:=by cases P<;>simp_all
    obtain⟨k,qj⟩:∃k,P.length=k+1:=⟨P.length-1,by omega⟩;have i4:=Kc P k qj;have l9:(P.length:Int)-1=(k:Int):=by omega
    clear hp0;have Z2:(k:Int)<(P.length:Int):=by omega
    cases hz1:((Ae P k:Int) == 48)
    ·have HF:Hid ((true && ((P == []) || (P.getLast? == some 48)))=false):=hid (by rw[i4,qk,hz1];rfl);clear i4 qj;have am:=hid (mZ.out HF.out);rcases Nat.eq_zero_or_pos W.length with dO|dO
     ·obtain rfl:W=[]:=List.eq_nil_of_length_eq_zero dO;have fv:Hid (bad=true):=hid (by rw[am.out];rfl);have oa:(([]:List UInt8) == [])=true:=rfl;clear dO;go_wp2_with fail;go_meet;exact⟨by rw[fv.out],rfl⟩
     ·have oa:(W == [])=false:=by cases W<;>simp_all
      obtain⟨kw,lY⟩:∃k,W.length=k+1:=⟨W.length-1,by omega⟩;have wP:(0:Int)<(W.length:Int):=by omega
      have mv:=FZ W kw lY;rw[mv,oa]at am;clear dO mv;cases hz:((Ae W 0:Int) == 48)
      ·have fv:Hid (bad=false):=hid (by rw[am.out,hz];rfl);clear lY;go_wp2_with fail;go_meet;exact⟨by rw[fv.out],rfl⟩
      ·by_cases hl1:1<W.length
       ·have fv:Hid (bad=true):=hid (by rw[am.out,hz];simp[hl1]);have dE:(1:Int)<(W.length:Int):=by omega
        have ed:decide ((1:Int)<(W.length:Int))=true:=by rw[decide_eq_true_iff];omega
        clear lY;go_wp2_with fail;go_meet;exact⟨by rw[fv.out],rfl⟩
       ·have fv:Hid (bad=false):=hid (by rw[am.out,hz];simp[hl1]);have dE:¬(1:Int)<(W.length:Int):=by omega
        have ed:decide ((1:Int)<(W.length:Int))=false:=by simp;omega
        clear lY;go_wp2_with fail;go_meet;exact⟨by rw[fv.out],rfl⟩
    ·have fv:Hid (bad=true):=hid (rK.out (by rw[i4,hz1];simp));clear i4 qj;go_wp2_with fail;go_meet;exact⟨by rw[fv.out],rfl⟩
 case rest=>
  obtain⟨rfl,rfl⟩:=hcut;clear mZ rK rP;have k0:=ag.out.three;cases bad
  ·have en:=kO.out;simp only[Bool.false_eq_true,if_false]at en;have uo:∀W',(binOp .add 9 (str W) (str P)).run Tryz.prog W'= .ok (str (W++P)) W':=Hi W P (by omega);have hL:(W++P).length<=800:=by rw[List.length_append];omega
   have pz:=hid (fun W'=>OJ W' (W++P));have mU:=hid (fun W'=>L0 W' (Km (W++P)));rw[JI _ hL]at mU;have Zc:=hid (fun W'=>OL W' (W++P) (by omega));have Zm:=hid (Gg (W++P));have hdig:Km (W++P)=if (W++P).dropWhile (· == 48)=[] then [48] else (W++P).dropWhile (· == 48):=rfl
   have jl:=hid hdig;clear hdig kO;generalize W++P=L at *;generalize hZ:L.dropWhile (· == 48)=Z at *;have HZ:=hid hZ;clear hZ;cases hall:L.all Bk
   ·have mV:Hid (∀W',Calls Tryz.prog 209 #[str (Km L)] W' (Le W' (0,6))):=hid (fun W'=>by
     have:=mU.out W'
     rwa [hall]at this)
    rw[hall]at en;have HC:Hid (AX l=6):=hid en;clear hall en mU;rcases Nat.eq_zero_or_pos Z.length with aE|aE
    ·obtain rfl:Z=[]:=List.eq_nil_of_length_eq_zero aE;have nW:(([]:List UInt8) == [])=true:=rfl;rw[jl.out,if_pos rfl]at mV;clear aE;go_wp2_with fail;refine(pz.out _).mono ?_
     rintro e w2 ⟨rfl,rfl⟩;go_wp2_with fail;refine(mV.out _).mono ?_
     rintro e w3 ⟨v3,rfl,gZ,ab⟩;obtain⟨n3,A3,c3,rfl⟩:=gZ.shape;have hk:=ag.out.ext ab;have ay:=hid (ar.out.trans ab);have aZ:=hid hk;clear gZ ab k0;have k0:=hk.three;clear hk;go_wp2_with fail;obtain⟨ak,ae,hr2⟩:=Ak aZ.out (.bool false) (.slice none 0 0) (.slice none 0 0);refine bodyPost_ret (v:= .tuple #[.agg #[.bool false,.slice none 0 0,.slice none 0 0],.int .i64 6]) (by simp[results,Tryz.results182,go_sem,ak,ae,hr2]) rfl ?_
     exact⟨_,by rw[HC.out];rfl,by rw[HC.out];exact Aj.zero _ _,((ay.out.setCell (Nat.le_refl _) _).setCell (Nat.le_refl _) _).setCell (Nat.le_refl _) _⟩
    ·have nW:(Z == [])=false:=by cases Z<;>simp_all
     have sL:Z≠[]:=by cases Z<;>simp_all
     rw[jl.out,if_neg sL]at mV;clear aE sL;go_wp2_with fail;refine(pz.out _).mono ?_
     rintro e w2 ⟨rfl,rfl⟩;go_wp2_with fail;refine(mV.out _).mono ?_
     rintro e w3 ⟨v3,rfl,gZ,ab⟩;obtain⟨n3,A3,c3,rfl⟩:=gZ.shape;have hk:=ag.out.ext ab;have ay:=hid (ar.out.trans ab);have aZ:=hid hk;clear gZ ab k0;have k0:=hk.three;clear hk;go_wp2_with fail;obtain⟨ak,ae,hr2⟩:=Ak aZ.out (.bool false) (.slice none 0 0) (.slice none 0 0);refine bodyPost_ret (v:= .tuple #[.agg #[.bool false,.slice none 0 0,.slice none 0 0],.int .i64 6]) (by simp[results,Tryz.results182,go_sem,ak,ae,hr2]) rfl ?_
     exact⟨_,by rw[HC.out];rfl,by rw[HC.out];exact Aj.zero _ _,((ay.out.setCell (Nat.le_refl _) _).setCell (Nat.le_refl _) _).setCell (Nat.le_refl _) _⟩
   ·have mV:Hid (∀W',Calls Tryz.prog 209 #[str (Km L)] W' (Le W' (Bd L,0))):=hid (fun W'=>by
     have:=mU.out W'
     rwa [hall]at this)
    rw[hall]at en;have HC:Hid (AX l=0):=hid en;have uN:=hid (fun W'=>Zc.out W' hall);have oi:(Ac (Bd L)).length<=800:=DF (Zm.out hall) hL;have pI:=hid (fun W' m a=>B4 W' false m (Ac (Bd L)) a (by omega));rw[Ad]at pI;have hsg:sgn false (Bd L)=((Bd L:Nat):Int):=rfl;rw[hsg]at pI;have dM:=hid (fun W'=>FV W' 1 (by decide));rw[show ((1:Nat):Int)=1 from rfl]at dM;have qi:P.length<=400:=by omega
    have oG:=hid (fun W' m a=>O3 W' m (Ac 1) P.length a (by decide) (by omega));have Wd:Hid ((Ac 1).length<=10/\P.length<=400):=hid ⟨by decide,qi⟩;have fu:Hid (∀W' a b zs,Ar W' a ((Bd L:Nat):Int)->Arr W' b zs->zs.length<=134217728->val zs=val (Ac 1)*10 ^ P.length->Calls Tryz.prog 211 #[a,b] W' fun e w'=>∃v',e= .returned v'/\Aj W'.heap.size w' v' (EG ((Bd L:Nat):Int) (10 ^ P.length)) (Ec ((Bd L:Nat):Int) (10 ^ P.length))/\Ext W' w'):=hid (fun W' a b zs h1 h2 h3 h4=>by
     have:=Fe W' a b _ zs h1 h2 (by rw[Int.natAbs_natCast];omega) h3 (by rw[h4,Ad,Nat.one_mul];exact Nat.ne_of_gt (Nat.pow_pos (by decide)))
     rwa [h4,Ad,Nat.one_mul]at this)
    clear hall en mU oi hsg qi;rcases Nat.eq_zero_or_pos Z.length with aE|aE
    ·obtain rfl:Z=[]:=List.eq_nil_of_length_eq_zero aE;have nW:(([]:List UInt8) == [])=true:=rfl;rw[jl.out,if_pos rfl]at mV;clear aE;go_wp2_with fail;refine(pz.out _).mono ?_
     rintro e w2 ⟨rfl,rfl⟩;go_wp2_with fail;refine(mV.out _).mono ?_
     rintro e w3 ⟨v3,rfl,gZ,ab⟩;have rx:=hid gZ;obtain⟨n3,A3,c3,rfl⟩:=gZ.shape;have ay:=hid (ar.out.trans ab);have aZ:=hid (ag.out.ext ab);clear gZ ab k0;go_wp2_with fail;refine(uN.out _).mono ?_
     rintro e w4 ⟨rfl,bD⟩;have mT:=hid (rx.out.ext bD);have bu:=hid (ay.out.trans bD);have fP:=hid (aZ.out.ext bD);clear bD;have cx:(([]:List UInt8) == [])=true:=rfl;go_wp2_with fail;refine(pI.out _ _ mT.out.arr).mono ?_
     rintro e w5 ⟨v5,rfl,eB,hx5⟩;have vd:=hid eB;obtain⟨b5,n5,A5,c5,rfl⟩:=eB.shape;have cW:=hid (bu.out.trans hx5);have gM:=hid (fP.out.ext hx5);clear eB hx5;go_wp2_with fail;refine(dM.out _).mono ?_
     rintro e w6 ⟨v6,rfl,kW,cF⟩;have fJ:=hid kW;obtain⟨n6,A6,c6,rfl⟩:=kW.shape;have vc:=hid (vd.out.ext cF);have cV:=hid (cW.out.trans cF);have kP:=hid (gM.out.ext cF);clear kW cF;go_wp2_with fail;refine(oG.out _ _ fJ.out.arr).mono ?_
     rintro e w7 ⟨v7,zs,rfl,qP,p9,xE,ch⟩;obtain⟨n7,A7,c7,rfl⟩:=qP.shape;have zF:=hid (vc.out.ext ch).arr;have cU:=hid (cV.out.trans ch);have gV:=hid (kP.out.ext ch);have YY:=hid p9;have lz:=hid (fu.out w7 _ _ zs zF.out qP (by have:=Wd.out;omega) p9);clear qP p9 ch xE;go_wp2_with fail;refine lz.out.mono ?_
     rintro e w8 ⟨v8,rfl,cw,cp⟩;obtain⟨b8,n8,A8,c8,oW,pM,pt,rfl⟩:=cw.shape;have rm:=hid cw;have df:=hid (cU.out.trans cp);have hk:=gV.out.ext cp;have iW:=hid hk;have mP:=hid cU.out.size;have m7:=hid gV.out.lt;clear cw cp;have k0:=hk.three;clear hk;go_wp2_with fail;obtain⟨ak,ae,hr2⟩:=Ak iW.out (.bool b8) (.slice A8 n8 c8) (.slice pM oW pt);refine bodyPost_ret (v:= .tuple #[.agg #[.bool b8,.slice A8 n8 c8,.slice pM oW pt],.int .i64 0]) (by simp[results,Tryz.results182,go_sem,ak,ae,hr2]) rfl ?_
     have dj:=rm.out.put (w:=w) m7.out mP.out;exact⟨_,by rw[HC.out];rfl,by rw[HC.out,if_pos rfl,if_pos rfl,jh.out,oP.out];exact dj,((df.out.setCell (Nat.le_refl _) _).setCell (Nat.le_refl _) _).setCell (Nat.le_refl _) _⟩
    ·have nW:(Z == [])=false:=by cases Z<;>simp_all
     have sL:Z≠[]:=by cases Z<;>simp_all
     rw[jl.out,if_neg sL]at mV;clear aE sL;go_wp2_with fail;refine(pz.out _).mono ?_
     rintro e w2 ⟨rfl,rfl⟩;go_wp2_with fail;refine(mV.out _).mono ?_
     rintro e w3 ⟨v3,rfl,gZ,ab⟩;have rx:=hid gZ;obtain⟨n3,A3,c3,rfl⟩:=gZ.shape;have ay:=hid (ar.out.trans ab);have aZ:=hid (ag.out.ext ab);clear gZ ab k0;go_wp2_with fail;refine(uN.out _).mono ?_
     rintro e w4 ⟨rfl,bD⟩;have mT:=hid (rx.out.ext bD);have bu:=hid (ay.out.trans bD);have fP:=hid (aZ.out.ext bD);clear bD;have cx:(([]:List UInt8) == [])=true:=rfl;go_wp2_with fail;refine(pI.out _ _ mT.out.arr).mono ?_
     rintro e w5 ⟨v5,rfl,eB,hx5⟩;have vd:=hid eB;obtain⟨b5,n5,A5,c5,rfl⟩:=eB.shape;have cW:=hid (bu.out.trans hx5);have gM:=hid (fP.out.ext hx5);clear eB hx5;go_wp2_with fail;refine(dM.out _).mono ?_
     rintro e w6 ⟨v6,rfl,kW,cF⟩;have fJ:=hid kW;obtain⟨n6,A6,c6,rfl⟩:=kW.shape;have vc:=hid (vd.out.ext cF);have cV:=hid (cW.out.trans cF);have kP:=hid (gM.out.ext cF);clear kW cF;go_wp2_with fail;refine(oG.out _ _ fJ.out.arr).mono ?_
     rintro e w7 ⟨v7,zs,rfl,qP,p9,xE,ch⟩;obtain⟨n7,A7,c7,rfl⟩:=qP.shape;have zF:=hid (vc.out.ext ch).arr;have cU:=hid (cV.out.trans ch);have gV:=hid (kP.out.ext ch);have YY:=hid p9;have lz:=hid (fu.out w7 _ _ zs zF.out qP (by have:=Wd.out;omega) p9);clear qP p9 ch xE;go_wp2_with fail;refine lz.out.mono ?_
     rintro e w8 ⟨v8,rfl,cw,cp⟩;obtain⟨b8,n8,A8,c8,oW,pM,pt,rfl⟩:=cw.shape;have rm:=hid cw;have df:=hid (cU.out.trans cp);have hk:=gV.out.ext cp;have iW:=hid hk;have mP:=hid cU.out.size;have m7:=hid gV.out.lt;clear cw cp;have k0:=hk.three;clear hk;go_wp2_with fail;obtain⟨ak,ae,hr2⟩:=Ak iW.out (.bool b8) (.slice A8 n8 c8) (.slice pM oW pt);refine bodyPost_ret (v:= .tuple #[.agg #[.bool b8,.slice A8 n8 c8,.slice pM oW pt],.int .i64 0]) (by simp[results,Tryz.results182,go_sem,ak,ae,hr2]) rfl ?_
     have dj:=rm.out.put (w:=w) m7.out mP.out;exact⟨_,by rw[HC.out];rfl,by rw[HC.out,if_pos rfl,if_pos rfl,jh.out,oP.out];exact dj,((df.out.setCell (Nat.le_refl _) _).setCell (Nat.le_refl _) _).setCell (Nat.le_refl _) _⟩
  ·have HC:Hid (AX l=6):=hid kO.out;clear kO;go_wp2_with fail;obtain⟨ak,ae,hr2⟩:=Ak ag.out (.bool false) (.slice none 0 0) (.slice none 0 0);refine bodyPost_ret (v:= .tuple #[.agg #[.bool false,.slice none 0 0,.slice none 0 0],.int .i64 6]) (by simp[results,Tryz.results182,go_sem,ak,ae,hr2]) rfl ?_
   exact⟨_,by rw[HC.out];rfl,by rw[HC.out];exact Aj.zero _ _,((ar.out.setCell (Nat.le_refl _) _).setCell (Nat.le_refl _) _).setCell (Nat.le_refl _) _⟩
theorem Dr.below{w w':World}(h:Dr w w')(B:Nat):Below B w w':=by
 have h1:=h.grown none;exact⟨h1.os,h1.tape,h1.output,h1.size,fun g _=>by rw[h.heap]⟩
theorem Ext.below{w w':World}(h:Ext w w'){B:Nat}(hB:B<=w.heap.size):Below B w w':=Below.mono h hB
end Big
end Go.Proofs.YtkoaogkknnelaaaGreatDoor
