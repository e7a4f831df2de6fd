import Derived.Test.YtkoaogkknnelaaaGreatDoorM18
set_option linter.unusedVariables false
set_option linter.unusedSimpArgs false
set_option maxHeartbeats 1000000
set_option maxRecDepth 100000
namespace Go.Proofs.YtkoaogkknnelaaaGreatDoor
namespace Big
open Lib (hid)
open Go.RowKit
theorem P3(X g:Nat):(Ac (X / g)).length<=(Ac X).length:=Ar (Nat.div_le_self _ _)
def TQ(X Y:Nat)(w:World)(e:Ending)(w':World):Prop:=
 ∃v' u',e= .returned (.tuple #[v',u',.bool true])/\Own w.heap.size w' v' (Ac (X / Nat.gcd X Y))/\Own w.heap.size w' u' (Ac (Y / Nat.gcd X Y))/\Ext w w'
theorem NS(w:World)(v u:Value)(xs ys:List Nat)(h:Arr w v xs)(h':Arr w u ys)(hn:xs.length<=134217728)(bu:ys.length<=134217728)(hy:val ys≠0):
  Calls Tryz.prog 250 #[v,u] w (TQ (val xs) (val ys) w):=by
 have HB:=hid (D8 w u ys h' bu);have hb0:AG (val ys)≠0:=fun e=>hy (D9.1 e)
 have HG:=hid (Tw w v u xs ys h h' hn bu);have ed:(Ac (Nat.gcd (val xs) (val ys))).length<=134217728:=Nat.le_trans (Ar (Nat.gcd_le_right _ (Nat.pos_of_ne_zero hy))) (Nat.le_trans (An h'.ok) bu);have lE:Nat.gcd (val xs) (val ys)≠0:=fun e=>hy (Nat.gcd_eq_zero_iff.1 e).2
 have iH:=hid (fun W z hx a=>Eh W v z xs (Ac (Nat.gcd (val xs) (val ys))) (h.ext hx) a hn ed (by rw[Ad];exact lE));have mW:=hid (fun W z hx a=>Eh W u z ys (Ac (Nat.gcd (val xs) (val ys))) (h'.ext hx) a bu ed (by rw[Ad];exact lE));rw[Ad]at iH mW;obtain⟨nv,Av,cv,rfl⟩:=h.shape;obtain⟨nu,Au,cu,rfl⟩:=h'.shape;generalize val xs=X at *;generalize val ys=Y at *;have dK:((AG Y:Int) == 0)=false:=by rw[beq_eq_false_iff_ne];omega
 generalize AG Y=bY at *;clear h h' hn bu hy lE ed hb0;go_enter Tryz.func250,Tryz.ntmps250;go_wp2_with fail;refine HB.out.mono ?_
 rintro e w1 ⟨rfl,rfl⟩;go_wp2_with fail;refine HG.out.mono ?_
 rintro e w1 ⟨v1,rfl,dt,ag⟩;have ar:=hid ag;have fx:=hid dt;obtain⟨n1,A1,c1,rfl⟩:=dt.shape;clear dt ag;go_wp2_with fail;refine(iH.out _ _ ar.out fx.out.arr).mono ?_
 rintro e w2 ⟨v2,u2,rfl,cU,hr2,ae⟩;have aI:=hid (ar.out.trans ae);have d9:=hid (cU.mono ar.out.size);have mr:=hid (fx.out.ext ae);obtain⟨n2,A2,c2,rfl⟩:=cU.shape;obtain⟨n2',YN,X6,rfl⟩:=hr2.shape;clear cU hr2 ae;go_wp2_with fail;refine(mW.out _ _ aI.out mr.out.arr).mono ?_
 rintro e w3 ⟨v3,u3,rfl,iK,bg,ab⟩;have aC:=hid (aI.out.trans ab);have pd:=hid (iK.mono aI.out.size);have tm:=hid (d9.out.ext ab);obtain⟨n3,A3,c3,rfl⟩:=iK.shape;obtain⟨n3',A3',c3',rfl⟩:=bg.shape;clear iK bg ab;go_wp2_with fail;go_ret3;exact⟨_,_,rfl,tm.out,pd.out,aC.out⟩
def JR(xs:List Nat)(m n:Nat)(w:World)(e:Ending)(w':World):Prop:=
 ∃v' zs,e= .returned v'/\Arr w' v' zs/\val zs=val xs*m ^ n/\zs.length<=xs.length+n/\Ext w w'
def DB(w wr:World)(xs:List Nat)(m n k:Nat)(v:Value):Prop:=
 ∃zs,Arr wr v zs/\val zs*m ^ k=val xs*m ^ n/\zs.length+k<=xs.length+n/\Ext w wr
theorem DB.shape{w wr:World}{xs:List Nat}{m n k:Nat}{v:Value}(h:DB w wr xs m n k v):∃n A c,v= .slice A n c:=by
 obtain⟨zs,h1,_⟩:=h;exact h1.shape
theorem DB.step {w wr w':World} {xs zs:List Nat} {m n k j a:Nat} {v:Value} (hk:k=j+a) (ha:1<=a) (hv:val zs*m ^ k=val xs*m ^ n) (hl:zs.length+k<=xs.length+n) (hx:Ext w wr) (az:Ok zs)
  (ho:Own wr.heap.size w' v (Ac (val zs*m ^ a+0))) (hm:m ^ a<4294967296) (hx':Ext wr w'):DB w w' xs m n j v:=by
 refine⟨_,ho.arr,?_,?_,hx.trans hx'⟩
 ·rw[Ad,Nat.add_zero,Nat.mul_assoc,<-Nat.pow_add,Nat.add_comm a j,<-hk,hv]
 ·have:=Dk az hm (c:=0) (by omega);omega
theorem Pi(w:World)(v:Value)(xs:List Nat)(n:Nat)(h:Arr w v xs)(hn:xs.length<=67108864)(bu:n<=67108864):
  Calls Tryz.prog 213 #[v,.int .u32 10,.int .i64 (n:Int)] w (JR xs 10 n w):=by
 have HA:=hid h;obtain⟨nv,Av,cv,rfl⟩:=h.shape;clear h;go_enter Tryz.func213,Tryz.ntmps213;go_wp2_with fail;go_loopw [0,2] (fun s0 s2 wr=>∃k:Nat,k<=n/\s2= .int .i64 (k:Int)/\DB w wr xs 10 n k s0) (fun _ s2 _=>(intOf s2).toNat)
 case atStart=>exact⟨n,Nat.le_refl _,rfl,xs,HA.out,rfl,Nat.le_refl _,Ext.refl _⟩
 case round=>
  obtain⟨k,hk,rfl,hat⟩:=hrel;obtain⟨ns,As,cs,rfl⟩:=hat.shape;have fP:=hid hat;obtain⟨zs,ha,hv,hl,hx⟩:=hat;have je:zs.length<=536870912:=by omega
  by_cases h9:9<=k
  ·obtain⟨j,rfl⟩:∃j,k=j+9:=⟨k-9,by omega⟩;have HP:=hid (EN wr _ zs 1000000000 0 ha je (by decide) (by decide));rw[show ((1000000000:Nat):Int)=1000000000 from rfl,show ((0:Nat):Int)=0 from rfl]at HP;have bG:=hid (fun w' v' ho hx'=>DB.step (w':=w') (v:=v') (j:=j) (a:=9) rfl (by omega) hv hl hx ha.ok ho (by decide) hx');rw[show (10:Nat) ^ 9=1000000000 from rfl]at bG;clear ha hv hl hx;go_wp2_with fail;refine HP.out.mono ?_
   rintro e w2 ⟨v2,rfl,cU,ae⟩;have lc:=hid (bG.out _ _ cU ae);obtain⟨n2,A2,c2,rfl⟩:=cU.shape;clear cU ae;go_wp2_with fail;go_roundw
   case rel=>exact⟨j,by omega,by go_num,lc.out⟩
   case measure=>simp[intOf];omega
  ·clear ha hv hl hx je;go_wp2_with fail;go_loopw [0,2] (fun s0 s2 wr=>∃k:Nat,k<=n/\s2= .int .i64 (k:Int)/\DB w wr xs 10 n k s0) (fun _ s2 _=>(intOf s2).toNat)
   case atStart=>exact⟨k,hk,rfl,fP.out⟩
   case round=>
    clear hk h9 fP;obtain⟨k,hk,rfl,hat⟩:=hrel;obtain⟨ns,As,cs,rfl⟩:=hat.shape;have fP:=hid hat;obtain⟨zs,ha,hv,hl,hx⟩:=hat;have je:zs.length<=536870912:=by omega
    rcases Nat.eq_zero_or_pos k with h0|h0
    ·subst h0;have HF:Hid (JR xs 10 n w (.returned (.slice As ns cs)) wr):=hid ⟨_,zs,rfl,ha,by rw[<-hv];simp,by omega,hx⟩;clear ha hv hl hx je;go_wp2_with fail;go_ret;exact HF.out
    ·obtain⟨j,rfl⟩:∃j,k=j+1:=⟨k-1,by omega⟩;have HP:=hid (EN wr _ zs 10 0 ha je (by decide) (by decide));rw[show ((10:Nat):Int)=10 from rfl,show ((0:Nat):Int)=0 from rfl]at HP;have bG:=hid (fun w' v' ho hx'=>DB.step (w':=w') (v:=v') (j:=j) (a:=1) rfl (by omega) hv hl hx ha.ok ho (by decide) hx');rw[Nat.pow_one]at bG;clear ha hv hl hx;go_wp2_with fail;refine HP.out.mono ?_
     rintro e w2 ⟨v2,rfl,cU,ae⟩;have lc:=hid (bG.out _ _ cU ae);obtain⟨n2,A2,c2,rfl⟩:=cU.shape;clear cU ae;go_wp2_with fail;go_roundw
     case rel=>exact⟨j,by omega,by go_num,lc.out⟩
     case measure=>simp[intOf]
theorem Fp(w:World)(v u:Value)(z:Int)(ys:List Nat)(h:Ap w v z)(h':Arr w u ys)(hn:(Ac z.natAbs).length<=134217728)(bu:ys.length<=134217728)(hy:val ys≠0):
  Calls Tryz.prog 211 #[v,u] w fun e w'=>∃v',e= .returned v'/\Ag w.heap.size w' v' (Dy z (val ys)) (C9 z (val ys))/\Ext w w':=by
 have HA:=hid h;have HB:=hid h';obtain⟨b,n,A,c,rfl⟩:=h.shape;have HL:=hid (fun W hx=>NS W (.slice A n c) u (Ac z.natAbs) ys (h.mag.ext hx) (h'.ext hx) hn bu hy);rw[Ad]at HL;have HI:=hid (fun W m a=>Cc W b m (Ac (z.natAbs / Nat.gcd z.natAbs (val ys))) a (Nat.le_trans (P3 _ _) (by omega)));rw[Ad]at HI;have HS:=hid h.sign;clear h h';go_enter Tryz.func211,Tryz.ntmps211;go_wp2_with fail;have hb0:=(Blk.new w 24 #[.bool b,.slice A n c]).alloc (.cells #[.bool false,.slice none 0 0,.slice none 0 0] 26);have al:=Blk.new (w.alloc (.cells #[.bool b,.slice A n c] 24)) 26 #[.bool false,.slice none 0 0,.slice none 0 0];have aq:=((Ext.refl w).alloc (.cells #[.bool b,.slice A n c] 24)).alloc (.cells #[.bool false,.slice none 0 0,.slice none 0 0] 26);have am:w.heap.size+1<((w.alloc (.cells #[.bool b,.slice A n c] 24)).alloc (.cells #[.bool false,.slice none 0 0,.slice none 0 0] 26)).heap.size:=by simp
 simp only[World.size_alloc]at al;generalize (w.alloc (.cells #[.bool b,.slice A n c] 24)).alloc (.cells #[.bool false,.slice none 0 0,.slice none 0 0] 26)=wo at *;refine(HL.out _ aq).mono ?_
 rintro e w1 ⟨v1,u1,rfl,dt,ac,ag⟩;have mM:=hb0.ext ag;have fu:=al.ext ag;have fx:=hid dt;have pN:=hid ac;obtain⟨n1,A1,c1,rfl⟩:=dt.shape;obtain⟨n2,A2,c2,rfl⟩:=ac.shape;obtain⟨h0,h1,_,_,_⟩:=mM.two;have mV:=hid fu;have ar:=hid (aq.trans ag);have oq:=hid ag.size;clear hb0 al ag dt ac mM fu aq;go_wp2_with fail;refine(HI.out _ _ fx.out.arr).mono ?_
 rintro e w2 ⟨v2,rfl,ax,ae⟩;have gF:=hid ax;have gA:=hid (pN.out.ext ae);have fu:=mV.out.ext ae;obtain⟨b3,n3,A3,c3,rfl⟩:=ax.shape;have k0:=fu.three;have aI:=hid (ar.out.trans ae);have lO:=hid fu;clear ax ae fu;go_wp2_with fail;obtain⟨aj,ac,hr2⟩:=Ah lO.out (.bool b3) (.slice A3 n3 c3) (.slice A2 n2 c2);refine bodyPost_ret (v:= .agg #[.bool b3,.slice A3 n3 c3,.slice A2 n2 c2]) (by simp[results,Tryz.results211,go_sem,aj,ac,hr2]) rfl ?_
 have dz:Ag wo.heap.size w2 (.agg #[.bool b3,.slice A3 n3 c3,.slice A2 n2 c2]) (Dy z (val ys)) (C9 z (val ys)):=Ag.mk (by
  have h1:=gF.out.mono oq.out;rw[HS.out]at h1;exact h1) gA.out
 exact⟨_,rfl,dz.put am (by omega),((aI.out.setCell (Nat.le_succ _) _).setCell (Nat.le_succ _) _).setCell (Nat.le_succ _) _⟩
theorem Lj(w:World)(l:List UInt8)(h:20001<l.length):
  Calls Tryz.prog 209 #[str l] w fun e w'=>e= .returned (.tuple #[.slice none 0 0,.int .i64 7])/\w=w':=by
 have h':(20001:Int)<(l.length:Int):=by omega
 clear h;go_enter Tryz.func209,Tryz.ntmps209;go_wp2_with fail;go_ret2;exact⟨rfl,rfl⟩
theorem J4(w:World):
  Calls Tryz.prog 209 #[str []] w fun e w'=>e= .returned (.tuple #[.slice none 0 0,.int .i64 6])/\w=w':=by
 go_enter Tryz.func209,Tryz.ntmps209;go_wp2_with fail;go_ret2;exact⟨rfl,rfl⟩
theorem Lh(w:World)(l:List UInt8)(h0:Af l 0=48)(h1:1<l.length)(h:l.length<=20001):
  Calls Tryz.prog 209 #[str l] w fun e w'=>e= .returned (.tuple #[.slice none 0 0,.int .i64 6])/\w=w':=by
 have XW:((Af l 0:Int) == 48)=true:=by rw[h0];rfl
 have cp:¬(20001:Int)<(l.length:Int):=by omega
 have hne:(l == [])=false:=by cases l<;>simp_all
 clear h h0;go_enter Tryz.func209,Tryz.ntmps209;go_wp2_with fail;go_ret2;exact⟨rfl,rfl⟩
def U7(w0 wr:World)(out:Value)(l:List UInt8)(k j c:Nat):Prop:=
 ∃a:Nat,Own w0.heap.size wr out (Ac a)/\Bl (l.take k)=a*10 ^ j+c/\a<10 ^ k/\Ext w0 wr
def LF(w0:World)(r:Nat × Nat)(e:Ending)(w':World):Prop:=
 ∃v':Value,e= .returned (.tuple #[v',.int .i64 (r.2:Int)])/\Own w0.heap.size w' v' (Ac r.1)/\Ext w0 w'
theorem Li(w:World)(l:List UInt8)(hne:l≠[])(hz:¬(Af l 0=48/\1<l.length))(h:l.length<=20001)(r:Nat × Nat)(ac:l.all Bu=true->r=(Bl l,0))(hr2:l.all Bu=false->r=(0,6)):
  Calls Tryz.prog 209 #[str l] w (LF w r):=by
 have pN:=hid ac;have gA:=hid hr2;clear ac hr2;have cp:¬(20001:Int)<(l.length:Int):=by omega
 have Z1:(l == [])=false:=by cases l<;>simp_all
 have gw:0<l.length:=by cases l<;>simp_all
 have vt:((Af l 0:Int) == 48)=false\/(((Af l 0:Int) == 48)=true/\¬(1:Int)<(l.length:Int)):=by
  by_cases h0:Af l 0=48
  ·exact .inr ⟨by rw[h0];rfl,by omega⟩
  ·exact .inl (by rw[beq_eq_false_iff_ne];omega)
 have HL:=hid h;clear h hne hz;rcases vt with XW|⟨XW,h11⟩
 all_goals
  go_enter Tryz.func209,Tryz.ntmps209;go_wp2_with fail;go_loopw [4,5,6,25] (fun out cv sv i wr=>∃k j c:Nat,k<=l.length/\j<=8/\c<10 ^ j/\(k=l.length->j=0)/\i= .int .i64 k/\cv= .int .u32 c/\sv= .int .u32 ((10 ^ j:Nat):Int)/\(l.take k).all Bu=true/\U7 w wr out l k j c) (fun _ _ _ i _=>l.length-(intOf i).toNat)
  case atStart=>exact⟨0,0,0,by omega,by omega,by omega,fun _=>rfl,rfl,rfl,rfl,rfl,0,Own.none_ _ _,rfl,by omega,Ext.refl _⟩
  case round=>
   obtain⟨k,j,c,hk,hj,hc,tX,rfl,rfl,rfl,hall,hN⟩:=hrel;by_cases hlt:k<l.length
   ·have hb:=CJ l k;have ij:=Bz l k hlt;have hdig:=P9 l[k];rw[<-ij]at hdig;have lY:=QQ l k hlt;have eK:=Jm l k hlt;rw[<-ij]at eK;rw[hall,Bool.true_and]at lY;have HAF:=hid (fun hf=>Ly hlt hf);have kl:=hid hdig;have qG:=hid lY;have li:=hid eK;clear ij hdig lY eK;obtain⟨b,dK⟩:∃b,Af l k=b:=⟨_,rfl⟩;have YH:=hid dK;rw[dK]at kl li hb;have HC10:=hid hc;by_cases hd:48<=b/\b<=57
    ·have xD:=hid (qG.out.trans (kl.out.2 hd));obtain⟨a,aG,eb,xp,ah⟩:=hN;have hP8:=JZ hj;have zZ:=O2 hj;have fQ:=hid hall;have WL:=hid xp;have tU:=J6 xp;have iw:=hid (MB (d:=b-48) eb);have eZ:=hid eb;clear hall xp eb tX;have xK:=hid (show 10 ^ (j+1)=10*10 ^ j by rw[Nat.pow_succ,Nat.mul_comm]);obtain⟨P,hP⟩:∃P,10 ^ j=P:=⟨_,rfl⟩;rw[hP]at hc hP8 zZ iw eZ xK ⊢;have HP:=hid hP;clear hP;have ZA:IntKind.u32.wrap (10*(c:Int))=((10*c:Nat):Int):=by rw[IntWalk.u32_in _ (by omega)];omega
     obtain⟨ee,eN⟩:=hd;have e1:(10*(c:Int)+((b:Int)-48))=((10*c+(b-48):Nat):Int):=by omega
     have e2:(P:Int)*10=((P*10:Nat):Int):=by omega
     have E1:=hid e1;have E2:=hid e2;clear e1 e2;by_cases hflush:j=8\/k+1=l.length
     ·have lF:((P:Int)*10 == 1000000000)=true\/(((P:Int)*10 == 1000000000)=false/\((k:Int) == (l.length:Int)-1)=true):=by
       by_cases h8:P*10=1000000000
       ·exact .inl (by rw[beq_iff_eq];omega)
       ·exact .inr ⟨by rw[beq_eq_false_iff_ne];omega,by rw[beq_iff_eq];omega⟩
      have ud:=hid (EN wr _ (Ac a) (P*10) (10*c+(b-48)) aG.arr (by omega) (by omega) (by omega));clear zZ;have HK:=hid hflush;clear hflush;have uN:Bl (l.take (k+1))=a*(P*10)+(10*c+(b-48)):=by rw[li.out,iw.out,Nat.mul_comm P 10]
      have jV:=Hy xD.out (show k+1<=l.length by omega);have V9:=hid uN;have qL:=hid jV;clear uN jV;rcases lF with lF|⟨zy,zx⟩
      all_goals
       go_wp2_with fail;rw[E1.out,E2.out];refine ud.out.mono ?_
       rintro e w1 ⟨v1,rfl,dt,ag⟩;rw[Ad,<-V9.out]at dt;go_wp2_with fail;go_roundw
       case rel=>exact⟨k+1,0,0,by omega,by omega,by omega,fun _=>rfl,by go_num,rfl,rfl,xD.out,_,dt.mono ah.size,by simp,qL.out,ah.trans ag⟩
       case measure=>simp[intOf];omega
     ·have zy:((P:Int)*10 == 1000000000)=false:=by rw[beq_eq_false_iff_ne];omega
      have zx:((k:Int) == (l.length:Int)-1)=false:=by rw[beq_eq_false_iff_ne];omega
      have jV:=Hy xD.out (show k+1<=l.length by omega);have qL:=hid jV;have vC:a<10 ^ (k+1):=Nat.lt_of_lt_of_le WL.out (Nat.pow_le_pow_right (by omega) (by omega));have WJ:=hid vC;have Yw:=hid hflush;clear zZ jV vC hflush;go_wp2_with fail;go_roundw
      case rel=>
       refine⟨k+1,j+1,10*c+(b-48),by omega,by have:=Yw.out;omega,by rw[xK.out];omega,fun he=>absurd (Or.inr he) Yw.out,by go_num,by rw[E1.out],?_,xD.out,a,aG,by rw[li.out,iw.out,xK.out],WJ.out,ah⟩;rw[xK.out,Nat.mul_comm 10 P,E2.out]
      case measure=>simp[intOf];omega
    ·have vA:Bu l[k]=false:=by
      rw[<-Bool.not_eq_true];exact fun ht=>hd (kl.out.1 ht)
     have aD:=hid (HAF.out vA);obtain⟨a,aG,uK,zS,ah⟩:=hN;clear uK zS aG;have iJ:b<48\/57<b:=by omega
     clear vA hc tX hall hd hj hk;generalize 10 ^ j=P at *;rcases iJ with fC|fC
     all_goals
      go_wp2_with fail;go_ret2;rw[gA.out aD.out];exact⟨_,rfl,Own.none_ _ _,ah⟩
   ·obtain rfl:k=l.length:=by omega
    obtain⟨a,aG,eb,_,ah⟩:=hN;have tY:=tX rfl;subst tY;rw[List.take_of_length_le (Nat.le_refl _)]at eb hall;have hc0:c=0:=by simpa using hc
    subst hc0;have mb:Bl l=a:=by simpa using eb
    have oC:=hid mb;have fQ:=hid hall;clear eb mb hall hc tX;go_wp2_with fail;go_ret2;rw[pN.out fQ.out,oC.out];exact⟨_,rfl,aG,ah⟩
theorem Mm(w:World)(l:List UInt8):Calls Tryz.prog 209 #[str l] w (LF w (IL l)):=by
 unfold IL;by_cases h1:20001<l.length
 ·rw[if_pos h1];refine(Lj w l h1).mono ?_
  rintro e w' ⟨rfl,rfl⟩;exact⟨_,rfl,Own.none_ _ _,Ext.refl _⟩
 ·rw[if_neg h1];by_cases h2:l=[]
  ·subst h2;rw[if_pos rfl];refine(J4 w).mono ?_
   rintro e w' ⟨rfl,rfl⟩;exact⟨_,rfl,Own.none_ _ _,Ext.refl _⟩
  ·rw[if_neg h2];have gw:0<l.length:=by cases l<;>simp_all
   have hb:Af l 0=48↔l[0]? =some 48:=by
    rw[Bz l 0 gw,List.getElem?_eq_getElem gw];constructor
    ·intro h;exact congrArg some (UInt8.toNat_inj.1 h)
    ·intro h;injection h with h;rw[h];rfl
   by_cases h3:l[0]? =some 48/\1<l.length
   ·rw[if_pos h3];refine(Lh w l (hb.2 h3.1) h3.2 (by omega)).mono ?_
    rintro e w' ⟨rfl,rfl⟩;exact⟨_,rfl,Own.none_ _ _,Ext.refl _⟩
   ·rw[if_neg h3];exact Li w l h2 (fun h=>h3 ⟨hb.1 h.1,h.2⟩) (by omega) _ (fun h=>if_pos h) (fun h=>if_neg (by rw[h];decide))
theorem L9(w:World)(l:List UInt8)(h:400<l.length):Calls Tryz.prog 182 #[str l] w (DS w l):=by
 have hc:Bm l=7:=if_pos h;have h':(400:Int)<(l.length:Int):=by omega
 have HC:=hid hc;clear h hc;go_enter Tryz.func182,Tryz.ntmps182;go_wp2_with fail;obtain⟨aj,ac,hr2⟩:=Ah (Blk.new w 26 #[.bool false,.slice none 0 0,.slice none 0 0]) (.bool false) (.slice none 0 0) (.slice none 0 0);refine bodyPost_ret (v:= .tuple #[.agg #[.bool false,.slice none 0 0,.slice none 0 0],.int .i64 7]) (by simp[results,Tryz.results182,go_sem]) rfl ?_
 exact⟨_,by rw[HC.out];rfl,by rw[HC.out];exact Ag.zero _ _,(Ext.refl w).alloc _⟩
theorem F6(w:World)(l:List UInt8)(hm:Ce w):Calls Tryz.prog 182 #[str l] w (DS w l):=by
 rcases Nat.lt_or_ge 400 l.length with hl|hl
 ·exact L9 w l hl
 have tE:=hid (fun W hx=>TJ W l (by omega) (hm.ext hx));have hpl:(AY l).length<=l.length:=by
  rcases Cd l with ⟨_,h1⟩|⟨_,_,h2⟩
  ·have:=congrArg List.length h1;simp at this;omega
  ·rw[h2];simp
 have mG:=Gk l;have oF:=hid (EE (l:=l));have tB:=hid (Fx (l:=l));have eO:Bm l=if Hs l then 6 else if (whole l++AY l).all Bu then 0 else 6:=by
  unfold Bm CF;rw[if_neg (by omega)];cases Hs l<;>cases (whole l++AY l).all Bu<;>rfl
 have lR:=hid eO;have eb:Hl l=Dy (Bl (whole l++AY l)) (10 ^ (AY l).length):=rfl;have vr:Hq l=C9 (Bl (whole l++AY l)) (10 ^ (AY l).length):=rfl;have eZ:=hid eb;have lw:=hid vr;have vK:¬(400:Int)<(l.length:Int):=by omega
 clear hm eO eb vr;generalize whole l=W at *;generalize AY l=P at *;generalize AC l=D at *;generalize Hs l=bad at *;go_enter Tryz.func182,Tryz.ntmps182;go_wp2_with fail;refine(tE.out _ ((Ext.refl w).alloc _)).mono ?_
 rintro e w1 ⟨rfl,ag⟩;have ar:=hid (((Ext.refl w).alloc (.cells #[.bool false,.slice none 0 0,.slice none 0 0] 26)).trans ag);have ai:=hid ((Blk.new w 26 #[.bool false,.slice none 0 0,.slice none 0 0]).ext ag);clear ag;go_upto_region 4 with fail
 go_cut [46] from 20 to 46 (fun s46 wx=>s46= .bool bad/\wx=w1)
 case first=>
  clear tE;cases D
  ·have HF:Hid ((false && ((P == []) || (P.getLast? == some 48)))=false):=hid rfl;have ak:=hid (oF.out HF.out);rcases Nat.eq_zero_or_pos W.length with dx|dx
   ·obtain rfl:W=[]:=List.eq_nil_of_length_eq_zero dx;have gf:Hid (bad=true):=hid (by rw[ak.out];rfl);have pp:(([]:List UInt8) == [])=true:=rfl;clear dx;go_wp2_with fail;go_meet;exact⟨by rw[gf.out],rfl⟩
   ·have pp:(W == [])=false:=by cases W<;>simp_all
    obtain⟨kw,mG⟩:∃k,W.length=k+1:=⟨W.length-1,by omega⟩;have yq:(0:Int)<(W.length:Int):=by omega
    have nR:=Gb W kw mG;rw[nR,pp]at ak;clear dx nR;cases hz:((Af W 0:Int) == 48)
    ·have gf:Hid (bad=false):=hid (by rw[ak.out,hz];rfl);clear mG;go_wp2_with fail;go_meet;exact⟨by rw[gf.out],rfl⟩
    ·by_cases hl1:1<W.length
     ·have gf:Hid (bad=true):=hid (by rw[ak.out,hz];simp[hl1]);have ee:(1:Int)<(W.length:Int):=by omega
      have eN:decide ((1:Int)<(W.length:Int))=true:=by rw[decide_eq_true_iff];omega
      clear mG;go_wp2_with fail;go_meet;exact⟨by rw[gf.out],rfl⟩
     ·have gf:Hid (bad=false):=hid (by rw[ak.out,hz];simp[hl1]);have ee:¬(1:Int)<(W.length:Int):=by omega
      have eN:decide ((1:Int)<(W.length:Int))=false:=by simp;omega
      clear mG;go_wp2_with fail;go_meet;exact⟨by rw[gf.out],rfl⟩
  ·rcases Nat.eq_zero_or_pos P.length with hp0|hp0
   ·obtain rfl:P=[]:=List.eq_nil_of_length_eq_zero hp0;have gf:Hid (bad=true):=hid (tB.out rfl);have rz:(([]:List UInt8) == [])=true:=rfl;clear hp0;go_wp2_with fail;go_meet;exact⟨by rw[gf.out],rfl⟩
   ·have rz:(P == [])=false:=by cases P<;>simp_all
    obtain⟨k,ry⟩:∃k,P.length=k+1:=⟨P.length-1,by omega⟩;have jj:=KA P k ry;have np:(P.length:Int)-1=(k:Int):=by omega
    clear hp0;have hkp:(k:Int)<(P.length:Int):=by omega
    cases hz1:((Af P k:Int) == 48)
    ·have HF:Hid ((true && ((P == []) || (P.getLast? == some 48)))=false):=hid (by rw[jj,rz,hz1];rfl);clear jj ry;have ak:=hid (oF.out HF.out);rcases Nat.eq_zero_or_pos W.length with dx|dx
     ·obtain rfl:W=[]:=List.eq_nil_of_length_eq_zero dx;have gf:Hid (bad=true):=hid (by rw[ak.out];rfl);have pp:(([]:List UInt8) == [])=true:=rfl;clear dx;go_wp2_with fail;go_meet;exact⟨by rw[gf.out],rfl⟩
     ·have pp:(W == [])=false:=by cases W<;>simp_all
      obtain⟨kw,mG⟩:∃k,W.length=k+1:=⟨W.length-1,by omega⟩;have yq:(0:Int)<(W.length:Int):=by omega
      have nR:=Gb W kw mG;rw[nR,pp]at ak;clear dx nR;cases hz:((Af W 0:Int) == 48)
      ·have gf:Hid (bad=false):=hid (by rw[ak.out,hz];rfl);clear mG;go_wp2_with fail;go_meet;exact⟨by rw[gf.out],rfl⟩
      ·by_cases hl1:1<W.length
       ·have gf:Hid (bad=true):=hid (by rw[ak.out,hz];simp[hl1]);have ee:(1:Int)<(W.length:Int):=by omega
        have eN:decide ((1:Int)<(W.length:Int))=true:=by rw[decide_eq_true_iff];omega
        clear mG;go_wp2_with fail;go_meet;exact⟨by rw[gf.out],rfl⟩
       ·have gf:Hid (bad=false):=hid (by rw[ak.out,hz];simp[hl1]);have ee:¬(1:Int)<(W.length:Int):=by omega
        have eN:decide ((1:Int)<(W.length:Int))=false:=by simp;omega
        clear mG;go_wp2_with fail;go_meet;exact⟨by rw[gf.out],rfl⟩
    ·have gf:Hid (bad=true):=hid (tB.out (by rw[jj,hz1];simp));clear jj ry;go_wp2_with fail;go_meet;exact⟨by rw[gf.out],rfl⟩
 case rest=>
  obtain⟨rfl,rfl⟩:=hcut;clear oF tB tE;have k0:=ai.out.three;cases bad
  ·have eO:=lR.out;simp only[Bool.false_eq_true,if_false]at eO;have vD:∀W',(binOp .add 9 (str W) (str P)).run Tryz.prog W'= .ok (str (W++P)) W':=Du W P (by omega);have hL:(W++P).length<=800:=by rw[List.length_append];omega
   have qE:=hid (fun W'=>OW W' (W++P));have oB:=hid (fun W'=>Mm W' (KM (W++P)));rw[J7 _ hL]at oB;have HTD:=hid (fun W'=>OY W' (W++P) (by omega));have HNL:=hid (GC (W++P));have hdig:KM (W++P)=if (W++P).dropWhile (· == 48)=[] then [48] else (W++P).dropWhile (· == 48):=rfl
   have kl:=hid hdig;clear hdig lR;generalize W++P=L at *;generalize hZ:L.dropWhile (· == 48)=Z at *;have HZ:=hid hZ;clear hZ;cases hall:L.all Bu
   ·have oC:Hid (∀W',Calls Tryz.prog 209 #[str (KM L)] W' (LF W' (0,6))):=hid (fun W'=>by
     have:=oB.out W'
     rwa [hall]at this)
    rw[hall]at eO;have HC:Hid (Bm l=6):=hid eO;clear hall eO oB;rcases Nat.eq_zero_or_pos Z.length with aE|aE
    ·obtain rfl:Z=[]:=List.eq_nil_of_length_eq_zero aE;have pk:(([]:List UInt8) == [])=true:=rfl;rw[kl.out,if_pos rfl]at oC;clear aE;go_wp2_with fail;refine(qE.out _).mono ?_
     rintro e w2 ⟨rfl,rfl⟩;go_wp2_with fail;refine(oC.out _).mono ?_
     rintro e w3 ⟨v3,rfl,iK,ab⟩;obtain⟨n3,A3,c3,rfl⟩:=iK.shape;have hk:=ai.out.ext ab;have aC:=hid (ar.out.trans ab);have a8:=hid hk;clear iK ab k0;have k0:=hk.three;clear hk;go_wp2_with fail;obtain⟨aj,ac,hr2⟩:=Ah a8.out (.bool false) (.slice none 0 0) (.slice none 0 0);refine bodyPost_ret (v:= .tuple #[.agg #[.bool false,.slice none 0 0,.slice none 0 0],.int .i64 6]) (by simp[results,Tryz.results182,go_sem,aj,ac,hr2]) rfl ?_
     exact⟨_,by rw[HC.out];rfl,by rw[HC.out];exact Ag.zero _ _,((aC.out.setCell (Nat.le_refl _) _).setCell (Nat.le_refl _) _).setCell (Nat.le_refl _) _⟩
    ·have pk:(Z == [])=false:=by cases Z<;>simp_all
     have uk:Z≠[]:=by cases Z<;>simp_all
     rw[kl.out,if_neg uk]at oC;clear aE uk;go_wp2_with fail;refine(qE.out _).mono ?_
     rintro e w2 ⟨rfl,rfl⟩;go_wp2_with fail;refine(oC.out _).mono ?_
     rintro e w3 ⟨v3,rfl,iK,ab⟩;obtain⟨n3,A3,c3,rfl⟩:=iK.shape;have hk:=ai.out.ext ab;have aC:=hid (ar.out.trans ab);have a8:=hid hk;clear iK ab k0;have k0:=hk.three;clear hk;go_wp2_with fail;obtain⟨aj,ac,hr2⟩:=Ah a8.out (.bool false) (.slice none 0 0) (.slice none 0 0);refine bodyPost_ret (v:= .tuple #[.agg #[.bool false,.slice none 0 0,.slice none 0 0],.int .i64 6]) (by simp[results,Tryz.results182,go_sem,aj,ac,hr2]) rfl ?_
     exact⟨_,by rw[HC.out];rfl,by rw[HC.out];exact Ag.zero _ _,((aC.out.setCell (Nat.le_refl _) _).setCell (Nat.le_refl _) _).setCell (Nat.le_refl _) _⟩
   ·have oC:Hid (∀W',Calls Tryz.prog 209 #[str (KM L)] W' (LF W' (Bl L,0))):=hid (fun W'=>by
     have:=oB.out W'
     rwa [hall]at this)
    rw[hall]at eO;have HC:Hid (Bm l=0):=hid eO;have wg:=hid (fun W'=>HTD.out W' hall);have qj:(Ac (Bl L)).length<=800:=DR (HNL.out hall) hL;have qN:=hid (fun W' m a=>Cc W' false m (Ac (Bl L)) a (by omega));rw[Ad]at qN;have hsg:sgn false (Bl L)=((Bl L:Nat):Int):=rfl;rw[hsg]at qN;have cY:=hid (fun W'=>F8 W' 1 (by decide));rw[show ((1:Nat):Int)=1 from rfl]at cY;have tR:P.length<=400:=by omega
    have gP:=hid (fun W' m a=>Pi W' m (Ac 1) P.length a (by decide) (by omega));have YA:Hid ((Ac 1).length<=10/\P.length<=400):=hid ⟨by decide,tR⟩;have ir:Hid (∀W' a b zs,Ap W' a ((Bl L:Nat):Int)->Arr W' b zs->zs.length<=134217728->val zs=val (Ac 1)*10 ^ P.length->Calls Tryz.prog 211 #[a,b] W' fun e w'=>∃v',e= .returned v'/\Ag W'.heap.size w' v' (Dy ((Bl L:Nat):Int) (10 ^ P.length)) (C9 ((Bl L:Nat):Int) (10 ^ P.length))/\Ext W' w'):=hid (fun W' a b zs h1 h2 h3 h4=>by
     have:=Fp W' a b _ zs h1 h2 (by rw[Int.natAbs_natCast];omega) h3 (by rw[h4,Ad,Nat.one_mul];exact Nat.ne_of_gt (Nat.pow_pos (by decide)))
     rwa [h4,Ad,Nat.one_mul]at this)
    clear hall eO oB qj hsg tR;rcases Nat.eq_zero_or_pos Z.length with aE|aE
    ·obtain rfl:Z=[]:=List.eq_nil_of_length_eq_zero aE;have pk:(([]:List UInt8) == [])=true:=rfl;rw[kl.out,if_pos rfl]at oC;clear aE;go_wp2_with fail;refine(qE.out _).mono ?_
     rintro e w2 ⟨rfl,rfl⟩;go_wp2_with fail;refine(oC.out _).mono ?_
     rintro e w3 ⟨v3,rfl,iK,ab⟩;have pd:=hid iK;obtain⟨n3,A3,c3,rfl⟩:=iK.shape;have aC:=hid (ar.out.trans ab);have a8:=hid (ai.out.ext ab);clear iK ab k0;go_wp2_with fail;refine(wg.out _).mono ?_
     rintro e w4 ⟨rfl,bc⟩;have mq:=hid (pd.out.ext bc);have bw:=hid (aC.out.trans bc);have gJ:=hid (a8.out.ext bc);clear bc;have cp:(([]:List UInt8) == [])=true:=rfl;go_wp2_with fail;refine(qN.out _ _ mq.out.arr).mono ?_
     rintro e w5 ⟨v5,rfl,dV,hx5⟩;have wI:=hid dV;obtain⟨b5,n5,A5,c5,rfl⟩:=dV.shape;have dr:=hid (bw.out.trans hx5);have gI:=hid (gJ.out.ext hx5);clear dV hx5;go_wp2_with fail;refine(cY.out _).mono ?_
     rintro e w6 ⟨v6,rfl,iC,cZ⟩;have gD:=hid iC;obtain⟨n6,A6,c6,rfl⟩:=iC.shape;have wH:=hid (wI.out.ext cZ);have dB:=hid (dr.out.trans cZ);have lU:=hid (gI.out.ext cZ);clear iC cZ;go_wp2_with fail;refine(gP.out _ _ gD.out.arr).mono ?_
     rintro e w7 ⟨v7,zs,rfl,sw,rm,zk,bx⟩;obtain⟨n7,A7,c7,rfl⟩:=sw.shape;have Wp:=hid (wH.out.ext bx).arr;have dZ:=hid (dB.out.trans bx);have gR:=hid (lU.out.ext bx);have HV7:=hid rm;have wv:=hid (ir.out w7 _ _ zs Wp.out sw (by have:=YA.out;omega) rm);clear sw rm bx zk;go_wp2_with fail;refine wv.out.mono ?_
     rintro e w8 ⟨v8,rfl,cJ,bD⟩;obtain⟨b8,n8,A8,c8,pZ,qP,qB,rfl⟩:=cJ.shape;have wi:=hid cJ;have dq:=hid (dZ.out.trans bD);have hk:=gR.out.ext bD;have lT:=hid hk;have om:=hid dZ.out.size;have oG:=hid gR.out.lt;clear cJ bD;have k0:=hk.three;clear hk;go_wp2_with fail;obtain⟨aj,ac,hr2⟩:=Ah lT.out (.bool b8) (.slice A8 n8 c8) (.slice qP pZ qB);refine bodyPost_ret (v:= .tuple #[.agg #[.bool b8,.slice A8 n8 c8,.slice qP pZ qB],.int .i64 0]) (by simp[results,Tryz.results182,go_sem,aj,ac,hr2]) rfl ?_
     have dz:=wi.out.put (w:=w) oG.out om.out;exact⟨_,by rw[HC.out];rfl,by rw[HC.out,if_pos rfl,if_pos rfl,eZ.out,lw.out];exact dz,((dq.out.setCell (Nat.le_refl _) _).setCell (Nat.le_refl _) _).setCell (Nat.le_refl _) _⟩
    ·have pk:(Z == [])=false:=by cases Z<;>simp_all
     have uk:Z≠[]:=by cases Z<;>simp_all
     rw[kl.out,if_neg uk]at oC;clear aE uk;go_wp2_with fail;refine(qE.out _).mono ?_
     rintro e w2 ⟨rfl,rfl⟩;go_wp2_with fail;refine(oC.out _).mono ?_
     rintro e w3 ⟨v3,rfl,iK,ab⟩;have pd:=hid iK;obtain⟨n3,A3,c3,rfl⟩:=iK.shape;have aC:=hid (ar.out.trans ab);have a8:=hid (ai.out.ext ab);clear iK ab k0;go_wp2_with fail;refine(wg.out _).mono ?_
     rintro e w4 ⟨rfl,bc⟩;have mq:=hid (pd.out.ext bc);have bw:=hid (aC.out.trans bc);have gJ:=hid (a8.out.ext bc);clear bc;have cp:(([]:List UInt8) == [])=true:=rfl;go_wp2_with fail;refine(qN.out _ _ mq.out.arr).mono ?_
     rintro e w5 ⟨v5,rfl,dV,hx5⟩;have wI:=hid dV;obtain⟨b5,n5,A5,c5,rfl⟩:=dV.shape;have dr:=hid (bw.out.trans hx5);have gI:=hid (gJ.out.ext hx5);clear dV hx5;go_wp2_with fail;refine(cY.out _).mono ?_
     rintro e w6 ⟨v6,rfl,iC,cZ⟩;have gD:=hid iC;obtain⟨n6,A6,c6,rfl⟩:=iC.shape;have wH:=hid (wI.out.ext cZ);have dB:=hid (dr.out.trans cZ);have lU:=hid (gI.out.ext cZ);clear iC cZ;go_wp2_with fail;refine(gP.out _ _ gD.out.arr).mono ?_
     rintro e w7 ⟨v7,zs,rfl,sw,rm,zk,bx⟩;obtain⟨n7,A7,c7,rfl⟩:=sw.shape;have Wp:=hid (wH.out.ext bx).arr;have dZ:=hid (dB.out.trans bx);have gR:=hid (lU.out.ext bx);have HV7:=hid rm;have wv:=hid (ir.out w7 _ _ zs Wp.out sw (by have:=YA.out;omega) rm);clear sw rm bx zk;go_wp2_with fail;refine wv.out.mono ?_
     rintro e w8 ⟨v8,rfl,cJ,bD⟩;obtain⟨b8,n8,A8,c8,pZ,qP,qB,rfl⟩:=cJ.shape;have wi:=hid cJ;have dq:=hid (dZ.out.trans bD);have hk:=gR.out.ext bD;have lT:=hid hk;have om:=hid dZ.out.size;have oG:=hid gR.out.lt;clear cJ bD;have k0:=hk.three;clear hk;go_wp2_with fail;obtain⟨aj,ac,hr2⟩:=Ah lT.out (.bool b8) (.slice A8 n8 c8) (.slice qP pZ qB);refine bodyPost_ret (v:= .tuple #[.agg #[.bool b8,.slice A8 n8 c8,.slice qP pZ qB],.int .i64 0]) (by simp[results,Tryz.results182,go_sem,aj,ac,hr2]) rfl ?_
     have dz:=wi.out.put (w:=w) oG.out om.out;exact⟨_,by rw[HC.out];rfl,by rw[HC.out,if_pos rfl,if_pos rfl,eZ.out,lw.out];exact dz,((dq.out.setCell (Nat.le_refl _) _).setCell (Nat.le_refl _) _).setCell (Nat.le_refl _) _⟩
  ·have HC:Hid (Bm l=6):=hid lR.out;clear lR;go_wp2_with fail;obtain⟨aj,ac,hr2⟩:=Ah ai.out (.bool false) (.slice none 0 0) (.slice none 0 0);refine bodyPost_ret (v:= .tuple #[.agg #[.bool false,.slice none 0 0,.slice none 0 0],.int .i64 6]) (by simp[results,Tryz.results182,go_sem,aj,ac,hr2]) rfl ?_
   exact⟨_,by rw[HC.out];rfl,by rw[HC.out];exact Ag.zero _ _,((ar.out.setCell (Nat.le_refl _) _).setCell (Nat.le_refl _) _).setCell (Nat.le_refl _) _⟩
theorem Dr.below{w w':World}(h:Dr w w')(B:Nat):Below B w w':=by
 have h1:=h.grown none;exact⟨h1.os,h1.tape,h1.output,h1.size,fun g _=>by rw[h.heap]⟩
end Big
end Go.Proofs.YtkoaogkknnelaaaGreatDoor
