import Derived.Test.YtkoaogkknnelaaaGreatDoorM27
import Derived.Maps.Own
import Derived.DeepKeys4
import Derived.ChangeMaps
set_option linter.unusedVariables false
set_option linter.unusedSimpArgs false
set_option maxRecDepth 100000
namespace Go.Proofs.YtkoaogkknnelaaaGreatDoor
namespace Big
open Lib renaming hid → J
open Go.RowKit
def El(p:Int)(q:Nat)(w:World)(e:Ending)(w':World):Prop:=
 ∃v',Ext w w'/\((∃r s:Nat,p=((r*r:Nat):Int)/\q=s*s/\e= .returned (.tuple #[v',.bool true])/\Ag w.heap.size w' v' (r:Int) s)\/
  (¬(∃r s:Nat,p=((r*r:Nat):Int)/\q=s*s)/\e= .returned (.tuple #[v',.bool false])/\Ag w.heap.size w' v' 0 0))
theorem Ps(w:World)(v0:Value)(p:Int)(q:Nat)(h0:An w v0 p q)(uO:(Ac p.natAbs).length<=10000)(yq:(Ac q).length<=10000)(hp:p<0):
  Calls Tryz.prog 219 #[v0] w (El p q w):=by
 have H0:=J h0;obtain⟨b0,l0,A0,c0,k0,D0,e0,rfl⟩:=h0.shape;have cx:=h0.sign;rw[decide_eq_true hp]at cx;subst cx;have HP:=J hp;clear h0 hp;go_enter Tryz.func219,Tryz.ntmps219;go_wp2_with fail;refine bodyPost_ret (v:= .tuple #[.agg #[.bool false,.slice none 0 0,.slice none 0 0],.bool false]) (by simp[results,Tryz.results219,go_sem]) rfl ?_
 exact⟨_,((Ext.refl w).alloc _).alloc _,.inr ⟨by rintro⟨r,s,h1,_⟩;have:=HP.o;omega,rfl,Ag.zero _ _⟩⟩
theorem Pr(w:World)(v0:Value)(p:Int)(q:Nat)(h0:An w v0 p q)(n0:(Ac p.natAbs).length<=10000)(m0:(Ac q).length<=10000)(hp:¬p<0):
  Calls Tryz.prog 219 #[v0] w (El p q w):=by
 have H0:=J h0;have jX:=J (fun W m a=>Ir W m (Ac p.natAbs) a (by omega));have o9:=J (fun W m a=>Ir W m (Ac q) a (by omega));unfold J5 at jX o9;rw[Ad]at jX o9;have iv:=J n0;have uS:=J m0;obtain⟨b0,l0,A0,c0,k0,D0,e0,rfl⟩:=h0.shape;have cx:=h0.sign;rw[decide_eq_false hp]at cx;subst cx;have HP:=J hp;have fp:=J h0.num;clear h0 hp n0 m0;have fR:((p.natAbs:Nat):Int)=p:=by have:=HP.o;omega
 have iS:=J fR;clear fR;generalize p.natAbs=m at *;go_enter Tryz.func219,Tryz.ntmps219;go_wp2_with fail;have hb0:=((Blk.new w 26 #[.bool false,.slice A0 l0 c0,.slice D0 k0 e0]).alloc (.cells #[.bool false,.slice none 0 0,.slice none 0 0] 26));have am:=(Blk.new (w.alloc (.cells #[.bool false,.slice A0 l0 c0,.slice D0 k0 e0] 26)) 26 #[.bool false,.slice none 0 0,.slice none 0 0]);have az:=(((Ext.refl w).alloc (.cells #[.bool false,.slice A0 l0 c0,.slice D0 k0 e0] 26)).alloc (.cells #[.bool false,.slice none 0 0,.slice none 0 0] 26));have aq:w.heap.size+1+1=((w.alloc (.cells #[.bool false,.slice A0 l0 c0,.slice D0 k0 e0] 26)).alloc (.cells #[.bool false,.slice none 0 0,.slice none 0 0] 26)).heap.size:=by simp
 simp only[World.size_alloc]at am;generalize (w.alloc (.cells #[.bool false,.slice A0 l0 c0,.slice D0 k0 e0] 26)).alloc (.cells #[.bool false,.slice none 0 0,.slice none 0 0] 26)=wo at *;have aj:=J hb0;have ag:=J am;have HX:=J az;have HZ:Hid (w.heap.size+1+1<=wo.heap.size):=J (by omega);clear az aq hb0 am;refine(jX.o _ _ (fp.o.ext HX.o)).mono ?_
 rintro e w1 ⟨r0,r,ky,rfl,aG,⟨g0,G0,j0,rfl⟩,hx0⟩;have au:=J (HX.o.trans hx0);have kV:=J (ag.o.ext hx0);have ma:=J (aj.o.ext hx0);have R0:=J aG;have o7:=J ky;have el:=J hx0.size;clear aG ky hx0;have q0:=ma.o.three;go_wp2_with fail;refine(o9.o _ _ (H0.o.den.ext au.o)).mono ?_
 rintro e w2 ⟨r1,s,kx,rfl,aZ,⟨g1,G1,j1,rfl⟩,ak⟩;have aR:=J (au.o.trans ak);have eL:=J (kV.o.ext ak);have jb:=J ak;have R1:=J aZ;have ge:=J kx;clear aZ kx ak q0;have t0:=eL.o.three;by_cases hm:m=r*r
 ·have jp:decide (m=r*r)=true:=decide_eq_true hm;rw[jp];by_cases hq:q=s*s
  ·have dJ:decide (q=s*s)=true:=decide_eq_true hq;rw[dJ];have i9:=J ((R0.o hm).ext jb.o);have qA:=J (R1.o hq);have HM:=J hm;have HQ:=J hq;have lc:(Ac r).length<=10000:=qae (Ay o7.o.le) (by rw[hm];rw[<-hm];exact iv.o);have HI:=J (fun W m a=>Cj W false m (Ac r) a (by omega));rw[Ad,show sgn false r=(r:Int) from rfl]at HI;clear hm hq jp dJ lc;go_wp2_with fail;refine(HI.o _ _ i9.o.arr).mono ?_
   rintro e w3 ⟨r2,rfl,ay,ah⟩;have aE:=J (aR.o.trans ah);have l9:=J (eL.o.ext ah);have tT:=J (qA.o.ext ah);have tC:=J jb.o.size;have R2:=J ay;obtain⟨f2,g2,G2,j2,rfl⟩:=ay.shape;clear ay ah t0;have t0:=l9.o.three;go_wp2_with fail;obtain⟨ai,ac,hr2⟩:=Aj l9.o (.bool f2) (.slice G2 g2 j2) (.slice G1 g1 j1);refine bodyPost_ret (v:= .tuple #[.agg #[.bool f2,.slice G2 g2 j2,.slice G1 g1 j1],.bool true]) (by simp[results,Tryz.results219,go_sem,ai,ac,hr2]) rfl ?_
   refine⟨_,((aE.o.setCell (qak _) _).setCell (qak _) _).setCell (qak _) _,.inl ⟨r,s,by rw[<-iS.o,HM.o],HQ.o,rfl,?_⟩⟩;exact Ag.put (w1:=wo) (Ag.mk (R2.o.mono (by have:=el.o;have:=tC.o;omega)) (tT.o.mono el.o)) (by have:=HZ.o;omega) (by have:=HZ.o;omega)
  ·have dJ:decide (q=s*s)=false:=decide_eq_false hq;rw[dJ];have HQ:=J hq;clear hm hq jp dJ;go_wp2_with fail;obtain⟨ai,ac,hr2⟩:=Aj eL.o (.bool false) (.slice none 0 0) (.slice none 0 0);refine bodyPost_ret (v:= .tuple #[.agg #[.bool false,.slice none 0 0,.slice none 0 0],.bool false]) (by simp[results,Tryz.results219,go_sem,ai,ac,hr2]) rfl ?_
   refine⟨_,((aR.o.setCell (qak _) _).setCell (qak _) _).setCell (qak _) _,.inr ⟨?_,rfl,Ag.zero _ _⟩⟩;rintro⟨r',s',_,h2⟩;refine HQ.o ?_
   have h3:=ge.o.uniq (by rw[h2];exact DL.sq s');rw[h3];exact h2
 ·have jp:decide (m=r*r)=false:=decide_eq_false hm;rw[jp];have HM:=J hm;clear hm jp;go_wp2_with fail;obtain⟨ai,ac,hr2⟩:=Aj eL.o (.bool false) (.slice none 0 0) (.slice none 0 0);refine bodyPost_ret (v:= .tuple #[.agg #[.bool false,.slice none 0 0,.slice none 0 0],.bool false]) (by simp[results,Tryz.results219,go_sem,ai,ac,hr2]) rfl ?_
  refine⟨_,((aR.o.setCell (qak _) _).setCell (qak _) _).setCell (qak _) _,.inr ⟨?_,rfl,Ag.zero _ _⟩⟩;rintro⟨r',s',h1,_⟩;refine HM.o ?_
  have h2:m=r'*r':=by have:=iS.o;omega
  have h3:=o7.o.uniq (by rw[h2];exact DL.sq r');rw[h3];exact h2
theorem Pt(w:World)(v0:Value)(p:Int)(q:Nat)(h0:An w v0 p q)(n0:(Ac p.natAbs).length<=10000)(m0:(Ac q).length<=10000):
  Calls Tryz.prog 219 #[v0] w (El p q w):=by
 by_cases hp:p<0
 ·exact Ps w v0 p q h0 n0 m0 hp
 ·exact Pr w v0 p q h0 n0 m0 hp
theorem OV{z:Int}{d M L:Nat}(hz:(Ac z.natAbs).length<=M)(hd:(Ac d).length<=L):(Ac (EN z d).natAbs).length<=M/\(Ac (Em z d)).length<=L:=by
 rw[FE];exact⟨qae (Ay (qbs _ _)) hz,qae (Ay (qbs _ _)) hd⟩
theorem Ld{p r:Int}{q s N:Nat}(a:(Ac p.natAbs).length<=N)(b:(Ac q).length<=N)(c:(Ac r.natAbs).length<=N)(d:(Ac s).length<=N):(Ac (M8 p q r s).natAbs).length<=4*N+1/\(Ac (M7 p q r s)).length<=4*N+1:=by
 have h1:(Ac (p*(s:Int)).natAbs).length<=2*N:=by rw[qbT,qaL];have:=AG a d;omega
 have h2:(Ac (r*(q:Int)).natAbs).length<=2*N:=by rw[qbT,qaL];have:=AG c b;omega
 have h3:(Ac (LR p q r s).natAbs).length<=4*N+1:=by unfold LR;have:=E9 h1 h2;omega
 have h4:(Ac (q*s)).length<=4*N+1:=by have:=AG b d;omega
 exact OV h3 h4
theorem Lc{p r:Int}{q s N:Nat}(a:(Ac p.natAbs).length<=N)(b:(Ac q).length<=N)(c:(Ac r.natAbs).length<=N)(d:(Ac s).length<=N):(Ac (IT p q r s).natAbs).length<=2*N/\(Ac (IS p q r s)).length<=2*N:=by
 have h1:(Ac (p*r).natAbs).length<=2*N:=by rw[qbT];have:=AG a c;omega
 have h4:(Ac (q*s)).length<=2*N:=by have:=AG b d;omega
 exact OV h1 h4
theorem Fo{r:Int}{s N:Nat}(c:(Ac r.natAbs).length<=N)(d:(Ac s).length<=N):(Ac (CU r s).natAbs).length<=N/\(Ac r.natAbs).length<=N:=by
 unfold CU;rw[CN];exact⟨d,c⟩
theorem Ri{r:Int}{N:Nat}(c:(Ac r.natAbs).length<=N):(Ac (-r).natAbs).length<=N:=by rw[qbS];exact c
theorem Io{p:Int}{q N:Nat}(hp:(Ac p.natAbs).length<=N)(hq:(Ac q).length<=N)(hN:N<=100000000)(W:World)(v u:Value)(a:An W v p q)(b:An W u p q):
  Calls Tryz.prog 18 #[v,u] W fun e w'=>e= .returned (.bool true)/\Ext W w':=by
 have:=NM W v p q a (by omega) (by omega) u p q b (by omega) (by omega);rw[decide_eq_true (⟨rfl,rfl⟩:p=p/\q=q)]at this;exact this
theorem QV{xs:List Nat}{i k s:Nat}(aA:Ok xs)(hi:i=32*k+s)(hs:s<32):xs.getD k 0 / 2 ^ s % 2=val xs / 2 ^ i % 2:=by
 have h1:=Bt xs k;have h2:=BU aA k;have h3:=Bl xs k;have e1:val xs / 4294967296 ^ k=val (xs.drop k):=by
  rw[h1,Nat.add_mul_div_left _ _ (qbb (by decide)),qbB h2,qaW]
 rw[hi,qbE,<-qch,qbY,show (2:Nat) ^ 32=4294967296 from rfl,e1,h3];obtain⟨t,ht⟩:∃t,32=s+(t+1):=⟨31-s,by omega⟩;have e2:4294967296=2 ^ s*(2 ^ t*2):=by
  rw[<-qay,<-qbE,<-ht]
 generalize val (xs.drop (k+1))=r;rw[e2,qaA,Nat.add_mul_div_left _ _ (qbb (by decide)),show 2 ^ t*2*r=2*(2 ^ t*r) by rw[qaJ (2 ^ t) 2,qaA],Nat.add_mul_mod_self_left]
theorem RK(w:World)(v:Value)(xs:List Nat)(i:Nat)(h:Arr w v xs)(hi:i<34359738368):
  Calls Tryz.prog 179 #[v,.int .i64 (i:Int)] w fun e w'=>e= .returned (.bool (decide (val xs / 2 ^ i % 2=1)))/\w=w':=by
 obtain⟨k,s,hs,uC⟩:∃k s,s<32/\i=32*k+s:=⟨i / 32,i % 32,by omega,by omega⟩;have HV:=J (QV h.ok uC hs);have hq:(i:Int) / 32=(k:Int):=by omega
 have hr:(i:Int) % 32=(s:Int):=by omega
 have gy:=J (Dy w v xs (k:Int) h (by omega));rw[qaq]at gy;have cW:=h.ok.get k;have oO:(2:Int) ^ s=((2 ^ s:Nat):Int):=by simp
 have VZ:0<2 ^ s:=qbb (by omega);have aG:(0:Int)<=(i:Int):=by omega
 have fJ:k<1073741824:=by omega
 rw[<-HV.o];clear HV uC h hi;generalize xs.getD k 0=x at *;obtain⟨P,hP⟩:∃P,2 ^ s=P:=⟨_,rfl⟩;rw[hP]at oO VZ ⊢;clear hP;have hdv:(x:Int) / (P:Int)=((x / P:Nat):Int):=rfl;obtain⟨y,hy⟩:∃y,x / P=y:=⟨_,rfl⟩;rw[hy]at hdv ⊢;have yZ:y<4294967296:=by rw[<-hy];exact qbK (qbs _ _) cW
 clear hy;have hmd:(y:Int) % 2=((y % 2:Nat):Int):=rfl;have bu:y % 2<2:=by omega
 generalize y % 2=z at *;have fg:((z:Int) == 1)=decide (z=1):=by
  rw[qaM,beq_iff_eq,decide_eq_true_iff];omega
 generalize decide (z=1)=bb at *;go_enter Tryz.func179,Tryz.ntmps179;go_wp2_with fail;refine gy.o.mono ?_
 rintro e w' ⟨rfl,rfl⟩;go_wp2_with fail
 all_goals go_ret
 exact⟨rfl,rfl⟩
theorem SR{V n:Nat}(h:V<2 ^ n)(h1:V / 2 ^ (n-1) % 2=1)(hn:0<n):AT V=n:=by
 obtain⟨m,rfl⟩:∃m,n=m+1:=⟨n-1,by omega⟩;rw[qbC]at h1;refine M3 ?_ h
 rcases qah V (2 ^ m) with hl|hl
 ·rw[qbB hl]at h1;omega
 ·exact hl
theorem QU{V n:Nat}(h:V<2 ^ (n+1))(h1:¬V / 2 ^ n % 2=1):V<2 ^ n:=by
 have h2:V / 2 ^ n<2:=by
  rw[Nat.div_lt_iff_lt_mul (qbb (by decide)),qaJ,<-qay];exact h
 have h3:V / 2 ^ n=0:=by
  generalize V / 2 ^ n=t at *;omega
 rcases qah V (2 ^ n) with hl|hl
 ·exact hl
 ·have:=Nat.div_pos hl (qbb (by decide));omega
theorem Hy(w:World)(v:Value)(xs:List Nat)(h:Arr w v xs)(hn:xs.length<=134217728):
  Calls Tryz.prog 136 #[v] w fun e w'=>e= .returned (.int .i64 (AT (val xs):Nat))/\Ext w w':=by
 have HB:=J (fun W i (hx:Ext w W)=>RK W v xs i (h.ext hx));have hlt:val xs<2 ^ (32*xs.length):=by
  rw[qbY];exact Cm h.ok
 obtain⟨L,hL⟩:∃L,xs.length=L:=⟨_,rfl⟩;rw[hL]at hlt hn;obtain⟨_,A,c,rfl,_,_,_⟩:=h.open;rw[hL]at HB ⊢;clear h hL;generalize val xs=V at *;have dH:=J hlt;clear hlt;go_enter Tryz.func136,Tryz.ntmps136;go_wp2_with fail;go_loopw [3] (fun s1 wr=>∃n:Nat,n<=32*L/\s1= .int .i64 (n:Int)/\V<2 ^ n/\Ext w wr) (fun s1 _=>(intOf s1).toNat)
 case atStart=>exact⟨32*L,qab _,by go_num,dH.o,Ext.refl _⟩
 case round=>
  obtain⟨n,hn2,rfl,hV,hx⟩:=hrel;have HX:=J hx;have HV:=J hV;clear hx hV;rcases qag n with h0|h0
  ·subst h0;have hz:V=0:=by have:=HV.o;omega
   subst hz;go_wp2_with fail;go_ret;exact⟨by congr 2,HX.o⟩
  ·obtain⟨m,rfl⟩:∃m,n=m+1:=⟨n-1,by omega⟩;have im:((m+1:Nat):Int)-1=(m:Int):=by omega
   have mN:IntKind.i64.wrap (((m+1:Nat):Int)-1)=(m:Int):=by rw[im];exact IntWalk.i64_in _ (by omega)
   have hp:(0:Int)<((m+1:Nat):Int):=by omega
   by_cases hb:V / 2 ^ m % 2=1
   ·have hd:decide (V / 2 ^ m % 2=1)=true:=decide_eq_true hb;have HE:=J (SR HV.o hb (by omega));go_wp2_with fail;refine(HB.o _ m HX.o (by omega)).mono ?_
    rintro e w' ⟨rfl,rfl⟩;go_wp2_with fail;go_ret;refine⟨?_,HX.o⟩;rw[HE.o];rfl
   ·have hd:decide (V / 2 ^ m % 2=1)=false:=decide_eq_false hb;have HE:=J (QU HV.o hb);go_wp2_with fail;refine(HB.o _ m HX.o (by omega)).mono ?_
    rintro e w' ⟨rfl,rfl⟩;go_wp2_with fail;go_roundw
    case rel=>exact⟨m,by omega,by go_num,HE.o,HX.o⟩
    case measure=>simp[intOf]
theorem P1(w:World)(v0:Value)(p:Int)(q:Nat)(h0:An w v0 p q)(n0:(Ac p.natAbs).length<=100000)(m0:(Ac q).length<=100000):
  Calls Tryz.prog 73 #[v0] w fun e w'=>e= .returned (.int .i64 ((max (AT p.natAbs) (AT q):Nat):Int))/\Ext w w':=by
 have H0:=J h0;have HA:=J (fun W m (a:Arr W m (Ac p.natAbs))=>((Ej W m (Ac p.natAbs) a (by omega)).mono fun _ _ h=>⟨h.1,h.2 ▸ Ext.refl _⟩:Calls Tryz.prog 135 #[m] W fun e w'=>e= .returned (.int .i64 (AT (val (Ac p.natAbs)):Nat))/\Ext W w'));have HB:=J (fun W m (a:Arr W m (Ac q))=>((Ej W m (Ac q) a (by omega)).mono fun _ _ h=>⟨h.1,h.2 ▸ Ext.refl _⟩:Calls Tryz.prog 135 #[m] W fun e w'=>e= .returned (.int .i64 (AT (val (Ac q)):Nat))/\Ext W w'));rw[Ad]at HA HB;obtain⟨b0,l0,A0,c0,k0,D0,e0,rfl⟩:=h0.shape;clear h0 n0 m0;generalize AT p.natAbs=x at *;generalize AT q=y at *;obtain⟨z,hz⟩:∃z,max x y=z:=⟨_,rfl⟩;have eA:max (x:Int) (y:Int)=(z:Int):=by omega
 have Lo:(if (x:Int)<(y:Int) then (y:Int) else (x:Int))=(z:Int):=by split<;>omega
 have Fn:(if (y:Int)<=(x:Int) then (x:Int) else (y:Int))=(z:Int):=by split<;>omega
 rw[hz];clear hz;go_enter Tryz.func73,Tryz.ntmps73;go_wp2_with fail;have hb0:=(Blk.new w 26 #[.bool b0,.slice A0 l0 c0,.slice D0 k0 e0]);have az:=((Ext.refl w).alloc (.cells #[.bool b0,.slice A0 l0 c0,.slice D0 k0 e0] 26));have aq:w.heap.size+1=(w.alloc (.cells #[.bool b0,.slice A0 l0 c0,.slice D0 k0 e0] 26)).heap.size:=by simp
 generalize w.alloc (.cells #[.bool b0,.slice A0 l0 c0,.slice D0 k0 e0] 26)=wo at *;obtain⟨bD,bC,cF,_,_,_,_⟩:=hb0.three;clear hb0
 go_region_held3 (fun w'=>Ext w w'/\w'.cell? ⟨w.heap.size,0,none⟩=some (Value.bool b0)/\w'.cell? ⟨w.heap.size,1,none⟩=some (Value.slice A0 l0 c0)/\w'.cell? ⟨w.heap.size,2,none⟩=some (Value.slice D0 k0 e0))
  (first|(exact⟨az.drew,bD,bC,cF⟩)|(exact FH (by assumption) (by assumption))|(exact FH (by assumption) (Ext.refl _)))
  (first
   |(go_at_call 135;have cX:=aD;refine(HB.o _ _ (H0.o.den.ext (qau (by assumption)))).mono ?_;rintro e w2 ⟨rfl,ak⟩;have hz1:=ak.size)
   |(go_at_call 135;refine(HA.o _ _ (H0.o.num.ext (qau (by assumption)))).mono ?_;rintro e w1 ⟨rfl,hx0⟩;have aD:=hx0.size))
 all_goals go_wp2_with fail
 rename_i hS;obtain⟨hE,_,_,_⟩:=hS;simp only[World.size_drew]at aD;go_ret;exact⟨rfl,hE⟩
theorem PI(w:World)(v0:Value)(p:Int)(q:Nat)(h0:An w v0 p q)(n0:(Ac p.natAbs).length<=100000)(m0:(Ac q).length<=100000):
  Calls Tryz.prog 74 #[v0] w fun e w'=>e= .returned (.int .i64 ((max (AT p.natAbs) (AT q):Nat):Int))/\Ext w w':=by
 have H0:=J h0;have HA:=J (fun W m (a:Arr W m (Ac p.natAbs))=>(Hy W m (Ac p.natAbs) a (by omega):Calls Tryz.prog 136 #[m] W fun e w'=>e= .returned (.int .i64 (AT (val (Ac p.natAbs)):Nat))/\Ext W w'));have HB:=J (fun W m (a:Arr W m (Ac q))=>(Hy W m (Ac q) a (by omega):Calls Tryz.prog 136 #[m] W fun e w'=>e= .returned (.int .i64 (AT (val (Ac q)):Nat))/\Ext W w'));rw[Ad]at HA HB;obtain⟨b0,l0,A0,c0,k0,D0,e0,rfl⟩:=h0.shape;clear h0 n0 m0;generalize AT p.natAbs=x at *;generalize AT q=y at *;obtain⟨z,hz⟩:∃z,max x y=z:=⟨_,rfl⟩;have eA:max (x:Int) (y:Int)=(z:Int):=by omega
 have Lo:(if (x:Int)<(y:Int) then (y:Int) else (x:Int))=(z:Int):=by split<;>omega
 have Fn:(if (y:Int)<=(x:Int) then (x:Int) else (y:Int))=(z:Int):=by split<;>omega
 rw[hz];clear hz;go_enter Tryz.func74,Tryz.ntmps74;go_wp2_with fail;have hb0:=(Blk.new w 26 #[.bool b0,.slice A0 l0 c0,.slice D0 k0 e0]);have az:=((Ext.refl w).alloc (.cells #[.bool b0,.slice A0 l0 c0,.slice D0 k0 e0] 26));have aq:w.heap.size+1=(w.alloc (.cells #[.bool b0,.slice A0 l0 c0,.slice D0 k0 e0] 26)).heap.size:=by simp
 generalize w.alloc (.cells #[.bool b0,.slice A0 l0 c0,.slice D0 k0 e0] 26)=wo at *;obtain⟨bD,bC,cF,_,_,_,_⟩:=hb0.three;clear hb0
 go_region_held3 (fun w'=>Ext w w'/\w'.cell? ⟨w.heap.size,0,none⟩=some (Value.bool b0)/\w'.cell? ⟨w.heap.size,1,none⟩=some (Value.slice A0 l0 c0)/\w'.cell? ⟨w.heap.size,2,none⟩=some (Value.slice D0 k0 e0))
  (first|(exact⟨az.drew,bD,bC,cF⟩)|(exact FH (by assumption) (by assumption))|(exact FH (by assumption) (Ext.refl _)))
  (first
   |(go_at_call 136;have cX:=aD;refine(HB.o _ _ (H0.o.den.ext (qau (by assumption)))).mono ?_;rintro e w2 ⟨rfl,ak⟩;have hz1:=ak.size)
   |(go_at_call 136;refine(HA.o _ _ (H0.o.num.ext (qau (by assumption)))).mono ?_;rintro e w1 ⟨rfl,hx0⟩;have aD:=hx0.size))
 all_goals go_wp2_with fail
 rename_i hS;obtain⟨hE,_,_,_⟩:=hS;simp only[World.size_drew]at aD;go_ret;exact⟨rfl,hE⟩
structure Ga (x:Nd):Prop where
 kind:(Lit.int .i64 x.kind).wf=true
 a:(Lit.int .i64 x.a).wf=true
 b:(Lit.int .i64 x.b).wf=true
 n:(Lit.int .i64 x.n).wf=true
 text:x.text.length<=maxLen
theorem Qq:laidOutB Tryz.prog=true:=by kernel_rfl
theorem Ef:Go.Maps.Keyed Tryz.prog 95:=
 Go.Maps.Keyed.of_law (deep_law_laid Qq (m:=3) (by omega) (of_decide_eq_true (by kernel_rfl)) (by kernel_rfl) (by rw[Tryz.underlying95]))
theorem LF:Tryz.prog.keyType 95=true:=by kernel_rfl
theorem J1:Tryz.prog.cellsOf 95=5:=by kernel_rfl
theorem QT:Tryz.prog.cellsOf 3=1:=by kernel_rfl
theorem LO:Tryz.prog.cellsOf 9=1:=by kernel_rfl
theorem JQ(x:Nd)(h:Ga x):∃l,keyOf Tryz.prog 95 (ndV x)=some l:=by
 have hs:(⟨x.text.toArray⟩:ByteArray).size<=maxLen:=by
  have:=h.text;rw[Cv];exact this
 obtain⟨m,hm⟩:∃m,Tryz.prog.types.size=m+1:=⟨Tryz.prog.types.size-1,by
  have:0<Tryz.prog.types.size:=of_decide_eq_true (by kernel_rfl);omega⟩
 obtain⟨q0,q1,q2,q3,_⟩:=h;refine Option.isSome_iff_exists.1 ?_
 unfold keyOf;rw[Tryz.underlying95];simp only[LF,qaE];rw[if_pos (by simp[ndV,Value.formed,Tryz.underlying95,J1]),hm];unfold Program.keyLits;rw[Tryz.underlying95];simp[ndV,Value.cells,J1,QT,LO,Program.keyLits,Tryz.underlying3,Tryz.underlying9,str,hs,q0,q1,q2,q3]
end Big
end Go.Proofs.YtkoaogkknnelaaaGreatDoor
