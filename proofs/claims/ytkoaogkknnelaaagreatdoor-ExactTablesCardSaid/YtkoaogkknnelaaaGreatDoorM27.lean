import Derived.Test.YtkoaogkknnelaaaGreatDoorM26
set_option linter.unusedVariables false
set_option linter.unusedSimpArgs false
set_option maxHeartbeats 4000000
set_option maxRecDepth 100000
namespace Go.Proofs.YtkoaogkknnelaaaGreatDoor
namespace Big
open Lib renaming hid → J
open Go.RowKit
theorem Ui(p:Int)(q:Nat)(r:Int)(s:Nat)(hq:0<q)(hs:0<s):GT (p*(s:Int)) ((q:Int)*r)=IT p q (CU r s) r.natAbs/\GU (p*(s:Int)) ((q:Int)*r)=IS p q (CU r s) r.natAbs:=by
 have h1:(p*(s:Int)).natAbs=(p*CU r s).natAbs:=by
  unfold CU;rw[qbT,qbT,CN,qaL]
 have h2:((q:Int)*r).natAbs=q*r.natAbs:=by rw[qbT,qaL]
 unfold GT GU IT IS EN Em;rw[h1,h2];refine⟨?_,rfl⟩;have key:∀(b b':Bool) (n:Nat),(n=0\/b=b')->sgn b n=sgn b' n:=by
  intro b b' n h;rcases h with rfl|rfl
  ·cases b<;>cases b'<;>rfl
  ·rfl
 refine key _ _ _ ?_
 by_cases hp:p=0
 ·left
  subst hp;rw[Int.zero_mul];exact Nat.zero_div _
 right
 have e1:decide (p*(s:Int)<0)=decide (p<0):=by
  rw[decide_eq_decide];constructor
  ·intro h;rcases Int.lt_or_le p 0 with h0|h0
   ·exact h0
   ·have:=Int.mul_nonneg h0 (show (0:Int)<=s by omega);omega
  ·intro h;exact Int.mul_neg_of_neg_of_pos h (by omega)
 have e2:decide ((q:Int)*r<0)=decide (r<0):=by
  rw[decide_eq_decide];constructor
  ·intro h;rcases Int.lt_or_le r 0 with h0|h0
   ·exact h0
   ·have:=Int.mul_nonneg (show (0:Int)<=q by omega) h0;omega
  ·intro h;exact Int.mul_neg_of_pos_of_neg (by omega) h
 rw[e1,e2];have cB:(0:Int)<s:=by omega
 by_cases hr:r<0
 ·rw[show CU r s= -(s:Int) by unfold CU;rw[decide_eq_true hr];rfl,decide_eq_true hr];rcases Int.lt_or_gt_of_ne hp with h0|h0
  ·rw[decide_eq_true h0,decide_eq_false (by have:=Int.mul_pos_of_neg_of_neg h0 (show-(s:Int)<0 by omega);omega)];rfl
  ·rw[decide_eq_false (by omega),decide_eq_true (Int.mul_neg_of_pos_of_neg h0 (by omega))];rfl
 ·rw[show CU r s=(s:Int) by unfold CU;rw[decide_eq_false hr];rfl,decide_eq_false hr];rw[e1];cases decide (p<0)<;>rfl
theorem TG(w:World)(z:Int)(h1: -9223372036854775808<=z)(h2:z<=9223372036854775807):
  Calls Tryz.prog 215 #[.int .i64 z] w fun e w'=>∃v',e= .returned v'/\AP w.heap.size w' v' z/\Ext w w':=by
 rcases Int.lt_or_le z 0 with h|h
 ·exact TF w z h h1
 ·obtain⟨n,rfl⟩:=qbF h;exact TE w n (by omega)
theorem SO(w:World)(v0:Value)(p:Int)(q:Nat)(h0:An w v0 p q)(n0:(Ac p.natAbs).length<=1000000)(m0:(Ac q).length<=1000000)(v1:Value)(r:Int)(s:Nat)(h1:An w v1 r s)(n1:(Ac r.natAbs).length<=1000000)(m1:(Ac s).length<=1000000):
  Calls Tryz.prog 220 #[v0,v1] w fun e w'=>e= .returned (.int .i64 (ES (p*(s:Int)) (r*(q:Int))))/\Ext w w':=by
 have H0:=J h0;have H1:=J h1;have Xj:=J (fun W v u a b=>K7 W v p q a n0 m0 u r s b n1 m1);have cT:=J (fun W v u a b=>Sw W v u (p*(s:Int)) (r*(q:Int)) a b (by have:=BF n0 m1;omega) (by have:=BF n1 m0;omega));obtain⟨b0,l0,A0,c0,k0,D0,e0,rfl⟩:=h0.shape;obtain⟨b1,l1,A1,c1,k1,D1,e1,rfl⟩:=h1.shape;clear h0 h1;go_enter Tryz.func220,Tryz.ntmps220;go_wp2_with fail;have hb0:=((Blk.new w 26 #[.bool b0,.slice A0 l0 c0,.slice D0 k0 e0]).alloc (.cells #[.bool b1,.slice A1 l1 c1,.slice D1 k1 e1] 26));have am:=(Blk.new (w.alloc (.cells #[.bool b0,.slice A0 l0 c0,.slice D0 k0 e0] 26)) 26 #[.bool b1,.slice A1 l1 c1,.slice D1 k1 e1]);have az:=(((Ext.refl w).alloc (.cells #[.bool b0,.slice A0 l0 c0,.slice D0 k0 e0] 26)).alloc (.cells #[.bool b1,.slice A1 l1 c1,.slice D1 k1 e1] 26));have aq:w.heap.size+1+1=((w.alloc (.cells #[.bool b0,.slice A0 l0 c0,.slice D0 k0 e0] 26)).alloc (.cells #[.bool b1,.slice A1 l1 c1,.slice D1 k1 e1] 26)).heap.size:=by simp
 simp only[World.size_alloc]at am;generalize (w.alloc (.cells #[.bool b0,.slice A0 l0 c0,.slice D0 k0 e0] 26)).alloc (.cells #[.bool b1,.slice A1 l1 c1,.slice D1 k1 e1] 26)=wo at *;have aj:=J hb0;have ag:=J am;have HX:=J az;have HZ:Hid (w.heap.size+1+1<=wo.heap.size):=J (by omega);clear az aq hb0 am;refine(Xj.o _ _ _ (H0.o.ext HX.o) (H1.o.ext HX.o)).mono ?_
 rintro e w1 ⟨r0,r1,rfl,aG,aZ,hx0⟩;have au:=J (HX.o.trans hx0);have mt:=J hx0.size;have R0:=J aG;have R1:=J aZ;have aj:=J (aj.o.ext hx0);have ag:=J (ag.o.ext hx0);obtain⟨f0,g0,G0,j0,rfl⟩:=aG.shape;obtain⟨f1,g1,G1,j1,rfl⟩:=aZ.shape;clear aG aZ hx0;go_wp2_with fail;refine(cT.o _ _ _ ((R0.o.ext ((Ext.refl _).alloc _)).ext ((Ext.refl _).alloc _)).arr ((R1.o.ext ((Ext.refl _).alloc _)).ext ((Ext.refl _).alloc _)).arr).mono ?_
 rintro e w2 ⟨rfl,ah⟩;go_wp2_with fail;go_ret;exact⟨rfl,((au.o.alloc _).alloc _).trans ah⟩
theorem M6(w:World)(v0:Value)(p:Int)(q:Nat)(h0:An w v0 p q)(n0:(Ac p.natAbs).length<=1000000)(m0:(Ac q).length<=1000000)(v1:Value)(r:Int)(s:Nat)(h1:An w v1 r s)(n1:(Ac r.natAbs).length<=1000000)(m1:(Ac s).length<=1000000)(hq:0<q)(hs:0<s):
  Calls Tryz.prog 257 #[v0,v1] w fun e w'=>∃v',e= .returned v'/\Ag w.heap.size w' v' (M8 p q r s) (M7 p q r s)/\Ext w w':=by
 have H0:=J h0;have H1:=J h1;have Xj:=J (fun W v u a b=>K7 W v p q a n0 m0 u r s b n1 m1);have nM:=J (fun W v u a b=>Sx W v u (p*(s:Int)) (r*(q:Int)) a b (by have:=BF n0 m1;omega) (by have:=BF n1 m0;omega));have qD:=J (fun W m m' a b=>E7 W m m' (Ac q) (Ac s) a b (by omega) (by omega));rw[Ad,Ad]at qD;have lU:=J (fun W v u a b=>FD W v u (p*(s:Int)+r*(q:Int)) (Ac (q*s)) a b (by have:=JO (BF n0 m1) (BF n1 m0);omega) (by have:=Ed m0 m1;omega) (by rw[Ad];exact Nat.pos_iff_ne_zero.1 (qcr hq hs)));rw[Ad]at lU;obtain⟨b0,l0,A0,c0,k0,D0,e0,rfl⟩:=h0.shape;obtain⟨b1,l1,A1,c1,k1,D1,e1,rfl⟩:=h1.shape;clear h0 h1;go_enter Tryz.func257,Tryz.ntmps257;go_wp2_with fail;have hb0:=(((Blk.new w 26 #[.bool b0,.slice A0 l0 c0,.slice D0 k0 e0]).alloc (.cells #[.bool b1,.slice A1 l1 c1,.slice D1 k1 e1] 26)).alloc (.cells #[.bool false,.slice none 0 0,.slice none 0 0] 26));have am:=((Blk.new (w.alloc (.cells #[.bool b0,.slice A0 l0 c0,.slice D0 k0 e0] 26)) 26 #[.bool b1,.slice A1 l1 c1,.slice D1 k1 e1]).alloc (.cells #[.bool false,.slice none 0 0,.slice none 0 0] 26));have hb2:=(Blk.new ((w.alloc (.cells #[.bool b0,.slice A0 l0 c0,.slice D0 k0 e0] 26)).alloc (.cells #[.bool b1,.slice A1 l1 c1,.slice D1 k1 e1] 26)) 26 #[.bool false,.slice none 0 0,.slice none 0 0]);have az:=((((Ext.refl w).alloc (.cells #[.bool b0,.slice A0 l0 c0,.slice D0 k0 e0] 26)).alloc (.cells #[.bool b1,.slice A1 l1 c1,.slice D1 k1 e1] 26)).alloc (.cells #[.bool false,.slice none 0 0,.slice none 0 0] 26));have aq:w.heap.size+1+1+1=(((w.alloc (.cells #[.bool b0,.slice A0 l0 c0,.slice D0 k0 e0] 26)).alloc (.cells #[.bool b1,.slice A1 l1 c1,.slice D1 k1 e1] 26)).alloc (.cells #[.bool false,.slice none 0 0,.slice none 0 0] 26)).heap.size:=by simp
 simp only[World.size_alloc]at am hb2;generalize ((w.alloc (.cells #[.bool b0,.slice A0 l0 c0,.slice D0 k0 e0] 26)).alloc (.cells #[.bool b1,.slice A1 l1 c1,.slice D1 k1 e1] 26)).alloc (.cells #[.bool false,.slice none 0 0,.slice none 0 0] 26)=wo at *;have aj:=J hb0;have ag:=J am;have ba:=J hb2;have HX:=J az;have HZ:Hid (w.heap.size+1+1+1<=wo.heap.size):=J (by omega);clear az aq hb0 am hb2;refine(Xj.o _ _ _ (H0.o.ext HX.o) (H1.o.ext HX.o)).mono ?_
 rintro e w1 ⟨r0,r1,rfl,aG,aZ,hx0⟩;have au:=J (HX.o.trans hx0);have mt:=J hx0.size;have R0:=J aG;have R1:=J aZ;have aj:=J (aj.o.ext hx0);have ag:=J (ag.o.ext hx0);have ba:=J (ba.o.ext hx0);obtain⟨f0,g0,G0,j0,rfl⟩:=aG.shape;obtain⟨f1,g1,G1,j1,rfl⟩:=aZ.shape;clear aG aZ hx0;go_wp2_with fail;have Yk:=(Blk.new w1 24 #[.bool f0,.slice G0 g0 j0]).alloc (.cells #[.bool f1,.slice G1 g1 j1] 24);have dR:=Blk.new (w1.alloc (.cells #[.bool f0,.slice G0 g0 j0] 24)) 24 #[.bool f1,.slice G1 g1 j1];have qN:=((Ext.refl w1).alloc (.cells #[.bool f0,.slice G0 g0 j0] 24)).alloc (.cells #[.bool f1,.slice G1 g1 j1] 24);simp only[World.size_alloc]at dR;have hza:=qN.size;generalize (w1.alloc (.cells #[.bool f0,.slice G0 g0 j0] 24)).alloc (.cells #[.bool f1,.slice G1 g1 j1] 24)=wz at *;have Z7:=au.o.trans qN;have R0:=J (R0.o.ext qN.drew);have R1:=J (R1.o.ext qN.drew);have XH:=aj.o.ext qN;have XF:=ag.o.ext qN;have XW:=ba.o.ext qN;have hzw:w.heap.size+1+1+1<=w1.heap.size:=qae HZ.o mt.o;obtain⟨_,_,qx,_⟩:=XH.three;obtain⟨_,_,qy,_⟩:=XF.three;obtain⟨t0,t1,t2,s0,s1,s2,eC⟩:=XW.three;obtain⟨ZV,ZU,_⟩:=Yk.two;obtain⟨ZT,ZS,_⟩:=dR.two;clear XH XF XW Yk dR qN aj ag ba HX au HZ mt
 go_region_held3 (fun w'=>Ext w w'/\w'.cell? ⟨w.heap.size,2,none⟩=some (Value.slice D0 k0 e0)/\w'.cell? ⟨w.heap.size+1,2,none⟩=some (Value.slice D1 k1 e1)/\w'.cell? ⟨w1.heap.size,0,none⟩=some (Value.bool f0)/\w'.cell? ⟨w1.heap.size,1,none⟩=some (Value.slice G0 g0 j0)/\w'.cell? ⟨w1.heap.size+1,0,none⟩=some (Value.bool f1)/\w'.cell? ⟨w1.heap.size+1,1,none⟩=some (Value.slice G1 g1 j1)/\w'.cell? ⟨w.heap.size+1+1,0,none⟩=some (was w' (w.heap.size+1+1) 0)/\w'.cell? ⟨w.heap.size+1+1,1,none⟩=some (was w' (w.heap.size+1+1) 1)/\w'.cell? ⟨w.heap.size+1+1,2,none⟩=some (was w' (w.heap.size+1+1) 2)/\w'.frozen? ⟨w.heap.size+1+1,0,none⟩=false/\w'.frozen? ⟨w.heap.size+1+1,1,none⟩=false/\w'.frozen? ⟨w.heap.size+1+1,2,none⟩=false)
  (first|(exact⟨Z7.drew,qx,qy,ZV,ZU,ZT,ZS,Ae (w:=wz.drew) t0,Ae (w:=wz.drew) t1,Ae (w:=wz.drew) t2,s0,s1,s2⟩)|(exact Dg (by assumption) (by assumption))|(exact BT (by assumption) (by omega) (by omega) (by omega) (by omega) (by omega) (by omega) (by omega)))
  (first
   |(go_at_call 211;have kL:=la;refine(lU.o _ _ _ R2.o.arr R3.o.arr).mono ?_;rintro e w4 ⟨r4,rfl,fB,bf⟩;have pZ:=bf.size;have R2:=J (R2.o.ext bf);have R3:=J (R3.o.ext bf);have R4:=J fB;obtain⟨f4,g4,G4,j4,y4,Y4,z4,rfl⟩:=fB.shape)
   |(go_at_call 277;have jr:=bu;refine(qD.o _ _ _ (H0.o.den.ext (qau (by assumption))) (H1.o.den.ext (qau (by assumption)))).mono ?_;rintro e w3 ⟨r3,rfl,cE,ab⟩;have la:=ab.size;have R2:=J (R2.o.ext ab);have R3:=J cE;obtain⟨g3,G3,j3,rfl⟩:=cE.shape)
   |(go_at_call 281;refine(nM.o _ _ _ R0.o.arr R1.o.arr).mono ?_;rintro e w2 ⟨r2,rfl,ay,ah⟩;have bu:=ah.size;have R2:=J ay;obtain⟨f2,g2,G2,j2,rfl⟩:=ay.shape))
 all_goals go_wp2_with fail
 rename_i hS;obtain⟨hE,_,_,_,_,_,_,c0,c1,c2,_,_,_⟩:=hS;simp only[World.size_drew]at bu;obtain⟨ai,ac,hr2⟩:=Cu c0 c1 c2;refine bodyPost_ret (v:= .agg #[.bool f4,.slice G4 g4 j4,.slice Y4 y4 z4]) (by simp[results,Tryz.results257,go_sem,ai,ac,hr2]) rfl ?_
 exact⟨_,rfl,R4.o.put (by omega) (by omega),hE⟩
theorem Rn(w:World)(v0:Value)(p:Int)(q:Nat)(h0:An w v0 p q)(n0:(Ac p.natAbs).length<=1000000)(m0:(Ac q).length<=1000000)(v1:Value)(r:Int)(s:Nat)(h1:An w v1 r s)(n1:(Ac r.natAbs).length<=1000000)(m1:(Ac s).length<=1000000)(hq:0<q)(hs:0<s):
  Calls Tryz.prog 258 #[v0,v1] w fun e w'=>∃v',e= .returned v'/\Ag w.heap.size w' v' (M8 p q (-r) s) (M7 p q (-r) s)/\Ext w w':=by
 have H0:=J h0;have H1:=J h1;have iT:=J (fun W v a=>GS W v r s a n1 m1);have nM:=J (fun W v u a b=>M6 W v p q a n0 m0 u (-r) s b (by rw[qbS];exact n1) m1 hq hs);obtain⟨b0,l0,A0,c0,k0,D0,e0,rfl⟩:=h0.shape;obtain⟨b1,l1,A1,c1,k1,D1,e1,rfl⟩:=h1.shape;clear h0 h1;go_enter Tryz.func258,Tryz.ntmps258;go_wp2_with fail;have hb0:=(((Blk.new w 26 #[.bool b0,.slice A0 l0 c0,.slice D0 k0 e0]).alloc (.cells #[.bool b1,.slice A1 l1 c1,.slice D1 k1 e1] 26)).alloc (.cells #[.bool false,.slice none 0 0,.slice none 0 0] 26));have am:=((Blk.new (w.alloc (.cells #[.bool b0,.slice A0 l0 c0,.slice D0 k0 e0] 26)) 26 #[.bool b1,.slice A1 l1 c1,.slice D1 k1 e1]).alloc (.cells #[.bool false,.slice none 0 0,.slice none 0 0] 26));have hb2:=(Blk.new ((w.alloc (.cells #[.bool b0,.slice A0 l0 c0,.slice D0 k0 e0] 26)).alloc (.cells #[.bool b1,.slice A1 l1 c1,.slice D1 k1 e1] 26)) 26 #[.bool false,.slice none 0 0,.slice none 0 0]);have az:=((((Ext.refl w).alloc (.cells #[.bool b0,.slice A0 l0 c0,.slice D0 k0 e0] 26)).alloc (.cells #[.bool b1,.slice A1 l1 c1,.slice D1 k1 e1] 26)).alloc (.cells #[.bool false,.slice none 0 0,.slice none 0 0] 26));have aq:w.heap.size+1+1+1=(((w.alloc (.cells #[.bool b0,.slice A0 l0 c0,.slice D0 k0 e0] 26)).alloc (.cells #[.bool b1,.slice A1 l1 c1,.slice D1 k1 e1] 26)).alloc (.cells #[.bool false,.slice none 0 0,.slice none 0 0] 26)).heap.size:=by simp
 simp only[World.size_alloc]at am hb2;generalize ((w.alloc (.cells #[.bool b0,.slice A0 l0 c0,.slice D0 k0 e0] 26)).alloc (.cells #[.bool b1,.slice A1 l1 c1,.slice D1 k1 e1] 26)).alloc (.cells #[.bool false,.slice none 0 0,.slice none 0 0] 26)=wo at *;obtain⟨bD,bC,cF,_,_,_,_⟩:=hb0.three;obtain⟨cK,cJ,dX,_,_,_,_⟩:=am.three;obtain⟨t0,t1,t2,s0,s1,s2,eC⟩:=hb2.three;clear hb0 am hb2
 go_region_held3 (fun w'=>Ext w w'/\w'.cell? ⟨w.heap.size,0,none⟩=some (Value.bool b0)/\w'.cell? ⟨w.heap.size,1,none⟩=some (Value.slice A0 l0 c0)/\w'.cell? ⟨w.heap.size,2,none⟩=some (Value.slice D0 k0 e0)/\w'.cell? ⟨w.heap.size+1,0,none⟩=some (Value.bool b1)/\w'.cell? ⟨w.heap.size+1,1,none⟩=some (Value.slice A1 l1 c1)/\w'.cell? ⟨w.heap.size+1,2,none⟩=some (Value.slice D1 k1 e1)/\w'.cell? ⟨w.heap.size+1+1,0,none⟩=some (was w' (w.heap.size+1+1) 0)/\w'.cell? ⟨w.heap.size+1+1,1,none⟩=some (was w' (w.heap.size+1+1) 1)/\w'.cell? ⟨w.heap.size+1+1,2,none⟩=some (was w' (w.heap.size+1+1) 2)/\w'.frozen? ⟨w.heap.size+1+1,0,none⟩=false/\w'.frozen? ⟨w.heap.size+1+1,1,none⟩=false/\w'.frozen? ⟨w.heap.size+1+1,2,none⟩=false)
  (first|(exact⟨az.drew,bD,bC,cF,cK,cJ,dX,Ae (w:=wo.drew) t0,Ae (w:=wo.drew) t1,Ae (w:=wo.drew) t2,s0,s1,s2⟩)|(exact Dg (by assumption) (by assumption))|(exact BT (by assumption) (by omega) (by omega) (by omega) (by omega) (by omega) (by omega) (by omega)))
  (first
   |(go_at_call 257;have cX:=aD;refine(nM.o _ _ _ (H0.o.ext (qau (by assumption))) R0.o.arr).mono ?_;rintro e w2 ⟨r1,rfl,aZ,ak⟩;have hz1:=ak.size;have R0:=J (R0.o.ext ak);have R1:=J aZ;obtain⟨f1,g1,G1,j1,y1,Y1,z1,rfl⟩:=aZ.shape)
   |(go_at_call 141;refine(iT.o _ _ (H1.o.ext (qau (by assumption)))).mono ?_;rintro e w1 ⟨r0,rfl,aG,hx0⟩;have aD:=hx0.size;have R0:=J aG;obtain⟨f0,g0,G0,j0,y0,Y0,z0,rfl⟩:=aG.shape))
 all_goals go_wp2_with fail
 rename_i hS;obtain⟨hE,_,_,_,_,_,_,hc0,hc1,df,_,_,_⟩:=hS;simp only[World.size_drew]at aD;obtain⟨ai,ac,hr2⟩:=Cu hc0 hc1 df;refine bodyPost_ret (v:= .agg #[.bool f1,.slice G1 g1 j1,.slice Y1 y1 z1]) (by simp[results,Tryz.results258,go_sem,ai,ac,hr2]) rfl ?_
 exact⟨_,rfl,R1.o.put (by omega) (by omega),hE⟩
theorem SK(w:World)(v0:Value)(p:Int)(q:Nat)(h0:An w v0 p q)(n0:(Ac p.natAbs).length<=1000000)(m0:(Ac q).length<=1000000)(v1:Value)(r:Int)(s:Nat)(h1:An w v1 r s)(n1:(Ac r.natAbs).length<=1000000)(m1:(Ac s).length<=1000000)(hq:0<q)(hr:r≠0):
  Calls Tryz.prog 218 #[v0,v1] w fun e w'=>∃v',e= .returned (.tuple #[v',.int .i64 0])/\Ag w.heap.size w' v' (IT p q (CU r s) r.natAbs) (IS p q (CU r s) r.natAbs)/\Ext w w':=by
 have H0:=J h0;have H1:=J h1;have fo:=J (fun W v a=>Da W v r s a n1 m1);have hsg:(sgZ r == 0)=false:=by rw[beq_eq_false_iff_ne];unfold sgZ;split<;>(try split)<;>omega
 have xC:=J (fun W v a=>MJ W v r s a n1 m1);have HM:=J (fun W v u a b=>Mz W v p q a n0 m0 u (CU r s) r.natAbs b (by unfold CU;rw[CN];exact m1) n1 hq (by omega));obtain⟨b0,l0,A0,c0,k0,D0,e0,rfl⟩:=h0.shape;obtain⟨b1,l1,A1,c1,k1,D1,e1,rfl⟩:=h1.shape;generalize sgZ r=sg at *;clear h0 h1 hr;go_enter Tryz.func218,Tryz.ntmps218;go_wp2_with fail;have hb0:=(((Blk.new w 26 #[.bool b0,.slice A0 l0 c0,.slice D0 k0 e0]).alloc (.cells #[.bool b1,.slice A1 l1 c1,.slice D1 k1 e1] 26)).alloc (.cells #[.bool false,.slice none 0 0,.slice none 0 0] 26));have am:=((Blk.new (w.alloc (.cells #[.bool b0,.slice A0 l0 c0,.slice D0 k0 e0] 26)) 26 #[.bool b1,.slice A1 l1 c1,.slice D1 k1 e1]).alloc (.cells #[.bool false,.slice none 0 0,.slice none 0 0] 26));have hb2:=(Blk.new ((w.alloc (.cells #[.bool b0,.slice A0 l0 c0,.slice D0 k0 e0] 26)).alloc (.cells #[.bool b1,.slice A1 l1 c1,.slice D1 k1 e1] 26)) 26 #[.bool false,.slice none 0 0,.slice none 0 0]);have az:=((((Ext.refl w).alloc (.cells #[.bool b0,.slice A0 l0 c0,.slice D0 k0 e0] 26)).alloc (.cells #[.bool b1,.slice A1 l1 c1,.slice D1 k1 e1] 26)).alloc (.cells #[.bool false,.slice none 0 0,.slice none 0 0] 26));have aq:w.heap.size+1+1+1=(((w.alloc (.cells #[.bool b0,.slice A0 l0 c0,.slice D0 k0 e0] 26)).alloc (.cells #[.bool b1,.slice A1 l1 c1,.slice D1 k1 e1] 26)).alloc (.cells #[.bool false,.slice none 0 0,.slice none 0 0] 26)).heap.size:=by simp
 simp only[World.size_alloc]at am hb2;generalize ((w.alloc (.cells #[.bool b0,.slice A0 l0 c0,.slice D0 k0 e0] 26)).alloc (.cells #[.bool b1,.slice A1 l1 c1,.slice D1 k1 e1] 26)).alloc (.cells #[.bool false,.slice none 0 0,.slice none 0 0] 26)=wo at *;refine(fo.o _ _ (H1.o.ext az)).mono ?_
 rintro e wl ⟨rfl,mc⟩;have hb0:=hb0.ext mc;have am:=am.ext mc;have hb2:=hb2.ext mc;have az:=az.trans mc;have mF:=mc.size;go_wp2_with fail;obtain⟨bD,bC,cF,_,_,_,_⟩:=hb0.three;obtain⟨cK,cJ,dX,_,_,_,_⟩:=am.three;obtain⟨t0,t1,t2,s0,s1,s2,eC⟩:=hb2.three;clear hb0 am hb2
 go_region_held3 (fun w'=>Ext w w'/\w'.cell? ⟨w.heap.size,0,none⟩=some (Value.bool b0)/\w'.cell? ⟨w.heap.size,1,none⟩=some (Value.slice A0 l0 c0)/\w'.cell? ⟨w.heap.size,2,none⟩=some (Value.slice D0 k0 e0)/\w'.cell? ⟨w.heap.size+1,0,none⟩=some (Value.bool b1)/\w'.cell? ⟨w.heap.size+1,1,none⟩=some (Value.slice A1 l1 c1)/\w'.cell? ⟨w.heap.size+1,2,none⟩=some (Value.slice D1 k1 e1)/\w'.cell? ⟨w.heap.size+1+1,0,none⟩=some (was w' (w.heap.size+1+1) 0)/\w'.cell? ⟨w.heap.size+1+1,1,none⟩=some (was w' (w.heap.size+1+1) 1)/\w'.cell? ⟨w.heap.size+1+1,2,none⟩=some (was w' (w.heap.size+1+1) 2)/\w'.frozen? ⟨w.heap.size+1+1,0,none⟩=false/\w'.frozen? ⟨w.heap.size+1+1,1,none⟩=false/\w'.frozen? ⟨w.heap.size+1+1,2,none⟩=false)
  (first|(exact⟨az.drew,bD,bC,cF,cK,cJ,dX,Ae (w:=wl.drew) t0,Ae (w:=wl.drew) t1,Ae (w:=wl.drew) t2,s0,s1,s2⟩)|(exact Dg (by assumption) (by assumption))|(exact BT (by assumption) (by omega) (by omega) (by omega) (by omega) (by omega) (by omega) (by omega)))
  (first
   |(go_at_call 253;have cX:=aD;refine(HM.o _ _ _ (H0.o.ext (qau (by assumption))) R0.o.arr).mono ?_;rintro e w2 ⟨r1,rfl,aZ,ak⟩;have hz1:=ak.size;have R0:=J (R0.o.ext ak);have R1:=J aZ;obtain⟨f1,g1,G1,j1,y1,Y1,z1,rfl⟩:=aZ.shape)
   |(go_at_call 251;refine(xC.o _ _ (H1.o.ext (qau (by assumption)))).mono ?_;rintro e w1 ⟨r0,rfl,aG,hx0⟩;have aD:=hx0.size;have R0:=J aG;obtain⟨f0,g0,G0,j0,y0,Y0,z0,rfl⟩:=aG.shape))
 all_goals go_wp2_with fail
 rename_i hS;obtain⟨hE,_,_,_,_,_,_,hc0,hc1,df,_,_,_⟩:=hS;simp only[World.size_drew]at aD;obtain⟨ai,ac,hr2⟩:=Cu hc0 hc1 df;refine bodyPost_ret (v:= .tuple #[.agg #[.bool f1,.slice G1 g1 j1,.slice Y1 y1 z1],.int .i64 0]) (by simp[results,Tryz.results218,go_sem,ai,ac,hr2]) rfl ?_
 exact⟨_,rfl,R1.o.put (by omega) (by omega),hE⟩
theorem NV(w:World)(v0:Value)(p:Int)(q:Nat)(h0:An w v0 p q)(n0:(Ac p.natAbs).length<=1000000)(m0:(Ac q).length<=1000000)(v1:Value)(r:Int)(s:Nat)(h1:An w v1 r s)(n1:(Ac r.natAbs).length<=1000000)(m1:(Ac s).length<=1000000)(hr:r=0):
  Calls Tryz.prog 146 #[v0,v1] w fun e w'=>∃v',e= .returned (.tuple #[v',.int .i64 2])/\Ag w.heap.size w' v' (0) (0)/\Ext w w':=by
 have H0:=J h0;have H1:=J h1;have pV:=J (fun W v a=>C0 W v p q a n0 m0);have gP:=J (fun W v a=>C0 W v r s a n1 m1);have qE:=J (fun W v u a b=>Ch W v p a (by omega) u (s:Int) b (by rw[AI];omega));have jB:=J (fun W v u a b=>Ch W v (q:Int) a (by rw[AI];omega) u r b (by omega));have mw:=J (fun W v u (a:Ap W v (p*(s:Int))) (b:Ap W u ((q:Int)*r))=>NS W v u (p*(s:Int)) a (by rw[hr,Int.mul_zero]at b;exact b));obtain⟨b0,l0,A0,c0,k0,D0,e0,rfl⟩:=h0.shape;obtain⟨b1,l1,A1,c1,k1,D1,e1,rfl⟩:=h1.shape;clear h0 h1;go_enter Tryz.func146,Tryz.ntmps146;go_wp2_with fail;have hb0:=(((Blk.new w 26 #[.bool b0,.slice A0 l0 c0,.slice D0 k0 e0]).alloc (.cells #[.bool b1,.slice A1 l1 c1,.slice D1 k1 e1] 26)).alloc (.cells #[.bool false,.slice none 0 0,.slice none 0 0] 26));have am:=((Blk.new (w.alloc (.cells #[.bool b0,.slice A0 l0 c0,.slice D0 k0 e0] 26)) 26 #[.bool b1,.slice A1 l1 c1,.slice D1 k1 e1]).alloc (.cells #[.bool false,.slice none 0 0,.slice none 0 0] 26));have hb2:=(Blk.new ((w.alloc (.cells #[.bool b0,.slice A0 l0 c0,.slice D0 k0 e0] 26)).alloc (.cells #[.bool b1,.slice A1 l1 c1,.slice D1 k1 e1] 26)) 26 #[.bool false,.slice none 0 0,.slice none 0 0]);have az:=((((Ext.refl w).alloc (.cells #[.bool b0,.slice A0 l0 c0,.slice D0 k0 e0] 26)).alloc (.cells #[.bool b1,.slice A1 l1 c1,.slice D1 k1 e1] 26)).alloc (.cells #[.bool false,.slice none 0 0,.slice none 0 0] 26));have aq:w.heap.size+1+1+1=(((w.alloc (.cells #[.bool b0,.slice A0 l0 c0,.slice D0 k0 e0] 26)).alloc (.cells #[.bool b1,.slice A1 l1 c1,.slice D1 k1 e1] 26)).alloc (.cells #[.bool false,.slice none 0 0,.slice none 0 0] 26)).heap.size:=by simp
 simp only[World.size_alloc]at am hb2;generalize ((w.alloc (.cells #[.bool b0,.slice A0 l0 c0,.slice D0 k0 e0] 26)).alloc (.cells #[.bool b1,.slice A1 l1 c1,.slice D1 k1 e1] 26)).alloc (.cells #[.bool false,.slice none 0 0,.slice none 0 0] 26)=wo at *;obtain⟨bD,bC,cF,_,_,_,_⟩:=hb0.three;obtain⟨cK,cJ,dX,_,_,_,_⟩:=am.three;obtain⟨t0,t1,t2,s0,s1,s2,eC⟩:=hb2.three;clear hb0 am hb2
 go_region_held3 (fun w'=>Ext w w'/\w'.cell? ⟨w.heap.size,0,none⟩=some (Value.bool b0)/\w'.cell? ⟨w.heap.size,1,none⟩=some (Value.slice A0 l0 c0)/\w'.cell? ⟨w.heap.size,2,none⟩=some (Value.slice D0 k0 e0)/\w'.cell? ⟨w.heap.size+1,0,none⟩=some (Value.bool b1)/\w'.cell? ⟨w.heap.size+1,1,none⟩=some (Value.slice A1 l1 c1)/\w'.cell? ⟨w.heap.size+1,2,none⟩=some (Value.slice D1 k1 e1)/\w'.cell? ⟨w.heap.size+1+1,0,none⟩=some (was w' (w.heap.size+1+1) 0)/\w'.cell? ⟨w.heap.size+1+1,1,none⟩=some (was w' (w.heap.size+1+1) 1)/\w'.cell? ⟨w.heap.size+1+1,2,none⟩=some (was w' (w.heap.size+1+1) 2)/\w'.frozen? ⟨w.heap.size+1+1,0,none⟩=false/\w'.frozen? ⟨w.heap.size+1+1,1,none⟩=false/\w'.frozen? ⟨w.heap.size+1+1,2,none⟩=false)
  (first|(exact⟨az.drew,bD,bC,cF,cK,cJ,dX,Ae (w:=wo.drew) t0,Ae (w:=wo.drew) t1,Ae (w:=wo.drew) t2,s0,s1,s2⟩)|(exact Dg (by assumption) (by assumption))|(exact BT (by assumption) (by omega) (by omega) (by omega) (by omega) (by omega) (by omega) (by omega)))
  (first
   |(go_at_call 63;have kL:=la;refine(mw.o _ _ _ R1.o.arr R3.o.arr).mono ?_;rintro e w5 ⟨r4,rfl,fB,bf⟩;have pZ:=bf.size;have R0:=J (R0.o.ext bf);have R1:=J (R1.o.ext bf);have R2:=J (R2.o.ext bf);have R3:=J (R3.o.ext bf);have R4:=J fB;obtain⟨f4,g4,G4,j4,y4,Y4,z4,rfl⟩:=fB.shape)
   |(go_at_call 191;have jr:=bu;refine(jB.o _ _ _ R2.o.arr (H1.o.int.ext (qau (by assumption)))).mono ?_;rintro e w4 ⟨r3,rfl,cE,ab⟩;have la:=ab.size;have R0:=J (R0.o.ext ab);have R1:=J (R1.o.ext ab);have R2:=J (R2.o.ext ab);have R3:=J cE;obtain⟨f3,g3,G3,j3,rfl⟩:=cE.shape)
   |(go_at_call 192;have js:=hz1;refine(pV.o _ _ (H0.o.ext (qau (by assumption)))).mono ?_;rintro e w3 ⟨r2,rfl,ay,ah⟩;have bu:=ah.size;have R0:=J (R0.o.ext ah);have R1:=J (R1.o.ext ah);have R2:=J ay;obtain⟨f2,g2,G2,j2,rfl⟩:=ay.shape)
   |(go_at_call 191;have cX:=aD;refine(qE.o _ _ _ (H0.o.int.ext (qau (by assumption))) R0.o.arr).mono ?_;rintro e w2 ⟨r1,rfl,aZ,ak⟩;have hz1:=ak.size;have R0:=J (R0.o.ext ak);have R1:=J aZ;obtain⟨f1,g1,G1,j1,rfl⟩:=aZ.shape)
   |(go_at_call 192;refine(gP.o _ _ (H1.o.ext (qau (by assumption)))).mono ?_;rintro e w1 ⟨r0,rfl,aG,hx0⟩;have aD:=hx0.size;have R0:=J aG;obtain⟨f0,g0,G0,j0,rfl⟩:=aG.shape))
 all_goals go_wp2_with fail
 rename_i hS;obtain⟨hE,_,_,_,_,_,_,hc0,hc1,df,_,_,_⟩:=hS;simp only[World.size_drew]at aD;obtain⟨ai,ac,hr2⟩:=Cu hc0 hc1 df;refine bodyPost_ret (v:= .tuple #[.agg #[.bool f4,.slice G4 g4 j4,.slice Y4 y4 z4],.int .i64 2]) (by simp[results,Tryz.results146,go_sem,ai,ac,hr2]) rfl ?_
 exact⟨_,rfl,R4.o.put (by omega) (by omega),hE⟩
theorem KF(w:World)(v0:Value)(p:Int)(q:Nat)(h0:An w v0 p q)(n0:(Ac p.natAbs).length<=1000000)(m0:(Ac q).length<=1000000)(v1:Value)(r:Int)(s:Nat)(h1:An w v1 r s)(n1:(Ac r.natAbs).length<=1000000)(m1:(Ac s).length<=1000000)(hq:0<q)(hs:0<s)(hr:r≠0):
  Calls Tryz.prog 146 #[v0,v1] w fun e w'=>∃v',e= .returned (.tuple #[v',.int .i64 0])/\Ag w.heap.size w' v' (IT p q (CU r s) r.natAbs) (IS p q (CU r s) r.natAbs)/\Ext w w':=by
 have H0:=J h0;have H1:=J h1;have pV:=J (fun W v a=>C0 W v p q a n0 m0);have gP:=J (fun W v a=>C0 W v r s a n1 m1);have qE:=J (fun W v u a b=>Ch W v p a (by omega) u (s:Int) b (by rw[AI];omega));have jB:=J (fun W v u a b=>Ch W v (q:Int) a (by rw[AI];omega) u r b (by omega));have mw:=J (fun W v u a b=>KA W v u (p*(s:Int)) ((q:Int)*r) a b (by have:=BF n0 m1;omega) (by rw[qbT,qaL];have:=Ed m0 n1;omega) (Int.mul_ne_zero (by omega) hr));rw[(Ui p q r s hq hs).1,(Ui p q r s hq hs).2]at mw;obtain⟨b0,l0,A0,c0,k0,D0,e0,rfl⟩:=h0.shape;obtain⟨b1,l1,A1,c1,k1,D1,e1,rfl⟩:=h1.shape;clear h0 h1;go_enter Tryz.func146,Tryz.ntmps146;go_wp2_with fail;have hb0:=(((Blk.new w 26 #[.bool b0,.slice A0 l0 c0,.slice D0 k0 e0]).alloc (.cells #[.bool b1,.slice A1 l1 c1,.slice D1 k1 e1] 26)).alloc (.cells #[.bool false,.slice none 0 0,.slice none 0 0] 26));have am:=((Blk.new (w.alloc (.cells #[.bool b0,.slice A0 l0 c0,.slice D0 k0 e0] 26)) 26 #[.bool b1,.slice A1 l1 c1,.slice D1 k1 e1]).alloc (.cells #[.bool false,.slice none 0 0,.slice none 0 0] 26));have hb2:=(Blk.new ((w.alloc (.cells #[.bool b0,.slice A0 l0 c0,.slice D0 k0 e0] 26)).alloc (.cells #[.bool b1,.slice A1 l1 c1,.slice D1 k1 e1] 26)) 26 #[.bool false,.slice none 0 0,.slice none 0 0]);have az:=((((Ext.refl w).alloc (.cells #[.bool b0,.slice A0 l0 c0,.slice D0 k0 e0] 26)).alloc (.cells #[.bool b1,.slice A1 l1 c1,.slice D1 k1 e1] 26)).alloc (.cells #[.bool false,.slice none 0 0,.slice none 0 0] 26));have aq:w.heap.size+1+1+1=(((w.alloc (.cells #[.bool b0,.slice A0 l0 c0,.slice D0 k0 e0] 26)).alloc (.cells #[.bool b1,.slice A1 l1 c1,.slice D1 k1 e1] 26)).alloc (.cells #[.bool false,.slice none 0 0,.slice none 0 0] 26)).heap.size:=by simp
 simp only[World.size_alloc]at am hb2;generalize ((w.alloc (.cells #[.bool b0,.slice A0 l0 c0,.slice D0 k0 e0] 26)).alloc (.cells #[.bool b1,.slice A1 l1 c1,.slice D1 k1 e1] 26)).alloc (.cells #[.bool false,.slice none 0 0,.slice none 0 0] 26)=wo at *;obtain⟨bD,bC,cF,_,_,_,_⟩:=hb0.three;obtain⟨cK,cJ,dX,_,_,_,_⟩:=am.three;obtain⟨t0,t1,t2,s0,s1,s2,eC⟩:=hb2.three;clear hb0 am hb2
 go_region_held3 (fun w'=>Ext w w'/\w'.cell? ⟨w.heap.size,0,none⟩=some (Value.bool b0)/\w'.cell? ⟨w.heap.size,1,none⟩=some (Value.slice A0 l0 c0)/\w'.cell? ⟨w.heap.size,2,none⟩=some (Value.slice D0 k0 e0)/\w'.cell? ⟨w.heap.size+1,0,none⟩=some (Value.bool b1)/\w'.cell? ⟨w.heap.size+1,1,none⟩=some (Value.slice A1 l1 c1)/\w'.cell? ⟨w.heap.size+1,2,none⟩=some (Value.slice D1 k1 e1)/\w'.cell? ⟨w.heap.size+1+1,0,none⟩=some (was w' (w.heap.size+1+1) 0)/\w'.cell? ⟨w.heap.size+1+1,1,none⟩=some (was w' (w.heap.size+1+1) 1)/\w'.cell? ⟨w.heap.size+1+1,2,none⟩=some (was w' (w.heap.size+1+1) 2)/\w'.frozen? ⟨w.heap.size+1+1,0,none⟩=false/\w'.frozen? ⟨w.heap.size+1+1,1,none⟩=false/\w'.frozen? ⟨w.heap.size+1+1,2,none⟩=false)
  (first|(exact⟨az.drew,bD,bC,cF,cK,cJ,dX,Ae (w:=wo.drew) t0,Ae (w:=wo.drew) t1,Ae (w:=wo.drew) t2,s0,s1,s2⟩)|(exact Dg (by assumption) (by assumption))|(exact BT (by assumption) (by omega) (by omega) (by omega) (by omega) (by omega) (by omega) (by omega)))
  (first
   |(go_at_call 63;have kL:=la;refine(mw.o _ _ _ R1.o.arr R3.o.arr).mono ?_;rintro e w5 ⟨r4,rfl,fB,bf⟩;have pZ:=bf.size;have R0:=J (R0.o.ext bf);have R1:=J (R1.o.ext bf);have R2:=J (R2.o.ext bf);have R3:=J (R3.o.ext bf);have R4:=J fB;obtain⟨f4,g4,G4,j4,y4,Y4,z4,rfl⟩:=fB.shape)
   |(go_at_call 191;have jr:=bu;refine(jB.o _ _ _ R2.o.arr (H1.o.int.ext (qau (by assumption)))).mono ?_;rintro e w4 ⟨r3,rfl,cE,ab⟩;have la:=ab.size;have R0:=J (R0.o.ext ab);have R1:=J (R1.o.ext ab);have R2:=J (R2.o.ext ab);have R3:=J cE;obtain⟨f3,g3,G3,j3,rfl⟩:=cE.shape)
   |(go_at_call 192;have js:=hz1;refine(pV.o _ _ (H0.o.ext (qau (by assumption)))).mono ?_;rintro e w3 ⟨r2,rfl,ay,ah⟩;have bu:=ah.size;have R0:=J (R0.o.ext ah);have R1:=J (R1.o.ext ah);have R2:=J ay;obtain⟨f2,g2,G2,j2,rfl⟩:=ay.shape)
   |(go_at_call 191;have cX:=aD;refine(qE.o _ _ _ (H0.o.int.ext (qau (by assumption))) R0.o.arr).mono ?_;rintro e w2 ⟨r1,rfl,aZ,ak⟩;have hz1:=ak.size;have R0:=J (R0.o.ext ak);have R1:=J aZ;obtain⟨f1,g1,G1,j1,rfl⟩:=aZ.shape)
   |(go_at_call 192;refine(gP.o _ _ (H1.o.ext (qau (by assumption)))).mono ?_;rintro e w1 ⟨r0,rfl,aG,hx0⟩;have aD:=hx0.size;have R0:=J aG;obtain⟨f0,g0,G0,j0,rfl⟩:=aG.shape))
 all_goals go_wp2_with fail
 rename_i hS;obtain⟨hE,_,_,_,_,_,_,hc0,hc1,df,_,_,_⟩:=hS;simp only[World.size_drew]at aD;obtain⟨ai,ac,hr2⟩:=Cu hc0 hc1 df;refine bodyPost_ret (v:= .tuple #[.agg #[.bool f4,.slice G4 g4 j4,.slice Y4 y4 z4],.int .i64 0]) (by simp[results,Tryz.results146,go_sem,ai,ac,hr2]) rfl ?_
 exact⟨_,rfl,R4.o.put (by omega) (by omega),hE⟩
theorem Rx(w:World)(v0:Value)(p:Int)(q:Nat)(h0:An w v0 p q)(n0:(Ac p.natAbs).length<=100000000)(m0:(Ac q).length<=100000000)(v1:Value)(r:Int)(s:Nat)(h1:An w v1 r s)(n1:(Ac r.natAbs).length<=100000000)(m1:(Ac s).length<=100000000)(hpr:p=r):
  Calls Tryz.prog 18 #[v0,v1] w fun e w'=>e= .returned (.bool (decide (q=s)))/\Ext w w':=by
 have H0:=J h0;have H1:=J h1;have ge:=J (fun W v u a b=>Kw W v u p r a b (by omega) (by omega));rw[decide_eq_true hpr]at ge;have lM:=J (fun W m m' a b=>In W m m' q s a b (by omega) (by omega));obtain⟨b0,l0,A0,c0,k0,D0,e0,rfl⟩:=h0.shape;obtain⟨b1,l1,A1,c1,k1,D1,e1,rfl⟩:=h1.shape;clear h0 h1 hpr;go_enter Tryz.func18,Tryz.ntmps18;go_wp2_with fail;have hb0:=((Blk.new w 26 #[.bool b0,.slice A0 l0 c0,.slice D0 k0 e0]).alloc (.cells #[.bool b1,.slice A1 l1 c1,.slice D1 k1 e1] 26));have am:=(Blk.new (w.alloc (.cells #[.bool b0,.slice A0 l0 c0,.slice D0 k0 e0] 26)) 26 #[.bool b1,.slice A1 l1 c1,.slice D1 k1 e1]);have az:=(((Ext.refl w).alloc (.cells #[.bool b0,.slice A0 l0 c0,.slice D0 k0 e0] 26)).alloc (.cells #[.bool b1,.slice A1 l1 c1,.slice D1 k1 e1] 26));have aq:w.heap.size+1+1=((w.alloc (.cells #[.bool b0,.slice A0 l0 c0,.slice D0 k0 e0] 26)).alloc (.cells #[.bool b1,.slice A1 l1 c1,.slice D1 k1 e1] 26)).heap.size:=by simp
 simp only[World.size_alloc]at am;generalize (w.alloc (.cells #[.bool b0,.slice A0 l0 c0,.slice D0 k0 e0] 26)).alloc (.cells #[.bool b1,.slice A1 l1 c1,.slice D1 k1 e1] 26)=wo at *;have aj:=J hb0;have ag:=J am;have HX:=J az;have HZ:Hid (w.heap.size+1+1<=wo.heap.size):=J (by omega);clear az aq hb0 am;refine(ge.o _ _ _ (H0.o.int.ext HX.o) (H1.o.int.ext HX.o)).mono ?_
 rintro e w1 ⟨rfl,hx0⟩;have HX:=J (HX.o.trans hx0);have el:=J hx0.size;have aj:=J (aj.o.ext hx0);have ag:=J (ag.o.ext hx0);clear hx0;have bB:=aj.o.three;have dW:=ag.o.three;go_wp2_with fail;refine(lM.o _ _ _ (H0.o.den.ext HX.o) (H1.o.den.ext HX.o)).mono ?_
 rintro e w2 ⟨rfl,rfl⟩;have ff:=aj.o.three;have lr:=ag.o.three;go_wp2_with fail;go_ret;exact⟨rfl,HX.o⟩
theorem Ry(w:World)(v0:Value)(p:Int)(q:Nat)(h0:An w v0 p q)(n0:(Ac p.natAbs).length<=100000000)(yq:(Ac q).length<=100000000)(v1:Value)(r:Int)(s:Nat)(h1:An w v1 r s)(n1:(Ac r.natAbs).length<=100000000)(_m1:(Ac s).length<=100000000)(hpr:¬p=r):
  Calls Tryz.prog 18 #[v0,v1] w fun e w'=>e= .returned (.bool false)/\Ext w w':=by
 have H0:=J h0;have H1:=J h1;have ge:=J (fun W v u a b=>Kw W v u p r a b (by omega) (by omega));rw[decide_eq_false hpr]at ge;obtain⟨b0,l0,A0,c0,k0,D0,e0,rfl⟩:=h0.shape;obtain⟨b1,l1,A1,c1,k1,D1,e1,rfl⟩:=h1.shape;clear h0 h1 hpr;go_enter Tryz.func18,Tryz.ntmps18;go_wp2_with fail;have hb0:=((Blk.new w 26 #[.bool b0,.slice A0 l0 c0,.slice D0 k0 e0]).alloc (.cells #[.bool b1,.slice A1 l1 c1,.slice D1 k1 e1] 26));have am:=(Blk.new (w.alloc (.cells #[.bool b0,.slice A0 l0 c0,.slice D0 k0 e0] 26)) 26 #[.bool b1,.slice A1 l1 c1,.slice D1 k1 e1]);have az:=(((Ext.refl w).alloc (.cells #[.bool b0,.slice A0 l0 c0,.slice D0 k0 e0] 26)).alloc (.cells #[.bool b1,.slice A1 l1 c1,.slice D1 k1 e1] 26));have aq:w.heap.size+1+1=((w.alloc (.cells #[.bool b0,.slice A0 l0 c0,.slice D0 k0 e0] 26)).alloc (.cells #[.bool b1,.slice A1 l1 c1,.slice D1 k1 e1] 26)).heap.size:=by simp
 simp only[World.size_alloc]at am;generalize (w.alloc (.cells #[.bool b0,.slice A0 l0 c0,.slice D0 k0 e0] 26)).alloc (.cells #[.bool b1,.slice A1 l1 c1,.slice D1 k1 e1] 26)=wo at *;have aj:=J hb0;have ag:=J am;have HX:=J az;have HZ:Hid (w.heap.size+1+1<=wo.heap.size):=J (by omega);clear az aq hb0 am;refine(ge.o _ _ _ (H0.o.int.ext HX.o) (H1.o.int.ext HX.o)).mono ?_
 rintro e w1 ⟨rfl,hx0⟩;have HX:=J (HX.o.trans hx0);have el:=J hx0.size;have aj:=J (aj.o.ext hx0);have ag:=J (ag.o.ext hx0);clear hx0;have bB:=aj.o.three;have dW:=ag.o.three;go_wp2_with fail;go_ret;exact⟨rfl,HX.o⟩
theorem NM(w:World)(v:Value)(p:Int)(q:Nat)(h:An w v p q)(n0:(Ac p.natAbs).length<=100000000)(m0:(Ac q).length<=100000000)(u:Value)(r:Int)(s:Nat)(h':An w u r s)(n1:(Ac r.natAbs).length<=100000000)(m1:(Ac s).length<=100000000):
  Calls Tryz.prog 18 #[v,u] w fun e w'=>e= .returned (.bool (decide (p=r/\q=s)))/\Ext w w':=by
 by_cases hpr:p=r
 ·rw[show decide (p=r/\q=s)=decide (q=s) by rw[decide_eq_decide];exact⟨And.right,fun e=>⟨hpr,e⟩⟩];exact Rx w v p q h n0 m0 u r s h' n1 m1 hpr
 ·rw[show decide (p=r/\q=s)=false from decide_eq_false (fun e=>hpr e.1)];exact Ry w v p q h n0 m0 u r s h' n1 m1 hpr
theorem FU{n:Nat}(h:n<18446744073709551616):(Ac n).length<=2:=AH (qan h (by decide))
theorem RE(w:World)(n:Nat)(hn:n<9223372036854775808):
  Calls Tryz.prog 119 #[.int .i64 (n:Int)] w fun e w'=>∃v',e= .returned v'/\AP w.heap.size w' v' ((n:Int))/\Ext w w':=by
 have dG:=J (fun W=>GF W n (by omega));have HI:=J (fun W m a=>Cg W false m (Ac n) a (by have:=FU (show n<18446744073709551616 by omega);omega));rw[Ad,show sgn false n=(n:Int) from rfl]at HI;have hz:¬(n:Int)<0:=by omega
 go_enter Tryz.func119,Tryz.ntmps119;go_wp2_with fail;have hb0:=(Blk.new w 24 #[.bool false,.slice none 0 0]);have az:=((Ext.refl w).alloc (.cells #[.bool false,.slice none 0 0] 24));have aq:w.heap.size+1=(w.alloc (.cells #[.bool false,.slice none 0 0] 24)).heap.size:=by simp
 generalize w.alloc (.cells #[.bool false,.slice none 0 0] 24)=wo at *;have aj:=J hb0;have HX:=J az;have HZ:Hid (w.heap.size+1<=wo.heap.size):=J (by omega);clear az aq hb0;refine(dG.o _).mono ?_
 rintro e w1 ⟨r0,rfl,aG,hx0⟩;have HX:=J (HX.o.trans hx0);have el:=J hx0.size;have aj:=J (aj.o.ext hx0);have R0:=J aG;obtain⟨g0,G0,j0,rfl⟩:=aG.shape;clear hx0 aG;have bB:=aj.o.two;go_wp2_with fail;refine(HI.o _ _ R0.o.arr).mono ?_
 rintro e w2 ⟨r1,rfl,aZ,ak⟩;have HX:=J (HX.o.trans ak);have mt:=J ak.size;have aj:=J (aj.o.ext ak);have R0:=J (R0.o.ext ak);have R1:=J aZ;obtain⟨f1,g1,G1,j1,rfl⟩:=aZ.shape;clear ak aZ;have ff:=aj.o.two;go_wp2_with fail;obtain⟨ai,ac⟩:=B7 aj.o (.bool f1) (.slice G1 g1 j1);refine bodyPost_ret (v:= .agg #[.bool f1,.slice G1 g1 j1]) (by simp[results,Tryz.results119,go_sem,ai,ac]) rfl ?_
 exact⟨_,rfl,R1.o.put (by have:=HZ.o;have:=el.o;omega) (by have:=HZ.o;have:=el.o;omega),(HX.o.setCell (qab _) _).setCell (qab _) _⟩
theorem RF(w:World)(n:Nat)(h1:1<=n)(hn:n<=9223372036854775808):
  Calls Tryz.prog 119 #[.int .i64 (-(n:Int))] w fun e w'=>∃v',e= .returned v'/\AP w.heap.size w' v' (-(n:Int))/\Ext w w':=by
 have dG:=J (fun W=>GF W n (by omega));have HI:=J (fun W m a=>Cg W true m (Ac n) a (by have:=FU (show n<18446744073709551616 by omega);omega));rw[Ad,show sgn true n= -(n:Int) from rfl]at HI;have hz: -(n:Int)<0:=by omega
 have hw:∀x:Int,IntKind.u64.wrap x=x % 18446744073709551616:=fun x=>by simp[IntKind.wrap,IntKind.bits,IntKind.signed]
 have uv:IntKind.u64.wrap (-IntKind.u64.wrap (-(n:Int)))=(n:Int):=by rw[hw,hw];omega
 clear hw;go_enter Tryz.func119,Tryz.ntmps119;go_wp2_with fail;have hb0:=(Blk.new w 24 #[.bool false,.slice none 0 0]);have az:=((Ext.refl w).alloc (.cells #[.bool false,.slice none 0 0] 24));have aq:w.heap.size+1=(w.alloc (.cells #[.bool false,.slice none 0 0] 24)).heap.size:=by simp
 generalize w.alloc (.cells #[.bool false,.slice none 0 0] 24)=wo at *;have aj:=J hb0;have HX:=J az;have HZ:Hid (w.heap.size+1<=wo.heap.size):=J (by omega);clear az aq hb0;refine(dG.o _).mono ?_
 rintro e w1 ⟨r0,rfl,aG,hx0⟩;have HX:=J (HX.o.trans hx0);have el:=J hx0.size;have aj:=J (aj.o.ext hx0);have R0:=J aG;obtain⟨g0,G0,j0,rfl⟩:=aG.shape;clear hx0 aG;have bB:=aj.o.two;go_wp2_with fail;refine(HI.o _ _ R0.o.arr).mono ?_
 rintro e w2 ⟨r1,rfl,aZ,ak⟩;have HX:=J (HX.o.trans ak);have mt:=J ak.size;have aj:=J (aj.o.ext ak);have R0:=J (R0.o.ext ak);have R1:=J aZ;obtain⟨f1,g1,G1,j1,rfl⟩:=aZ.shape;clear ak aZ;have ff:=aj.o.two;go_wp2_with fail;obtain⟨ai,ac⟩:=B7 aj.o (.bool f1) (.slice G1 g1 j1);refine bodyPost_ret (v:= .agg #[.bool f1,.slice G1 g1 j1]) (by simp[results,Tryz.results119,go_sem,ai,ac]) rfl ?_
 exact⟨_,rfl,R1.o.put (by have:=HZ.o;have:=el.o;omega) (by have:=HZ.o;have:=el.o;omega),(HX.o.setCell (qab _) _).setCell (qab _) _⟩
theorem Me(w:World)(z:Int)(h1: -9223372036854775808<=z)(h2:z<=9223372036854775807):
  Calls Tryz.prog 119 #[.int .i64 z] w fun e w'=>∃v',e= .returned v'/\AP w.heap.size w' v' z/\Ext w w':=by
 rcases Int.lt_or_le z 0 with h|h
 ·obtain⟨n,hn⟩:∃n:Nat,z= -(n:Int):=⟨z.natAbs,by omega⟩;subst hn;exact RF w n (by omega) (by omega)
 ·obtain⟨n,rfl⟩:=qbF h;exact RE w n (by omega)
theorem Qm{z:Int}(h1: -9223372036854775808<=z)(h2:z<=9223372036854775807):(Ac z.natAbs).length<=2:=FU (by omega)
theorem D9(w:World)(z:Int)(h1: -9223372036854775808<=z)(h2:z<=9223372036854775807):
  Calls Tryz.prog 59 #[.int .i64 z] w fun e w'=>∃v',e= .returned v'/\Ag w.heap.size w' v' (z) (1)/\Ext w w':=by
 have fN:=J (fun W=>Me W z h1 h2);have em:=J (fun W=>Me W 1 (by decide) (by decide));have dG:=J (fun W v u a b=>Jr W v u z 1 a b (by have:=Qm h1 h2;omega) (by have:=FU (show 1<18446744073709551616 by decide);omega) (by decide));rw[(JK (FT z)).1,(JK (FT z)).2]at dG;go_enter Tryz.func59,Tryz.ntmps59;go_wp2_with fail;have hb0:=(Blk.new w 26 #[.bool false,.slice none 0 0,.slice none 0 0]);have az:=((Ext.refl w).alloc (.cells #[.bool false,.slice none 0 0,.slice none 0 0] 26));have aq:w.heap.size+1=(w.alloc (.cells #[.bool false,.slice none 0 0,.slice none 0 0] 26)).heap.size:=by simp
 generalize w.alloc (.cells #[.bool false,.slice none 0 0,.slice none 0 0] 26)=wo at *;have aj:=J hb0;have HX:=J az;have HZ:Hid (w.heap.size+1<=wo.heap.size):=J (by omega);clear az aq hb0;refine(fN.o _).mono ?_
 rintro e w1 ⟨r0,rfl,aG,hx0⟩;have HX:=J (HX.o.trans hx0);have el:=J hx0.size;have aj:=J (aj.o.ext hx0);have R0:=J aG;obtain⟨f0,g0,G0,j0,rfl⟩:=aG.shape;clear hx0 aG;have bB:=aj.o.three;go_wp2_with fail;refine(em.o _).mono ?_
 rintro e w2 ⟨r1,rfl,aZ,ak⟩;have HX:=J (HX.o.trans ak);have mt:=J ak.size;have aj:=J (aj.o.ext ak);have R0:=J (R0.o.ext ak);have R1:=J aZ;obtain⟨f1,g1,G1,j1,rfl⟩:=aZ.shape;clear ak aZ;have ff:=aj.o.three;go_wp2_with fail;refine(dG.o _ _ _ R0.o.arr R1.o.arr).mono ?_
 rintro e w3 ⟨r2,rfl,ay,ah⟩;have HX:=J (HX.o.trans ah);have tC:=J ah.size;have aj:=J (aj.o.ext ah);have R0:=J (R0.o.ext ah);have R1:=J (R1.o.ext ah);have R2:=J ay;obtain⟨f2,g2,G2,j2,y2,Y2,z2,rfl⟩:=ay.shape;clear ah ay;have rC:=aj.o.three;go_wp2_with fail;obtain⟨ai,ac,hr2⟩:=Aj aj.o (.bool f2) (.slice G2 g2 j2) (.slice Y2 y2 z2);refine bodyPost_ret (v:= .agg #[.bool f2,.slice G2 g2 j2,.slice Y2 y2 z2]) (by simp[results,Tryz.results59,go_sem,ai,ac,hr2]) rfl ?_
 exact⟨_,rfl,R2.o.put (by have:=HZ.o;have:=el.o;have:=mt.o;omega) (by have:=HZ.o;have:=el.o;have:=mt.o;omega),((HX.o.setCell (qab _) _).setCell (qab _) _).setCell (qab _) _⟩
theorem Ec(w:World)(z:Int)(h1: -9223372036854775808<=z)(h2:z<=9223372036854775807):
  Calls Tryz.prog 184 #[.int .i64 z] w fun e w'=>∃v',e= .returned v'/\Ag w.heap.size w' v' (z) (1)/\Ext w w':=by
 have fN:=J (fun W=>TG W z h1 h2);have em:=J (fun W=>Gk W 1 (by decide));go_enter Tryz.func184,Tryz.ntmps184;go_wp2_with fail;have hb0:=(Blk.new w 26 #[.bool false,.slice none 0 0,.slice none 0 0]);have az:=((Ext.refl w).alloc (.cells #[.bool false,.slice none 0 0,.slice none 0 0] 26));have aq:w.heap.size+1=(w.alloc (.cells #[.bool false,.slice none 0 0,.slice none 0 0] 26)).heap.size:=by simp
 generalize w.alloc (.cells #[.bool false,.slice none 0 0,.slice none 0 0] 26)=wo at *;have aj:=J hb0;have HX:=J az;have HZ:Hid (w.heap.size+1<=wo.heap.size):=J (by omega);clear az aq hb0;refine(fN.o _).mono ?_
 rintro e w1 ⟨r0,rfl,aG,hx0⟩;have HX:=J (HX.o.trans hx0);have el:=J hx0.size;have aj:=J (aj.o.ext hx0);have R0:=J aG;obtain⟨f0,g0,G0,j0,rfl⟩:=aG.shape;clear hx0 aG;have bB:=aj.o.three;go_wp2_with fail;refine(em.o _).mono ?_
 rintro e w2 ⟨r1,rfl,aZ,ak⟩;have HX:=J (HX.o.trans ak);have mt:=J ak.size;have aj:=J (aj.o.ext ak);have R0:=J (R0.o.ext ak);have R1:=J aZ;obtain⟨g1,G1,j1,rfl⟩:=aZ.shape;clear ak aZ;have ff:=aj.o.three;go_wp2_with fail;obtain⟨ai,ac,hr2⟩:=Aj aj.o (.bool f0) (.slice G0 g0 j0) (.slice G1 g1 j1);refine bodyPost_ret (v:= .agg #[.bool f0,.slice G0 g0 j0,.slice G1 g1 j1]) (by simp[results,Tryz.results184,go_sem,ai,ac,hr2]) rfl ?_
 exact⟨_,rfl,Ag.put (w1:=wo) (Ag.mk R0.o (R1.o.mono el.o)) (by have:=HZ.o;omega) (by have:=HZ.o;omega),((HX.o.setCell (qab _) _).setCell (qab _) _).setCell (qab _) _⟩
theorem E8{V L:Nat}(h:(Ac V).length<=L)(j:Nat):(Ac (V ^ j)).length<=j*L+1:=by
 induction j with
 |zero=>
  rw[Nat.pow_zero];have:(Ac 1).length=1:=by decide+kernel
  omega
 |succ j ih=>
  rw[qay,qaY,qbo];have:=AG ih h;omega
theorem Bz{V:Nat}(h:(Ac V).length<=1000000){j:Nat}(hj:j<=64):(Ac (V ^ j)).length<=64000001:=by
 have h1:=E8 h j;have h2:j*1000000<=64*1000000:=qaF _ hj;omega
theorem Dt:Ac 1=[1]:=by decide+kernel
theorem LE{m:Nat}(h:(Ac m).length=1):Ac m=[m]:=by
 have h0:m≠0:=by rintro rfl;simp[Be]at h
 rw[CD m h0]at h ⊢;have h1:Ac (m / 4294967296)=[]:=qap (by simpa using h);rw[h1];have h2:=Bw.1 h1
 congr 1
 omega
theorem OC:∀a:Fin 65,bits .and .i64 (a.val:Int) 1=((a.val % 2:Nat):Int):=by decide+kernel
theorem RY(n k:Nat):n / 2 ^ k=2*(n / 2 ^ (k+1))+n / 2 ^ k % 2:=by
 rw[qay,<-qch];omega
theorem Jc(w:World)(v0:Value)(xs:List Nat)(h0:Arr w v0 xs)(n0:xs.length<=268435456):
  Calls Tryz.prog 276 #[v0] w fun e w'=>∃v',e= .returned v'/\Own w.heap.size w' v' (Ac (val xs*val xs))/\Ext w w':=by
 have H0:=J h0;have HM:=J (fun W m m' a b=>E7 W m m' xs xs a b (by omega) (by omega));obtain⟨l0,A0,c0,rfl⟩:=h0.shape;clear h0;go_enter Tryz.func276,Tryz.ntmps276;go_wp2_with fail;have az:=(Ext.refl w);have aq:w.heap.size=w.heap.size:=by simp
 have HX:=J (Ext.refl w);clear az aq;refine(HM.o _ _ _ (H0.o.ext HX.o) (H0.o.ext HX.o)).mono ?_
 rintro e w1 ⟨r0,rfl,aG,hx0⟩;have HX:=J (HX.o.trans hx0);have el:=J hx0.size;have R0:=J aG;obtain⟨g0,G0,j0,rfl⟩:=aG.shape;clear hx0 aG;go_wp2_with fail;go_ret;exact⟨_,rfl,R0.o,HX.o⟩
def Fk(w wr:World)(V n:Nat)(s5 s6:Value):Prop:=
 (∃k:Nat,k<=6/\s6= .int .i64 (k:Int)/\Own w.heap.size wr s5 (Ac (V ^ (n / 2 ^ (k+1))))/\Ext w wr)\/(s6= .int .i64 (-1)/\Own w.heap.size wr s5 (Ac (V ^ n))/\Ext w wr)
theorem Fk.next{w wr:World}{V n k:Nat}{s5:Value}(hk:k<=6)(ho:Own w.heap.size wr s5 (Ac (V ^ (n / 2 ^ k))))(hx:Ext w wr):Fk w wr V n s5 (.int .i64 ((k:Int)-1)):=by
 cases k with
 |zero=>right;rw[Nat.pow_zero,Nat.div_one]at ho;exact⟨rfl,ho,hx⟩
 |succ k=>left;exact⟨k,by omega,by congr 1;omega,ho,hx⟩
theorem Fv(w:World)(v0:Value)(xs:List Nat)(n:Nat)(h0:Arr w v0 xs)(hl:xs.length<=1000000)(hn:n<=64):
  Calls Tryz.prog 252 #[v0,.int .i64 (n:Int)] w fun e w'=>∃v',e= .returned v'/\Own w.heap.size w' v' (Ac (val xs ^ n))/\Ext w w':=by
 have H0:=J h0;have hV:(Ac (val xs)).length<=1000000:=qae (Aq h0.ok) hl;have dG:=J (fun W=>Gk W 1 (by decide));obtain⟨l0,A0,c0,rfl⟩:=h0.shape;have om:¬(n:Int)<0:=by omega
 have dN:¬(64:Int)<(n:Int):=by omega
 have hn2:(n:Int)<=64:=by omega
 have hn3:(0:Int)<=(n:Int):=by omega
 have zP:min (n:Int) 64=(n:Int):=by omega
 clear h0;generalize hVe:val xs=V at *;have Wz:=J hVe;clear hVe;go_enter Tryz.func252,Tryz.ntmps252;go_wp2_with fail;refine(dG.o _).mono ?_
 rintro e w1 ⟨r0,rfl,aG,hx0⟩;have R0:=J aG;have au:=J hx0;obtain⟨g0,G0,j0,rfl⟩:=aG.shape;clear aG hx0 om dN hn2 hn3;go_wp2_with fail;clear zP;go_loopw [5,6] (fun s5 s6 wr=>Fk w wr V n s5 s6) (fun _ s6 _=>(intOf s6+1).toNat)
 case atStart=>exact .inl ⟨6,by omega,rfl,by rw[show n / 2 ^ (6+1)=0 from qbB (by omega),Nat.pow_zero];exact R0.o,au.o⟩
 case round=>
  rcases hrel with ⟨k,hk,rfl,ho,hx⟩|⟨rfl,ho,hx⟩
  ·have mm:(0:Int)<=(k:Int):=by omega
   have hk64:(k:Int)<=64:=by omega
   obtain⟨m1,im⟩:∃m1,m1=n / 2 ^ (k+1):=⟨_,rfl⟩;rw[<-im]at ho;have xX:=RY n k;rw[<-im]at xX;have cH:n / 2 ^ k<=n:=qbs _ _;obtain⟨b,hb⟩:∃b,b=n / 2 ^ k % 2:=⟨_,rfl⟩;have gX:bits .and .i64 ((n:Int) / 2 ^ k) 1=(b:Int):=by
    have h1:=OC ⟨n / 2 ^ k,by omega⟩;rw[hb,<-h1]
    congr 1
   rw[<-hb]at xX;have hb2:b<=1:=by omega
   have jB:=J xX;have vU:2*m1<=64:=by omega
   have HO:=J ho;have HX:=J hx;obtain⟨g5,A5,c5,rfl⟩:=ho.shape;have aH:=ho.arr.len;have eT:V ^ m1*V ^ m1=V ^ (2*m1):=by rw[Nat.two_mul,qbE]
   have iu:=J (fun W m a=>Jc W m (Ac (V ^ m1)) a (by have:=Bz hV (show m1<=64 by omega);omega));rw[Ad,eT]at iu;obtain⟨qc,A5',c5',he5,_,_,aa⟩:=ho.arr.open;injection he5 with e1 e2 e3
   subst e1;have gK:=J hV;have nJ:=J hl;have t5:=J vU;clear e2 e3 hb xX cH im eT hV hl vU;by_cases hone:V ^ m1=1
   ·have YC:V ^ (2*m1)=1:=by rw[Nat.two_mul,qbE,hone]
    have em:Hid (Own w.heap.size wr (.slice A5 g5 c5) (Ac (V ^ (2*m1)))):=J (by rw[YC,<-hone];exact HO.o);rw[hone,Dt]at aa aH;obtain⟨bb,oo,rfl,_,hc⟩:=aa (by simp);have hx0:wr.cell? ⟨bb,oo,none⟩=some (.int .u32 1):=hc 0 (by simp);rw[qal]at aH;subst aH;clear aa hc ho hx hone YC qc;have oM:b=0\/b=1:=by omega
    rcases oM with rfl|rfl
    ·have gX:bits .and .i64 ((n:Int) / 2 ^ k) 1=0:=gX;go_wp2_with fail;go_roundw
     case rel=>exact Fk.next hk (by rw[jB.o,qaN];exact em.o) (HX.o)
     case measure=>simp[intOf]<;>omega
    ·have lS:=J (fun W m a c=>E7 W m (.slice A0 l0 c0) (Ac (V ^ (2*m1))) xs a c (by have:=Bz gK.o t5.o;omega) (by have:=nJ.o;omega));rw[Ad,Wz.o]at lS;have gX:bits .and .i64 ((n:Int) / 2 ^ k) 1=1:=gX;go_wp2_with fail;refine(lS.o _ _ em.o.arr (H0.o.ext HX.o)).mono ?_
     rintro e w9 ⟨r9,rfl,jd,dt⟩;have R9:=J (jd.mono (HX.o).size);have eV:=J ((HX.o).trans dt);obtain⟨g9,G9,j9,rfl⟩:=jd.shape;clear jd dt;go_wp2_with fail;go_roundw
     case rel=>exact Fk.next hk (by rw[jB.o,qay];exact R9.o) eV.o
     case measure=>simp[intOf]<;>omega
   ·by_cases hg:g5=1
    ·subst hg;have hl1:=LE aH.symm;rw[hl1]at aa;obtain⟨bb,oo,rfl,_,hc⟩:=aa (by simp);have hx0:=hc 0 (by simp);rw[qaN]at hx0;simp only[qaD]at hx0;have hlt:V ^ m1<4294967296:=by
      have:=qc.get 0;rw[hl1]at this;exact this
     generalize V ^ m1=Y at *;simp only[d32]at hx0;have p6:((Y:Int) != 1)=true:=by rw[bne_iff_ne];omega
     have Z3:((Y:Int) == 1)=false:=by rw[beq_eq_false_iff_ne];omega
     clear aa hc ho hx hl1 aH qc;go_wp2_with fail;refine(iu.o _ _ HO.o.arr).mono ?_
     rintro e w8 ⟨r8,rfl,fA,bJ⟩;have R8:=J (fA.mono HX.o.size);have dF:=J (HX.o.trans bJ);obtain⟨g8,G8,j8,rfl⟩:=fA.shape;clear fA bJ;have oM:b=0\/b=1:=by omega
     rcases oM with rfl|rfl
     ·have gX:bits .and .i64 ((n:Int) / 2 ^ k) 1=0:=gX;go_wp2_with fail;go_roundw
      case rel=>exact Fk.next hk (by rw[jB.o,qaN];exact R8.o) (dF.o)
      case measure=>simp[intOf]<;>omega
     ·have lS:=J (fun W m a c=>E7 W m (.slice A0 l0 c0) (Ac (V ^ (2*m1))) xs a c (by have:=Bz gK.o t5.o;omega) (by have:=nJ.o;omega));rw[Ad,Wz.o]at lS;have gX:bits .and .i64 ((n:Int) / 2 ^ k) 1=1:=gX;go_wp2_with fail;refine(lS.o _ _ R8.o.arr (H0.o.ext dF.o)).mono ?_
      rintro e w9 ⟨r9,rfl,jd,dt⟩;have R9:=J (jd.mono (dF.o).size);have eV:=J ((dF.o).trans dt);obtain⟨g9,G9,j9,rfl⟩:=jd.shape;clear jd dt;go_wp2_with fail;go_roundw
      case rel=>exact Fk.next hk (by rw[jB.o,qay];exact R9.o) eV.o
      case measure=>simp[intOf]<;>omega
    ·have hne:((g5:Int) != 1)=true:=by rw[bne_iff_ne];omega
     have hne2:((g5:Int) == 1)=false:=by rw[beq_eq_false_iff_ne];omega
     clear aa ho hx aH qc hg;go_wp2_with fail;refine(iu.o _ _ HO.o.arr).mono ?_
     rintro e w8 ⟨r8,rfl,fA,bJ⟩;have R8:=J (fA.mono HX.o.size);have dF:=J (HX.o.trans bJ);obtain⟨g8,G8,j8,rfl⟩:=fA.shape;clear fA bJ;have oM:b=0\/b=1:=by omega
     rcases oM with rfl|rfl
     ·have gX:bits .and .i64 ((n:Int) / 2 ^ k) 1=0:=gX;go_wp2_with fail;go_roundw
      case rel=>exact Fk.next hk (by rw[jB.o,qaN];exact R8.o) (dF.o)
      case measure=>simp[intOf]<;>omega
     ·have lS:=J (fun W m a c=>E7 W m (.slice A0 l0 c0) (Ac (V ^ (2*m1))) xs a c (by have:=Bz gK.o t5.o;omega) (by have:=nJ.o;omega));rw[Ad,Wz.o]at lS;have gX:bits .and .i64 ((n:Int) / 2 ^ k) 1=1:=gX;go_wp2_with fail;refine(lS.o _ _ R8.o.arr (H0.o.ext dF.o)).mono ?_
      rintro e w9 ⟨r9,rfl,jd,dt⟩;have R9:=J (jd.mono (dF.o).size);have eV:=J ((dF.o).trans dt);obtain⟨g9,G9,j9,rfl⟩:=jd.shape;clear jd dt;go_wp2_with fail;go_roundw
      case rel=>exact Fk.next hk (by rw[jB.o,qay];exact R9.o) eV.o
      case measure=>simp[intOf]<;>omega
  ·have HO:=J ho;have HX:=J hx;obtain⟨g5,A5,c5,rfl⟩:=ho.shape;clear ho hx;go_wp2_with fail;go_ret;exact⟨_,rfl,HO.o,HX.o⟩
theorem M0(n:Nat):n<2 ^ AT n:=by
 unfold AT;split
 ·simp[*]
 ·exact Nat.lt_log2_self
theorem SS{n k:Nat}(h:n<2 ^ k):AT n<=k:=by
 unfold AT;split
 ·omega
 ·rename_i h0;have:=(Nat.log2_lt h0).2 h;omega
theorem FM{n L:Nat}(h:(Ac n).length<=L):AT n<=32*L:=by
 refine SS ?_
 have h1:=Cm (Cw n);rw[Ad]at h1;have h2:=Eb h;rw[qbY];exact qan h1 h2
theorem F7{b L:Nat}(h:b<=32*L):(Ac (2 ^ b)).length<=L+1:=by
 refine AH ?_
 have h1:2 ^ b<=2 ^ (32*L):=qbe (by omega) h;rw[qbY,show (2:Nat) ^ 32=4294967296 from rfl]at h1;rw[qay];have:0<4294967296 ^ L:=Fw L;omega
theorem Mx(w:World)(v0:Value)(xs:List Nat)(h0:Arr w v0 xs)(hl:xs.length<=10000)(lA:0<val xs):
  Calls Tryz.prog 296 #[v0,.int .i64 2] w fun e w'=>∃v' r,e= .returned v'/\DL (val xs) r/\Own w.heap.size w' v' (Ac r)/\Ext w w':=by
 have H0:=J h0;have hV:(Ac (val xs)).length<=10000:=qae (Aq h0.ok) hl;have dG:=J (fun W=>Gk W 1 (by decide));have kc:=J (fun W hx=>Ej W v0 xs (h0.ext hx) (by omega));have hB:=FM hV;have hlt:=M0 (val xs);have o6:=J (show val xs<2 ^ ((AT (val xs)+1) / 2)*2 ^ ((AT (val xs)+1) / 2) from qan hlt (QA _));obtain⟨l0,A0,c0,rfl⟩:=h0.shape;clear h0 hlt;have nJ:=J hl;have WK:=J lA;have gK:=J hV;clear hl lA hV;generalize AT (val xs)=B at *;obtain⟨S,hS⟩:∃S,S=(B+1) / 2:=⟨_,rfl⟩;have i3:Int.tdiv ((B:Int)+2-1) 2=(S:Int):=by rw[Int.tdiv_eq_ediv_of_nonneg (by omega)];omega
 have oe:((B:Int)+2-1) / 2=(S:Int):=by omega
 have od:Int.tdiv ((B:Int)+1) 2=(S:Int):=by rw[Int.tdiv_eq_ediv_of_nonneg (by omega)];omega
 have hq4:((B:Int)+1) / 2=(S:Int):=by omega
 have hBi:(B:Int)<=320000:=by omega
 have yp:(0:Int)<=(B:Int):=by omega
 rw[<-hS]at o6;have qv:=J (fun W m a=>Lg W m (Ac 1) S a (by rw[Dt];simp) (by omega));rw[Ad,qbo]at qv;have mX:Hid ((Ac (2 ^ S)).length<=10001):=J (F7 (by omega));clear hS hB;go_enter Tryz.func296,Tryz.ntmps296;go_wp2_with fail;refine(dG.o _).mono ?_
 rintro e w1 ⟨r0,rfl,aG,hx0⟩;have R0:=J aG;have au:=J hx0;obtain⟨g0,G0,j0,rfl⟩:=aG.shape;clear aG hx0;go_wp2_with fail;refine(kc.o _ au.o).mono ?_
 rintro e w2 ⟨rfl,rfl⟩;go_wp2_with fail;refine(qv.o _ _ R0.o.arr).mono ?_
 rintro e w3 ⟨r1,rfl,aZ,ak⟩;have R1:=J (aZ.mono au.o.size);have aE:=J (au.o.trans ak);obtain⟨g1,G1,j1,rfl⟩:=aZ.shape;clear aZ ak i3 oe od hq4 hBi yp dG kc qv;go_wp2_with fail
 go_loopg [5] (2 ^ S) (fun gh s5 wr=>∃(x g5 c5:Nat) (A5:Option Addr),gh=x/\s5= .slice A5 g5 c5/\0<x/\Own w.heap.size wr s5 (Ac x)/\(∀s,s*s<=val xs->s<=x)/\(Ac x).length<=10001/\Ext w wr)
 case atStart=>exact⟨2 ^ S,g1,j1,G1,rfl,rfl,qbb (by omega),R1.o,Ly o6.o,mX.o,aE.o⟩
 case round=>
  obtain⟨x,g5,c5,A5,jO,rfl,hx0,ho,fl,mc,ae⟩:=hrel;have jD:=J jO;have HO:=J ho;have HX:=J ae;have pk:=J fl;have HXL:=J mc;have bP:=J hx0;have HP:=J (fun W m a=>Fv W m (Ac x) 1 a (by omega) (by omega));rw[Ad,Nat.pow_one]at HP;have HD:=J (fun W m a b=>Et W (.slice A0 l0 c0) m xs (Ac x) a b (by have:=nJ.o;omega) (by omega) (by rw[Ad];omega));unfold Hm at HD;rw[Ad]at HD;have lk:=J (fun W m a=>E5 W m (Ac x) 1 0 a (by omega) (by decide) (by decide));rw[Ad,qbp,qaN]at lk;have sc:(Ac (val xs / x)).length<=10000:=qae (Ay (qbs _ _)) gK.o;have HA:=J (fun W m m' a b=>Pe W m m' (Ac x) (Ac (val xs / x)) a b (by omega) (by omega));rw[Ad,Ad]at HA;have kA:(Ac (x+val xs / x)).length<=20002:=by have:=Ci mc sc;omega
  have HQ:=J (fun W m a=>Jt W m (Ac (x+val xs / x)) 2 a (by omega) (by decide) (by decide));rw[Ad]at HQ;have nT:(Ac ((x+val xs / x) / 2)).length<=20002:=qae (Ay (qbs _ _)) kA;have HC:=J (fun W m m' a b=>Ey W m m' (Ac ((x+val xs / x) / 2)) (Ac x) a b (by omega) (by omega));rw[Ad,Ad]at HC;have qR:= @Mw (val xs) x hx0;have qe:=fun s=> @Oa (val xs) x s hx0
  clear jO ho ae fl hx0 sc kA nT mc;generalize (x+val xs / x) / 2=y at *;have hcn:= @Ei y x;generalize BZ y x=cc at *;have HK:=J (And.intro qR (And.intro qe hcn));have jS:cc<0\/0<=cc:=by omega
  clear qR qe hcn;go_wp2_with fail;refine(HP.o _ _ HO.o.arr).mono ?_
  rintro e w4 ⟨r4,rfl,fB,bf⟩;have R4:=J fB;have bE:=J (HX.o.trans bf);have m8:=J (HO.o.ext bf);obtain⟨g4,G4,j4,rfl⟩:=fB.shape;clear fB bf;go_wp2_with fail;refine(HD.o _ _ (H0.o.ext bE.o) R4.o.arr).mono ?_
  rintro e w5 ⟨r5,r6,rfl,dO,je,hx5⟩;have R5:=J dO;have dn:=J (bE.o.trans hx5);have rr:=J (m8.o.ext hx5);obtain⟨g6,G6,j6,rfl⟩:=dO.shape;obtain⟨g7,G7,j7,rfl⟩:=je.shape;clear dO je hx5;go_wp2_with fail;refine(lk.o _ _ rr.o.arr).mono ?_
  rintro e w6 ⟨r8,rfl,fA,dd⟩;have R8:=J fA;have dD:=J (dn.o.trans dd);have hU:=J (rr.o.ext dd);have R56:=J (R5.o.ext dd);obtain⟨g8,G8,j8,rfl⟩:=fA.shape;clear fA dd;go_wp2_with fail;refine(HA.o _ _ _ R8.o.arr R56.o.arr).mono ?_
  rintro e w7 ⟨r9,rfl,jd,bH⟩;have R9:=J jd;have db:=J (dD.o.trans bH);have m7:=J (hU.o.ext bH);obtain⟨g9,G9,j9,rfl⟩:=jd.shape;clear jd bH;go_wp2_with fail;refine(HQ.o _ _ R9.o.arr).mono ?_
  rintro e w8 ⟨ra,rfl,Vo,bJ⟩;have dF:=J (db.o.trans bJ);have xv:=J (m7.o.ext bJ);have RA:=J (Vo.mono db.o.size);obtain⟨ga,GA,ja,rfl⟩:=Vo.shape;clear Vo bJ;rcases jS with hc1|hc1
  ·have df:¬(0:Int)<=cc:=by omega
   go_wp2_with fail;refine(HC.o _ _ _ RA.o.arr xv.o.arr).mono ?_
   rintro e w9 ⟨rfl,dt⟩;have eV:=J (dF.o.trans dt);have RA9:=J (RA.o.ext dt);clear dt;go_wp2_with fail;have yZ:y<x:=HK.o.2.2.1 hc1;have hy0:0<y:=by
    have h1:=HK.o.2.1 1 (by have:=WK.o;omega);omega
   go_roundg y
   case rel=>exact⟨y,ga,ja,GA,rfl,rfl,hy0,RA9.o,HK.o.2.1,qae (Ay (qaK yZ)) HXL.o,eV.o⟩
   case measure=>rw[jD.o];exact yZ
  ·have df:(0:Int)<=cc:=hc1;go_wp2_with fail;refine(HC.o _ _ _ RA.o.arr xv.o.arr).mono ?_
   rintro e w9 ⟨rfl,dt⟩;have eV:=J (dF.o.trans dt);have HO9:=J (xv.o.ext dt);clear dt;go_wp2_with fail;go_ret;have mI:x<=y:=by
    rcases qah y x with h|h
    ·have:=HK.o.2.2.2 h;omega
    ·exact h
   exact⟨_,x,rfl,Ob pk.o (HK.o.1 mI),HO9.o,eV.o⟩
theorem NZ(w:World)(v0:Value)(xs:List Nat)(h0:Arr w v0 xs)(n0:xs.length<=10000)(hz:val xs=0):
  Calls Tryz.prog 279 #[v0] w fun e w'=>e= .returned (.tuple #[.slice none 0 0,.slice none 0 0])/\Ext w w':=by
 have H0:=J h0;have cQ:=J (fun W m a=>Bu W m xs a (by omega));have aD:(Ac (val xs)).length=0:=by rw[hz];rfl
 obtain⟨l0,A0,c0,rfl⟩:=h0.shape;clear h0 hz;go_enter Tryz.func279,Tryz.ntmps279;go_wp2_with fail;have az:=(Ext.refl w);have aq:w.heap.size=w.heap.size:=by simp
 have HX:=J (Ext.refl w);clear az aq;refine(cQ.o _ _ (H0.o.ext HX.o)).mono ?_
 rintro e w1 ⟨r0,rfl,aG,hx0⟩;have HX:=J (HX.o.trans hx0);have el:=J hx0.size;have R0:=J aG;obtain⟨g0,G0,j0,rfl⟩:=aG.shape;clear hx0 aG;have eZ:=R0.o.arr.len;have eC:g0=0:=eZ.trans aD;subst eC;clear eZ aD;go_wp2_with fail;go_ret2;exact⟨rfl,HX.o⟩
theorem P0(w:World)(v0:Value)(xs:List Nat)(h0:Arr w v0 xs)(n0:xs.length<=10000)(hz:0<val xs):
  Calls Tryz.prog 279 #[v0] w fun e w'=>∃v' u' r,e= .returned (.tuple #[v',u'])/\DL (val xs) r/\Own w.heap.size w' v' (Ac r)/\Own w.heap.size w' u' (Ac (val xs-r*r))/\Ext w w':=by
 have H0:=J h0;have cQ:=J (fun W m a=>Bu W m xs a (by omega));have hV:(Ac (val xs)).length<=10000:=qae (Aq h0.ok) n0;have dK:=J (fun W m a=>Mx W m (Ac (val xs)) a hV (by rw[Ad];omega));rw[Ad]at dK;have HSU:=J (fun W m m' (r:Nat) a b (hr:(Ac (r*r)).length<=536870912) (cH:r*r<=val xs)=>Lx W m m' (Ac (val xs)) (Ac (r*r)) a b (by omega) hr (by rw[Ad,Ad];exact cH));have iu:=J (fun W m r a hr=>Jc W m (Ac r) a hr);have hl1:0<(Ac (val xs)).length:=by rw[qby];intro e;rw[Bw]at e;omega
 have gK:=J hV;obtain⟨l0,A0,c0,rfl⟩:=h0.shape;clear h0 hz hV n0;go_enter Tryz.func279,Tryz.ntmps279;go_wp2_with fail;have az:=(Ext.refl w);have aq:w.heap.size=w.heap.size:=by simp
 have HX:=J (Ext.refl w);clear az aq;refine(cQ.o _ _ (H0.o.ext HX.o)).mono ?_
 rintro e w1 ⟨r0,rfl,aG,hx0⟩;have HX:=J (HX.o.trans hx0);have el:=J hx0.size;have R0:=J aG;obtain⟨g0,G0,j0,rfl⟩:=aG.shape;clear hx0 aG;have eZ:=R0.o.arr.len;have ya:0<g0:=by omega
 have sP:((g0:Int) == 0)=false:=by rw[beq_eq_false_iff_ne];omega
 clear eZ hl1 ya;go_wp2_with fail;refine(dK.o _ _ R0.o.arr).mono ?_
 rintro e w2 ⟨r1,r,rfl,eT,aZ,ak⟩;have aR:=J (HX.o.trans ak);have R1:=J (aZ.mono HX.o.size);have R02:=J (R0.o.ext ak);have lc:(Ac r).length<=10000:=qae (Ay eT.le) gK.o;have oc:(Ac (r*r)).length<=10000:=qae (Ay eT.1) gK.o;have HQ:=J (fun W m a=>iu.o W m r a (by omega));rw[Ad]at HQ;have HU:=J (fun W m m' a b=>HSU.o W m m' r a b (by omega) eT.1);rw[Ad,Ad]at HU;have HS:=J eT;obtain⟨g1,G1,j1,rfl⟩:=aZ.shape;clear aZ ak eT lc oc;go_wp2_with fail;refine(HQ.o _ _ R1.o.arr).mono ?_
 rintro e w3 ⟨r2,rfl,ay,ah⟩;have aE:=J (aR.o.trans ah);have R13:=J (R1.o.ext ah);have R03:=J (R02.o.ext ah);have R2:=J ay;obtain⟨g2,G2,j2,rfl⟩:=ay.shape;clear ay ah;go_wp2_with fail;refine(HU.o _ _ _ R03.o.arr R2.o.arr).mono ?_
 rintro e w4 ⟨r3,rfl,cE,ab⟩;have bE:=J (aE.o.trans ab);have Wm:=J (R13.o.ext ab);have R3:=J (cE.mono aE.o.size);obtain⟨g3,G3,j3,rfl⟩:=cE.shape;clear cE ab;go_wp2_with fail;go_ret2;exact⟨_,_,r,rfl,HS.o,Wm.o,R3.o,bE.o⟩
def J5(V:Nat)(w:World)(e:Ending)(w':World):Prop:=
 ∃v' r,DL V r/\e= .returned (.tuple #[v',.bool (decide (V=r*r))])/\(V=r*r->Own w.heap.size w' v' (Ac r))/\(∃n A c,v'= .slice A n c)/\Ext w w'
theorem Ir(w:World)(v0:Value)(xs:List Nat)(h0:Arr w v0 xs)(n0:xs.length<=10000):Calls Tryz.prog 254 #[v0] w (J5 (val xs) w):=by
 rcases qag (val xs) with hz|hz
 ·have HS:=J (NZ w v0 xs h0 n0 hz);have HZ:=J hz;obtain⟨l0,A0,c0,rfl⟩:=h0.shape;clear h0 hz;go_enter Tryz.func254,Tryz.ntmps254;go_wp2_with fail;refine HS.o.mono ?_
  rintro e w1 ⟨rfl,hx⟩;go_wp2_with fail;go_ret2;exact⟨_,0,by rw[HZ.o];exact DL.zero,by rw[HZ.o];rfl,fun _=>Own.none_ _ _,⟨0,none,0,rfl⟩,hx⟩
 ·have HS:=J (P0 w v0 xs h0 n0 hz);obtain⟨l0,A0,c0,rfl⟩:=h0.shape;clear h0 hz;go_enter Tryz.func254,Tryz.ntmps254;go_wp2_with fail;refine HS.o.mono ?_
  rintro e w1 ⟨v',u',r,rfl,eT,hi,iM,hx⟩;have iu:=J eT;have HI:=J hi;have HX:=J hx;have aH:=iM.arr;obtain⟨g1,G1,j1,rfl⟩:=hi.shape;obtain⟨g2,G2,j2,rfl⟩:=iM.shape;have hl:=iM.arr.len;by_cases hV:val xs=r*r
  ·have hd:decide (val xs=r*r)=true:=decide_eq_true hV;have HD:=J hd;rw[hV,qaR,Be,qaZ]at hl;subst hl;clear aH hi iM hx eT hV hd;go_wp2_with fail;go_ret2;exact⟨.slice G1 g1 j1,r,iu.o,by rw[HD.o];rfl,fun _=>HI.o,⟨_,_,_,rfl⟩,HX.o⟩
  ·have HD:=J (decide_eq_false hV);have hp:0<g2:=by
    rw[hl,qby];intro e;rw[Bw]at e;exact hV (eT.rest.1 e)
   have hne:((g2:Int) != 0)=true:=by rw[bne_iff_ne];omega
   have HV:=J hV;clear aH hi iM hx eT hV hl hp;go_wp2_with fail;go_ret2;exact⟨.slice none 0 0,r,iu.o,by rw[HD.o];rfl,fun e=>absurd e HV.o,⟨0,none,0,rfl⟩,HX.o⟩
end Big
end Go.Proofs.YtkoaogkknnelaaaGreatDoor
