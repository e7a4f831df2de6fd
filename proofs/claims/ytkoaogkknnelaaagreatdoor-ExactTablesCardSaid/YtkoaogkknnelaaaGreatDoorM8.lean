import Derived.Test.YtkoaogkknnelaaaGreatDoorM7
import Derived.Test.YtkoaogkknnelaaaGreatDoorShelf
import Derived.Lib.ItoaNum
import Derived.Laws.BytesArg
set_option linter.unusedVariables false
set_option linter.unusedSimpArgs false
set_option maxHeartbeats 1000000
set_option maxRecDepth 100000
namespace Go.Proofs.YtkoaogkknnelaaaGreatDoor
namespace Big
open Lib renaming hid → J
open Go.RowKit
def Pf(w0 wr:World)(xs:List Nat)(d k r:Nat):Prop:=
 ∃qs:List Nat,k+qs.length=xs.length/\Ok qs/\val qs*d+r=val (xs.drop k)/\
  Blk wr w0.heap.size 183 (cells (List.replicate k 0++qs))/\Ext w0 wr
theorem Pf.step {w0 wr:World} {xs qs:List Nat} {d k r y:Nat} (hl:k+1+qs.length=xs.length) (aA:Ok qs) (hy:y<4294967296)
  (hv:val (y::qs)*d+r=val (xs.drop k))
  (hb:Blk wr w0.heap.size 183 (cells (List.replicate (k+1) 0++qs))) (he:Ext w0 wr):
  Pf w0 (wr.setCell ⟨w0.heap.size,k,none⟩ (d32 y)) xs d k r:=by
 refine⟨y::qs,by simp;omega,DA hy aA,hv,?_,he.setCell (qab _) _⟩;have h1:=hb.set_ k (d32 y);rw[BE,Jh]at h1;exact h1
theorem Jt(w:World)(v:Value)(xs:List Nat)(d:Nat)(h:Arr w v xs)(hn:xs.length<=536870912)(jp:0<d)(hd:d<4294967296):
  Calls Tryz.prog 291 #[v,.int .u32 (d:Int)] w fun e w'=>∃v',e= .returned (.tuple #[v',.int .u32 ((val xs % d:Nat):Int),.bool true])/\Own w.heap.size w' v' (Ac (val xs / d))/\Ext w w':=by
 have HA:=J h;obtain⟨aA,A,cap,rfl,dL,eA,aa⟩:=h.open;have HM:=J eA;have HC:=J aa;have dp:=Cn xs.length (by omega);have mw:=J dp;clear h aa eA dL;have uI:((d:Int) == 0)=false:=by rw[beq_eq_false_iff_ne];omega
 go_enter Tryz.func291,Tryz.ntmps291;go_wp2_with fail;clear dp;go_loopw [8,9] (fun rv i wr=>∃k r:Nat,k<=xs.length/\r<d/\i= .int .i64 ((k:Int)-1)/\rv= .int .u64 r/\Pf w wr xs d k r) (fun _ i _=>(intOf i+1).toNat)
 case atStart=>exact⟨xs.length,0,qab _,jp,rfl,rfl,[],rfl,Cq,by simp[val],by simpa [En] using Blk.new w 183 (zeros xs.length),(Ext.refl w).alloc _⟩
 case round=>
  obtain⟨k,r,hk,hr,rfl,rfl,qs,hl,bR,hv,ax,ae⟩:=hrel;have HV:=J hv;clear hv;have HB:=J ax;clear ax;have HL:=J hl;clear hl;rcases qag k with h0|h0
  ·subst h0;obtain⟨i3,oe⟩:=Ln hr (by simpa using HV.o);have aH:qs.length=xs.length:=by simpa using HL.o
   have aB:Own w.heap.size wr (.slice (some ⟨w.heap.size,0,none⟩) xs.length xs.length) qs:=by
    have h3:=Own.block (B:=w.heap.size) bR (by simpa using HB.o) (qab _) (by omega)
    rwa [aH]at h3
   have HT:=J (Bu _ _ _ aB.arr (by omega));rw[i3]at HT;have uz:(r:Int) % 4294967296=((val xs % d:Nat):Int):=by omega
   have HR:=J uz;have hJ:=J oe;clear uz i3 oe aB aH;go_wp2_with fail;refine HT.o.mono ?_
   rintro e w' ⟨v',rfl,ho,hx⟩;go_wp2_with fail;go_ret3;first
    |exact⟨_,congrArg (fun z:Int=>Ending.returned (.tuple #[v',.int .u32 z,.bool true])) HR.o,ho.mono ae.size,ae.trans hx⟩
    |exact⟨_,congrArg (fun z:Nat=>Ending.returned (.tuple #[v',.int .u32 (z:Int),.bool true])) hJ.o,ho.mono ae.size,ae.trans hx⟩
  ·obtain⟨m,rfl⟩:∃m,k=m+1:=⟨k-1,by omega⟩;obtain⟨b,o,rfl,hb,aa⟩:=HC.o (by omega);have hx:=(ae.cell hb).trans (aa m (by omega));have hst:=HB.o.cell m;have hfz:=HB.o.frozen m;rw[Bi _ _ (by simp;omega)]at hst;clear aa;have cW:=aA.get m;have HS:=J (RR xs qs m d r (by omega) HV.o);have hq:=Uu hr cW;have oc:=qba (r*4294967296+xs.getD m 0) jp;obtain⟨x,bS⟩:∃x,xs.getD m 0=x:=⟨_,rfl⟩;rw[bS]at hx cW HS hq oc;clear bS;have iF:=N7 r x (by omega) cW;have hNb:r*4294967296+x<18446744073709551616:=by omega
   obtain⟨N,Yy⟩:∃N,r*4294967296+x=N:=⟨_,rfl⟩;rw[Yy]at iF HS hq oc hNb;clear Yy;have VC:(N:Int) / (d:Int)=((N / d:Nat):Int):=(Int.natCast_ediv N d).symm;have gU:(N:Int) % (d:Int)=((N % d:Nat):Int):=(Int.natCast_emod N d).symm;obtain⟨y,hy⟩:∃y,N / d=y:=⟨_,rfl⟩;obtain⟨z,hz⟩:∃z,N % d=z:=⟨_,rfl⟩;rw[hy]at VC HS hq;rw[hz]at gU HS oc;clear hy hz;have Zt:=J (show (y:Int) % 4294967296=(y:Int) by omega);simp only[d32]at hx hst
   go_wp2
   go_round
   case rel=>
    refine⟨m,z,by omega,oc,rfl,by rw[gU],?_⟩;exact Pf.step HL.o bR hq HS.o HB.o ae
   case measure=>simp[intOf]
theorem Sp(w:World)(x:Nat)(hx:x<4294967296):Calls Tryz.prog 292 #[.int .u32 (x:Int)] w fun e w'=>∃s:Nat,s<=32/\e= .returned (.int .i64 (s:Int))/\w=w':=by
 have h:=Tryz.bits_LeadingZeros32 (x:Int) w (by omega) (by omega);refine h.mono ?_
 rintro e w' ⟨rfl,rfl⟩;have h2:=Any.bitLen_le32 (x:Int) (by omega) (by omega);refine⟨32-Lib.bitLen (x:Int).toNat,by omega,?_,rfl⟩
 congr 2
 omega
theorem MF{n:Nat}(h:n≠0):4294967296 ^ ((Ac n).length-1)<=n:=by
 induction n using Nat.strongRecOn with
 |_ n ih=>
  rw[CD n h,qaC,qbC];by_cases h0:n / 4294967296=0
  ·rw[h0,Be];simp;omega
  ·have h1:=ih (n / 4294967296) (by omega) h0;obtain⟨m,hm⟩:∃m,(Ac (n / 4294967296)).length=m+1:=by
    rw[CD _ h0,qaC];exact⟨_,rfl⟩
   rw[hm]at h1 ⊢;rw[qbC]at h1;rw[qay];have:=qaF 4294967296 h1;omega
theorem Ql{n:Nat}(h:n≠0):1<=(Ac n).getD ((Ac n).length-1) 0:=by
 rcases qag ((Ac n).getD ((Ac n).length-1) 0) with h0|h0
 ·exfalso
  have hl:0<(Ac n).length:=by
   rw[CD n h,qaC];omega
  have h1:=By (Ac n) ((Ac n).length-1);rw[Nat.sub_add_cancel hl,qaf (qab _),Ad,h0,qbr,qaN]at h1;have h2:=BU (Cw n) ((Ac n).length-1);have h3:=MF h;omega
 ·exact h0
theorem KW(X:Nat){s:Nat}(hs:s<=32):(Ac (X*2 ^ s)).length<=(Ac X).length+1:=by
 refine AH ?_
 have h1:=Cm (Cw X);rw[Ad]at h1;have h2:2 ^ s<=4294967296:=qae (qbe (by omega) hs) (by decide);rw[qay];exact qan (Nat.mul_lt_mul_of_pos_right h1 (qbb (by omega))) (qaH _ h2)
def Hm(A V:Nat)(w:World)(e:Ending)(w':World):Prop:=
 ∃v' u',e= .returned (.tuple #[v',u',.bool true])/\Own w.heap.size w' v' (Ac (A / V))/\Own w.heap.size w' u' (Ac (A % V))/\Ext w w'
theorem NX(w:World)(v u:Value)(xs ys:List Nat)(h:Arr w v xs)(h':Arr w u ys)(hn:xs.length<=134217728)(bA:ys.length<=134217728)(hlt:val xs<val ys):
  Calls Tryz.prog 275 #[v,u] w (Hm (val xs) (val ys) w):=by
 have HA:=J (Bu w v xs h (by omega));have HB:=J (fun W hx=>Bu W u ys (h'.ext hx) (by omega));have cT:=J (fun W v u a b=>Ey W v u (Ac (val xs)) (Ac (val ys)) a b (qae (Aq h.ok) (by omega)) (qae (Aq h'.ok) (by omega)));rw[Ad,Ad,Ff hlt]at cT;have gW:Ac (val ys)≠[]:=by rw[Ne,Bw];omega
 have hl1:0<(Ac (val ys)).length:=qby.2 gW;have HQ:=J (qbB hlt);have HR:=J (qbA hlt);clear h h' hlt gW;go_enter Tryz.func275,Tryz.ntmps275;go_wp2_with fail;refine HA.o.mono ?_
 rintro e w1 ⟨v1,rfl,dM,ak⟩;have au:=J ak;have fN:=J dM;obtain⟨n1,A1,c1,rfl⟩:=dM.shape;clear dM ak;go_wp2_with fail;refine(HB.o _ au.o).mono ?_
 rintro e w2 ⟨v2,rfl,de,ah⟩;have em:=J de;obtain⟨n2,A2,c2,rfl⟩:=de.shape;have hl:=de.len;rw[<-hl]at hl1;have kF:((n2:Int) == 0)=false:=by rw[beq_eq_false_iff_ne];omega
 have aR:=J (au.o.trans ah);have ju:=J ah;clear de ah hl;go_wp2_with fail;refine(cT.o _ _ _ (fN.o.arr.ext ju.o) em.o.arr).mono ?_
 rintro e w3 ⟨rfl,ab⟩;have aE:=J (aR.o.trans ab);have eX:=J ((fN.o.ext ju.o).ext ab);clear ab;go_wp2_with fail;go_ret3;exact⟨_,_,rfl,by rw[HQ.o];exact Own.none_ _ _,by rw[HR.o];exact eX.o,aE.o⟩
theorem Mi(w:World)(v u:Value)(xs ys:List Nat)(h:Arr w v xs)(h':Arr w u ys)(hn:xs.length<=134217728)(bA:ys.length<=134217728)(fC:val ys<=val xs)(h1:(Ac (val ys)).length=1):
  Calls Tryz.prog 275 #[v,u] w (Hm (val xs) (val ys) w):=by
 have HA:=J (Bu w v xs h (by omega));have HB:=J (fun W hx=>Bu W u ys (h'.ext hx) (by omega));have cT:=J (fun W v u a b=>Ey W v u (Ac (val xs)) (Ac (val ys)) a b (qae (Aq h.ok) (by omega)) (qae (Aq h'.ok) (by omega)));have gG:¬BZ (val xs) (val ys)<0:=by rw[Ei];omega
 rw[Ad,Ad]at cT;obtain⟨d,hd⟩:∃d,Ac (val ys)=[d]:=qci.1 h1;have hdv:val ys=d:=by rw[<-Ad (val ys),hd];simp[val]
 have uH:d<4294967296:=Cw (val ys) d (by rw[hd];simp);have jp:0<d:=by
  rcases qag d with h0|h0
  ·rw[hdv,h0,Be]at h1;simp at h1
  ·exact h0
 have lk:=J (fun W v a=>Jt W v (Ac (val xs)) d a (qae (Aq h.ok) (by omega)) jp uH);rw[Ad]at lk;have dG:=J (fun W=>Gk W (val xs % d) (by have:=qba (val xs) jp;omega));have uz:=qba (val xs) jp;rw[hd]at HB;rw[hdv];rw[hdv]at gG cT;rw[show Ac d=[d] by rw[hdv]at hd;exact hd]at cT;clear h h' fC h1 hd hdv;generalize BZ (val xs) d=cc at *;go_enter Tryz.func275,Tryz.ntmps275;go_wp2_with fail;refine HA.o.mono ?_
 rintro e w1 ⟨v1,rfl,dM,ak⟩;have au:=J ak;have fN:=J dM;obtain⟨n1,A1,c1,rfl⟩:=dM.shape;clear dM ak;go_wp2_with fail;refine(HB.o _ au.o).mono ?_
 rintro e w2 ⟨v2,rfl,de,ah⟩;have em:=J de;obtain⟨n2,A2,c2,rfl⟩:=de.shape;have hl:=de.len;simp only[qal]at hl;subst hl;have aR:=J (au.o.trans ah);have ju:=J ah;clear de ah;go_wp2_with fail;refine(cT.o _ _ _ (fN.o.arr.ext ju.o) em.o.arr).mono ?_
 rintro e w3 ⟨rfl,ab⟩;have aE:=J (aR.o.trans ab);have eX:=J ((fN.o.ext ju.o).ext ab);obtain⟨fJ,ZC,YP,he,hk2,d9,aa⟩:=(em.o.ext ab).arr.open;injection he with e1 e3 e2
 subst e1 e2;obtain⟨b2,o2,rfl,er,aa⟩:=aa (by simp);have hx:=aa 0 (by simp);simp only[qaN,qaD,d32]at hx;clear ab aa fJ hk2 d9 e3;go_wp2_with fail;refine(lk.o _ _ eX.o.arr).mono ?_
 rintro e w4 ⟨v4,rfl,qV,bf⟩;have bE:=J (aE.o.trans bf);have m8:=J (qV.mono aE.o.size);obtain⟨n4,A4,c4,rfl⟩:=qV.shape;clear qV bf;obtain⟨r,hr⟩:∃r,val xs % d=r:=⟨_,rfl⟩;have ki:=J hr;rw[hr]at dG uz;rw[hr];clear hr;go_wp2_with fail;refine(dG.o _).mono ?_
 rintro e w5 ⟨v5,rfl,qd,hx5⟩;have dn:=J (bE.o.trans hx5);have rr:=J (qd.mono bE.o.size);have WQ:=J (m8.o.ext hx5);obtain⟨n5,A5,c5,rfl⟩:=qd.shape;clear qd hx5;go_wp2_with fail;go_ret3;exact⟨_,_,rfl,WQ.o,by rw[ki.o];exact rr.o,dn.o⟩
theorem Own.blockR{B:Nat}{w:World}{v:Value}{xs:List Nat}(h:Own B w v xs)(hp:0<xs.length):∃g c RX,v= .slice (some ⟨g,0,none⟩) xs.length c/\B<=g/\xs.length<=c/\c<=maxLen/\Blk w g 183 (cells xs++RX)/\xs.length+RX.size=c:=by
 obtain⟨aA,A,c,rfl,h2,h3,h4⟩:=h;rw[qas]at h2 h4;rcases h4 with ⟨h5,_⟩|⟨g,cur,rfl,hg,ax,hs,ht⟩
 ·rw[List.map_eq_nil_iff]at h5;subst h5;simp at hp
 ·refine⟨g,c,(cur.toList.drop xs.length).toArray,by rw[qas],hg,h2,h3,?_,by simp;omega⟩;have e:cells xs++(cur.toList.drop xs.length).toArray=cur:=by
   apply qck;unfold cells;rw[Array.toList_append];show xs.map d32++cur.toList.drop xs.length=cur.toList;rw[<-ht,qbV]
  rw[e];exact ax
theorem SQ{w:World}{g c:Nat}{us:List Nat}{RX:Array Value}(h:Blk w g 183 (cells us++RX))(aA:Ok us)(hc:us.length<=c)(hm:c<=maxLen):Arr w (.slice (some ⟨g,0,none⟩) us.length c) us:=
 Arr.mk aA hc hm fun _=>⟨g,0,rfl,h.lt,fun j hj=>by rw[h.cell,qaW,Dv _ _ _ hj]⟩
theorem Arr.put{w:World}{v:Value}{xs:List Nat}{g:Nat}(h:Arr w v xs)(hne:∀b o n c,v= .slice (some ⟨b,o,none⟩) n c->b≠g)(i:Nat)(u:Value):Arr (w.setCell ⟨g,i,none⟩ u) v xs:=
 h.kept (EQ ((Dr.refl w).grown (some g)) i u) hne
theorem Arr.low{w:World}{v:Value}{xs:List Nat}{g:Nat}(h:Arr w v xs)(hp:0<xs.length)(hg:w.heap.size<=g):∀b o n c,v= .slice (some ⟨b,o,none⟩) n c->b≠g:=by
 obtain⟨_,A,c,rfl,_,_,aa⟩:=h.open;obtain⟨b,o,rfl,hb,_⟩:=aa hp;intro b' o' n' c' he;injection he with h1 _ _
 injection h1 with h1
 injection h1 with h1 _ _
 omega
def T9(w wr:World)(u0 us qs:List Nat)(V gu gq K:Nat)(RX:Array Value)(v:Value):Prop:=
 DO u0 us qs V K/\Ok qs/\Blk wr gq 183 (cells (List.replicate K 0++qs))/\Blk wr gu 183 (cells us++RX)/\Arr wr v (Ac V)/\Ext w wr
theorem Lp(w:World)(v u:Value)(xs ys:List Nat)(h:Arr w v xs)(h':Arr w u ys)(hn:xs.length<=134217728)(bA:ys.length<=134217728)(fC:val ys<=val xs)(h2:2<=(Ac (val ys)).length):
  Calls Tryz.prog 275 #[v,u] w (Hm (val xs) (val ys) w):=by
 have HA:=J (Bu w v xs h (by omega));have HB:=J (fun W hx=>Bu W u ys (h'.ext hx) (by omega));have zW:(Ac (val xs)).length<=134217728:=qae (Aq h.ok) hn;have kF:(Ac (val ys)).length<=134217728:=qae (Aq h'.ok) bA;have cT:=J (fun W v u a b=>Ey W v u (Ac (val xs)) (Ac (val ys)) a b (by omega) (by omega));have tM:=J (fun W v s a h=>Lg W v (Ac (val xs)) s a (by omega) h);have tL:=J (fun W v s a h=>Lg W v (Ac (val ys)) s a (by omega) h);have gG:¬BZ (val xs) (val ys)<0:=by rw[Ei];omega
 rw[Ad,Ad]at cT;rw[Ad]at tM tL;have XL:val ys≠0:=fun e=>by rw[e,Be]at h2;simp at h2
 obtain⟨X,hX⟩:∃X,val xs=X:=⟨_,rfl⟩;obtain⟨Y,hY⟩:∃Y,val ys=Y:=⟨_,rfl⟩;rw[hX]at HA cT gG tM fC zW ⊢;rw[hY]at HB cT gG tL fC h2 XL kF ⊢;clear h h' hX hY hn bA;generalize BZ X Y=cc at *;go_enter Tryz.func275,Tryz.ntmps275;go_wp2_with fail;refine HA.o.mono ?_
 rintro e w1 ⟨v1,rfl,dM,ak⟩;have au:=J ak;have fN:=J dM;obtain⟨n1,A1,c1,rfl⟩:=dM.shape;clear dM ak;go_wp2_with fail;refine(HB.o _ au.o).mono ?_
 rintro e w2 ⟨v2,rfl,de,ah⟩;have em:=J de;obtain⟨m,hm⟩:∃m,(Ac Y).length=m+2:=⟨(Ac Y).length-2,by omega⟩;obtain⟨n2,A2,c2,rfl⟩:=de.shape;have hl:=de.len;rw[hm]at hl;subst hl;have aR:=J (au.o.trans ah);have ju:=J ah;clear de ah;go_wp2_with fail;refine(cT.o _ _ _ (fN.o.arr.ext ju.o) em.o.arr).mono ?_
 rintro e w3 ⟨rfl,ab⟩;have aE:=J (aR.o.trans ab);have HA3:=J ((fN.o.ext ju.o).ext ab).arr;have be:=J (em.o.ext ab).arr;obtain⟨_,ZC,YP,he,jS,su,aa⟩:=(em.o.ext ab).arr.open;rw[hm]at he aa jS;injection he with e1 e3 e2
 subst e1 e2;clear e3;obtain⟨b2,o2,rfl,er,aa⟩:=aa (by omega);have hx:=aa (m+1) (by omega);have cW:=(Cw Y).get (m+1);clear ab aa ju;generalize (Ac Y).getD (m+1) 0=y at *;simp only[d32]at hx;have HLZ:=J (fun W=>Sp W y cW);have XX:(((m:Int)+2) == 1)=false:=by rw[beq_eq_false_iff_ne];omega
 have XY:(((m:Int)+2) == 0)=false:=by rw[beq_eq_false_iff_ne];omega
 go_wp2_with fail;refine(HLZ.o _).mono ?_
 rintro e w4 ⟨s,hs,rfl,rfl⟩;go_wp2_with fail;refine(tL.o _ _ s be.o (by omega)).mono ?_
 rintro e w4 ⟨v4,rfl,qV,bf⟩;have bE:=J (aE.o.trans bf);have qJ:=J (HA3.o.ext bf);have m8:=J qV;obtain⟨n4,A4,c4,rfl⟩:=qV.shape;have yB:=J qV.len;clear qV bf;go_wp2_with fail;refine(tM.o _ _ s qJ.o (by omega)).mono ?_
 rintro e w5 ⟨v5,rfl,qd,hx5⟩;have dn:=J (bE.o.trans hx5);have Wv:=J hx5;have rr:=J qd;obtain⟨n5,A5,c5,rfl⟩:=qd.shape;have hsz5:=hx5.size;clear qd hx5;have hB5:=bE.o.size;have zY:=KW X hs;have ed:Hid ((Ac (X*2 ^ s)).length+[0].length<=2147483648):=J (by simp;omega);clear zY;go_wp2_with (at_builtin;go_must (refine AW rfl _ _ rfl rfl (rr.o.ext ((Ext.refl _).alloc _)) rfl (Arr.fresh1' _ _ 0 rfl (by omega)) ed.o (by simp;omega) ?_;intro v6 w6 fy cG yg));have vu:=yg.size;simp only[World.size_alloc]at vu;have dD:=J ((dn.o.alloc (.cells #[.int .u32 0] 183)).more (yg.mono hB5));have Xq:Hid (Arr w6 (.slice A4 n4 c4) (Ac (Y*2 ^ s))):=J (m8.o.arr.ext ((Wv.o.alloc _).more yg));have wQ:Y*2 ^ s≠0:=Nat.mul_ne_zero XL (Nat.ne_of_gt (qbb (by omega)));have Ys:Y*2 ^ s<=X*2 ^ s:=qaF _ fC;have Yr:Y<=Y*2 ^ s:=Nat.le_mul_of_pos_right _ (qbb (by omega));have sE:=Ay Ys;have qh:=Ay Yr;have zV:=KW X hs;have HDQ:=J (QN X Y s);have Zt:=J (Qj X Y s);have fl:=fun g=>m8.o.arr.low (g:=g)
 have nT:=MF wQ;have mG:=Ql wQ;have nS:=Cm (Cw (Y*2 ^ s));rw[Ad]at nS;obtain⟨u0,nw⟩:∃u0,Ac (X*2 ^ s)++[0]=u0:=⟨_,rfl⟩;have vm:val u0=X*2 ^ s:=by rw[<-nw,BS,Ad,qbr,qaN]
 have zo:Ok u0:=by rw[<-nw];exact(Cw _).snoc (by omega)
 have vn:u0.length=(Ac (X*2 ^ s)).length+1:=by rw[<-nw];simp
 have vl:u0.getD (u0.length-1) 0=0:=by
  rw[vn,qbC,<-nw,qaa,qai (qab _),qaR];rfl
 rw[nw]at fy;have vP:=yB.o;rw[<-vP]at sE qh nT mG nS fl;obtain⟨m4,X3⟩:∃m4,n4=m4+2:=⟨n4-2,by omega⟩;obtain⟨M,hM⟩:∃M,u0.length=m4+2+(M+1):=⟨u0.length-(m4+2)-1,by omega⟩;have zO:=vP;rw[X3]at vP sE qh nT mG nS fl m8 Xq;subst X3;have bF:Hid (DO u0 u0 [] (Y*2 ^ s) (M+1)):=J (by
  have:=DO.start (V:=Y*2 ^ s) (n:=m4+2) zo (by omega) (by omega) vl nT
  rwa [show u0.length-(m4+2)=M+1 by omega]at this)
 obtain⟨gu,cu,RX,rfl,x9,VI,VH,sS,sQ⟩:=fy.blockR (by omega);have Zv:=J sS;have sp:=fl gu (by omega) x9;have xw:=J sp;have HN4:=J vP;have ob:(u0.length:Int)-((m4:Int)+2)=(M:Int)+1:=by omega
 have dp:=C4 M (by omega);have xn:=J vm;obtain⟨Lu,V2⟩:∃Lu,u0.length=Lu:=⟨_,rfl⟩;rw[V2]at ob VI hM sQ ⊢;have Zn:=J V2;have hLub:Lu<=134217730:=by omega
 have hm4b:m4<=134217728:=by omega
 unfold maxLen at VH;have HCU3:=J sQ;clear sQ;have HYL:=J nT;have Wp:=J mG;have qr:=J nS;have HM:=J hM;clear nw V2 zO vm vl vP sE qh zV nT mG nS fl fy sS sp yg cG Ys Yr vn hM;go_wp2_with fail;go_simp;go_wp2_with fail;clear dp ob;have hguw:=Zv.o.lt;have bP:=J (dD.o.alloc (.cells (zeros (M+1)) 183));have aj:=J (Zv.o.alloc (.cells (zeros (M+1)) 183));have HA0:=J (Xq.o.ext ((Ext.refl w6).alloc (.cells (zeros (M+1)) 183)));have jX:=J (Blk.new w6 183 (zeros (M+1)));have WR:=J (Xq.o.low (g:=w6.heap.size) (by rw[<-yB.o];omega) (qab _));have um:=J dD.o.size;generalize w6.heap.size=gq at *;have X8:gu≠gq:=by omega
 go_loopw [15] (fun s15 wr=>∃(K:Nat) (us qs:List Nat),K<=M+1/\s15= .int .i64 ((K:Int)-1)/\K+qs.length=M+1/\T9 w wr u0 us qs (Y*2 ^ s) gu gq K RX (.slice A4 (m4+2) c4)) (fun s15 _=>(intOf s15+1).toNat)
 case atStart=>exact⟨M+1,u0,[],qab _,by congr 1;omega,rfl,bF.o,Cq,by rw[qbH];exact jX.o,aj.o,HA0.o,bP.o⟩
 case round=>
  obtain⟨K,us,qs,hK,rfl,sc,eY,mL,oJ,sS,yh,ae⟩:=hrel;rcases qag K with h0|h0
  ·subst h0;obtain⟨i3,oe⟩:=eY.done qr.o;rw[xn.o,HDQ.o]at i3;rw[xn.o]at oe;have V1:=HM.o;have zn:us.length=Lu:=by rw[eY.1];exact Zn.o
   have qT:qs.length=M+1:=by omega
   have Yn:Arr wr (.slice (some ⟨gq,0,none⟩) (M+1) (M+1)) qs:=by
    have h3:=(Own.block (B:=gq) mL (by simpa using oJ) (qab _) (by omega)).arr
    rwa [qT]at h3
   have Ym:Arr wr (.slice (some ⟨gu,0,none⟩) (m4+2) cu) (us.take (m4+2)):=by
    have h3:=SQ (c:=cu) sS eY.2.1 (by omega) (by unfold maxLen;omega);obtain⟨A',c',he,h4⟩:=h3.take (m4+2) (by omega);injection he with h5 _ h6
    subst h5 h6;exact h4
   have Za:=J (fun W hx=>Bu W _ _ (Yn.ext hx) (by omega));have wN:Arr wr (.slice (some ⟨gu,0,none⟩) ((m4:Int)+2).toNat cu) (us.take (m4+2)):=by
    rw[show ((m4:Int)+2).toNat=m4+2 by omega];exact Ym
   have Y7:=J (fun W hx=>Bu W _ _ (wN.ext hx) (by rw[qam];omega));rw[i3]at Za;rw[oe]at Y7;have qv:=J (fun W v a=>Tj W v (Ac (X*2 ^ s % (Y*2 ^ s))) s a (by
    have:=Ay (qaK (qba (X*2 ^ s) (qcn wQ)));rw[<-yB.o]at this;omega) (by omega))
   rw[Ad,Zt.o]at qv;have mu:=J ae;have hmle:m4+2<=Lu:=by omega
   have hmi2:(0:Int)<=(m4:Int)+2:=by omega
   have hmi3:(m4:Int)+2<=(cu:Int):=by omega
   clear i3 oe Yn Ym wN oJ sS yh eY zn V1 qT ae sc;go_wp2_with fail
   go_region_held3 (fun w'=>Ext wr w')
    (first|exact(Ext.refl wr).drew|assumption|exact Ext.trans (by assumption) (by assumption))
    (first
     |(go_at_call 188;(with_reducible refine(Za.o _ (by assumption)).mono ?_);rintro e w9 ⟨v9,rfl,zK,dt⟩;have xu:=J (zK.mono (qae mu.o.size (Ext.size (w:=wr) (by assumption))));obtain⟨n9,A9,c9,rfl⟩:=zK.shape;(try have WN:=J (WN.o.ext dt));(try have mZ:=J (mZ.o.ext dt));clear zK)
     |(go_at_call 188;(with_reducible refine(Y7.o _ (by assumption)).mono ?_);rintro e w8 ⟨v8,rfl,zL,bJ⟩;have WN:=J zL;obtain⟨n8,A8,c8,rfl⟩:=zL.shape;(try have xu:=J (xu.o.ext bJ));clear zL)
     |(go_at_call 295;(with_reducible refine(qv.o _ _ WN.o.arr).mono ?_);rintro e w7 ⟨v7,rfl,jm,bH⟩;have mZ:=J (jm.mono (qae mu.o.size (Ext.size (w:=wr) (by assumption))));obtain⟨n7,A7,c7,rfl⟩:=jm.shape;(try have xu:=J (xu.o.ext bH));clear jm))
   all_goals
    go_wp2_with fail;go_ret3;exact⟨_,_,rfl,xu.o,mZ.o,mu.o.trans (by assumption)⟩
  ·obtain⟨j,rfl⟩:∃j,K=j+1:=⟨K-1,by omega⟩;have zn:us.length=Lu:=by rw[eY.1];exact Zn.o
   have V1:=HM.o;have vL:=xw.o;have HD:=J (QP RX wr gu j (cu-j) m4 us (.slice A4 (m4+2) c4) (Ac (Y*2 ^ s)) sS eY.2.1 yB.o.symm (by omega) (by omega) (by omega) (by unfold maxLen;omega) yh vL Wp.o
    (by rw[Ad];exact(eY.seg_lt (by omega) qr.o).2))
   rw[Ad,show m4+3=j+(m4+2)+1-j by omega]at HD;have hjb:j+(m4+2)+1<=Lu:=by omega
   have nI:=J (fun zs h1 h2 h3=>eY.step (zs:=zs) (n:=m4+2) (by omega) qr.o (qcn wQ) (by omega) h1 h2 h3);have uH:val (seg us j (m4+2)) / (Y*2 ^ s)<4294967296:=by
    rw[Nat.div_lt_iff_lt_mul (qcn wQ),qaJ];exact(eY.seg_lt (by omega) qr.o).2
   have VM:=oJ.lt;have VN:=oJ;have HBQ:=J oJ;have HAV:=J yh;have mu:=J ae;clear oJ yh ae sS eY vL VN zn V1;generalize val (seg us j (m4+2)) / (Y*2 ^ s)=D at *;go_wp2_with fail;refine HD.o.mono ?_
   rintro e w7 ⟨zs,rfl,mF,xQ,XC,wI,dh⟩;have ng:=J (nI.o zs xQ (by rw[mF];omega) XC);have qm:Blk w7 gq 183 (cells (List.replicate (j+1) 0++qs)):=(dh.block gq VM (by simpa using X8.symm)).trans HBQ.o;have hst:=qm.cell j;have hfz:=qm.frozen j;rw[Bi _ _ (by simp;omega)]at hst;have sT:=qm.set_ j (d32 D);rw[BE,Jh]at sT;have mC:=J sT;have HU8:=J (wI.far (p:=⟨gq,j,none⟩) X8 (d32 D));have HA8:=J ((HAV.o.kept dh xw.o).put WR.o j (d32 D));have dF:=J ((mu.o.grown dh (fun k hk=>by simp at hk;omega)).setCell (p:=⟨gq,j,none⟩) um.o (d32 D));clear mF xQ XC wI dh qm sT;generalize (List.replicate (j+1) 0++qs).getD j 0=z at hst;simp only[d32]at hst;go_wp2_with fail;go_roundw
   case rel=>exact⟨j,_,D::qs,by omega,(by first|rfl|(congr 1;omega)),by simp;omega,ng.o,DA uH mL,mC.o,HU8.o,HA8.o,dF.o⟩
   case measure=>simp[intOf]
theorem Et(w:World)(v u:Value)(xs ys:List Nat)(h:Arr w v xs)(h':Arr w u ys)(hn:xs.length<=134217728)(bA:ys.length<=134217728)(hy:val ys≠0):
  Calls Tryz.prog 275 #[v,u] w (Hm (val xs) (val ys) w):=by
 rcases qah (val xs) (val ys) with h1|h1
 ·exact NX w v u xs ys h h' hn bA h1
 ·have h2:(Ac (val ys)).length≠0:=fun e=>hy (Bw.1 (qap e))
  rcases qah (Ac (val ys)).length 2 with h3|h3
  ·exact Mi w v u xs ys h h' hn bA h1 (by omega)
  ·exact Lp w v u xs ys h h' hn bA h1 h3
def AT(n:Nat):Nat:=if n=0 then 0 else n.log2+1
theorem Ek{n:Nat}:AT n=0↔n=0:=by
 unfold AT;split
 ·simp[*]
 ·simp[*]
theorem M3{n b:Nat}(h1:2 ^ b<=n)(h2:n<2 ^ (b+1)):AT n=b+1:=by
 have h0:n≠0:=by
  have:0<2 ^ b:=qbb (by omega);omega
 unfold AT;rw[if_neg h0];have h3:=(Nat.le_log2 h0).2 h1;have h4:=(Nat.log2_lt h0).2 h2;omega
theorem M2{xs:List Nat}{n:Nat}(aA:Ok xs)(_hl:n+1<=xs.length)(hz:val (xs.drop (n+1))=0)(ht:xs.getD n 0≠0):32*n+Lib.bitLen (xs.getD n 0)=AT (val xs):=by
 have hx:=aA.get n;obtain⟨b1,b2,b3⟩:=Lib.bitLenAux_bounds 64 (xs.getD n 0) (by omega) ht;have h1:=Bt xs (n+1);rw[hz,qbr,qaN,By]at h1;have h2:=BU aA n;obtain⟨c,hc⟩:∃c,Lib.bitLenAux 64 (xs.getD n 0)=c+1:=⟨Lib.bitLenAux 64 (xs.getD n 0)-1,by omega⟩;unfold Lib.bitLen;rw[hc]at b2 b3 ⊢;rw[qbC]at b2;generalize xs.getD n 0=y at *;rw[h1];refine(M3 (b:=32*n+c) ?_ ?_).symm
 ·rw[qbE,qbY];exact qae (qaH _ b2) (Nat.le_add_left _ _)
 ·rw[qbO,qbE,qbY,show (2:Nat) ^ 32=4294967296 from rfl];have h3:=qaH (4294967296 ^ n) (show y+1<=2 ^ (c+1) from b3);rw[qax,qbp]at h3;omega
theorem Ej(w:World)(v:Value)(xs:List Nat)(h:Arr w v xs)(hn:xs.length<=134217728):
  Calls Tryz.prog 135 #[v] w fun e w'=>e= .returned (.int .i64 (AT (val xs):Nat))/\w=w':=by
 have HS:=J (CJ w v xs h);have cH:=CG xs;have uu:=EA h.ok;obtain⟨aA,A,c,rfl,hc,hm,aa⟩:=h.open;rcases qag (size xs) with h0|h0
 ·have HZ:=J (Ek.2 (Ht h0));rw[HZ.o];rw[h0]at HS;clear hm aa h0 cH hc;go_enter Tryz.func135,Tryz.ntmps135;go_wp2_with fail;refine HS.o.mono ?_
  rintro e w' ⟨rfl,rfl⟩;go_wp2_with fail;go_ret;exact⟨rfl,rfl⟩
 ·obtain⟨n,dN⟩:∃n,size xs=n+1:=⟨size xs-1,by omega⟩;rw[dN]at HS cH uu;have ht:xs.getD n 0≠0:=by
   intro e;have h1:=Bt xs n;rw[Bl,e,uu]at h1;simp only[qbr,qaN]at h1;have h2:=AH (n:=val xs) (k:=n) (by rw[h1];exact BU aA n);rw[<-Lf aA]at h2;omega
  have HB:=J (M2 aA cH uu ht);obtain⟨b,o,rfl,hb,aa⟩:=aa (by omega);have hx:=aa n (by omega);have cW:=aA.get n;clear aa h0 uu dN hc ht;obtain⟨y,hy⟩:∃y,xs.getD n 0=y:=⟨_,rfl⟩;rw[hy]at hx cW HB;clear hy;have HL:=J (Tryz.bits_Len32 (y:Int) w (by omega) (by omega));have fd:=Any.bitLen_le32 (y:Int) (by omega) (by omega);rw[qaq]at HL fd;unfold maxLen at hm;simp only[d32]at hx;have om:(((n:Int)+1) == 0)=false:=by rw[beq_eq_false_iff_ne];omega
  generalize Lib.bitLen y=bl at *;go_enter Tryz.func135,Tryz.ntmps135;go_wp2_with fail;refine HS.o.mono ?_
  rintro e w' ⟨rfl,rfl⟩;go_wp2_with fail;refine HL.o.mono ?_
  rintro e w' ⟨rfl,rfl⟩;go_wp2_with fail;go_ret;exact⟨congrArg (fun z=>Ending.returned (.int .i64 z)) (by rw[<-HB.o];simp),rfl⟩
theorem TS(w:World)(v u:Value)(xs ys:List Nat)(h:Arr w v xs)(h':Arr w u ys)(hn:xs.length<=134217728)(bA:ys.length<=134217728):
  Calls Tryz.prog 274 #[v,u] w fun e w'=>∃v',e= .returned v'/\Own w.heap.size w' v' (Ac (Nat.gcd (val xs) (val ys)))/\Ext w w':=by
 have HA:=J (Bu w v xs h (by omega));have HB:=J (fun W hx=>Bu W u ys (h'.ext hx) (by omega));have zW:(Ac (val xs)).length<=134217728:=qae (Aq h.ok) hn;have kF:(Ac (val ys)).length<=134217728:=qae (Aq h'.ok) bA;clear h h' hn bA;generalize val xs=X at *;generalize val ys=Y at *;go_enter Tryz.func274,Tryz.ntmps274;go_wp2_with fail;refine HA.o.mono ?_
 rintro e w1 ⟨v1,rfl,dM,ak⟩;have au:=J ak;have fN:=J dM;obtain⟨n1,A1,c1,rfl⟩:=dM.shape;clear dM ak;go_wp2_with fail;refine(HB.o _ au.o).mono ?_
 rintro e w2 ⟨v2,rfl,de,ah⟩;have em:=J (de.mono au.o.size);have m9:=J (fN.o.ext ah);have aR:=J (au.o.trans ah);obtain⟨n2,A2,c2,rfl⟩:=de.shape;clear de ah;go_wp2_with fail
 go_loopg [0,1] Y (fun gh s0 s1 wr=>∃(g x:Nat) (na:Nat) (Aa:Option Addr) (ca nb:Nat) (Ab:Option Addr) (cb:Nat),gh=g/\s0= .slice Aa na ca/\s1= .slice Ab nb cb/\Own w.heap.size wr s0 (Ac x)/\Own w.heap.size wr s1 (Ac g)/\Nat.gcd x g=Nat.gcd X Y/\(Ac x).length<=134217728/\(Ac g).length<=134217728/\Ext w wr)
 case atStart=>exact⟨Y,X,n1,A1,c1,n2,A2,c2,rfl,rfl,rfl,m9.o,em.o,rfl,zW,kF,aR.o⟩
 case round=>
  obtain⟨g,x,na,Aa,ca,nb,Ab,cb,jO,rfl,rfl,oj,oi,hg,hlx,sC,ae⟩:=hrel;have jD:=J jO;clear jO;have HG:=J hg;have mu:=J ae;have HOA:=J oj;have WP:=J oi;have hnb:=oi.len;have ld:=oj.len;clear hg ae HA HB fN au m9 em aR;rcases qag g with h0|h0
  ·subst h0;rw[Be,qaZ]at hnb;subst hnb;have HV:Hid (Own w.heap.size wr (.slice Aa na ca) (Ac (Nat.gcd X Y))):=J (by
    have h1:=HG.o;rw[Nat.gcd_zero_right]at h1;rw[<-h1];exact oj)
   clear oj oi ld;go_wp2_with fail;go_ret;exact⟨_,rfl,HV.o,mu.o⟩
  ·have hl1:0<nb:=by
    rw[hnb];exact qby.2 (fun e=>by rw[Bw]at e;omega)
   have HD:=J (Et wr _ _ _ _ oj.arr oi.arr hlx sC (by rw[Ad];omega));rw[Ad,Ad]at HD;have gU:=qba x h0;have zT:=qae (Ay (qaK gU)) sC;have lq:=J (show Nat.gcd g (x % g)=Nat.gcd X Y by rw[<-MQ,HG.o]);have hb0:((nb:Int) != 0)=true:=by rw[bne_iff_ne];omega
   have am:((nb:Int) == 0)=false:=by rw[beq_eq_false_iff_ne];omega
   clear oj oi ld hnb;go_wp2_with fail;refine HD.o.mono ?_
   rintro e w3 ⟨v3,u3,rfl,od,bx,ab⟩;have be:=J (WP.o.ext ab);have eX:=J (bx.mono mu.o.size);have aE:=J (mu.o.trans ab);obtain⟨n3,A3,c3,rfl⟩:=od.shape;obtain⟨n4,A4,c4,rfl⟩:=bx.shape;clear od bx ab;go_wp2_with fail
   go_roundg (x % g)
   case rel=>exact⟨x % g,g,nb,Ab,cb,n4,A4,c4,rfl,rfl,rfl,be.o,eX.o,lq.o,sC,zT,aE.o⟩
   case measure=>rw[jD.o];exact gU
def d8(b:UInt8):Value:= .int .u8 (b.toNat:Int)
def str(l:List UInt8):Value:= .string ⟨l.toArray⟩
section
variable {w w':World} {v:Value} {bs:List UInt8} {B B':Nat}
end
theorem Nv(a b:List UInt8):(⟨a.toArray⟩:ByteArray)++⟨b.toArray⟩=⟨(a++b).toArray⟩:=by
 apply ByteArray.ext;simp
theorem Im(a b:List UInt8)(h:a.length+b.length<=2147483648)(W:World):(binOp .add 9 (str a) (str b)).run Tryz.prog W= .ok (str (a++b)) W:=by
 unfold str;simp[go_sem,Nv];omega
end Big
end Go.Proofs.YtkoaogkknnelaaaGreatDoor
