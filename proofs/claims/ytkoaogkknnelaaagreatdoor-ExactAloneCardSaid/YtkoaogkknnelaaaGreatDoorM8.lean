import Derived.Test.YtkoaogkknnelaaaGreatDoorM7
import Derived.Test.YtkoaogkknnelaaaGreatDoorShelf
import Derived.Deep.RegionHeld3
import Derived.Lib.ItoaNum
import Derived.Laws.BytesArg
import Derived.Lib.Strings
import Derived.Laws.Entries
set_option linter.unusedVariables false
set_option linter.unusedSimpArgs false
set_option maxHeartbeats 1000000
set_option maxRecDepth 100000
namespace Go.Proofs.YtkoaogkknnelaaaGreatDoor
namespace Big
open Lib (hid)
open Go.RowKit
theorem Rs(w:World)(x:Nat)(hx:x<4294967296):Calls Tryz.prog 292 #[.int .u32 (x:Int)] w fun e w'=>∃s:Nat,s<=32/\e= .returned (.int .i64 (s:Int))/\w=w':=by
 have h:=Tryz.bits_LeadingZeros32 (x:Int) w (by omega) (by omega);refine h.mono ?_
 rintro e w' ⟨rfl,rfl⟩;have h2:=Any.bitLen_le32 (x:Int) (by omega) (by omega);refine⟨32-Lib.bitLen (x:Int).toNat,by omega,?_,rfl⟩
 congr 2
 omega
theorem Ma{n:Nat}(h:n≠0):4294967296 ^ ((Ac n).length-1)<=n:=by
 induction n using Nat.strongRecOn with
 |_ n ih=>
  rw[Cj n h,List.length_cons,Nat.add_sub_cancel];by_cases h0:n / 4294967296=0
  ·rw[h0,Bi];simp;omega
  ·have h1:=ih (n / 4294967296) (by omega) h0;obtain⟨m,hm⟩:∃m,(Ac (n / 4294967296)).length=m+1:=by
    rw[Cj _ h0,List.length_cons];exact⟨_,rfl⟩
   rw[hm]at h1 ⊢;rw[Nat.add_sub_cancel]at h1;rw[Nat.pow_succ];have:=Nat.mul_le_mul_right 4294967296 h1;omega
theorem PO{n:Nat}(h:n≠0):1<=(Ac n).getD ((Ac n).length-1) 0:=by
 rcases Nat.eq_zero_or_pos ((Ac n).getD ((Ac n).length-1) 0) with h0|h0
 ·exfalso
  have hl:0<(Ac n).length:=by
   rw[Cj n h,List.length_cons];omega
  have h1:=Bn (Ac n) ((Ac n).length-1);rw[Nat.sub_add_cancel hl,List.take_of_length_le (Nat.le_refl _),Ad,h0,Nat.mul_zero,Nat.add_zero]at h1;have h2:=BM (Ce n) ((Ac n).length-1);have h3:=Ma h;omega
 ·exact h0
theorem J9(X:Nat){s:Nat}(hs:s<=32):(Ac (X*2 ^ s)).length<=(Ac X).length+1:=by
 refine AG ?_
 have h1:=Ck (Ce X);rw[Ad]at h1;have h2:2 ^ s<=4294967296:=Nat.le_trans (Nat.pow_le_pow_right (by omega) hs) (by decide);rw[Nat.pow_succ];exact Nat.lt_of_lt_of_le (Nat.mul_lt_mul_of_pos_right h1 (Nat.pow_pos (by omega))) (Nat.mul_le_mul_left _ h2)
def GF(A V:Nat)(w:World)(e:Ending)(w':World):Prop:=
 ∃v' u',e= .returned (.tuple #[v',u',.bool true])/\Own w.heap.size w' v' (Ac (A / V))/\Own w.heap.size w' u' (Ac (A % V))/\Ext w w'
theorem Nh(w:World)(v u:Value)(xs ys:List Nat)(h:Arr w v xs)(h':Arr w u ys)(hn:xs.length<=134217728)(bh:ys.length<=134217728)(hlt:val xs<val ys):
  Calls Tryz.prog 275 #[v,u] w (GF (val xs) (val ys) w):=by
 have HA:=hid (Bh w v xs h (by omega));have HB:=hid (fun W hx=>Bh W u ys (h'.ext hx) (by omega));have cJ:=hid (fun W v u a b=>D5 W v u (Ac (val xs)) (Ac (val ys)) a b (Nat.le_trans (Az h.ok) (by omega)) (Nat.le_trans (Az h'.ok) (by omega)));rw[Ad,Ad,EO hlt]at cJ;have k7:Ac (val ys)≠[]:=by rw[Ne,BB];omega
 have hl1:0<(Ac (val ys)).length:=List.length_pos_iff.2 k7;have HQ:=hid (Nat.div_eq_of_lt hlt);have HR:=hid (Nat.mod_eq_of_lt hlt);clear h h' hlt k7;go_enter Tryz.func275,Tryz.ntmps275;go_wp2_with fail;refine HA.out.mono ?_
 rintro e w1 ⟨v1,rfl,de,aj⟩;have ar:=hid aj;have eM:=hid de;obtain⟨n1,A1,c1,rfl⟩:=de.shape;clear de aj;go_wp2_with fail;refine(HB.out _ ar.out).mono ?_
 rintro e w2 ⟨v2,rfl,cM,ah⟩;have ee:=hid cM;obtain⟨n2,A2,c2,rfl⟩:=cM.shape;have hl:=cM.len;rw[<-hl]at hl1;have i4:((n2:Int) == 0)=false:=by rw[beq_eq_false_iff_ne];omega
 have aP:=hid (ar.out.trans ah);have iQ:=hid ah;clear cM ah hl;go_wp2_with fail;refine(cJ.out _ _ _ (eM.out.arr.ext iQ.out) ee.out.arr).mono ?_
 rintro e w3 ⟨rfl,ab⟩;have ay:=hid (aP.out.trans ab);have ej:=hid ((eM.out.ext iQ.out).ext ab);clear ab;go_wp2_with fail;go_ret3;exact⟨_,_,rfl,by rw[HQ.out];exact Own.none_ _ _,by rw[HR.out];exact ej.out,ay.out⟩
theorem LI(w:World)(v u:Value)(xs ys:List Nat)(h:Arr w v xs)(h':Arr w u ys)(hn:xs.length<=134217728)(bh:ys.length<=134217728)(ew:val ys<=val xs)(h1:(Ac (val ys)).length=1):
  Calls Tryz.prog 275 #[v,u] w (GF (val xs) (val ys) w):=by
 have HA:=hid (Bh w v xs h (by omega));have HB:=hid (fun W hx=>Bh W u ys (h'.ext hx) (by omega));have cJ:=hid (fun W v u a b=>D5 W v u (Ac (val xs)) (Ac (val ys)) a b (Nat.le_trans (Az h.ok) (by omega)) (Nat.le_trans (Az h'.ok) (by omega)));have fq:¬BQ (val xs) (val ys)<0:=by rw[DQ];omega
 rw[Ad,Ad]at cJ;obtain⟨d,hd⟩:∃d,Ac (val ys)=[d]:=List.length_eq_one_iff.1 h1;have hdv:val ys=d:=by rw[<-Ad (val ys),hd];simp[val]
 have sn:d<4294967296:=Ce (val ys) d (by rw[hd];simp);have ld:0<d:=by
  rcases Nat.eq_zero_or_pos d with h0|h0
  ·rw[hdv,h0,Bi]at h1;simp at h1
  ·exact h0
 have lM:=hid (fun W v a=>IK W v (Ac (val xs)) d a (Nat.le_trans (Az h.ok) (by omega)) ld sn);rw[Ad]at lM;have dM:=hid (fun W=>FV W (val xs % d) (by have:=Nat.mod_lt (val xs) ld;omega));have sf:=Nat.mod_lt (val xs) ld;rw[hd]at HB;rw[hdv];rw[hdv]at fq cJ;rw[show Ac d=[d] by rw[hdv]at hd;exact hd]at cJ;clear h h' ew h1 hd hdv;generalize BQ (val xs) d=cc at *;go_enter Tryz.func275,Tryz.ntmps275;go_wp2_with fail;refine HA.out.mono ?_
 rintro e w1 ⟨v1,rfl,de,aj⟩;have ar:=hid aj;have eM:=hid de;obtain⟨n1,A1,c1,rfl⟩:=de.shape;clear de aj;go_wp2_with fail;refine(HB.out _ ar.out).mono ?_
 rintro e w2 ⟨v2,rfl,cM,ah⟩;have ee:=hid cM;obtain⟨n2,A2,c2,rfl⟩:=cM.shape;have hl:=cM.len;simp only[List.length_singleton]at hl;subst hl;have aP:=hid (ar.out.trans ah);have iQ:=hid ah;clear cM ah;go_wp2_with fail;refine(cJ.out _ _ _ (eM.out.arr.ext iQ.out) ee.out.arr).mono ?_
 rintro e w3 ⟨rfl,ab⟩;have ay:=hid (aP.out.trans ab);have ej:=hid ((eM.out.ext iQ.out).ext ab);obtain⟨eQ,Wp,VT,he,hk2,dx,aa⟩:=(ee.out.ext ab).arr.open;injection he with e1 e3 e2
 subst e1 e2;obtain⟨b2,o2,rfl,dJ,aa⟩:=aa (by simp);have hx:=aa 0 (by simp);simp only[Nat.add_zero,List.getD_cons_zero,d32]at hx;clear ab aa eQ hk2 dx e3;go_wp2_with fail;refine(lM.out _ _ ej.out.arr).mono ?_
 rintro e w4 ⟨v4,rfl,pc,bD⟩;have bu:=hid (ay.out.trans bD);have mT:=hid (pc.mono ay.out.size);obtain⟨n4,A4,c4,rfl⟩:=pc.shape;clear pc bD;obtain⟨r,hr⟩:∃r,val xs % d=r:=⟨_,rfl⟩;have iR:=hid hr;rw[hr]at dM sf;rw[hr];clear hr;go_wp2_with fail;refine(dM.out _).mono ?_
 rintro e w5 ⟨v5,rfl,oh,hx5⟩;have cW:=hid (bu.out.trans hx5);have sE:=hid (oh.mono bu.out.size);have zt:=hid (mT.out.ext hx5);obtain⟨n5,A5,c5,rfl⟩:=oh.shape;clear oh hx5;go_wp2_with fail;go_ret3;exact⟨_,_,rfl,zt.out,by rw[iR.out];exact sE.out,cW.out⟩
theorem Own.blockR{B:Nat}{w:World}{v:Value}{xs:List Nat}(h:Own B w v xs)(hp:0<xs.length):∃g c RX,v= .slice (some ⟨g,0,none⟩) xs.length c/\B<=g/\xs.length<=c/\c<=maxLen/\Blk w g 183 (cells xs++RX)/\xs.length+RX.size=c:=by
 obtain⟨ax,A,c,rfl,h2,h3,h4⟩:=h;rw[List.length_map]at h2 h4;rcases h4 with ⟨h5,_⟩|⟨g,cur,rfl,hg,ao,hs,ht⟩
 ·rw[List.map_eq_nil_iff]at h5;subst h5;simp at hp
 ·refine⟨g,c,(cur.toList.drop xs.length).toArray,by rw[List.length_map],hg,h2,h3,?_,by simp;omega⟩;have e:cells xs++(cur.toList.drop xs.length).toArray=cur:=by
   apply Array.ext';unfold cells;rw[Array.toList_append];show xs.map d32++cur.toList.drop xs.length=cur.toList;rw[<-ht,List.take_append_drop]
  rw[e];exact ao
theorem RY{w:World}{g c:Nat}{us:List Nat}{RX:Array Value}(h:Blk w g 183 (cells us++RX))(ax:Ok us)(hc:us.length<=c)(hm:c<=maxLen):Arr w (.slice (some ⟨g,0,none⟩) us.length c) us:=
 Arr.mk ax hc hm fun _=>⟨g,0,rfl,h.lt,fun j hj=>by rw[h.cell,Nat.zero_add,Dc _ _ _ hj]⟩
theorem Arr.put{w:World}{v:Value}{xs:List Nat}{g:Nat}(h:Arr w v xs)(hne:∀b o n c,v= .slice (some ⟨b,o,none⟩) n c->b≠g)(i:Nat)(u:Value):Arr (w.setCell ⟨g,i,none⟩ u) v xs:=
 h.kept (Ep ((Dr.refl w).grown (some g)) i u) hne
theorem Arr.low{w:World}{v:Value}{xs:List Nat}{g:Nat}(h:Arr w v xs)(hp:0<xs.length)(hg:w.heap.size<=g):∀b o n c,v= .slice (some ⟨b,o,none⟩) n c->b≠g:=by
 obtain⟨_,A,c,rfl,_,_,aa⟩:=h.open;obtain⟨b,o,rfl,hb,_⟩:=aa hp;intro b' o' n' c' he;injection he with h1 _ _
 injection h1 with h1
 injection h1 with h1 _ _
 omega
def Tm(w wr:World)(u0 us qs:List Nat)(V gu gq K:Nat)(RX:Array Value)(v:Value):Prop:=
 Dt u0 us qs V K/\Ok qs/\Blk wr gq 183 (cells (List.replicate K 0++qs))/\Blk wr gu 183 (cells us++RX)/\Arr wr v (Ac V)/\Ext w wr
theorem KF(w:World)(v u:Value)(xs ys:List Nat)(h:Arr w v xs)(h':Arr w u ys)(hn:xs.length<=134217728)(bh:ys.length<=134217728)(ew:val ys<=val xs)(h2:2<=(Ac (val ys)).length):
  Calls Tryz.prog 275 #[v,u] w (GF (val xs) (val ys) w):=by
 have HA:=hid (Bh w v xs h (by omega));have HB:=hid (fun W hx=>Bh W u ys (h'.ext hx) (by omega));have xD:(Ac (val xs)).length<=134217728:=Nat.le_trans (Az h.ok) hn;have i4:(Ac (val ys)).length<=134217728:=Nat.le_trans (Az h'.ok) bh;have cJ:=hid (fun W v u a b=>D5 W v u (Ac (val xs)) (Ac (val ys)) a b (by omega) (by omega));have rh:=hid (fun W v s a h=>Kv W v (Ac (val xs)) s a (by omega) h);have rg:=hid (fun W v s a h=>Kv W v (Ac (val ys)) s a (by omega) h);have fq:¬BQ (val xs) (val ys)<0:=by rw[DQ];omega
 rw[Ad,Ad]at cJ;rw[Ad]at rh rg;have UX:val ys≠0:=fun e=>by rw[e,Bi]at h2;simp at h2
 obtain⟨X,hX⟩:∃X,val xs=X:=⟨_,rfl⟩;obtain⟨Y,hY⟩:∃Y,val ys=Y:=⟨_,rfl⟩;rw[hX]at HA cJ fq rh ew xD ⊢;rw[hY]at HB cJ fq rg ew h2 UX i4 ⊢;clear h h' hX hY hn bh;generalize BQ X Y=cc at *;go_enter Tryz.func275,Tryz.ntmps275;go_wp2_with fail;refine HA.out.mono ?_
 rintro e w1 ⟨v1,rfl,de,aj⟩;have ar:=hid aj;have eM:=hid de;obtain⟨n1,A1,c1,rfl⟩:=de.shape;clear de aj;go_wp2_with fail;refine(HB.out _ ar.out).mono ?_
 rintro e w2 ⟨v2,rfl,cM,ah⟩;have ee:=hid cM;obtain⟨m,hm⟩:∃m,(Ac Y).length=m+2:=⟨(Ac Y).length-2,by omega⟩;obtain⟨n2,A2,c2,rfl⟩:=cM.shape;have hl:=cM.len;rw[hm]at hl;subst hl;have aP:=hid (ar.out.trans ah);have iQ:=hid ah;clear cM ah;go_wp2_with fail;refine(cJ.out _ _ _ (eM.out.arr.ext iQ.out) ee.out.arr).mono ?_
 rintro e w3 ⟨rfl,ab⟩;have ay:=hid (aP.out.trans ab);have ZK:=hid ((eM.out.ext iQ.out).ext ab).arr;have aZ:=hid (ee.out.ext ab).arr;obtain⟨_,Wp,VT,he,iK,qo,aa⟩:=(ee.out.ext ab).arr.open;rw[hm]at he aa iK;injection he with e1 e3 e2
 subst e1 e2;clear e3;obtain⟨b2,o2,rfl,dJ,aa⟩:=aa (by omega);have hx:=aa (m+1) (by omega);have cK:=(Ce Y).get (m+1);clear ab aa iQ;generalize (Ac Y).getD (m+1) 0=y at *;simp only[d32]at hx;have Zp:=hid (fun W=>Rs W y cK);have U9:(((m:Int)+2) == 1)=false:=by rw[beq_eq_false_iff_ne];omega
 have Va:(((m:Int)+2) == 0)=false:=by rw[beq_eq_false_iff_ne];omega
 go_wp2_with fail;refine(Zp.out _).mono ?_
 rintro e w4 ⟨s,hs,rfl,rfl⟩;go_wp2_with fail;refine(rg.out _ _ s aZ.out (by omega)).mono ?_
 rintro e w4 ⟨v4,rfl,pc,bD⟩;have bu:=hid (ay.out.trans bD);have oT:=hid (ZK.out.ext bD);have mT:=hid pc;obtain⟨n4,A4,c4,rfl⟩:=pc.shape;have vY:=hid pc.len;clear pc bD;go_wp2_with fail;refine(rh.out _ _ s oT.out (by omega)).mono ?_
 rintro e w5 ⟨v5,rfl,oh,hx5⟩;have cW:=hid (bu.out.trans hx5);have yP:=hid hx5;have sE:=hid oh;obtain⟨n5,A5,c5,rfl⟩:=oh.shape;have Xe:=hx5.size;clear oh hx5;have Yv:=bu.out.size;have xF:=J9 X hs;have d9:Hid ((Ac (X*2 ^ s)).length+[0].length<=2147483648):=hid (by simp;omega);clear xF;go_wp2_with (at_builtin;go_must (refine AO rfl _ _ rfl rfl (sE.out.ext ((Ext.refl _).alloc _)) rfl (Arr.fresh1' _ _ 0 rfl (by omega)) d9.out (by simp;omega) ?_;intro v6 w6 kW cj vH));have th:=vH.size;simp only[World.size_alloc]at th;have cV:=hid ((cW.out.alloc (.cells #[.int .u32 0] 183)).more (vH.mono Yv));have zZ:Hid (Arr w6 (.slice A4 n4 c4) (Ac (Y*2 ^ s))):=hid (mT.out.arr.ext ((yP.out.alloc _).more vH));have uq:Y*2 ^ s≠0:=Nat.mul_ne_zero UX (Nat.ne_of_gt (Nat.pow_pos (by omega)));have VB:Y*2 ^ s<=X*2 ^ s:=Nat.mul_le_mul_right _ ew;have VA:Y<=Y*2 ^ s:=Nat.le_mul_of_pos_right _ (Nat.pow_pos (by omega));have qz:=Ay VB;have oq:=Ay VA;have xC:=J9 X hs;have Zz:=hid (Qf X Y s);have Wh:=hid (PL X Y s);have ev:=fun g=>mT.out.arr.low (g:=g)
 have nX:=Ma uq;have kR:=PO uq;have lW:=Ck (Ce (Y*2 ^ s));rw[Ad]at lW;obtain⟨u0,lE⟩:∃u0,Ac (X*2 ^ s)++[0]=u0:=⟨_,rfl⟩;have sY:val u0=X*2 ^ s:=by rw[<-lE,BG,Ad,Nat.mul_zero,Nat.add_zero]
 have wU:Ok u0:=by rw[<-lE];exact(Ce _).snoc (by omega)
 have sZ:u0.length=(Ac (X*2 ^ s)).length+1:=by rw[<-lE];simp
 have sX:u0.getD (u0.length-1) 0=0:=by
  rw[sZ,Nat.add_sub_cancel,<-lE,List.getD_eq_getElem?_getD,List.getElem?_append_right (Nat.le_refl _),Nat.sub_self];rfl
 rw[lE]at kW;have tI:=vY.out;rw[<-tI]at qz oq nX kR lW ev;obtain⟨m4,Ve⟩:∃m4,n4=m4+2:=⟨n4-2,by omega⟩;obtain⟨M,hM⟩:∃M,u0.length=m4+2+(M+1):=⟨u0.length-(m4+2)-1,by omega⟩;have xu:=tI;rw[Ve]at tI qz oq nX kR lW ev mT zZ;subst Ve;have bZ:Hid (Dt u0 u0 [] (Y*2 ^ s) (M+1)):=hid (by
  have:=Dt.start (V:=Y*2 ^ s) (n:=m4+2) wU (by omega) (by omega) sX nX
  rwa [show u0.length-(m4+2)=M+1 by omega]at this)
 obtain⟨gu,cu,RX,rfl,XW,x7,x6,qI,qH⟩:=kW.blockR (by omega);have Wj:=hid qI;have tF:=ev gu (by omega) XW;have uV:=hid tF;have HN4:=hid tI;have l9:(u0.length:Int)-((m4:Int)+2)=(M:Int)+1:=by omega
 have cS:=CN M (by omega);have uM:=hid sY;obtain⟨Lu,yu⟩:∃Lu,u0.length=Lu:=⟨_,rfl⟩;rw[yu]at l9 x7 hM qH ⊢;have Wc:=hid yu;have Yo:Lu<=134217730:=by omega
 have XB:m4<=134217728:=by omega
 unfold maxLen at x6;have ZB:=hid qH;clear qH;have HYL:=hid nX;have yJ:=hid kR;have oE:=hid lW;have HM:=hid hM;clear lE yu xu sY sX tI qz oq xC nX kR lW ev kW qI tF vH cj VB VA sZ hM;go_wp2_with fail;go_simp;go_wp2_with fail;clear cS l9;have XV:=Wj.out.lt;have cX:=hid (cV.out.alloc (.cells (zeros (M+1)) 183));have am:=hid (Wj.out.alloc (.cells (zeros (M+1)) 183));have ZL:=hid (zZ.out.ext ((Ext.refl w6).alloc (.cells (zeros (M+1)) 183)));have oH:=hid (Blk.new w6 183 (zeros (M+1)));have zu:=hid (zZ.out.low (g:=w6.heap.size) (by rw[<-vY.out];omega) (Nat.le_refl _));have zU:=hid cV.out.size;generalize w6.heap.size=gq at *;have Vi:gu≠gq:=by omega
 go_loopw [15] (fun s15 wr=>∃(K:Nat) (us qs:List Nat),K<=M+1/\s15= .int .i64 ((K:Int)-1)/\K+qs.length=M+1/\Tm w wr u0 us qs (Y*2 ^ s) gu gq K RX (.slice A4 (m4+2) c4)) (fun s15 _=>(intOf s15+1).toNat)
 case atStart=>exact⟨M+1,u0,[],Nat.le_refl _,by congr 1;omega,rfl,bZ.out,B3,by rw[List.append_nil];exact oH.out,am.out,ZL.out,cX.out⟩
 case round=>
  obtain⟨K,us,qs,hK,rfl,vt,el,kV,mC,qI,vI,ad⟩:=hrel;rcases Nat.eq_zero_or_pos K with h0|h0
  ·subst h0;obtain⟨ii,mb⟩:=el.done oE.out;rw[uM.out,Zz.out]at ii;rw[uM.out]at mb;have yt:=HM.out;have wT:us.length=Lu:=by rw[el.1];exact Wc.out
   have pa:qs.length=M+1:=by omega
   have Vw:Arr wr (.slice (some ⟨gq,0,none⟩) (M+1) (M+1)) qs:=by
    have h3:=(Own.block (B:=gq) kV (by simpa using mC) (Nat.le_refl _) (by omega)).arr
    rwa [pa]at h3
   have Vu:Arr wr (.slice (some ⟨gu,0,none⟩) (m4+2) cu) (us.take (m4+2)):=by
    have h3:=RY (c:=cu) qI el.2.1 (by omega) (by unfold maxLen;omega);obtain⟨A',c',he,h4⟩:=h3.take (m4+2) (by omega);injection he with h5 _ h6
    subst h5 h6;exact h4
   have VZ:=hid (fun W hx=>Bh W _ _ (Vw.ext hx) (by omega));have ul:Arr wr (.slice (some ⟨gu,0,none⟩) ((m4:Int)+2).toNat cu) (us.take (m4+2)):=by
    rw[show ((m4:Int)+2).toNat=m4+2 by omega];exact Vu
   have VY:=hid (fun W hx=>Bh W _ _ (ul.ext hx) (by rw[List.length_take];omega));rw[ii]at VZ;rw[mb]at VY;have sB:=hid (fun W v a=>Sw W v (Ac (X*2 ^ s % (Y*2 ^ s))) s a (by
    have:=Ay (Nat.le_of_lt (Nat.mod_lt (X*2 ^ s) (Nat.pos_of_ne_zero uq)));rw[<-vY.out]at this;omega) (by omega))
   rw[Ad,Wh.out]at sB;have kI:=hid ad;have Xw:m4+2<=Lu:=by omega
   have Xy:(0:Int)<=(m4:Int)+2:=by omega
   have Xx:(m4:Int)+2<=(cu:Int):=by omega
   clear ii mb Vw Vu ul mC qI vI el wT yt pa ad vt;go_wp2_with fail
   go_region_held3 (fun w'=>Ext wr w')
    (first|exact(Ext.refl wr).drew|assumption|exact Ext.trans (by assumption) (by assumption))
    (first
     |(go_at_call 188;(with_reducible refine(VZ.out _ (by assumption)).mono ?_);rintro e w9 ⟨v9,rfl,xn,eG⟩;have uT:=hid (xn.mono (Nat.le_trans kI.out.size (Ext.size (w:=wr) (by assumption))));obtain⟨n9,A9,c9,rfl⟩:=xn.shape;(try have zq:=hid (zq.out.ext eG));(try have lm:=hid (lm.out.ext eG));clear xn)
     |(go_at_call 188;(with_reducible refine(VY.out _ (by assumption)).mono ?_);rintro e w8 ⟨v8,rfl,xo,cp⟩;have zq:=hid xo;obtain⟨n8,A8,c8,rfl⟩:=xo.shape;(try have uT:=hid (uT.out.ext cp));clear xo)
     |(go_at_call 295;(with_reducible refine(sB.out _ _ zq.out.arr).mono ?_);rintro e w7 ⟨v7,rfl,xp,ch⟩;have lm:=hid (xp.mono (Nat.le_trans kI.out.size (Ext.size (w:=wr) (by assumption))));obtain⟨n7,A7,c7,rfl⟩:=xp.shape;(try have uT:=hid (uT.out.ext ch));clear xp))
   all_goals
    go_wp2_with fail;go_ret3;exact⟨_,_,rfl,uT.out,lm.out,kI.out.trans (by assumption)⟩
  ·obtain⟨j,rfl⟩:∃j,K=j+1:=⟨K-1,by omega⟩;have wT:us.length=Lu:=by rw[el.1];exact Wc.out
   have yt:=HM.out;have tE:=uV.out;have HD:=hid (Qh RX wr gu j (cu-j) m4 us (.slice A4 (m4+2) c4) (Ac (Y*2 ^ s)) qI el.2.1 vY.out.symm (by omega) (by omega) (by omega) (by unfold maxLen;omega) vI tE yJ.out
    (by rw[Ad];exact(el.seg_lt (by omega) oE.out).2))
   rw[Ad,show m4+3=j+(m4+2)+1-j by omega]at HD;have Z4:j+(m4+2)+1<=Lu:=by omega
   have vX:=hid (fun zs h1 h2 h3=>el.step (zs:=zs) (n:=m4+2) (by omega) oE.out (Nat.pos_of_ne_zero uq) (by omega) h1 h2 h3);have sn:val (seg us j (m4+2)) / (Y*2 ^ s)<4294967296:=by
    rw[Nat.div_lt_iff_lt_mul (Nat.pos_of_ne_zero uq),Nat.mul_comm];exact(el.seg_lt (by omega) oE.out).2
   have ye:=mC.lt;have yg:=mC;have ZF:=hid mC;have ZH:=hid vI;have kI:=hid ad;clear mC vI ad qI el tE yg wT yt;generalize val (seg us j (m4+2)) / (Y*2 ^ s)=D at *;go_wp2_with fail;refine HD.out.mono ?_
   rintro e w7 ⟨zs,rfl,kQ,vo,UO,uf,cH⟩;have lz:=hid (vX.out zs vo (by rw[kQ];omega) UO);have oB:Blk w7 gq 183 (cells (List.replicate (j+1) 0++qs)):=(cH.block gq ye (by simpa using Vi.symm)).trans ZF.out;have ac:=oB.cell j;have gP:=oB.frozen j;rw[AY _ _ (by simp;omega)]at ac;have qJ:=oB.set_ j (d32 D);rw[Bp,IC]at qJ;have iW:=hid qJ;have Za:=hid (uf.far (p:=⟨gq,j,none⟩) Vi (d32 D));have ZJ:=hid ((ZH.out.kept cH uV.out).put zu.out j (d32 D));have df:=hid ((kI.out.grown cH (fun k hk=>by simp at hk;omega)).setCell (p:=⟨gq,j,none⟩) zU.out (d32 D));clear kQ vo UO uf cH oB qJ;generalize (List.replicate (j+1) 0++qs).getD j 0=z at ac;simp only[d32]at ac;go_wp2_with fail;go_roundw
   case rel=>exact⟨j,_,D::qs,by omega,(by first|rfl|(congr 1;omega)),by simp;omega,lz.out,C1 sn kV,iW.out,Za.out,ZJ.out,df.out⟩
   case measure=>simp[intOf]
theorem D2(w:World)(v u:Value)(xs ys:List Nat)(h:Arr w v xs)(h':Arr w u ys)(hn:xs.length<=134217728)(bh:ys.length<=134217728)(hy:val ys≠0):
  Calls Tryz.prog 275 #[v,u] w (GF (val xs) (val ys) w):=by
 rcases Nat.lt_or_ge (val xs) (val ys) with h1|h1
 ·exact Nh w v u xs ys h h' hn bh h1
 ·have h2:(Ac (val ys)).length≠0:=fun e=>hy (BB.1 (List.eq_nil_of_length_eq_zero e))
  rcases Nat.lt_or_ge (Ac (val ys)).length 2 with h3|h3
  ·exact LI w v u xs ys h h' hn bh h1 (by omega)
  ·exact KF w v u xs ys h h' hn bh h1 h3
def Be(n:Nat):Nat:=if n=0 then 0 else n.log2+1
theorem DS{n:Nat}:Be n=0↔n=0:=by
 unfold Be;split
 ·simp[*]
 ·simp[*]
theorem Sb{n b:Nat}(h1:2 ^ b<=n)(h2:n<2 ^ (b+1)):Be n=b+1:=by
 have h0:n≠0:=by
  have:0<2 ^ b:=Nat.pow_pos (by omega);omega
 unfold Be;rw[if_neg h0];have h3:=(Nat.le_log2 h0).2 h1;have h4:=(Nat.log2_lt h0).2 h2;omega
theorem Ms{xs:List Nat}{n:Nat}(ax:Ok xs)(YK:n+1<=xs.length)(hz:val (xs.drop (n+1))=0)(ht:xs.getD n 0≠0):32*n+Lib.bitLen (xs.getD n 0)=Be (val xs):=by
 have hx:=ax.get n;obtain⟨b1,b2,b3⟩:=Lib.bitLenAux_bounds 64 (xs.getD n 0) (by omega) ht;have h1:=Bo xs (n+1);rw[hz,Nat.mul_zero,Nat.add_zero,Bn]at h1;have h2:=BM ax n;obtain⟨c,hc⟩:∃c,Lib.bitLenAux 64 (xs.getD n 0)=c+1:=⟨Lib.bitLenAux 64 (xs.getD n 0)-1,by omega⟩;unfold Lib.bitLen;rw[hc]at b2 b3 ⊢;rw[Nat.add_sub_cancel]at b2;generalize xs.getD n 0=y at *;rw[h1];refine(Sb (b:=32*n+c) ?_ ?_).symm
 ·rw[Nat.pow_add,Nat.pow_mul];exact Nat.le_trans (Nat.mul_le_mul_left _ b2) (Nat.le_add_left _ _)
 ·rw[Nat.add_assoc,Nat.pow_add,Nat.pow_mul,show (2:Nat) ^ 32=4294967296 from rfl];have h3:=Nat.mul_le_mul_left (4294967296 ^ n) (show y+1<=2 ^ (c+1) from b3);rw[Nat.mul_add,Nat.mul_one]at h3;omega
theorem DR(w:World)(v:Value)(xs:List Nat)(h:Arr w v xs)(hn:xs.length<=134217728):
  Calls Tryz.prog 135 #[v] w fun e w'=>e= .returned (.int .i64 (Be (val xs):Nat))/\w=w':=by
 have HS:=hid (Co w v xs h);have cx:=Cm xs;have rY:=D8 h.ok;obtain⟨ax,A,c,rfl,hc,hm,aa⟩:=h.open;rcases Nat.eq_zero_or_pos (size xs) with h0|h0
 ·have HZ:=hid (DS.2 (GK h0));rw[HZ.out];rw[h0]at HS;clear hm aa h0 cx hc;go_enter Tryz.func135,Tryz.ntmps135;go_wp2_with fail;refine HS.out.mono ?_
  rintro e w' ⟨rfl,rfl⟩;go_wp2_with fail;go_ret;exact⟨rfl,rfl⟩
 ·obtain⟨n,dH⟩:∃n,size xs=n+1:=⟨size xs-1,by omega⟩;rw[dH]at HS cx rY;have ht:xs.getD n 0≠0:=by
   intro e;have h1:=Bo xs n;rw[Bj,e,rY]at h1;simp only[Nat.mul_zero,Nat.add_zero]at h1;have h2:=AG (n:=val xs) (k:=n) (by rw[h1];exact BM ax n);rw[<-Ku ax]at h2;omega
  have HB:=hid (Ms ax cx rY ht);obtain⟨b,o,rfl,hb,aa⟩:=aa (by omega);have hx:=aa n (by omega);have cK:=ax.get n;clear aa h0 rY dH hc ht;obtain⟨y,hy⟩:∃y,xs.getD n 0=y:=⟨_,rfl⟩;rw[hy]at hx cK HB;clear hy;have HL:=hid (Tryz.bits_Len32 (y:Int) w (by omega) (by omega));have eS:=Any.bitLen_le32 (y:Int) (by omega) (by omega);rw[Int.toNat_natCast]at HL eS;unfold maxLen at hm;simp only[d32]at hx;have oj:(((n:Int)+1) == 0)=false:=by rw[beq_eq_false_iff_ne];omega
  generalize Lib.bitLen y=bl at *;go_enter Tryz.func135,Tryz.ntmps135;go_wp2_with fail;refine HS.out.mono ?_
  rintro e w' ⟨rfl,rfl⟩;go_wp2_with fail;refine HL.out.mono ?_
  rintro e w' ⟨rfl,rfl⟩;go_wp2_with fail;go_ret;exact⟨congrArg (fun z=>Ending.returned (.int .i64 z)) (by rw[<-HB.out];simp),rfl⟩
theorem S5(w:World)(v u:Value)(xs ys:List Nat)(h:Arr w v xs)(h':Arr w u ys)(hn:xs.length<=134217728)(bh:ys.length<=134217728):
  Calls Tryz.prog 274 #[v,u] w fun e w'=>∃v',e= .returned v'/\Own w.heap.size w' v' (Ac (Nat.gcd (val xs) (val ys)))/\Ext w w':=by
 have HA:=hid (Bh w v xs h (by omega));have HB:=hid (fun W hx=>Bh W u ys (h'.ext hx) (by omega));have xD:(Ac (val xs)).length<=134217728:=Nat.le_trans (Az h.ok) hn;have i4:(Ac (val ys)).length<=134217728:=Nat.le_trans (Az h'.ok) bh;clear h h' hn bh;generalize val xs=X at *;generalize val ys=Y at *;go_enter Tryz.func274,Tryz.ntmps274;go_wp2_with fail;refine HA.out.mono ?_
 rintro e w1 ⟨v1,rfl,de,aj⟩;have ar:=hid aj;have eM:=hid de;obtain⟨n1,A1,c1,rfl⟩:=de.shape;clear de aj;go_wp2_with fail;refine(HB.out _ ar.out).mono ?_
 rintro e w2 ⟨v2,rfl,cM,ah⟩;have ee:=hid (cM.mono ar.out.size);have lq:=hid (eM.out.ext ah);have aP:=hid (ar.out.trans ah);obtain⟨n2,A2,c2,rfl⟩:=cM.shape;clear cM ah;go_wp2_with fail
 go_loopg [0,1] Y (fun gh s0 s1 wr=>∃(g x:Nat) (na:Nat) (Aa:Option Addr) (ca nb:Nat) (Ab:Option Addr) (cb:Nat),gh=g/\s0= .slice Aa na ca/\s1= .slice Ab nb cb/\Own w.heap.size wr s0 (Ac x)/\Own w.heap.size wr s1 (Ac g)/\Nat.gcd x g=Nat.gcd X Y/\(Ac x).length<=134217728/\(Ac g).length<=134217728/\Ext w wr)
 case atStart=>exact⟨Y,X,n1,A1,c1,n2,A2,c2,rfl,rfl,rfl,lq.out,ee.out,rfl,xD,i4,aP.out⟩
 case round=>
  obtain⟨g,x,na,Aa,ca,nb,Ab,cb,hgg,rfl,rfl,mg,mf,hg,hlx,qv,ad⟩:=hrel;have iw:=hid hgg;clear hgg;have HG:=hid hg;have kI:=hid ad;have HOA:=hid mg;have zr:=hid mf;have hnb:=mf.len;have jv:=mg.len;clear hg ad HA HB eM ar lq ee aP;rcases Nat.eq_zero_or_pos g with h0|h0
  ·subst h0;rw[Bi,List.length_nil]at hnb;subst hnb;have HV:Hid (Own w.heap.size wr (.slice Aa na ca) (Ac (Nat.gcd X Y))):=hid (by
    have h1:=HG.out;rw[Nat.gcd_zero_right]at h1;rw[<-h1];exact mg)
   clear mg mf jv;go_wp2_with fail;go_ret;exact⟨_,rfl,HV.out,kI.out⟩
  ·have hl1:0<nb:=by
    rw[hnb];exact List.length_pos_iff.2 (fun e=>by rw[BB]at e;omega)
   have HD:=hid (D2 wr _ _ _ _ mg.arr mf.arr hlx qv (by rw[Ad];omega));rw[Ad,Ad]at HD;have fB:=Nat.mod_lt x h0;have xA:=Nat.le_trans (Ay (Nat.le_of_lt fB)) qv;have jD:=hid (show Nat.gcd g (x % g)=Nat.gcd X Y by rw[<-Ml,HG.out]);have hb0:((nb:Int) != 0)=true:=by rw[bne_iff_ne];omega
   have aq:((nb:Int) == 0)=false:=by rw[beq_eq_false_iff_ne];omega
   clear mg mf jv hnb;go_wp2_with fail;refine HD.out.mono ?_
   rintro e w3 ⟨v3,u3,rfl,ma,bf,ab⟩;have aZ:=hid (zr.out.ext ab);have ej:=hid (bf.mono kI.out.size);have ay:=hid (kI.out.trans ab);obtain⟨n3,A3,c3,rfl⟩:=ma.shape;obtain⟨n4,A4,c4,rfl⟩:=bf.shape;clear ma bf ab;go_wp2_with fail
   go_roundg (x % g)
   case rel=>exact⟨x % g,g,nb,Ab,cb,n4,A4,c4,rfl,rfl,rfl,aZ.out,ej.out,jD.out,qv,xA,ay.out⟩
   case measure=>rw[iw.out];exact fB
def d8(b:UInt8):Value:= .int .u8 (b.toNat:Int)
def str(l:List UInt8):Value:= .string ⟨l.toArray⟩
def Fq(w:World)(v:Value)(bs:List UInt8):Prop:=Ch w v (bs.map d8)
def Hb(B:Nat)(w:World)(v:Value)(bs:List UInt8):Prop:=BA 5 B w v (bs.map d8)
section
variable {w w':World} {v:Value} {bs:List UInt8} {B B':Nat}
theorem Fq.ext(h:Fq w v bs)(hb:Ext w w'):Fq w' v bs:=Ch.ext h hb
theorem Hb.ext(h:Hb B w v bs)(hb:Ext w w'):Hb B w' v bs:=BA.ext h hb
theorem Hb.mono(h:Hb B w v bs)(hB:B'<=B):Hb B' w v bs:=BA.mono h hB
theorem Hb.arr(h:Hb B w v bs):Fq w v bs:=BA.arr h
theorem Hb.none_(B:Nat)(w:World):Hb B w (.slice none 0 0) []:=BA.none_ _ B w
theorem Fq.fresh1(w:World)(t:Int)(y:UInt8)(ht:t=(y.toNat:Int)):Fq (w.alloc (.cells #[.int .u8 t] 5)) (.slice (some ⟨w.heap.size,0,none⟩) 1 1) [y]:=by
 subst ht;exact Ch.one (by simp[d8])
theorem Nz{j:Nat}(hj:j<bs.length):(bs.map d8)[j]? =some (d8 bs[j]):=by
 rw[List.getElem?_map,List.getElem?_eq_getElem hj];rfl
theorem Fq.open(h:Fq w v bs):∃A c,v= .slice A bs.length c/\bs.length<=c/\c<=maxLen/\
  (0<bs.length->∃b o,A=some ⟨b,o,none⟩/\b<w.heap.size/\∀j (hj:j<bs.length),w.cell? ⟨b,o+j,none⟩=some (d8 bs[j])):=by
 obtain⟨A,c,rfl,h2,h3,h4⟩:=h;rw[List.length_map]at h2 h4;refine⟨A,c,by rw[List.length_map],h2,h3,fun hp=> ?_⟩;obtain⟨b,o,rfl,hlt,hc⟩:=h4 hp;exact⟨b,o,rfl,hlt,fun j hj=>hc j _ (Nz hj)⟩
end
theorem MR(a b:List UInt8):(⟨a.toArray⟩:ByteArray)++⟨b.toArray⟩=⟨(a++b).toArray⟩:=by
 apply ByteArray.ext;simp
theorem Hi(a b:List UInt8)(h:a.length+b.length<=2147483648)(W:World):(binOp .add 9 (str a) (str b)).run Tryz.prog W= .ok (str (a++b)) W:=by
 unfold str;simp[go_sem,MR];omega
def Ae(l:List UInt8)(i:Nat):Nat:=(l.getD i 0).toNat
theorem CA(l:List UInt8)(i:Nat):Ae l i<256:=UInt8.toNat_lt _
theorem Bq(l:List UInt8)(i:Nat)(h:i<l.length):Ae l i=l[i].toNat:=by
 unfold Ae;rw[List.getD_eq_getElem?_getD,List.getElem?_eq_getElem h];rfl
theorem BZ(l:List UInt8):(⟨l.toArray⟩:ByteArray).size=l.length:=by simp[ByteArray.size]
@[go_sem] theorem Tp (l:List UInt8) (ty:TypeId) (W:World):(Builtin.len_ #[9] ty #[str l]).run Tryz.prog W= .ok (.int .i64 (l.length:Int)) W:=by
  have:=run_len_string (P:=Tryz.prog) W 9 ty ⟨l.toArray⟩ Tryz.underlying9;rw[BZ]at this;exact this
@[go_sem] theorem Tq (l:List UInt8) (k:IntKind) (i:Int) (W:World):
  (Instr.index 9 (str l) (.int k i)).run Tryz.prog W=if 0<=i/\i<(l.length:Int) then .ok (.int .u8 (Ae l i.toNat:Int)) W else (boundsPanic k i (l.length:Int) .index).run Tryz.prog W:=by
  have h2:=run_index_string (P:=Tryz.prog) W 9 ⟨l.toArray⟩ k i Tryz.underlying9;by_cases h:0<=i/\i<(l.length:Int)
  ·rw[dif_pos ⟨h.1,by rw[BZ];exact h.2⟩]at h2;have h3:i.toNat<l.length:=by omega
   rw[if_pos h,Bq l _ h3];exact h2
  ·rw[dif_neg (by rw[BZ];exact h),BZ]at h2;rw[if_neg h];exact h2
@[go_sem] theorem Tt (op:BinOp) (t:TypeId) (x y:Operand) (a:List UInt8) (v:Value):eqGuard op t x y (str a) v=pure ():=by
  unfold str;cases op<;>cases v<;>rfl
@[go_sem] theorem OB (op:BinOp) (t:TypeId) (x y:Operand) (a:List UInt8) (s:ByteArray):eqGuard op t x y (.string s) (str a)=pure ():=by
  unfold str;cases op<;>rfl
@[go_sem] theorem Td (a b:List UInt8):binOp .eql 9 (str a) (str b)=pure (.bool (a == b)):=by
  unfold str;rw[binOp_string_eql,ByteArray.toList_mk,ByteArray.toList_mk]
@[go_sem] theorem SJ (a b:List UInt8):binOp .neq 9 (str a) (str b)=pure (.bool !(a == b)):=by
  unfold str;rw[binOp_string_neq,ByteArray.toList_mk,ByteArray.toList_mk]
@[go_sem] theorem Sq (a b:List UInt8):binOp .eql 9 (str a) (.string ⟨b.toArray⟩)=pure (.bool (a == b)):=Td a b
@[go_sem] theorem Sp (a b:List UInt8):binOp .neq 9 (str a) (.string ⟨b.toArray⟩)=pure (.bool !(a == b)):=SJ a b
theorem Fi(l:List UInt8)(a b:Nat):(⟨l.toArray⟩:ByteArray).extract a b=⟨((l.drop a).take (b-a)).toArray⟩:=by
 apply ByteArray.ext;apply Array.ext';rw[Lib.extract_data]
@[go_sem] theorem So (l:List UInt8) (k k':IntKind) (i j:Int) (W:World):
  (Instr.slice 9 (str l) (some (.int k i)) (some (.int k' j)) none).run Tryz.prog W=
   if 0<=j/\j<=(l.length:Int) then
    (if 0<=i/\i<=j then .ok (str ((l.take j.toNat).drop i.toNat)) W
     else ((boundsPanic k i j.toNat .sliceB:Sem Nat).run Tryz.prog W).andThen fun a w'=> .ok (str ((l.take j.toNat).drop a)) w')
   else ((boundsPanic k' j l.length .sliceAlen:Sem Nat).run Tryz.prog W).andThen fun b w'=>
    ((Instr.sliceBound (.int k i) b .sliceB).run Tryz.prog w').andThen fun a w''=> .ok (str ((l.take b).drop a)) w'':=by
  unfold str;rw[run_slice_string_if (P:=Tryz.prog) W 9 ⟨l.toArray⟩ k k' i j Tryz.underlying9];simp only[BZ,Fi,List.drop_take]
@[go_sem] theorem MY (l:List UInt8) (k:IntKind) (i:Int) (W:World):
  (Instr.slice 9 (str l) (some (.int k i)) none none).run Tryz.prog W=
   if 0<=i/\i<=(l.length:Int) then .ok (str (l.drop i.toNat)) W else ((boundsPanic k i l.length .sliceB:Sem Nat).run Tryz.prog W).andThen fun a w'=> .ok (str (l.drop a)) w':=by
  unfold str;rw[run_slice_string_from_if (P:=Tryz.prog) W 9 ⟨l.toArray⟩ k i Tryz.underlying9];have hd:∀a,(l.drop a).take (l.length-a)=l.drop a:=fun a=>List.take_of_length_le (by simp)
  simp only[BZ,Fi,hd]
@[go_sem] theorem O4 (l:List UInt8) (k:IntKind) (j:Int) (W:World):
  (Instr.slice 9 (str l) none (some (.int k j)) none).run Tryz.prog W=
   if 0<=j/\j<=(l.length:Int) then .ok (str (l.take j.toNat)) W else ((boundsPanic k j l.length .sliceAlen:Sem Nat).run Tryz.prog W).andThen fun a w'=> .ok (str (l.take a)) w':=by
  unfold str;rw[run_slice_string_to_if (P:=Tryz.prog) W 9 ⟨l.toArray⟩ k j Tryz.underlying9];simp only[BZ,Fi,List.drop_zero,Nat.sub_zero]
@[go_sem high] theorem Sn (P:Program) (w:World) (a:Addr) (l:List UInt8) (m:Mode):(store a (str l) m).run P w=stored P w a (str l) m:=run_store P w a _ m rfl
@[go_sem high] theorem TZ (l:List UInt8):(str l).cells= #[str l]:=rfl
@[go_sem high] theorem Qs (l:List UInt8):(match str l with|Value.agg cs=>cs|v=> #[v])= #[str l]:=rfl
@[go_sem high] theorem Ts (l:List UInt8):(str l).oneCell'=true:=rfl
end Big
end Go.Proofs.YtkoaogkknnelaaaGreatDoor
