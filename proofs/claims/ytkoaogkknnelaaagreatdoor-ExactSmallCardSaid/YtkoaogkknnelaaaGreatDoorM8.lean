import Derived.Test.YtkoaogkknnelaaaGreatDoorM7
import Derived.Test.YtkoaogkknnelaaaGreatDoorShelf
import Derived.Deep.RegionHeld3
import Derived.Lib.ItoaNum
import Derived.Laws.BytesArg
import Derived.Lib.Strings
import Derived.Laws.Entries
set_option linter.unusedVariables false
set_option linter.unusedSimpArgs false
set_option maxHeartbeats 1000000
set_option maxRecDepth 100000
namespace Go.Proofs.YtkoaogkknnelaaaGreatDoor
namespace Big
open Lib (hid)
open Go.RowKit
theorem RV(w:World)(x:Nat)(hx:x<4294967296):Calls Tryz.prog 292 #[.int .u32 (x:Int)] w fun e w'=>∃s:Nat,s<=32/\e= .returned (.int .i64 (s:Int))/\w=w':=by
 have h:=Tryz.bits_LeadingZeros32 (x:Int) w (by omega) (by omega);refine h.mono ?_
 rintro e w' ⟨rfl,rfl⟩;have h2:=Any.bitLen_le32 (x:Int) (by omega) (by omega);refine⟨32-Lib.bitLen (x:Int).toNat,by omega,?_,rfl⟩
 congr 2
 omega
theorem Ms{n:Nat}(h:n≠0):4294967296 ^ ((Ac n).length-1)<=n:=by
 induction n using Nat.strongRecOn with
 |_ n ih=>
  rw[Cu n h,List.length_cons,Nat.add_sub_cancel];by_cases h0:n / 4294967296=0
  ·rw[h0,Bb];simp;omega
  ·have h1:=ih (n / 4294967296) (by omega) h0;obtain⟨m,hm⟩:∃m,(Ac (n / 4294967296)).length=m+1:=by
    rw[Cu _ h0,List.length_cons];exact⟨_,rfl⟩
   rw[hm]at h1 ⊢;rw[Nat.add_sub_cancel]at h1;rw[Nat.pow_succ];have:=Nat.mul_le_mul_right 4294967296 h1;omega
theorem P1{n:Nat}(h:n≠0):1<=(Ac n).getD ((Ac n).length-1) 0:=by
 rcases Nat.eq_zero_or_pos ((Ac n).getD ((Ac n).length-1) 0) with h0|h0
 ·exfalso
  have hl:0<(Ac n).length:=by
   rw[Cu n h,List.length_cons];omega
  have h1:=Bs (Ac n) ((Ac n).length-1);rw[Nat.sub_add_cancel hl,List.take_of_length_le (Nat.le_refl _),Ad,h0,Nat.mul_zero,Nat.add_zero]at h1;have h2:=BN (Cp n) ((Ac n).length-1);have h3:=Ms h;omega
 ·exact h0
theorem Kz(X:Nat){s:Nat}(hs:s<=32):(Ac (X*2 ^ s)).length<=(Ac X).length+1:=by
 refine AE ?_
 have h1:=Cf (Cp X);rw[Ad]at h1;have h2:2 ^ s<=4294967296:=Nat.le_trans (Nat.pow_le_pow_right (by omega) hs) (by decide);rw[Nat.pow_succ];exact Nat.lt_of_lt_of_le (Nat.mul_lt_mul_of_pos_right h1 (Nat.pow_pos (by omega))) (Nat.mul_le_mul_left _ h2)
def GY(A V:Nat)(w:World)(e:Ending)(w':World):Prop:=
 ∃v' u',e= .returned (.tuple #[v',u',.bool true])/\Own w.heap.size w' v' (Ac (A / V))/\Own w.heap.size w' u' (Ac (A % V))/\Ext w w'
theorem NC(w:World)(v u:Value)(xs ys:List Nat)(h:Arr w v xs)(h':Arr w u ys)(hn:xs.length<=134217728)(bu:ys.length<=134217728)(hlt:val xs<val ys):
  Calls Tryz.prog 275 #[v,u] w (GY (val xs) (val ys) w):=by
 have HA:=hid (Bq w v xs h (by omega));have HB:=hid (fun W hx=>Bq W u ys (h'.ext hx) (by omega));have cI:=hid (fun W v u a b=>Em W v u (Ac (val xs)) (Ac (val ys)) a b (Nat.le_trans (An h.ok) (by omega)) (Nat.le_trans (An h'.ok) (by omega)));rw[Ad,Ad,EX hlt]at cI;have gw:Ac (val ys)≠[]:=by rw[Ne,Br];omega
 have hl1:0<(Ac (val ys)).length:=List.length_pos_iff.2 gw;have HQ:=hid (Nat.div_eq_of_lt hlt);have HR:=hid (Nat.mod_eq_of_lt hlt);clear h h' hlt gw;go_enter Tryz.func275,Tryz.ntmps275;go_wp2_with fail;refine HA.out.mono ?_
 rintro e w1 ⟨v1,rfl,dt,ag⟩;have ar:=hid ag;have fx:=hid dt;obtain⟨n1,A1,c1,rfl⟩:=dt.shape;clear dt ag;go_wp2_with fail;refine(HB.out _ ar.out).mono ?_
 rintro e w2 ⟨v2,rfl,cU,ae⟩;have d9:=hid cU;obtain⟨n2,A2,c2,rfl⟩:=cU.shape;have hl:=cU.len;rw[<-hl]at hl1;have jj:((n2:Int) == 0)=false:=by rw[beq_eq_false_iff_ne];omega
 have aI:=hid (ar.out.trans ae);have ju:=hid ae;clear cU ae hl;go_wp2_with fail;refine(cI.out _ _ _ (fx.out.arr.ext ju.out) d9.out.arr).mono ?_
 rintro e w3 ⟨rfl,ab⟩;have aC:=hid (aI.out.trans ab);have eI:=hid ((fx.out.ext ju.out).ext ab);clear ab;go_wp2_with fail;go_ret3;exact⟨_,_,rfl,by rw[HQ.out];exact Own.none_ _ _,by rw[HR.out];exact eI.out,aC.out⟩
theorem L5(w:World)(v u:Value)(xs ys:List Nat)(h:Arr w v xs)(h':Arr w u ys)(hn:xs.length<=134217728)(bu:ys.length<=134217728)(fE:val ys<=val xs)(h1:(Ac (val ys)).length=1):
  Calls Tryz.prog 275 #[v,u] w (GY (val xs) (val ys) w):=by
 have HA:=hid (Bq w v xs h (by omega));have HB:=hid (fun W hx=>Bq W u ys (h'.ext hx) (by omega));have cI:=hid (fun W v u a b=>Em W v u (Ac (val xs)) (Ac (val ys)) a b (Nat.le_trans (An h.ok) (by omega)) (Nat.le_trans (An h'.ok) (by omega)));have fV:¬BS (val xs) (val ys)<0:=by rw[D7];omega
 rw[Ad,Ad]at cI;obtain⟨d,hd⟩:∃d,Ac (val ys)=[d]:=List.length_eq_one_iff.1 h1;have hdv:val ys=d:=by rw[<-Ad (val ys),hd];simp[val]
 have vq:d<4294967296:=Cp (val ys) d (by rw[hd];simp);have iX:0<d:=by
  rcases Nat.eq_zero_or_pos d with h0|h0
  ·rw[hdv,h0,Bb]at h1;simp at h1
  ·exact h0
 have kG:=hid (fun W v a=>Jc W v (Ac (val xs)) d a (Nat.le_trans (An h.ok) (by omega)) iX vq);rw[Ad]at kG;have cY:=hid (fun W=>F8 W (val xs % d) (by have:=Nat.mod_lt (val xs) iX;omega));have tP:=Nat.mod_lt (val xs) iX;rw[hd]at HB;rw[hdv];rw[hdv]at fV cI;rw[show Ac d=[d] by rw[hdv]at hd;exact hd]at cI;clear h h' fE h1 hd hdv;generalize BS (val xs) d=cc at *;go_enter Tryz.func275,Tryz.ntmps275;go_wp2_with fail;refine HA.out.mono ?_
 rintro e w1 ⟨v1,rfl,dt,ag⟩;have ar:=hid ag;have fx:=hid dt;obtain⟨n1,A1,c1,rfl⟩:=dt.shape;clear dt ag;go_wp2_with fail;refine(HB.out _ ar.out).mono ?_
 rintro e w2 ⟨v2,rfl,cU,ae⟩;have d9:=hid cU;obtain⟨n2,A2,c2,rfl⟩:=cU.shape;have hl:=cU.len;simp only[List.length_singleton]at hl;subst hl;have aI:=hid (ar.out.trans ae);have ju:=hid ae;clear cU ae;go_wp2_with fail;refine(cI.out _ _ _ (fx.out.arr.ext ju.out) d9.out.arr).mono ?_
 rintro e w3 ⟨rfl,ab⟩;have aC:=hid (aI.out.trans ab);have eI:=hid ((fx.out.ext ju.out).ext ab);obtain⟨fu,YN,X6,he,hk2,jY,aa⟩:=(d9.out.ext ab).arr.open;injection he with e1 e3 e2
 subst e1 e2;obtain⟨b2,o2,rfl,ep,aa⟩:=aa (by simp);have hx:=aa 0 (by simp);simp only[Nat.add_zero,List.getD_cons_zero,d32]at hx;clear ab aa fu hk2 jY e3;go_wp2_with fail;refine(kG.out _ _ eI.out.arr).mono ?_
 rintro e w4 ⟨v4,rfl,qi,bc⟩;have bw:=hid (aC.out.trans bc);have mq:=hid (qi.mono aC.out.size);obtain⟨n4,A4,c4,rfl⟩:=qi.shape;clear qi bc;obtain⟨r,hr⟩:∃r,val xs % d=r:=⟨_,rfl⟩;have jJ:=hid hr;rw[hr]at cY tP;rw[hr];clear hr;go_wp2_with fail;refine(cY.out _).mono ?_
 rintro e w5 ⟨v5,rfl,pw,hx5⟩;have dr:=hid (bw.out.trans hx5);have qK:=hid (pw.mono bw.out.size);have V8:=hid (mq.out.ext hx5);obtain⟨n5,A5,c5,rfl⟩:=pw.shape;clear pw hx5;go_wp2_with fail;go_ret3;exact⟨_,_,rfl,V8.out,by rw[jJ.out];exact qK.out,dr.out⟩
theorem Own.blockR{B:Nat}{w:World}{v:Value}{xs:List Nat}(h:Own B w v xs)(hp:0<xs.length):∃g c RX,v= .slice (some ⟨g,0,none⟩) xs.length c/\B<=g/\xs.length<=c/\c<=maxLen/\Blk w g 183 (cells xs++RX)/\xs.length+RX.size=c:=by
 obtain⟨az,A,c,rfl,h2,h3,h4⟩:=h;rw[List.length_map]at h2 h4;rcases h4 with ⟨h5,_⟩|⟨g,cur,rfl,hg,ay,hs,ht⟩
 ·rw[List.map_eq_nil_iff]at h5;subst h5;simp at hp
 ·refine⟨g,c,(cur.toList.drop xs.length).toArray,by rw[List.length_map],hg,h2,h3,?_,by simp;omega⟩;have e:cells xs++(cur.toList.drop xs.length).toArray=cur:=by
   apply Array.ext';unfold cells;rw[Array.toList_append];show xs.map d32++cur.toList.drop xs.length=cur.toList;rw[<-ht,List.take_append_drop]
  rw[e];exact ay
theorem SA{w:World}{g c:Nat}{us:List Nat}{RX:Array Value}(h:Blk w g 183 (cells us++RX))(az:Ok us)(hc:us.length<=c)(hm:c<=maxLen):Arr w (.slice (some ⟨g,0,none⟩) us.length c) us:=
 Arr.mk az hc hm fun _=>⟨g,0,rfl,h.lt,fun j hj=>by rw[h.cell,Nat.zero_add,Dl _ _ _ hj]⟩
theorem Arr.put{w:World}{v:Value}{xs:List Nat}{g:Nat}(h:Arr w v xs)(hne:∀b o n c,v= .slice (some ⟨b,o,none⟩) n c->b≠g)(i:Nat)(u:Value):Arr (w.setCell ⟨g,i,none⟩ u) v xs:=
 h.kept (EB ((Dr.refl w).grown (some g)) i u) hne
theorem Arr.low{w:World}{v:Value}{xs:List Nat}{g:Nat}(h:Arr w v xs)(hp:0<xs.length)(hg:w.heap.size<=g):∀b o n c,v= .slice (some ⟨b,o,none⟩) n c->b≠g:=by
 obtain⟨_,A,c,rfl,_,_,aa⟩:=h.open;obtain⟨b,o,rfl,hb,_⟩:=aa hp;intro b' o' n' c' he;injection he with h1 _ _
 injection h1 with h1
 injection h1 with h1 _ _
 omega
def TS(w wr:World)(u0 us qs:List Nat)(V gu gq K:Nat)(RX:Array Value)(v:Value):Prop:=
 DG u0 us qs V K/\Ok qs/\Blk wr gq 183 (cells (List.replicate K 0++qs))/\Blk wr gu 183 (cells us++RX)/\Arr wr v (Ac V)/\Ext w wr
theorem K8(w:World)(v u:Value)(xs ys:List Nat)(h:Arr w v xs)(h':Arr w u ys)(hn:xs.length<=134217728)(bu:ys.length<=134217728)(fE:val ys<=val xs)(h2:2<=(Ac (val ys)).length):
  Calls Tryz.prog 275 #[v,u] w (GY (val xs) (val ys) w):=by
 have HA:=hid (Bq w v xs h (by omega));have HB:=hid (fun W hx=>Bq W u ys (h'.ext hx) (by omega));have zj:(Ac (val xs)).length<=134217728:=Nat.le_trans (An h.ok) hn;have jj:(Ac (val ys)).length<=134217728:=Nat.le_trans (An h'.ok) bu;have cI:=hid (fun W v u a b=>Em W v u (Ac (val xs)) (Ac (val ys)) a b (by omega) (by omega));have sX:=hid (fun W v s a h=>KZ W v (Ac (val xs)) s a (by omega) h);have sW:=hid (fun W v s a h=>KZ W v (Ac (val ys)) s a (by omega) h);have fV:¬BS (val xs) (val ys)<0:=by rw[D7];omega
 rw[Ad,Ad]at cI;rw[Ad]at sX sW;have Xb:val ys≠0:=fun e=>by rw[e,Bb]at h2;simp at h2
 obtain⟨X,hX⟩:∃X,val xs=X:=⟨_,rfl⟩;obtain⟨Y,hY⟩:∃Y,val ys=Y:=⟨_,rfl⟩;rw[hX]at HA cI fV sX fE zj ⊢;rw[hY]at HB cI fV sW fE h2 Xb jj ⊢;clear h h' hX hY hn bu;generalize BS X Y=cc at *;go_enter Tryz.func275,Tryz.ntmps275;go_wp2_with fail;refine HA.out.mono ?_
 rintro e w1 ⟨v1,rfl,dt,ag⟩;have ar:=hid ag;have fx:=hid dt;obtain⟨n1,A1,c1,rfl⟩:=dt.shape;clear dt ag;go_wp2_with fail;refine(HB.out _ ar.out).mono ?_
 rintro e w2 ⟨v2,rfl,cU,ae⟩;have d9:=hid cU;obtain⟨m,hm⟩:∃m,(Ac Y).length=m+2:=⟨(Ac Y).length-2,by omega⟩;obtain⟨n2,A2,c2,rfl⟩:=cU.shape;have hl:=cU.len;rw[hm]at hl;subst hl;have aI:=hid (ar.out.trans ae);have ju:=hid ae;clear cU ae;go_wp2_with fail;refine(cI.out _ _ _ (fx.out.arr.ext ju.out) d9.out.arr).mono ?_
 rintro e w3 ⟨rfl,ab⟩;have aC:=hid (aI.out.trans ab);have HA3:=hid ((fx.out.ext ju.out).ext ab).arr;have a8:=hid (d9.out.ext ab).arr;obtain⟨_,YN,X6,he,js,rE,aa⟩:=(d9.out.ext ab).arr.open;rw[hm]at he aa js;injection he with e1 e3 e2
 subst e1 e2;clear e3;obtain⟨b2,o2,rfl,ep,aa⟩:=aa (by omega);have hx:=aa (m+1) (by omega);have cK:=(Cp Y).get (m+1);clear ab aa ju;generalize (Ac Y).getD (m+1) 0=y at *;simp only[d32]at hx;have HLZ:=hid (fun W=>RV W y cK);have Xk:(((m:Int)+2) == 1)=false:=by rw[beq_eq_false_iff_ne];omega
 have Xl:(((m:Int)+2) == 0)=false:=by rw[beq_eq_false_iff_ne];omega
 go_wp2_with fail;refine(HLZ.out _).mono ?_
 rintro e w4 ⟨s,hs,rfl,rfl⟩;go_wp2_with fail;refine(sW.out _ _ s a8.out (by omega)).mono ?_
 rintro e w4 ⟨v4,rfl,qi,bc⟩;have bw:=hid (aC.out.trans bc);have pW:=hid (HA3.out.ext bc);have mq:=hid qi;obtain⟨n4,A4,c4,rfl⟩:=qi.shape;have xL:=hid qi.len;clear qi bc;go_wp2_with fail;refine(sX.out _ _ s pW.out (by omega)).mono ?_
 rintro e w5 ⟨v5,rfl,pw,hx5⟩;have dr:=hid (bw.out.trans hx5);have VI:=hid hx5;have qK:=hid pw;obtain⟨n5,A5,c5,rfl⟩:=pw.shape;have ZK:=hx5.size;clear pw hx5;have hB5:=bw.out.size;have zl:=Kz X hs;have dN:Hid ((Ac (X*2 ^ s)).length+[0].length<=2147483648):=hid (by simp;omega);clear zl;go_wp2_with (at_builtin;go_must (refine AP rfl _ _ rfl rfl (qK.out.ext ((Ext.refl _).alloc _)) rfl (Arr.fresh1' _ _ 0 rfl (by omega)) dN.out (by simp;omega) ?_;intro v6 w6 iC cw xn));have uC:=xn.size;simp only[World.size_alloc]at uC;have dB:=hid ((dr.out.alloc (.cells #[.int .u32 0] 183)).more (xn.mono hB5));have WK:Hid (Arr w6 (.slice A4 n4 c4) (Ac (Y*2 ^ s))):=hid (mq.out.arr.ext ((VI.out.alloc _).more xn));have vE:Y*2 ^ s≠0:=Nat.mul_ne_zero Xb (Nat.ne_of_gt (Nat.pow_pos (by omega)));have XM:Y*2 ^ s<=X*2 ^ s:=Nat.mul_le_mul_right _ fE;have XL:Y<=Y*2 ^ s:=Nat.le_mul_of_pos_right _ (Nat.pow_pos (by omega));have rO:=Ar XM;have rN:=Ar XL;have zh:=Kz X hs;have HDQ:=hid (Qp X Y s);have YC:=hid (PZ X Y s);have eV:=fun g=>mq.out.arr.low (g:=g)
 have pn:=Ms vE;have oU:=P1 vE;have ne:=Cf (Cp (Y*2 ^ s));rw[Ad]at ne;obtain⟨u0,mH⟩:∃u0,Ac (X*2 ^ s)++[0]=u0:=⟨_,rfl⟩;have uz:val u0=X*2 ^ s:=by rw[<-mH,BK,Ad,Nat.mul_zero,Nat.add_zero]
 have yx:Ok u0:=by rw[<-mH];exact(Cp _).snoc (by omega)
 have uA:u0.length=(Ac (X*2 ^ s)).length+1:=by rw[<-mH];simp
 have uy:u0.getD (u0.length-1) 0=0:=by
  rw[uA,Nat.add_sub_cancel,<-mH,List.getD_eq_getElem?_getD,List.getElem?_append_right (Nat.le_refl _),Nat.sub_self];rfl
 rw[mH]at iC;have uR:=xL.out;rw[<-uR]at rO rN pn oU ne eV;obtain⟨m4,Xo⟩:∃m4,n4=m4+2:=⟨n4-2,by omega⟩;obtain⟨M,hM⟩:∃M,u0.length=m4+2+(M+1):=⟨u0.length-(m4+2)-1,by omega⟩;have yW:=uR;rw[Xo]at uR rO rN pn oU ne eV mq WK;subst Xo;have bG:Hid (DG u0 u0 [] (Y*2 ^ s) (M+1)):=hid (by
  have:=DG.start (V:=Y*2 ^ s) (n:=m4+2) yx (by omega) (by omega) uy pn
  rwa [show u0.length-(m4+2)=M+1 by omega]at this)
 obtain⟨gu,cu,RX,rfl,hgu,zH,zG,sh,sd⟩:=iC.blockR (by omega);have YE:=hid sh;have rD:=eV gu (by omega) hgu;have wq:=hid rD;have HN4:=hid uR;have np:(u0.length:Int)-((m4:Int)+2)=(M:Int)+1:=by omega
 have df:=CV M (by omega);have we:=hid uz;obtain⟨Lu,Fn⟩:∃Lu,u0.length=Lu:=⟨_,rfl⟩;rw[Fn]at np zH hM sd ⊢;have Yz:=hid Fn;have hLub:Lu<=134217730:=by omega
 have Z9:m4<=134217728:=by omega
 unfold maxLen at zG;have HCU3:=hid sd;clear sd;have HYL:=hid pn;have HYT:=hid oU;have pI:=hid ne;have HM:=hid hM;clear mH Fn yW uz uy uR rO rN zh pn oU ne eV iC sh rD xn cw XM XL uA hM;go_wp2_with fail;go_simp;go_wp2_with fail;clear df np;have hguw:=YE.out.lt;have cq:=hid (dB.out.alloc (.cells (zeros (M+1)) 183));have ak:=hid (YE.out.alloc (.cells (zeros (M+1)) 183));have HA0:=hid (WK.out.ext ((Ext.refl w6).alloc (.cells (zeros (M+1)) 183)));have jx:=hid (Blk.new w6 183 (zeros (M+1)));have Wa:=hid (WK.out.low (g:=w6.heap.size) (by rw[<-xL.out];omega) (Nat.le_refl _));have qO:=hid dB.out.size;generalize w6.heap.size=gq at *;have Xs:gu≠gq:=by omega
 go_loopw [15] (fun s15 wr=>∃(K:Nat) (us qs:List Nat),K<=M+1/\s15= .int .i64 ((K:Int)-1)/\K+qs.length=M+1/\TS w wr u0 us qs (Y*2 ^ s) gu gq K RX (.slice A4 (m4+2) c4)) (fun s15 _=>(intOf s15+1).toNat)
 case atStart=>exact⟨M+1,u0,[],Nat.le_refl _,by congr 1;omega,rfl,bG.out,Cj,by rw[List.append_nil];exact jx.out,ak.out,HA0.out,cq.out⟩
 case round=>
  obtain⟨K,us,qs,hK,rfl,ru,eL,l9,lI,sh,xo,ah⟩:=hrel;rcases Nat.eq_zero_or_pos K with h0|h0
  ·subst h0;obtain⟨iB,nB⟩:=eL.done pI.out;rw[we.out,HDQ.out]at iB;rw[we.out]at nB;have z7:=HM.out;have yw:us.length=Lu:=by rw[eL.1];exact Yz.out
   have qg:qs.length=M+1:=by omega
   have XH:Arr wr (.slice (some ⟨gq,0,none⟩) (M+1) (M+1)) qs:=by
    have h3:=(Own.block (B:=gq) l9 (by simpa using lI) (Nat.le_refl _) (by omega)).arr
    rwa [qg]at h3
   have XF:Arr wr (.slice (some ⟨gu,0,none⟩) (m4+2) cu) (us.take (m4+2)):=by
    have h3:=SA (c:=cu) sh eL.2.1 (by omega) (by unfold maxLen;omega);obtain⟨A',c',he,h4⟩:=h3.take (m4+2) (by omega);injection he with h5 _ h6
    subst h5 h6;exact h4
   have Yk:=hid (fun W hx=>Bq W _ _ (XH.ext hx) (by omega));have vB:Arr wr (.slice (some ⟨gu,0,none⟩) ((m4:Int)+2).toNat cu) (us.take (m4+2)):=by
    rw[show ((m4:Int)+2).toNat=m4+2 by omega];exact XF
   have Yj:=hid (fun W hx=>Bq W _ _ (vB.ext hx) (by rw[List.length_take];omega));rw[iB]at Yk;rw[nB]at Yj;have pM:=hid (fun W v a=>S1 W v (Ac (X*2 ^ s % (Y*2 ^ s))) s a (by
    have:=Ar (Nat.le_of_lt (Nat.mod_lt (X*2 ^ s) (Nat.pos_of_ne_zero vE)));rw[<-xL.out]at this;omega) (by omega))
   rw[Ad,YC.out]at pM;have lL:=hid ah;have Z4:m4+2<=Lu:=by omega
   have Z6:(0:Int)<=(m4:Int)+2:=by omega
   have Z5:(m4:Int)+2<=(cu:Int):=by omega
   clear iB nB XH XF vB lI sh xo eL yw z7 qg ah ru;go_wp2_with fail
   go_region_held3 (fun w'=>Ext wr w')
    (first|exact(Ext.refl wr).drew|assumption|exact Ext.trans (by assumption) (by assumption))
    (first
     |(go_at_call 188;(with_reducible refine(Yk.out _ (by assumption)).mono ?_);rintro e w9 ⟨v9,rfl,yS,dn⟩;have wn:=hid (yS.mono (Nat.le_trans lL.out.size (Ext.size (w:=wr) (by assumption))));obtain⟨n9,A9,c9,rfl⟩:=yS.shape;(try have V4:=hid (V4.out.ext dn));(try have mp:=hid (mp.out.ext dn));clear yS)
     |(go_at_call 188;(with_reducible refine(Yj.out _ (by assumption)).mono ?_);rintro e w8 ⟨v8,rfl,yT,bD⟩;have V4:=hid yT;obtain⟨n8,A8,c8,rfl⟩:=yT.shape;(try have wn:=hid (wn.out.ext bD));clear yT)
     |(go_at_call 295;(with_reducible refine(pM.out _ _ V4.out.arr).mono ?_);rintro e w7 ⟨v7,rfl,mL,bx⟩;have mp:=hid (mL.mono (Nat.le_trans lL.out.size (Ext.size (w:=wr) (by assumption))));obtain⟨n7,A7,c7,rfl⟩:=mL.shape;(try have wn:=hid (wn.out.ext bx));clear mL))
   all_goals
    go_wp2_with fail;go_ret3;exact⟨_,_,rfl,wn.out,mp.out,lL.out.trans (by assumption)⟩
  ·obtain⟨j,rfl⟩:∃j,K=j+1:=⟨K-1,by omega⟩;have yw:us.length=Lu:=by rw[eL.1];exact Yz.out
   have z7:=HM.out;have uO:=wq.out;have HD:=hid (Qr RX wr gu j (cu-j) m4 us (.slice A4 (m4+2) c4) (Ac (Y*2 ^ s)) sh eL.2.1 xL.out.symm (by omega) (by omega) (by omega) (by unfold maxLen;omega) xo uO HYT.out
    (by rw[Ad];exact(eL.seg_lt (by omega) pI.out).2))
   rw[Ad,show m4+3=j+(m4+2)+1-j by omega]at HD;have hjb:j+(m4+2)+1<=Lu:=by omega
   have mT:=hid (fun zs h1 h2 h3=>eL.step (zs:=zs) (n:=m4+2) (by omega) pI.out (Nat.pos_of_ne_zero vE) (by omega) h1 h2 h3);have vq:val (seg us j (m4+2)) / (Y*2 ^ s)<4294967296:=by
    rw[Nat.div_lt_iff_lt_mul (Nat.pos_of_ne_zero vE),Nat.mul_comm];exact(eL.seg_lt (by omega) pI.out).2
   have zL:=lI.lt;have zM:=lI;have WG:=hid lI;have HAV:=hid xo;have lL:=hid ah;clear lI xo ah sh eL uO zM yw z7;generalize val (seg us j (m4+2)) / (Y*2 ^ s)=D at *;go_wp2_with fail;refine HD.out.mono ?_
   rintro e w7 ⟨zs,rfl,je,wW,WZ,vw,db⟩;have wv:=hid (mT.out zs wW (by rw[je];omega) WZ);have pE:Blk w7 gq 183 (cells (List.replicate (j+1) 0++qs)):=(db.block gq zL (by simpa using Xs.symm)).trans WG.out;have hst:=pE.cell j;have iD:=pE.frozen j;rw[Be _ _ (by simp;omega)]at hst;have si:=pE.set_ j (d32 D);rw[Bx,I1]at si;have lT:=hid si;have HU8:=hid (vw.far (p:=⟨gq,j,none⟩) Xs (d32 D));have HA8:=hid ((HAV.out.kept db wq.out).put Wa.out j (d32 D));have dq:=hid ((lL.out.grown db (fun k hk=>by simp at hk;omega)).setCell (p:=⟨gq,j,none⟩) qO.out (d32 D));clear je wW WZ vw db pE si;generalize (List.replicate (j+1) 0++qs).getD j 0=z at hst;simp only[d32]at hst;go_wp2_with fail;go_roundw
   case rel=>exact⟨j,_,D::qs,by omega,(by first|rfl|(congr 1;omega)),by simp;omega,wv.out,Dq vq l9,lT.out,HU8.out,HA8.out,dq.out⟩
   case measure=>simp[intOf]
theorem Eh(w:World)(v u:Value)(xs ys:List Nat)(h:Arr w v xs)(h':Arr w u ys)(hn:xs.length<=134217728)(bu:ys.length<=134217728)(hy:val ys≠0):
  Calls Tryz.prog 275 #[v,u] w (GY (val xs) (val ys) w):=by
 rcases Nat.lt_or_ge (val xs) (val ys) with h1|h1
 ·exact NC w v u xs ys h h' hn bu h1
 ·have h2:(Ac (val ys)).length≠0:=fun e=>hy (Br.1 (List.eq_nil_of_length_eq_zero e))
  rcases Nat.lt_or_ge (Ac (val ys)).length 2 with h3|h3
  ·exact L5 w v u xs ys h h' hn bu h1 (by omega)
  ·exact K8 w v u xs ys h h' hn bu h1 h3
def AG(n:Nat):Nat:=if n=0 then 0 else n.log2+1
theorem D9{n:Nat}:AG n=0↔n=0:=by
 unfold AG;split
 ·simp[*]
 ·simp[*]
theorem MM{n b:Nat}(h1:2 ^ b<=n)(h2:n<2 ^ (b+1)):AG n=b+1:=by
 have h0:n≠0:=by
  have:0<2 ^ b:=Nat.pow_pos (by omega);omega
 unfold AG;rw[if_neg h0];have h3:=(Nat.le_log2 h0).2 h1;have h4:=(Nat.log2_lt h0).2 h2;omega
theorem ML{xs:List Nat}{n:Nat}(az:Ok xs)(_hl:n+1<=xs.length)(hz:val (xs.drop (n+1))=0)(ht:xs.getD n 0≠0):32*n+Lib.bitLen (xs.getD n 0)=AG (val xs):=by
 have hx:=az.get n;obtain⟨b1,b2,b3⟩:=Lib.bitLenAux_bounds 64 (xs.getD n 0) (by omega) ht;have h1:=Bp xs (n+1);rw[hz,Nat.mul_zero,Nat.add_zero,Bs]at h1;have h2:=BN az n;obtain⟨c,hc⟩:∃c,Lib.bitLenAux 64 (xs.getD n 0)=c+1:=⟨Lib.bitLenAux 64 (xs.getD n 0)-1,by omega⟩;unfold Lib.bitLen;rw[hc]at b2 b3 ⊢;rw[Nat.add_sub_cancel]at b2;generalize xs.getD n 0=y at *;rw[h1];refine(MM (b:=32*n+c) ?_ ?_).symm
 ·rw[Nat.pow_add,Nat.pow_mul];exact Nat.le_trans (Nat.mul_le_mul_left _ b2) (Nat.le_add_left _ _)
 ·rw[Nat.add_assoc,Nat.pow_add,Nat.pow_mul,show (2:Nat) ^ 32=4294967296 from rfl];have h3:=Nat.mul_le_mul_left (4294967296 ^ n) (show y+1<=2 ^ (c+1) from b3);rw[Nat.mul_add,Nat.mul_one]at h3;omega
theorem D8(w:World)(v:Value)(xs:List Nat)(h:Arr w v xs)(hn:xs.length<=134217728):
  Calls Tryz.prog 135 #[v] w fun e w'=>e= .returned (.int .i64 (AG (val xs):Nat))/\w=w':=by
 have HS:=hid (CB w v xs h);have cp:=Cx xs;have tK:=Eo h.ok;obtain⟨az,A,c,rfl,hc,hm,aa⟩:=h.open;rcases Nat.eq_zero_or_pos (size xs) with h0|h0
 ·have HZ:=hid (D9.2 (Hd h0));rw[HZ.out];rw[h0]at HS;clear hm aa h0 cp hc;go_enter Tryz.func135,Tryz.ntmps135;go_wp2_with fail;refine HS.out.mono ?_
  rintro e w' ⟨rfl,rfl⟩;go_wp2_with fail;go_ret;exact⟨rfl,rfl⟩
 ·obtain⟨n,du⟩:∃n,size xs=n+1:=⟨size xs-1,by omega⟩;rw[du]at HS cp tK;have ht:xs.getD n 0≠0:=by
   intro e;have h1:=Bp xs n;rw[Bi,e,tK]at h1;simp only[Nat.mul_zero,Nat.add_zero]at h1;have h2:=AE (n:=val xs) (k:=n) (by rw[h1];exact BN az n);rw[<-KY az]at h2;omega
  have HB:=hid (ML az cp tK ht);obtain⟨b,o,rfl,hb,aa⟩:=aa (by omega);have hx:=aa n (by omega);have cK:=az.get n;clear aa h0 tK du hc ht;obtain⟨y,hy⟩:∃y,xs.getD n 0=y:=⟨_,rfl⟩;rw[hy]at hx cK HB;clear hy;have HL:=hid (Tryz.bits_Len32 (y:Int) w (by omega) (by omega));have eP:=Any.bitLen_le32 (y:Int) (by omega) (by omega);rw[Int.toNat_natCast]at HL eP;unfold maxLen at hm;simp only[d32]at hx;have nG:(((n:Int)+1) == 0)=false:=by rw[beq_eq_false_iff_ne];omega
  generalize Lib.bitLen y=bl at *;go_enter Tryz.func135,Tryz.ntmps135;go_wp2_with fail;refine HS.out.mono ?_
  rintro e w' ⟨rfl,rfl⟩;go_wp2_with fail;refine HL.out.mono ?_
  rintro e w' ⟨rfl,rfl⟩;go_wp2_with fail;go_ret;exact⟨congrArg (fun z=>Ending.returned (.int .i64 z)) (by rw[<-HB.out];simp),rfl⟩
theorem Tw(w:World)(v u:Value)(xs ys:List Nat)(h:Arr w v xs)(h':Arr w u ys)(hn:xs.length<=134217728)(bu:ys.length<=134217728):
  Calls Tryz.prog 274 #[v,u] w fun e w'=>∃v',e= .returned v'/\Own w.heap.size w' v' (Ac (Nat.gcd (val xs) (val ys)))/\Ext w w':=by
 have HA:=hid (Bq w v xs h (by omega));have HB:=hid (fun W hx=>Bq W u ys (h'.ext hx) (by omega));have zj:(Ac (val xs)).length<=134217728:=Nat.le_trans (An h.ok) hn;have jj:(Ac (val ys)).length<=134217728:=Nat.le_trans (An h'.ok) bu;clear h h' hn bu;generalize val xs=X at *;generalize val ys=Y at *;go_enter Tryz.func274,Tryz.ntmps274;go_wp2_with fail;refine HA.out.mono ?_
 rintro e w1 ⟨v1,rfl,dt,ag⟩;have ar:=hid ag;have fx:=hid dt;obtain⟨n1,A1,c1,rfl⟩:=dt.shape;clear dt ag;go_wp2_with fail;refine(HB.out _ ar.out).mono ?_
 rintro e w2 ⟨v2,rfl,cU,ae⟩;have d9:=hid (cU.mono ar.out.size);have mr:=hid (fx.out.ext ae);have aI:=hid (ar.out.trans ae);obtain⟨n2,A2,c2,rfl⟩:=cU.shape;clear cU ae;go_wp2_with fail
 go_loopg [0,1] Y (fun gh s0 s1 wr=>∃(g x:Nat) (na:Nat) (Aa:Option Addr) (ca nb:Nat) (Ab:Option Addr) (cb:Nat),gh=g/\s0= .slice Aa na ca/\s1= .slice Ab nb cb/\Own w.heap.size wr s0 (Ac x)/\Own w.heap.size wr s1 (Ac g)/\Nat.gcd x g=Nat.gcd X Y/\(Ac x).length<=134217728/\(Ac g).length<=134217728/\Ext w wr)
 case atStart=>exact⟨Y,X,n1,A1,c1,n2,A2,c2,rfl,rfl,rfl,mr.out,d9.out,rfl,zj,jj,aI.out⟩
 case round=>
  obtain⟨g,x,na,Aa,ca,nb,Ab,cb,jn,rfl,rfl,nE,nD,hg,hlx,rL,ah⟩:=hrel;have jb:=hid jn;clear jn;have HG:=hid hg;have lL:=hid ah;have HOA:=hid nE;have V6:=hid nD;have hnb:=nD.len;have mb:=nE.len;clear hg ah HA HB fx ar mr d9 aI;rcases Nat.eq_zero_or_pos g with h0|h0
  ·subst h0;rw[Bb,List.length_nil]at hnb;subst hnb;have HV:Hid (Own w.heap.size wr (.slice Aa na ca) (Ac (Nat.gcd X Y))):=hid (by
    have h1:=HG.out;rw[Nat.gcd_zero_right]at h1;rw[<-h1];exact nE)
   clear nE nD mb;go_wp2_with fail;go_ret;exact⟨_,rfl,HV.out,lL.out⟩
  ·have hl1:0<nb:=by
    rw[hnb];exact List.length_pos_iff.2 (fun e=>by rw[Br]at e;omega)
   have HD:=hid (Eh wr _ _ _ _ nE.arr nD.arr hlx rL (by rw[Ad];omega));rw[Ad,Ad]at HD;have gp:=Nat.mod_lt x h0;have ze:=Nat.le_trans (Ar (Nat.le_of_lt gp)) rL;have kj:=hid (show Nat.gcd g (x % g)=Nat.gcd X Y by rw[<-MD,HG.out]);have hb0:((nb:Int) != 0)=true:=by rw[bne_iff_ne];omega
   have al:((nb:Int) == 0)=false:=by rw[beq_eq_false_iff_ne];omega
   clear nE nD mb hnb;go_wp2_with fail;refine HD.out.mono ?_
   rintro e w3 ⟨v3,u3,rfl,nA,bg,ab⟩;have a8:=hid (V6.out.ext ab);have eI:=hid (bg.mono lL.out.size);have aC:=hid (lL.out.trans ab);obtain⟨n3,A3,c3,rfl⟩:=nA.shape;obtain⟨n4,A4,c4,rfl⟩:=bg.shape;clear nA bg ab;go_wp2_with fail
   go_roundg (x % g)
   case rel=>exact⟨x % g,g,nb,Ab,cb,n4,A4,c4,rfl,rfl,rfl,a8.out,eI.out,kj.out,rL,ze,aC.out⟩
   case measure=>rw[jb.out];exact gp
def d8(b:UInt8):Value:= .int .u8 (b.toNat:Int)
def str(l:List UInt8):Value:= .string ⟨l.toArray⟩
section
variable {w w':World} {v:Value} {bs:List UInt8} {B B':Nat}
end
theorem Na(a b:List UInt8):(⟨a.toArray⟩:ByteArray)++⟨b.toArray⟩=⟨(a++b).toArray⟩:=by
 apply ByteArray.ext;simp
theorem Du(a b:List UInt8)(h:a.length+b.length<=2147483648)(W:World):(binOp .add 9 (str a) (str b)).run Tryz.prog W= .ok (str (a++b)) W:=by
 unfold str;simp[go_sem,Na];omega
def Af(l:List UInt8)(i:Nat):Nat:=(l.getD i 0).toNat
theorem CJ(l:List UInt8)(i:Nat):Af l i<256:=UInt8.toNat_lt _
theorem Bz(l:List UInt8)(i:Nat)(h:i<l.length):Af l i=l[i].toNat:=by
 unfold Af;rw[List.getD_eq_getElem?_getD,List.getElem?_eq_getElem h];rfl
theorem Co(l:List UInt8):(⟨l.toArray⟩:ByteArray).size=l.length:=by simp[ByteArray.size]
@[go_sem] theorem TY (l:List UInt8) (ty:TypeId) (W:World):(Builtin.len_ #[9] ty #[str l]).run Tryz.prog W= .ok (.int .i64 (l.length:Int)) W:=by
  have:=run_len_string (P:=Tryz.prog) W 9 ty ⟨l.toArray⟩ Tryz.underlying9;rw[Co]at this;exact this
@[go_sem] theorem TZ (l:List UInt8) (k:IntKind) (i:Int) (W:World):
  (Instr.index 9 (str l) (.int k i)).run Tryz.prog W=if 0<=i/\i<(l.length:Int) then .ok (.int .u8 (Af l i.toNat:Int)) W else (boundsPanic k i (l.length:Int) .index).run Tryz.prog W:=by
  have h2:=run_index_string (P:=Tryz.prog) W 9 ⟨l.toArray⟩ k i Tryz.underlying9;by_cases h:0<=i/\i<(l.length:Int)
  ·rw[dif_pos ⟨h.1,by rw[Co];exact h.2⟩]at h2;have h3:i.toNat<l.length:=by omega
   rw[if_pos h,Bz l _ h3];exact h2
  ·rw[dif_neg (by rw[Co];exact h),Co]at h2;rw[if_neg h];exact h2
@[go_sem] theorem T5 (op:BinOp) (t:TypeId) (x y:Operand) (a:List UInt8) (v:Value):eqGuard op t x y (str a) v=pure ():=by
  unfold str;cases op<;>cases v<;>rfl
@[go_sem] theorem ON (op:BinOp) (t:TypeId) (x y:Operand) (a:List UInt8) (s:ByteArray):eqGuard op t x y (.string s) (str a)=pure ():=by
  unfold str;cases op<;>rfl
@[go_sem] theorem TG (a b:List UInt8):binOp .eql 9 (str a) (str b)=pure (.bool (a == b)):=by
  unfold str;rw[binOp_string_eql,ByteArray.toList_mk,ByteArray.toList_mk]
@[go_sem] theorem Te (a b:List UInt8):binOp .neq 9 (str a) (str b)=pure (.bool !(a == b)):=by
  unfold str;rw[binOp_string_neq,ByteArray.toList_mk,ByteArray.toList_mk]
@[go_sem] theorem SS (a b:List UInt8):binOp .eql 9 (str a) (.string ⟨b.toArray⟩)=pure (.bool (a == b)):=TG a b
@[go_sem] theorem SR (a b:List UInt8):binOp .neq 9 (str a) (.string ⟨b.toArray⟩)=pure (.bool !(a == b)):=Te a b
theorem Fs(l:List UInt8)(a b:Nat):(⟨l.toArray⟩:ByteArray).extract a b=⟨((l.drop a).take (b-a)).toArray⟩:=by
 apply ByteArray.ext;apply Array.ext';rw[Lib.extract_data]
@[go_sem] theorem SQ (l:List UInt8) (k k':IntKind) (i j:Int) (W:World):
  (Instr.slice 9 (str l) (some (.int k i)) (some (.int k' j)) none).run Tryz.prog W=
   if 0<=j/\j<=(l.length:Int) then
    (if 0<=i/\i<=j then .ok (str ((l.take j.toNat).drop i.toNat)) W
     else ((boundsPanic k i j.toNat .sliceB:Sem Nat).run Tryz.prog W).andThen fun a w'=> .ok (str ((l.take j.toNat).drop a)) w')
   else ((boundsPanic k' j l.length .sliceAlen:Sem Nat).run Tryz.prog W).andThen fun b w'=>
    ((Instr.sliceBound (.int k i) b .sliceB).run Tryz.prog w').andThen fun a w''=> .ok (str ((l.take b).drop a)) w'':=by
  unfold str;rw[run_slice_string_if (P:=Tryz.prog) W 9 ⟨l.toArray⟩ k k' i j Tryz.underlying9];simp only[Co,Fs,List.drop_take]
@[go_sem] theorem Ni (l:List UInt8) (k:IntKind) (i:Int) (W:World):
  (Instr.slice 9 (str l) (some (.int k i)) none none).run Tryz.prog W=
   if 0<=i/\i<=(l.length:Int) then .ok (str (l.drop i.toNat)) W else ((boundsPanic k i l.length .sliceB:Sem Nat).run Tryz.prog W).andThen fun a w'=> .ok (str (l.drop a)) w':=by
  unfold str;rw[run_slice_string_from_if (P:=Tryz.prog) W 9 ⟨l.toArray⟩ k i Tryz.underlying9];have hd:∀a,(l.drop a).take (l.length-a)=l.drop a:=fun a=>List.take_of_length_le (by simp)
  simp only[Co,Fs,hd]
@[go_sem] theorem Pk (l:List UInt8) (k:IntKind) (j:Int) (W:World):
  (Instr.slice 9 (str l) none (some (.int k j)) none).run Tryz.prog W=
   if 0<=j/\j<=(l.length:Int) then .ok (str (l.take j.toNat)) W else ((boundsPanic k j l.length .sliceAlen:Sem Nat).run Tryz.prog W).andThen fun a w'=> .ok (str (l.take a)) w':=by
  unfold str;rw[run_slice_string_to_if (P:=Tryz.prog) W 9 ⟨l.toArray⟩ k j Tryz.underlying9];simp only[Co,Fs,List.drop_zero,Nat.sub_zero]
@[go_sem high] theorem SP (P:Program) (w:World) (a:Addr) (l:List UInt8) (m:Mode):(store a (str l) m).run P w=stored P w a (str l) m:=run_store P w a _ m rfl
@[go_sem high] theorem UH (l:List UInt8):(str l).cells= #[str l]:=rfl
@[go_sem high] theorem QG (l:List UInt8):(match str l with|Value.agg cs=>cs|v=> #[v])= #[str l]:=rfl
@[go_sem high] theorem T2 (l:List UInt8):(str l).oneCell'=true:=rfl
end Big
end Go.Proofs.YtkoaogkknnelaaaGreatDoor
