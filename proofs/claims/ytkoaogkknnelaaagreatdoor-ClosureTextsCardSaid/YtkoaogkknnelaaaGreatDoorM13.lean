import Derived.Test.YtkoaogkknnelaaaGreatDoorM12
import Derived.Test.YtkoaogkknnelaaaGreatDoorShelf
set_option linter.unusedVariables false
set_option linter.unusedSimpArgs false
set_option maxHeartbeats 1000000
set_option maxRecDepth 100000
namespace Go.Proofs.YtkoaogkknnelaaaGreatDoor
namespace Big
open Lib renaming hid → J
open Go.RowKit
theorem JM(n:Int)(h1: -64<=n)(h2:n<=64):(AF n).length<=100:=by
 have hall:∀k:Nat,k<=64->(dec k).length<=99:=by
  have:∀k:Fin 65,(dec k.val).length<=99:=by decide+kernel
  exact fun k hk=>this ⟨k,by omega⟩
 have:=hall n.natAbs (by omega);unfold AF;split
 ·rw[qat];omega
 ·omega
theorem Si(l:List Nd)(hl:l.length<=1000000)(e:Ex)(hg:e.Good)(hs:e.size<=2000):BX l e:=by
 induction e with
 |leaf k t=>exact Qo l k t hg
 |un k n x ih=>
  have hx:=hg.2.2.2.2;have hz:x.size+1<=2000:=hs;have h1:=ih hx (by omega);have h2:=Hv AF JM x hx;have h3:(Am AF x).length<=999990:=by omega
  have hk:k=5\/k=10\/k=11\/k=12\/k=13\/k=14\/k=15\/k=16:=by have:=hg.1;omega
  rcases hk with rfl|rfl|rfl|rfl|rfl|rfl|rfl|rfl
  ·exact Sd l n x h1 hg h3 hl
  ·exact Sc l n x h1 hg h3 hl
  ·exact Qn l n x h1 hg h3 hl
  ·exact Sf l n x h1 hg h3 hl
  ·exact Tr l n x h1 hg h3 hl
  ·exact Sb l n x h1 hg h3 hl
  ·exact Sh l n x h1 hg h3 hl
  ·exact Qp l n x h1 hg h3 hl
 |bin k x y ihx ihy=>
  have hz:x.size+y.size+1<=2000:=hs;have h1:=ihx hg.2.1 (by omega);have h2:=ihy hg.2.2 (by omega);have h3:=Hv AF JM x hg.2.1;have h4:=Hv AF JM y hg.2.2;have h5:(Am AF x).length<=999990:=by omega
  have h6:(Am AF y).length<=999990:=by omega
  have hk:k=6\/k=7\/k=8\/k=9:=by have:=hg.1;omega
  rcases hk with rfl|rfl|rfl|rfl
  ·exact Sj l x y h1 h2 hg h5 h6 hl
  ·exact Sa l x y h1 h2 hg h5 h6 hl
  ·exact Se l x y h1 h2 hg h5 h6 hl
  ·exact Sg l x y h1 h2 hg h5 h6 hl
def Nx(w0 wr:World)(N M k:Nat)(zs:List Nat):Prop:=
 zs.length=k/\Ok zs/\val zs=N % 4294967296 ^ k/\Blk wr w0.heap.size 183 (cells (zs++List.replicate (M-k) 0))/\Ext w0 wr
theorem Nx.step{w0 wr:World}{xs zs:List Nat}{d s M N k y:Nat}(h:Nx w0 wr N M k zs)(hk:k<M)(hs:s<=31)(an:Ok xs)(hN:N=val (xs.drop d) / 2 ^ s)(hy:y=xs.getD (k+d) 0+4294967296*xs.getD (k+d+1) 0):
  Nx w0 (wr.setCell ⟨w0.heap.size,k,none⟩ (d32 (y / 2 ^ s % 4294967296))) N M (k+1) (zs++[y / 2 ^ s % 4294967296]):=by
 obtain⟨hl,fg,hv,hb,he⟩:=h;have h0:=RG (an.drop d) hN hs hl hv;rw[Gb,Gb,show d+k=k+d by omega,show d+(k+1)=k+d+1 by omega,<-hy]at h0;refine⟨by simp[hl],fg.snoc (qbl _ (by omega)),h0,?_,he.setCell (qad _) _⟩;have h1:=hb.set_ k (d32 (y / 2 ^ s % 4294967296));rw[CI,show M-k=(M-(k+1))+1 by omega]at h1;have h2:=Hr zs (M-(k+1)) (y / 2 ^ s % 4294967296);rw[hl]at h2
 rwa [h2]at h1
theorem Th(w:World)(v:Value)(xs:List Nat)(n:Nat)(h:Arr w v xs)(hl:xs.length<=268435456)(hn:n<=1048576):
  Calls Tryz.prog 295 #[v,.int .i64 (n:Int)] w fun e w'=>∃v',e= .returned v'/\Own w.heap.size w' v' (Af (val xs / 2 ^ n))/\Ext w w':=by
 have HA:=J h;have HP:=J (Jk w n hn);obtain⟨an,A,cap,rfl,eA,gY,aa⟩:=h.open;have HC:=J aa;have HM:=J gY;obtain⟨d,s,hd,hs,hnd⟩:∃d s,d<=32768/\s<=31/\n=32*d+s:=⟨n / 32,n % 32,by omega,by omega,by omega⟩;have aW:=J hnd;have hq:(n:Int) / 32=(d:Int):=by omega
 have hr:(n:Int) % 32=(s:Int):=by omega
 clear h aa gY hnd;rcases qam d xs.length with h0|h0
 ·obtain⟨M,rO⟩:∃M,xs.length=d+M:=⟨xs.length-d,by omega⟩;have dF:=Ef M (by omega);have fP:(xs.length:Int)-(d:Int)=(M:Int):=by omega
  have Z6:¬(xs.length:Int)<=(d:Int):=by omega
  obtain⟨N,hN⟩:∃N,N=val (xs.drop d) / 2 ^ s:=⟨_,rfl⟩;have HN:=J hN;clear hN;have ue:=J (Jj s hs);have fm:=J rO;have hM0:0<M:=by omega
  clear rO;go_enter Tryz.func295,Tryz.ntmps295;go_wp2_with fail;refine HP.o.mono ?_
  rintro e w' ⟨rfl,rfl⟩;go_wp2_with fail;clear dF fP;go_loopw [28] (fun i wr=>∃(k:Nat) (zs:List Nat),k<=M/\i= .int .i64 k/\Nx w wr N M k zs) (fun i _=>M-(intOf i).toNat)
  case atStart=>exact⟨0,[],qal _,rfl,rfl,CT,by simp[val,Nat.mod_one],Blk.new _ _ _,(Ext.refl w).alloc _⟩
  case round=>
   obtain⟨k,zs,hk,rfl,hat⟩:=hrel;by_cases hlt:k<M
   ·have rO:=fm.o;obtain⟨b,o,rfl,hb,aa⟩:=HC.o (by omega);have cI:=J (fun y h=>Nx.step (y:=y) hat hlt hs an HN.o h);obtain⟨gF,fg,hv,bF,ai⟩:=hat;have hx:=(ai.cell hb).trans (aa (k+d) (by omega));have af:=bF.cell k;have hfz:=bF.frozen k;rw[CK _ _ (by simp;omega)]at af;have fp:=an.get (k+d);have tR:(2:Int) ^ s=((2 ^ s:Nat):Int):=by simp
    have hPP:0<2 ^ s:=qbB (by omega);obtain⟨P,hP⟩:∃P,2 ^ s=P:=⟨_,rfl⟩;rw[hP]at tR cI hPP;clear hP;generalize (zs++List.replicate (M-k) 0).getD k 0=z at af;clear bF hv fg gF;have HX:=J ai;by_cases h2:k+d+1<xs.length
    ·have hy:=(ai.cell hb).trans (aa (k+d+1) h2);have qj:=an.get (k+d+1);have aP:=J (cI.o _ rfl);clear aa ai cI rO;obtain⟨x,hxe⟩:∃x,xs.getD (k+d) 0=x:=⟨_,rfl⟩;obtain⟨y,j6⟩:∃y,xs.getD (k+d+1) 0=y:=⟨_,rfl⟩;rw[hxe]at hx fp aP;rw[j6]at hy qj aP;clear hxe j6;have kX:bits .or .u64 (x:Int) ((y:Int)*4294967296)=((x+4294967296*y:Nat):Int):=by
      rw[show (y:Int)*4294967296=((y*4294967296:Nat):Int) by omega,bits_or_u64_nat _ _ (by omega) (by omega)];have h3:=Nat.shiftLeft_add_eq_or_of_lt (i:=32) (b:=x) (by omega) y;rw[Nat.shiftLeft_eq]at h3;rw[Nat.or_comm,show y*4294967296=y*2 ^ 32 from rfl,<-h3];omega
     have uT:x+4294967296*y<18446744073709551616:=by omega
     obtain⟨t,ht⟩:∃t,x+4294967296*y=t:=⟨_,rfl⟩;rw[ht]at kX uT aP;clear ht;simp only[d32]at hx af hy;go_wp2_with fail;go_roundw
     case rel=>exact⟨k+1,_,by omega,by go_num,aP.o⟩
     case measure=>simp[intOf];omega
    ·have h0:xs.getD (k+d+1) 0=0:=LL xs _ (by omega);have aP:=J (cI.o (xs.getD (k+d) 0) (by rw[h0];omega));clear aa ai cI h0;have h2':¬(k:Int)+(d:Int)+1<(xs.length:Int):=by omega
     have h3:(k:Int)+(d:Int)<(xs.length:Int):=by omega
     clear h2 rO;obtain⟨x,hxe⟩:∃x,xs.getD (k+d) 0=x:=⟨_,rfl⟩;rw[hxe]at hx fp aP;clear hxe;simp only[d32]at hx af;go_wp2_with fail;go_roundw
     case rel=>exact⟨k+1,_,by omega,by go_num,aP.o⟩
     case measure=>simp[intOf];omega
   ·obtain rfl:k=M:=by omega
    obtain⟨gF,fg,hv,bF,ai⟩:=hat;rw[qaX,qci,qaW]at bF;have rO:=fm.o;have bP:Own w.heap.size wr (.slice (some ⟨w.heap.size,0,none⟩) k k) zs:=by
     have h3:=Own.block (B:=w.heap.size) fg bF (qad _) (by rw[gF];omega)
     rwa [gF]at h3
    have hval:val zs=val xs / 2 ^ n:=by
     rw[aW.o,<-Mh an,<-HN.o];refine Tg (an.drop d) HN.o ?_
     rw[hv,qaU,rO,qbq]
    have fU:=J (Ee _ _ _ bP.arr);have hsz:=size_le zs;obtain⟨A1,c1,hv1,HO⟩:=bP.take (size zs) hsz;rw[Dt bP.ok,hval]at HO;rw[gF]at hsz;injection hv1 with hv1 hv3 hv2
    clear hv3;subst hv1;subst hv2;have HO:=J HO;generalize size zs=sz at *;clear hval bP bF hv gF rO;go_wp2_with fail;refine fU.o.mono ?_
    rintro e w' ⟨rfl,rfl⟩;go_wp2_with fail;go_ret;exact⟨_,rfl,HO.o,ai⟩
 ·have HZ:val xs / 2 ^ n=0:=by rw[aW.o];exact RH an h0
  rw[HZ];clear HZ;have fh:(xs.length:Int)<=(d:Int):=by omega
  go_enter Tryz.func295,Tryz.ntmps295;go_wp2_with fail;refine HP.o.mono ?_
  rintro e w' ⟨rfl,rfl⟩;go_wp2_with fail;go_ret;exact⟨_,rfl,Own.none_ _ _,Ext.refl _⟩
theorem Su(w:World)(x:Nat)(hx:x<4294967296):Calls Tryz.prog 292 #[.int .u32 (x:Int)] w fun e w'=>∃s:Nat,s<=32/\e= .returned (.int .i64 (s:Int))/\w=w':=by
 have h:=Tryz.bits_LeadingZeros32 (x:Int) w (by omega) (by omega);refine h.mono ?_
 rintro e w' ⟨rfl,rfl⟩;have h2:=Any.bitLen_le32 (x:Int) (by omega) (by omega);refine⟨32-Lib.bitLen (x:Int).toNat,by omega,?_,rfl⟩
 congr 2
 omega
theorem MW{n:Nat}(h:n≠0):4294967296 ^ ((Af n).length-1)<=n:=by
 induction n using Nat.strongRecOn with
 |_ n ih=>
  rw[Co n h,qat,qbE];by_cases h0:n / 4294967296=0
  ·rw[h0,Cs];simp;omega
  ·have h1:=ih (n / 4294967296) (by omega) h0;obtain⟨m,hm⟩:∃m,(Af (n / 4294967296)).length=m+1:=by
    rw[Co _ h0,qat];exact⟨_,rfl⟩
   rw[hm]at h1 ⊢;rw[qbE]at h1;rw[qaZ];have:=qbf 4294967296 h1;omega
theorem QH{n:Nat}(h:n≠0):1<=(Af n).getD ((Af n).length-1) 0:=by
 rcases qar ((Af n).getD ((Af n).length-1) 0) with h0|h0
 ·exfalso
  have hl:0<(Af n).length:=by
   rw[Co n h,qat];omega
  have h1:=Cj (Af n) ((Af n).length-1);rw[Nat.sub_add_cancel hl,qak (qad _),Ah,h0,qbz,qbc]at h1;have h2:=B3 (C1 n) ((Af n).length-1);have h3:=MW h;omega
 ·exact h0
theorem KU(X:Nat){s:Nat}(hs:s<=32):(Af (X*2 ^ s)).length<=(Af X).length+1:=by
 refine Bg ?_
 have h1:=Dj (C1 X);rw[Ah]at h1;have h2:2 ^ s<=4294967296:=qaf (qbw (by omega) hs) (by decide);rw[qaZ];exact qaj (Nat.mul_lt_mul_of_pos_right h1 (qbB (by omega))) (qaN _ h2)
def IV(A V:Nat)(w:World)(e:Ending)(w':World):Prop:=
 ∃v' u',e= .returned (.tuple #[v',u',.bool true])/\Own w.heap.size w' v' (Af (A / V))/\Own w.heap.size w' u' (Af (A % V))/\Ext w w'
theorem N5(w:World)(v u:Value)(xs ys:List Nat)(h:Arr w v xs)(h':Arr w u ys)(hn:xs.length<=134217728)(cC:ys.length<=134217728)(hlt:val xs<val ys):
  Calls Tryz.prog 275 #[v,u] w (IV (val xs) (val ys) w):=by
 have HA:=J (B4 w v xs h (by omega));have HB:=J (fun W hx=>B4 W u ys (h'.ext hx) (by omega));have eW:=J (fun W v u a b=>LO W v u (Af (val xs)) (Af (val ys)) a b (qaf (AG h.ok) (by omega)) (qaf (AG h'.ok) (by omega)));rw[Ah,Ah,Ge hlt]at eW;have oB:Af (val ys)≠[]:=by rw[Ne,DX];omega
 have hl1:0<(Af (val ys)).length:=qcj.2 oB;have HQ:=J (qbH hlt);have HR:=J (qbp hlt);clear h h' hlt oB;go_enter Tryz.func275,Tryz.ntmps275;go_wp2_with fail;refine HA.o.mono ?_
 rintro e w1 ⟨v1,rfl,cK,ar⟩;have ah:=J ar;have fM:=J cK;obtain⟨n1,A1,c1,rfl⟩:=cK.shape;clear cK ar;go_wp2_with fail;refine(HB.o _ ah.o).mono ?_
 rintro e w2 ⟨v2,rfl,bN,al⟩;have eF:=J bN;obtain⟨n2,A2,c2,rfl⟩:=bN.shape;have hl:=bN.len;rw[<-hl]at hl1;have mM:((n2:Int) == 0)=false:=by rw[beq_eq_false_iff_ne];omega
 have am:=J (ah.o.trans al);have kY:=J al;clear bN al hl;go_wp2_with fail;refine(eW.o _ _ _ (fM.o.arr.ext kY.o) eF.o.arr).mono ?_
 rintro e w3 ⟨rfl,ae⟩;have ag:=J (am.o.trans ae);have eE:=J ((fM.o.ext kY.o).ext ae);clear ae;go_wp2_with fail;go_ret3;exact⟨_,_,rfl,by rw[HQ.o];exact Own.none_ _ _,by rw[HR.o];exact eE.o,ag.o⟩
theorem Mu(w:World)(v u:Value)(xs ys:List Nat)(h:Arr w v xs)(h':Arr w u ys)(hn:xs.length<=134217728)(cC:ys.length<=134217728)(fh:val ys<=val xs)(h1:(Af (val ys)).length=1):
  Calls Tryz.prog 275 #[v,u] w (IV (val xs) (val ys) w):=by
 have HA:=J (B4 w v xs h (by omega));have HB:=J (fun W hx=>B4 W u ys (h'.ext hx) (by omega));have eW:=J (fun W v u a b=>LO W v u (Af (val xs)) (Af (val ys)) a b (qaf (AG h.ok) (by omega)) (qaf (AG h'.ok) (by omega)));have kW:¬DN (val xs) (val ys)<0:=by rw[JS];omega
 rw[Ah,Ah]at eW;obtain⟨d,hd⟩:∃d,Af (val ys)=[d]:=List.length_eq_one_iff.1 h1;have hdv:val ys=d:=by rw[<-Ah (val ys),hd];simp[val]
 have oQ:d<4294967296:=C1 (val ys) d (by rw[hd];simp);have mQ:0<d:=by
  rcases qar d with h0|h0
  ·rw[hdv,h0,Cs]at h1;simp at h1
  ·exact h0
 have mW:=J (fun W v a=>N4 W v (Af (val xs)) d a (qaf (AG h.ok) (by omega)) mQ oQ);rw[Ah]at mW;have kG:=J (fun W=>R9 W (val xs % d) (by have:=qbl (val xs) mQ;omega));have uT:=qbl (val xs) mQ;rw[hd]at HB;rw[hdv];rw[hdv]at kW eW;rw[show Af d=[d] by rw[hdv]at hd;exact hd]at eW;clear h h' fh h1 hd hdv;generalize DN (val xs) d=cc at *;go_enter Tryz.func275,Tryz.ntmps275;go_wp2_with fail;refine HA.o.mono ?_
 rintro e w1 ⟨v1,rfl,cK,ar⟩;have ah:=J ar;have fM:=J cK;obtain⟨n1,A1,c1,rfl⟩:=cK.shape;clear cK ar;go_wp2_with fail;refine(HB.o _ ah.o).mono ?_
 rintro e w2 ⟨v2,rfl,bN,al⟩;have eF:=J bN;obtain⟨n2,A2,c2,rfl⟩:=bN.shape;have hl:=bN.len;simp only[qae]at hl;subst hl;have am:=J (ah.o.trans al);have kY:=J al;clear bN al;go_wp2_with fail;refine(eW.o _ _ _ (fM.o.arr.ext kY.o) eF.o.arr).mono ?_
 rintro e w3 ⟨rfl,ae⟩;have ag:=J (am.o.trans ae);have eE:=J ((fM.o.ext kY.o).ext ae);obtain⟨eS,Y7,Yz,he,hk2,dq,aa⟩:=(eF.o.ext ae).arr.open;injection he with e1 e3 e2
 subst e1 e2;obtain⟨b2,o2,rfl,eJ,aa⟩:=aa (by simp);have hx:=aa 0 (by simp);simp only[qbc,List.getD_cons_zero,d32]at hx;clear ae aa eS hk2 dq e3;go_wp2_with fail;refine(mW.o _ _ eE.o.arr).mono ?_
 rintro e w4 ⟨v4,rfl,jO,aJ⟩;have aD:=J (ag.o.trans aJ);have ne:=J (jO.mono ag.o.size);obtain⟨n4,A4,c4,rfl⟩:=jO.shape;clear jO aJ;obtain⟨r,hr⟩:∃r,val xs % d=r:=⟨_,rfl⟩;have iU:=J hr;rw[hr]at kG uT;rw[hr];clear hr;go_wp2_with fail;refine(kG.o _).mono ?_
 rintro e w5 ⟨v5,rfl,eI,hx5⟩;have ba:=J (aD.o.trans hx5);have ic:=J (eI.mono aD.o.size);have WI:=J (ne.o.ext hx5);obtain⟨n5,A5,c5,rfl⟩:=eI.shape;clear eI hx5;go_wp2_with fail;go_ret3;exact⟨_,_,rfl,WI.o,by rw[iU.o];exact ic.o,ba.o⟩
theorem Own.blockR{B:Nat}{w:World}{v:Value}{xs:List Nat}(h:Own B w v xs)(hp:0<xs.length):∃g c RX,v= .slice (some ⟨g,0,none⟩) xs.length c/\B<=g/\xs.length<=c/\c<=maxLen/\Blk w g 183 (cells xs++RX)/\xs.length+RX.size=c:=by
 obtain⟨an,A,c,rfl,h2,h3,h4⟩:=h;rw[qag]at h2 h4;rcases h4 with ⟨h5,_⟩|⟨g,cur,rfl,hg,ax,hs,ht⟩
 ·rw[List.map_eq_nil_iff]at h5;subst h5;simp at hp
 ·refine⟨g,c,(cur.toList.drop xs.length).toArray,by rw[qag],hg,h2,h3,?_,by simp;omega⟩;have e:cells xs++(cur.toList.drop xs.length).toArray=cur:=by
   apply qcg;unfold cells;rw[Array.toList_append];show xs.map d32++cur.toList.drop xs.length=cur.toList;rw[<-ht,qbo]
  rw[e];exact ax
theorem SN{w:World}{g c:Nat}{us:List Nat}{RX:Array Value}(h:Blk w g 183 (cells us++RX))(an:Ok us)(hc:us.length<=c)(hm:c<=maxLen):Arr w (.slice (some ⟨g,0,none⟩) us.length c) us:=
 Arr.mk an hc hm fun _=>⟨g,0,rfl,h.lt,fun j hj=>by rw[h.cell,qaF,DC _ _ _ hj]⟩
theorem Arr.put{w:World}{v:Value}{xs:List Nat}{g:Nat}(h:Arr w v xs)(hne:∀b o n c,v= .slice (some ⟨b,o,none⟩) n c->b≠g)(i:Nat)(u:Value):Arr (w.setCell ⟨g,i,none⟩ u) v xs:=
 h.kept (ET ((Dr.refl w).grown (some g)) i u) hne
theorem Arr.low{w:World}{v:Value}{xs:List Nat}{g:Nat}(h:Arr w v xs)(hp:0<xs.length)(hg:w.heap.size<=g):∀b o n c,v= .slice (some ⟨b,o,none⟩) n c->b≠g:=by
 obtain⟨_,A,c,rfl,_,_,aa⟩:=h.open;obtain⟨b,o,rfl,hb,_⟩:=aa hp;intro b' o' n' c' he;injection he with h1 _ _
 injection h1 with h1
 injection h1 with h1 _ _
 omega
def TN(w wr:World)(u0 us qs:List Nat)(V gu gq K:Nat)(RX:Array Value)(v:Value):Prop:=
 DQ u0 us qs V K/\Ok qs/\Blk wr gq 183 (cells (List.replicate K 0++qs))/\Blk wr gu 183 (cells us++RX)/\Arr wr v (Af V)/\Ext w wr
theorem Lv(w:World)(v u:Value)(xs ys:List Nat)(h:Arr w v xs)(h':Arr w u ys)(hn:xs.length<=134217728)(cC:ys.length<=134217728)(fh:val ys<=val xs)(h2:2<=(Af (val ys)).length):
  Calls Tryz.prog 275 #[v,u] w (IV (val xs) (val ys) w):=by
 have HA:=J (B4 w v xs h (by omega));have HB:=J (fun W hx=>B4 W u ys (h'.ext hx) (by omega));have Vg:(Af (val xs)).length<=134217728:=qaf (AG h.ok) hn;have mM:(Af (val ys)).length<=134217728:=qaf (AG h'.ok) cC;have eW:=J (fun W v u a b=>LO W v u (Af (val xs)) (Af (val ys)) a b (by omega) (by omega));have t9:=J (fun W v s a h=>O9 W v (Af (val xs)) s a (by omega) h);have t8:=J (fun W v s a h=>O9 W v (Af (val ys)) s a (by omega) h);have kW:¬DN (val xs) (val ys)<0:=by rw[JS];omega
 rw[Ah,Ah]at eW;rw[Ah]at t9 t8;have Xr:val ys≠0:=fun e=>by rw[e,Cs]at h2;simp at h2
 obtain⟨X,hX⟩:∃X,val xs=X:=⟨_,rfl⟩;obtain⟨Y,hY⟩:∃Y,val ys=Y:=⟨_,rfl⟩;rw[hX]at HA eW kW t9 fh Vg ⊢;rw[hY]at HB eW kW t8 fh h2 Xr mM ⊢;clear h h' hX hY hn cC;generalize DN X Y=cc at *;go_enter Tryz.func275,Tryz.ntmps275;go_wp2_with fail;refine HA.o.mono ?_
 rintro e w1 ⟨v1,rfl,cK,ar⟩;have ah:=J ar;have fM:=J cK;obtain⟨n1,A1,c1,rfl⟩:=cK.shape;clear cK ar;go_wp2_with fail;refine(HB.o _ ah.o).mono ?_
 rintro e w2 ⟨v2,rfl,bN,al⟩;have eF:=J bN;obtain⟨m,hm⟩:∃m,(Af Y).length=m+2:=⟨(Af Y).length-2,by omega⟩;obtain⟨n2,A2,c2,rfl⟩:=bN.shape;have hl:=bN.len;rw[hm]at hl;subst hl;have am:=J (ah.o.trans al);have kY:=J al;clear bN al;go_wp2_with fail;refine(eW.o _ _ _ (fM.o.arr.ext kY.o) eF.o.arr).mono ?_
 rintro e w3 ⟨rfl,ae⟩;have ag:=J (am.o.trans ae);have HA3:=J ((fM.o.ext kY.o).ext ae).arr;have aC:=J (eF.o.ext ae).arr;obtain⟨_,Y7,Yz,he,fK,hmm,aa⟩:=(eF.o.ext ae).arr.open;rw[hm]at he aa fK;injection he with e1 e3 e2
 subst e1 e2;clear e3;obtain⟨b2,o2,rfl,eJ,aa⟩:=aa (by omega);have hx:=aa (m+1) (by omega);have fp:=(C1 Y).get (m+1);clear ae aa kY;generalize (Af Y).getD (m+1) 0=y at *;simp only[d32]at hx;have HLZ:=J (fun W=>Su W y fp);have XE:(((m:Int)+2) == 1)=false:=by rw[beq_eq_false_iff_ne];omega
 have XF:(((m:Int)+2) == 0)=false:=by rw[beq_eq_false_iff_ne];omega
 go_wp2_with fail;refine(HLZ.o _).mono ?_
 rintro e w4 ⟨s,hs,rfl,rfl⟩;go_wp2_with fail;refine(t8.o _ _ s aC.o (by omega)).mono ?_
 rintro e w4 ⟨v4,rfl,jO,aJ⟩;have aD:=J (ag.o.trans aJ);have nr:=J (HA3.o.ext aJ);have ne:=J jO;obtain⟨n4,A4,c4,rfl⟩:=jO.shape;have zP:=J jO.len;clear jO aJ;go_wp2_with fail;refine(t9.o _ _ s nr.o (by omega)).mono ?_
 rintro e w5 ⟨v5,rfl,eI,hx5⟩;have ba:=J (aD.o.trans hx5);have Wo:=J hx5;have ic:=J eI;obtain⟨n5,A5,c5,rfl⟩:=eI.shape;have ZE:=hx5.size;clear eI hx5;have zB:=aD.o.size;have Vi:=KU X hs;have fZ:Hid ((Af (X*2 ^ s)).length+[0].length<=2147483648):=J (by simp;omega);clear Vi;go_wp2_with (at_builtin;go_must (refine Be rfl _ _ rfl rfl (ic.o.ext ((Ext.refl _).alloc _)) rfl (Arr.fresh1' _ _ 0 rfl (by omega)) fZ.o (by simp;omega) ?_;intro v6 w6 mK aw tN));have vX:=tN.size;simp only[World.size_alloc]at vX;have aZ:=J ((ba.o.alloc (.cells #[.int .u32 0] 183)).more (tN.mono zB));have mA:Hid (Arr w6 (.slice A4 n4 c4) (Af (Y*2 ^ s))):=J (ne.o.arr.ext ((Wo.o.alloc _).more tN));have xC:Y*2 ^ s≠0:=Nat.mul_ne_zero Xr (Nat.ne_of_gt (qbB (by omega)));have Yh:Y*2 ^ s<=X*2 ^ s:=qbf _ fh;have Yg:Y<=Y*2 ^ s:=Nat.le_mul_of_pos_right _ (qbB (by omega));have tr:=BW Yh;have qA:=BW Yg;have Vf:=KU X hs;have HDQ:=J (Q5 X Y s);have yR:=J (QE X Y s);have fa:=fun g=>ne.o.arr.low (g:=g)
 have sB:=MW xC;have mB:=QH xC;have nW:=Dj (C1 (Y*2 ^ s));rw[Ah]at nW;obtain⟨u0,nx⟩:∃u0,Af (X*2 ^ s)++[0]=u0:=⟨_,rfl⟩;have vQ:val u0=X*2 ^ s:=by rw[<-nx,Cu,Ah,qbz,qbc]
 have UL:Ok u0:=by rw[<-nx];exact(C1 _).snoc (by omega)
 have vR:u0.length=(Af (X*2 ^ s)).length+1:=by rw[<-nx];simp
 have vP:u0.getD (u0.length-1) 0=0:=by
  rw[vR,qbE,<-nx,qac,qao (qad _),qaX];rfl
 rw[nx]at mK;have wK:=zP.o;rw[<-wK]at tr qA sB mB nW fa;obtain⟨m4,kU⟩:∃m4,n4=m4+2:=⟨n4-2,by omega⟩;obtain⟨M,hM⟩:∃M,u0.length=m4+2+(M+1):=⟨u0.length-(m4+2)-1,by omega⟩;have U7:=wK;rw[kU]at wK tr qA sB mB nW fa ne mA;subst kU;have aP:Hid (DQ u0 u0 [] (Y*2 ^ s) (M+1)):=J (by
  have:=DQ.start (V:=Y*2 ^ s) (n:=m4+2) UL (by omega) (by omega) vP sB
  rwa [show u0.length-(m4+2)=M+1 by omega]at this)
 obtain⟨gu,cu,RX,rfl,hgu,VI,VH,tG,tD⟩:=mK.blockR (by omega);have Y3:=J tG;have wH:=fa gu (by omega) hgu;have yw:=J wH;have HN4:=J wK;have fP:(u0.length:Int)-((m4:Int)+2)=(M:Int)+1:=by omega
 have dF:=Fr M (by omega);have ye:=J vQ;obtain⟨Lu,V5⟩:∃Lu,u0.length=Lu:=⟨_,rfl⟩;rw[V5]at fP VI hM tD ⊢;have nJ:=J V5;have hLub:Lu<=134217730:=by omega
 have Z3:m4<=134217728:=by omega
 unfold maxLen at VH;have HCU3:=J tD;clear tD;have HYL:=J sB;have Wm:=J mB;have qR:=J nW;have HM:=J hM;clear nx V5 U7 vQ vP wK tr qA Vf sB mB nW fa mK tG wH tN aw Yh Yg vR hM;go_wp2_with fail;go_simp;go_wp2_with fail;clear dF fP;have hguw:=Y3.o.lt;have eo:=J (aZ.o.alloc (.cells (zeros (M+1)) 183));have fN:=J (Y3.o.alloc (.cells (zeros (M+1)) 183));have HA0:=J (mA.o.ext ((Ext.refl w6).alloc (.cells (zeros (M+1)) 183)));have HQ0:=J (Blk.new w6 183 (zeros (M+1)));have WK:=J (mA.o.low (g:=w6.heap.size) (by rw[<-zP.o];omega) (qad _));have yV:=J aZ.o.size;generalize w6.heap.size=gq at *;have X3:gu≠gq:=by omega
 go_loopw [15] (fun s15 wr=>∃(K:Nat) (us qs:List Nat),K<=M+1/\s15= .int .i64 ((K:Int)-1)/\K+qs.length=M+1/\TN w wr u0 us qs (Y*2 ^ s) gu gq K RX (.slice A4 (m4+2) c4)) (fun s15 _=>(intOf s15+1).toNat)
 case atStart=>exact⟨M+1,u0,[],qad _,by congr 1;omega,rfl,aP.o,CT,by rw[qaW];exact HQ0.o,fN.o,HA0.o,eo.o⟩
 case round=>
  obtain⟨K,us,qs,hK,rfl,ZL,eR,mJ,u9,tG,zv,ai⟩:=hrel;rcases qar K with h0|h0
  ·subst h0;obtain⟨jr,qt⟩:=eR.done qR.o;rw[ye.o,HDQ.o]at jr;rw[ye.o]at qt;have V4:=HM.o;have UK:us.length=Lu:=by rw[eR.1];exact nJ.o
   have rx:qs.length=M+1:=by omega
   have Ye:Arr wr (.slice (some ⟨gq,0,none⟩) (M+1) (M+1)) qs:=by
    have h3:=(Own.block (B:=gq) mJ (by simpa using u9) (qad _) (by omega)).arr
    rwa [rx]at h3
   have Yd:Arr wr (.slice (some ⟨gu,0,none⟩) (m4+2) cu) (us.take (m4+2)):=by
    have h3:=SN (c:=cu) tG eR.2.1 (by omega) (by unfold maxLen;omega);obtain⟨A',c',he,h4⟩:=h3.take (m4+2) (by omega);injection he with h5 _ h6
    subst h5 h6;exact h4
   have YH:=J (fun W hx=>B4 W _ _ (Ye.ext hx) (by omega));have xy:Arr wr (.slice (some ⟨gu,0,none⟩) ((m4:Int)+2).toNat cu) (us.take (m4+2)):=by
    rw[show ((m4:Int)+2).toNat=m4+2 by omega];exact Yd
   have YG:=J (fun W hx=>B4 W _ _ (xy.ext hx) (by rw[qas];omega));rw[jr]at YH;rw[qt]at YG;have YI:=J (fun W v a=>Th W v (Af (X*2 ^ s % (Y*2 ^ s))) s a (by
    have:=BW (qaR (qbl (X*2 ^ s) (Nat.pos_of_ne_zero xC)));rw[<-zP.o]at this;omega) (by omega))
   rw[Ah,yR.o]at YI;have nF:=J ai;have ZV:m4+2<=Lu:=by omega
   have ZY:(0:Int)<=(m4:Int)+2:=by omega
   have ZX:(m4:Int)+2<=(cu:Int):=by omega
   clear jr qt Ye Yd xy u9 tG zv eR UK V4 rx ai ZL;go_wp2_with fail
   go_region_held3 (fun w'=>Ext wr w')
    (first|exact(Ext.refl wr).drew|assumption|exact Ext.trans (by assumption) (by assumption))
    (first
     |(go_at_call 188;(with_reducible refine(YH.o _ (by assumption)).mono ?_);rintro e w9 ⟨v9,rfl,ft,ja⟩;have yr:=J (ft.mono (qaf nF.o.size (Ext.size (w:=wr) (by assumption))));obtain⟨n9,A9,c9,rfl⟩:=ft.shape;(try have sc:=J (sc.o.ext ja));(try have nc:=J (nc.o.ext ja));clear ft)
     |(go_at_call 188;(with_reducible refine(YG.o _ (by assumption)).mono ?_);rintro e w8 ⟨v8,rfl,sX,bS⟩;have sc:=J sX;obtain⟨n8,A8,c8,rfl⟩:=sX.shape;(try have yr:=J (yr.o.ext bS));clear sX)
     |(go_at_call 295;(with_reducible refine(YI.o _ _ sc.o.arr).mono ?_);rintro e w7 ⟨v7,rfl,U3,bG⟩;have nc:=J (U3.mono (qaf nF.o.size (Ext.size (w:=wr) (by assumption))));obtain⟨n7,A7,c7,rfl⟩:=U3.shape;(try have yr:=J (yr.o.ext bG));clear U3))
   all_goals
    go_wp2_with fail;go_ret3;exact⟨_,_,rfl,yr.o,nc.o,nF.o.trans (by assumption)⟩
  ·obtain⟨j,rfl⟩:∃j,K=j+1:=⟨K-1,by omega⟩;have UK:us.length=Lu:=by rw[eR.1];exact nJ.o
   have V4:=HM.o;have wG:=yw.o;have HD:=J (Q8 RX wr gu j (cu-j) m4 us (.slice A4 (m4+2) c4) (Af (Y*2 ^ s)) tG eR.2.1 zP.o.symm (by omega) (by omega) (by omega) (by unfold maxLen;omega) zv wG Wm.o
    (by rw[Ah];exact(eR.seg_lt (by omega) qR.o).2))
   rw[Ah,show m4+3=j+(m4+2)+1-j by omega]at HD;have hjb:j+(m4+2)+1<=Lu:=by omega
   have q5:=J (fun zs h1 h2 h3=>eR.step (zs:=zs) (n:=m4+2) (by omega) qR.o (Nat.pos_of_ne_zero xC) (by omega) h1 h2 h3);have oQ:val (seg us j (m4+2)) / (Y*2 ^ s)<4294967296:=by
    rw[Nat.div_lt_iff_lt_mul (Nat.pos_of_ne_zero xC),qbb];exact(eR.seg_lt (by omega) qR.o).2
   have VM:=u9.lt;have VN:=u9;have HBQ:=J u9;have HAV:=J zv;have nF:=J ai;clear u9 zv ai tG eR wG VN UK V4;generalize val (seg us j (m4+2)) / (Y*2 ^ s)=D at *;go_wp2_with fail;refine HD.o.mono ?_
   rintro e w7 ⟨zs,rfl,nw,y7,Xm,xr,cF⟩;have nk:=J (q5.o zs y7 (by rw[nw];omega) Xm);have qJ:Blk w7 gq 183 (cells (List.replicate (j+1) 0++qs)):=(cF.block gq VM (by simpa using X3.symm)).trans HBQ.o;have af:=qJ.cell j;have hfz:=qJ.frozen j;rw[CK _ _ (by simp;omega)]at af;have tI:=qJ.set_ j (d32 D);rw[CI,I6]at tI;have jM:=J tI;have Wr:=J (xr.far (p:=⟨gq,j,none⟩) X3 (d32 D));have zX:=J ((HAV.o.kept cF yw.o).put WK.o j (d32 D));have cp:=J ((nF.o.grown cF (fun k hk=>by simp at hk;omega)).setCell (p:=⟨gq,j,none⟩) yV.o (d32 D));clear nw y7 Xm xr cF qJ tI;generalize (List.replicate (j+1) 0++qs).getD j 0=z at af;simp only[d32]at af;go_wp2_with fail;go_roundw
   case rel=>exact⟨j,_,D::qs,by omega,(by first|rfl|(congr 1;omega)),by simp;omega,nk.o,DE oQ mJ,jM.o,Wr.o,zX.o,cp.o⟩
   case measure=>simp[intOf]
theorem FK(w:World)(v u:Value)(xs ys:List Nat)(h:Arr w v xs)(h':Arr w u ys)(hn:xs.length<=134217728)(cC:ys.length<=134217728)(hy:val ys≠0):
  Calls Tryz.prog 275 #[v,u] w (IV (val xs) (val ys) w):=by
 rcases qam (val xs) (val ys) with h1|h1
 ·exact N5 w v u xs ys h h' hn cC h1
 ·have h2:(Af (val ys)).length≠0:=fun e=>hy (DX.1 (qau e))
  rcases qam (Af (val ys)).length 2 with h3|h3
  ·exact Mu w v u xs ys h h' hn cC h1 (by omega)
  ·exact Lv w v u xs ys h h' hn cC h1 h3
theorem FY(l:List UInt8)(a i:Nat):Ad (l.drop a) i=Ad l (a+i):=by
 unfold Ad;rw[qac,qac,List.getElem?_drop]
theorem L0(l:List UInt8):CO l=(!(l == []) && decide (l.length<=24) && Ej (Ad l 0) && l.all (fun c=>BU c.toNat)):=rfl
theorem J0{l:List UInt8}{i:Nat}(h:i<l.length)(hf:BU (Ad l i)=false):l.all (fun c=>BU c.toNat)=false:=by
 rw[List.all_eq_false];exact⟨l[i],qap h,by rw[<-BC l i h,hf];simp⟩
theorem Kq{l:List UInt8}(h:∀i,i<l.length->BU (Ad l i)=true):l.all (fun c=>BU c.toNat)=true:=by
 rw[qbI];intro c hc;obtain⟨i,hi,rfl⟩:=qby hc;rw[<-BC l i hi];exact h i hi
theorem IX(w:World)(l:List UInt8)(hl:l.length<=1073741824):Calls Tryz.prog 94 #[str l] w fun e w'=>e= .returned (.bool (CO l))/\w=w':=by
 have H:=J (L0 l);rcases qar l.length with h0|h0
 ·obtain rfl:l=[]:=qau h0;have HR:Hid (CO []=false):=J rfl;have he:(([]:List UInt8) == [])=true:=rfl;clear h0 H;go_enter Tryz.func94,Tryz.ntmps94;go_wp2_with fail;go_ret;rw[HR.o];exact⟨rfl,rfl⟩
 ·have he:(l == [])=false:=by cases l<;>simp_all
  have h0i:(0:Int)<(l.length:Int):=by omega
  rcases qam 24 l.length with h24|h24
  ·have HR:Hid (CO l=false):=J (by rw[H.o,decide_eq_false (by omega)];simp);have hd:(24:Int)<(l.length:Int):=by omega
   clear H h0 h24;go_enter Tryz.func94,Tryz.ntmps94;go_wp2_with fail;go_ret;rw[HR.o];exact⟨rfl,rfl⟩
  ·have hd:¬(24:Int)<(l.length:Int):=by omega
   have bE:decide ((24:Int)<(l.length:Int))=false:=by simp;omega
   have eM:=CL l 0;have bD:=J (fun W=>G2 W (Ad l 0) eM);cases hlet:Ej (Ad l 0)
   ·have HR:Hid (CO l=false):=J (by rw[H.o,hlet];simp);rw[hlet]at bD;clear H h0 h24 hlet;go_enter Tryz.func94,Tryz.ntmps94;go_wp2_with fail;refine(bD.o _).mono ?_
    rintro e w1 ⟨rfl,rfl⟩;go_wp2_with fail;go_ret;rw[HR.o];exact⟨rfl,rfl⟩
   ·have HR:Hid (CO l=l.all (fun c=>BU c.toNat)):=J (by rw[H.o,hlet,he,decide_eq_true h24];simp);rw[hlet]at bD;clear H hlet;go_enter Tryz.func94,Tryz.ntmps94;go_wp2_with fail;refine(bD.o _).mono ?_
    rintro e w1 ⟨rfl,rfl⟩;go_wp2_with fail
    go_loop [19] (fun s=>∃i:Nat,i<=l.length/\s= .int .i64 (i:Int)/\Hid (∀j,j<i->BU (Ad l j)=true)) (fun s=>l.length-(intOf s).toNat)
    case atStart=>exact⟨0,qal _,rfl,J (fun j hj=>by omega)⟩
    case round=>
     obtain⟨i,hi,rfl,HA⟩:=hrel;by_cases hlt:i<l.length
     ·have hbi:=CL l i;have HC:=J (fun W=>OA W (Ad l i) hbi);cases hw:BU (Ad l i)
      ·have HF:Hid (CO l=false):=J (by rw[HR.o];exact J0 hlt hw);rw[hw]at HC;clear hw;go_wp2_with fail;refine(HC.o _).mono ?_
       rintro e w1 ⟨rfl,rfl⟩;go_wp2_with fail;go_ret;rw[HF.o];exact⟨rfl,rfl⟩
      ·have HN:Hid (∀j,j<i+1->BU (Ad l j)=true):=J (fun j hj=>by
        rcases qam j i with h1|h1
        ·exact HA.o j h1
        ·obtain rfl:j=i:=by omega
         exact hw)
       rw[hw]at HC;clear hw;go_wp2_with fail;refine(HC.o _).mono ?_
       rintro e w1 ⟨rfl,rfl⟩;go_wp2_with fail
       go_round
       case rel=>exact⟨i+1,by omega,by go_num,HN⟩
       case measure=>simp[intOf];omega
     ·obtain rfl:i=l.length:=by omega
      have HF:Hid (CO l=true):=J (by rw[HR.o];exact Kq HA.o);go_wp2_with fail;go_ret;rw[HF.o];exact⟨rfl,rfl⟩
end Big
end Go.Proofs.YtkoaogkknnelaaaGreatDoor
