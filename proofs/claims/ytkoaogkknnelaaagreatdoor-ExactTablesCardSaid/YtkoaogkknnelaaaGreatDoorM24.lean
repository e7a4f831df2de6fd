import Derived.Test.YtkoaogkknnelaaaGreatDoorM23
set_option linter.unusedVariables false
set_option linter.unusedSimpArgs false
set_option maxHeartbeats 4000000
set_option maxRecDepth 100000
namespace Go.Proofs.YtkoaogkknnelaaaGreatDoor
namespace Big
open Lib renaming hid → J
open Go.RowKit
section
variable {p:Nat->Option Ex × Nat} {ts:List Tok} {a b:Nat} {x:Ex}
theorem Vm(h:isS ts a [45]=false):Bg ts ts.length a=0:=C2 _ h
theorem Uk(h:isS ts a [45]=true):Bg ts ts.length a=Bg ts ts.length (a+1)+1:=by
 have hl:=Cs h;obtain⟨n,hn⟩:∃n,ts.length=n+1:=⟨ts.length-1,by omega⟩;rw[hn,Bg,if_pos h,<-Kl (n+1) n (a+1) (by omega) (by omega)]
end
theorem Kh(w:World)(k:Int):Calls Tryz.prog 174 #[.int .i64 k] w fun e w'=>e= .returned (.int .i64 (Az k))/\w=w':=by
 have key:(k<1/\Az k= -1)\/(1<=k/\k<=4/\Az k=0)\/(k=5/\Az k=1)\/(6<=k/\k<=9/\Az k=2)\/(10<=k/\k<=16/\Az k=1)\/(17<=k/\Az k= -1):=by
  unfold Az;by_cases h1:k<1
  ·simp[h1]
  by_cases h2:16<k
  ·simp[h1,h2];omega
  by_cases h3:k<=4
  ·simp[h1,h2,h3];omega
  by_cases h4:6<=k/\k<=9
  ·simp[h1,h2,h3,h4]
  ·simp[h1,h2,h3,h4];omega
 rcases key with ⟨h1,h⟩|⟨h1,h2,h⟩|⟨rfl,h⟩|⟨h1,h2,h⟩|⟨h1,h2,h⟩|⟨h1,h⟩
 ·have H:=J h;have d1:decide (k>=1)=false:=decide_eq_false (by omega);have Wg:¬1<=k:=by omega
  have d2:(k == 5)=false:=by rw[beq_eq_false_iff_ne];omega
  have d3:decide (k>=10)=false:=decide_eq_false (by omega);have YL:¬10<=k:=by omega
  have d4:decide (k>=6)=false:=decide_eq_false (by omega);have d4':¬6<=k:=by omega
  clear h;go_enter Tryz.func174,Tryz.ntmps174;go_wp2_with fail;go_ret;exact⟨by rw[H.o];rfl,rfl⟩
 ·have H:=J h;clear h;go_enter Tryz.func174,Tryz.ntmps174;go_wp2_with fail;go_ret;exact⟨by rw[H.o];rfl,rfl⟩
 ·have H:=J h;clear h;go_enter Tryz.func174,Tryz.ntmps174;go_wp2_with fail;go_ret;exact⟨by rw[H.o];rfl,rfl⟩
 ·have H:=J h;have Wg:1<=k:=by omega
  have wY:¬k<=4:=by omega
  have d2:(k == 5)=false:=by rw[beq_eq_false_iff_ne];omega
  have YL:¬10<=k:=by omega
  clear h;go_enter Tryz.func174,Tryz.ntmps174;go_wp2_with fail;go_ret;exact⟨by rw[H.o];rfl,rfl⟩
 ·have H:=J h;have Wg:1<=k:=by omega
  have wY:¬k<=4:=by omega
  have d2:(k == 5)=false:=by rw[beq_eq_false_iff_ne];omega
  clear h;go_enter Tryz.func174,Tryz.ntmps174;go_wp2_with fail;go_ret;exact⟨by rw[H.o];rfl,rfl⟩
 ·have H:=J h;have Wg:1<=k:=by omega
  have wY:¬k<=4:=by omega
  have d2:(k == 5)=false:=by rw[beq_eq_false_iff_ne];omega
  have YL:10<=k:=by omega
  have d3'':¬k<=16:=by omega
  have d4':6<=k:=by omega
  have d4'':¬k<=9:=by omega
  clear h;go_enter Tryz.func174,Tryz.ntmps174;go_wp2_with fail;go_ret;exact⟨by rw[H.o];rfl,rfl⟩
theorem N2(w:World)(x:Nd)(hl:x.text.length<=1073741824)(hm:B5 w):Calls Tryz.prog 175 #[ndV x] w fun e w'=>e= .returned (.bool (AA x))/\Ext w w':=by
 obtain⟨k,a,b,n,t⟩:=x;simp only[ndV]at hl ⊢;have HP:=J (fun W h=>Gi W t h);have HM:=J hm;have HW:=J (fun W=>LW W t hl);have eu:=J (fun W=>GG W t);have so:DQ t=(C9 t && !Bn t):=by rw[CB];rfl
 obtain⟨s,hs⟩:∃s:ByteArray,s=⟨t.toArray⟩:=⟨_,rfl⟩;have hst:str t= .string s:=by rw[hs];rfl
 have hne:s.toList.isEmpty=(t == []):=by rw[hs];exact IM t
 rw[hst]at HP HW eu ⊢;clear hs hst hm;have hb0:=Blk.new w 95 #[.int .i64 k,.int .i64 a,.int .i64 b,.int .i64 n,.string s];have bP:=J ((Ext.refl w).alloc (.cells #[.int .i64 k,.int .i64 a,.int .i64 b,.int .i64 n,.string s] 95));have aj:=J hb0;have q0:=hb0.five;clear hb0;have key:(k=1)\/(k=2)\/(k=10)\/(k≠1/\k≠2/\k≠10):=by omega
 rcases key with rfl|rfl|rfl|⟨fJ,hk2,d9⟩
 ·have oG:((Bh t:Int) == 0)=(Bh t == 0):=by rw[qaM];simp
  have H:Hid (AA ⟨1,a,b,n,t⟩=((Bh t:Int) == 0 && (n == 0))):=J (by rw[oG];unfold AA Co Cc;simp);clear hne oG so;generalize AA ⟨1,a,b,n,t⟩=r at *;generalize hce:(Bh t:Int)=ce at *;go_enter Tryz.func175,Tryz.ntmps175;go_wp2_with fail;refine(HP.o _ (HM.o.ext bP.o)).mono ?_
  rintro e w5 ⟨v5,rfl,dg,hx5⟩;obtain⟨b5,n5,A5,c5,n6,A6,c6,rfl⟩:=dg.shape;have dd:=hx5.alloc (.cells #[.bool b5,.slice A5 n5 c5,.slice A6 n6 c6] 26);have dD:=J (bP.o.trans dd);have q0:=(aj.o.ext dd).five;clear dg hx5 dd;rw[hce];clear hce;cases hz:(ce == 0)
  ·rw[hz]at H;go_wp2_with fail;go_ret;exact⟨by rw[H.o];rfl,dD.o⟩
  ·rw[hz]at H;go_wp2_with fail;go_ret;exact⟨by rw[H.o];rfl,dD.o⟩
 ·have H:Hid (AA ⟨2,a,b,n,t⟩=((C9 t && !Bn t) && (n == 0))):=J (by rw[<-so];unfold AA Co Cc;simp);generalize AA ⟨2,a,b,n,t⟩=r at *;clear hne so;cases hw:C9 t
  ·rw[hw]at HW H;clear hw;go_enter Tryz.func175,Tryz.ntmps175;go_wp2_with fail;refine(HW.o _).mono ?_
   rintro e w5 ⟨rfl,rfl⟩;go_wp2_with fail;go_ret;exact⟨by rw[H.o];rfl,bP.o⟩
  ·rw[hw]at HW H;clear hw;cases hv:Bn t
   all_goals
    rw[hv]at eu H;clear hv;go_enter Tryz.func175,Tryz.ntmps175;go_wp2_with fail;refine(HW.o _).mono ?_
    rintro e w5 ⟨rfl,rfl⟩;go_wp2_with fail;refine(eu.o _).mono ?_
    rintro e w6 ⟨rfl,rfl⟩;go_wp2_with fail;go_ret;exact⟨by rw[H.o];rfl,bP.o⟩
 ·have H:Hid (AA ⟨10,a,b,n,t⟩=((decide (-64<=n) && decide (n<=64)) && s.toList.isEmpty)):=J (by rw[hne,<-KO];unfold AA Co Cc;rw[Bool.and_comm];rfl);generalize AA ⟨10,a,b,n,t⟩=r at *;clear hne so HP HW eu hl;by_cases hn: -64<=n
  ·have hd:decide (-64<=n)=true:=decide_eq_true hn;rw[hd]at H;by_cases hn2:n<=64
   ·have eH:decide (n<=64)=true:=decide_eq_true hn2;rw[eH]at H;go_enter Tryz.func175,Tryz.ntmps175;go_wp2_with fail;go_ret;exact⟨by rw[H.o];rfl,bP.o⟩
   ·have eH:decide (n<=64)=false:=decide_eq_false hn2;rw[eH]at H;go_enter Tryz.func175,Tryz.ntmps175;go_wp2_with fail;go_ret;exact⟨by rw[H.o];rfl,bP.o⟩
  ·have hd:decide (-64<=n)=false:=decide_eq_false hn;rw[hd]at H;go_enter Tryz.func175,Tryz.ntmps175;go_wp2_with fail;go_ret;exact⟨by rw[H.o];rfl,bP.o⟩
 ·have e1:(k == 1)=false:=by rw[beq_eq_false_iff_ne];omega
  have e2:(k == 2)=false:=by rw[beq_eq_false_iff_ne];omega
  have e3:(k == 10)=false:=by rw[beq_eq_false_iff_ne];omega
  have H:Hid (AA ⟨k,a,b,n,t⟩=((n == 0) && s.toList.isEmpty)):=J (by rw[hne,Bool.and_comm];unfold AA Co Cc;rw[if_neg fJ,if_neg hk2,if_neg d9]);generalize AA ⟨k,a,b,n,t⟩=r at *;clear hne so HP HW eu hl fJ hk2 d9;cases hz:(n == 0)
  ·rw[hz]at H;go_enter Tryz.func175,Tryz.ntmps175;go_wp2_with fail;go_ret;exact⟨by rw[H.o];rfl,bP.o⟩
  ·rw[hz]at H;go_enter Tryz.func175,Tryz.ntmps175;go_wp2_with fail;go_ret;exact⟨by rw[H.o];rfl,bP.o⟩
def prC(L:List (Nat × Nat)):List Value:=L.flatMap (fun p=>[din p.1,din p.2])
theorem Tr(L:List (Nat × Nat)):(prC L).length=L.length*2:=by
 induction L with
 |nil=>rfl
 |cons p L ih=>
  unfold prC at *;rw[qbW,qac,ih,qaC];simp;omega
theorem CK(L M:List (Nat × Nat)):prC (L++M)=prC L++prC M:=by simp[prC]
theorem Eu(p:Nat × Nat):prC [p]=[din p.1,din p.2]:=by simp[prC]
theorem GI(L:List (Nat × Nat))(n:Nat):(prC L).take (n*2)=prC (L.take n):=by
 induction L generalizing n with
 |nil=>simp[prC]
 |cons p L ih=>
  cases n with
  |zero=>simp[prC]
  |succ n=>
   unfold prC at *;rw[qbW,qcb,qbW,show (n+1)*2=n*2+2 by omega];show din p.1::din p.2::List.take (n*2) (List.flatMap (fun p=>[din p.1,din p.2]) L)=din p.1::din p.2::List.flatMap (fun p=>[din p.1,din p.2]) (List.take n L);rw[ih n]
theorem Ts(L:List (Nat × Nat))(i:Nat)(hi:i<L.length):(prC L)[i*2]? =some (din (L.getD i (0,0)).1)/\(prC L)[i*2+1]? =some (din (L.getD i (0,0)).2):=by
 induction L generalizing i with
 |nil=>simp at hi
 |cons p L ih=>
  unfold prC at *;rw[qbW];cases i with
  |zero=>exact⟨rfl,rfl⟩
  |succ i=>
   have h:=ih i (by simpa using hi);rw[qai (by simp;omega),qai (by simp;omega)];have e1:(i+1)*2-[din p.1,din p.2].length=i*2:=by simp;omega
   have e2:(i+1)*2+1-[din p.1,din p.2].length=i*2+1:=by simp;omega
   rw[e1,e2];exact h
def CX(B:Nat)(w:World)(v:Value)(n:Nat)(L:List (Nat × Nat)):Prop:=w.ownsRow B 196 2 v n (prC L)
theorem Qv:(Tryz.prog.info? 196).map (fun i=>(i.zero,i.size,i.bytes))=some (some (.agg #[.int .i64 0,.int .i64 0]),2,16):=by kernel_rfl
theorem CX.len{B n:Nat}{w:World}{v:Value}{L:List (Nat × Nat)}(h:CX B w v n L):L.length=n:=by
 have:=h.1;rw[Tr]at this;omega
theorem CX.ext{B n:Nat}{w w':World}{v:Value}{L:List (Nat × Nat)}(h:CX B w v n L)(hx:Ext w w'):CX B w' v n L:=Ah h (fun _ _ hg=>Below.block hx _ hg)
theorem CX.get{B n g c:Nat}{w:World}{L:List (Nat × Nat)}(h:CX B w (.slice (some ⟨g,0,none⟩) n c) n L)(j:Nat)(hj:j<n):w.cell? ⟨g,j*2,none⟩=some (.int .i64 ((L.getD j (0,0)).1:Int))/\w.cell? ⟨g,j*2+1,none⟩=some (.int .i64 ((L.getD j (0,0)).2:Int)):=by
 have hl:=h.len;have h1:=h.cellAt (j*2) (by omega);have h2:=h.cellAt (j*2+1) (by omega);have h3:=Ts L j (by omega);rw[h1,h2];exact h3
theorem BM{B sz n:Nat}{e:TypeId}{w:World}{v:Value}{xs:List Value}(h:w.ownsRow B e sz v n xs)(g:Nat)(hg:v.ownBlock=some g):B<=g/\g<w.heap.size:=by
 rcases h.2 with ⟨rfl,h2⟩|⟨g',cap,cur,rfl,hb,hh,_⟩
 ·cases hg
 ·simp only[Value.ownBlock,qar]at hg;subst hg;refine⟨hb,?_⟩;rcases qah g' w.heap.size with h|h
  ·exact h
  ·rw[qbg h]at hh;cases hh
theorem DU{B sz n m:Nat}{e:TypeId}{w:World}{A:Option Addr}{c:Nat}{xs:List Value}(h:w.ownsRow B e sz (.slice A n c) n xs)(hm:m<=n):w.ownsRow B e sz (.slice A m c) m (xs.take (m*sz)):=by
 have vR:m*sz<=n*sz:=qaF sz hm;refine⟨by rw[qam,h.1];omega,?_⟩;rcases h.2 with ⟨h1,h2⟩|⟨g,cap,cur,h1,hb,hh,hc,eA,hs,ht⟩
 ·injection h1 with h1 h3 h4
  subst h1;subst h2;obtain rfl:m=0:=by omega
  exact .inl ⟨by rw[h4],rfl⟩
 ·injection h1 with h1 h3 h4
  subst h1;subst h4;exact .inr ⟨g,c,cur,rfl,hb,hh,by omega,eA,hs,by rw[<-ht,List.take_take,qbG vR]⟩
theorem Eo {B ZM Xy n m g:Nat} {e1 e2:TypeId} {W W1 w':World} {v u u':Value} {xs ys:List Value} (h4:W.ownsRow B e1 ZM v n xs) (h5:W.ownsRow B e2 Xy u m ys) (gc:Ez v u) (hx:Ext W W1) (hB:B<=W.heap.size)
  (aC:W1.grownBy w' v.ownBlock) (hat:v.ownBlock=some g\/g=W1.heap.size) (hu:u'.ownBlock=some g):w'.ownsRow B e2 Xy u m ys/\Ez u' u/\Below B W w':=by
 refine⟨?_,fun k hk he=> ?_,?_⟩
 ·refine(Ah h5 (fun _ _ hg=>Below.block hx _ hg)).kept aC ?_
  cases hu5:u.ownBlock with
  |none=>exact .inl rfl
  |some k=>exact .inr (fun he=>gc k he.symm hu5)
 ·rw[hu]at hk;injection hk with hk
  subst hk;rcases hat with hat|hat
  ·exact gc g hat he
  ·have:=(BM h5 g he).2;have:=hx.size;omega
 ·exact Below.grown (Below.mono hx hB) aC (qae hB hx.size) (fun k hk=>(BM h4 k hk).1)
def K9(l:List Nd)(w:World)(e:Ending)(w':World):Prop:=
 ∃v,e= .returned (.tuple #[v,.int .i64 ((DE l).2:Int)])/\Ext w w'/\CX w.heap.size w' v (DE l).1.length (DE l).1
structure J9 (l:List Nd) (w:World) (i:Nat) (all st:List (Nat × Nat)) (va vs:Value) (wr:World):Prop where
 go:DE l=Gg i all st (l.drop i)
 ra:CX w.heap.size wr va i all
 rs:CX w.heap.size wr vs st.length st
 apart:Ez va vs
 ext:Ext w wr
 low:∀p∈st,p.1<=i/\p.2<=i
 fs:st.length<=i
theorem J9.bad{l:List Nd}{w wr:World}{i:Nat}{all st:List (Nat × Nat)}{va vs:Value}{nd:Nd}(h:J9 l w i all st va vs wr)(hn:l[i]? =some nd)(hs:AZ i st nd=none):DE l=(all,0):=by
 have h1:=h.go;rw[DW hn,Gg,hs]at h1;exact h1
theorem J9.next {l:List Nd} {w wr w':World} {i k:Nat} {all st:List (Nat × Nat)} {va vs yJ uV:Value} {nd:Nd} {p:Nat × Nat} (h:J9 l w i all st va vs wr) (hn:l[i]? =some nd) (hs:AZ i st nd=some (p,st.take k++[p]))
  (h4:CX w.heap.size w' yJ (i+1) (all++[p])) (h5:CX w.heap.size w' uV (k+1) (st.take k++[p])) (hk:k<=st.length) (gc:Ez yJ uV) (hx:Ext w w') (hp:p.1<=i+1/\p.2<=i+1):J9 l w (i+1) (all++[p]) (st.take k++[p]) yJ uV w':=by
 have h1:=h.go;rw[DW hn,Gg,hs]at h1;have hl:(st.take k++[p]).length=k+1:=by rw[qac,qam,qal];omega
 refine⟨h1,h4,by rw[hl];exact h5,gc,hx,fun q hq=> ?_,by have:=h.fs;rw[hl];omega⟩;rcases qbt.1 hq with hq|hq
 ·have:=h.low q (List.mem_of_mem_take hq);omega
 ·rw[qaQ]at hq;rw[hq];exact hp
section
variable {st:List (Nat × Nat)} {i:Nat} {k a b n:Int} {t:List UInt8}
theorem N0(h:Az k<0):AZ i st ⟨k,a,b,n,t⟩=none:=by unfold AZ;rw[if_pos (.inl h)]
theorem Jw(h:(st.length:Int)<Az k):AZ i st ⟨k,a,b,n,t⟩=none:=by unfold AZ;rw[if_pos (.inr (.inl h))]
theorem Iv(h:Az k=0)(h2:¬(a=0/\b=0)):AZ i st ⟨k,a,b,n,t⟩=none:=by
 unfold AZ;simp only[h];split
 ·rfl
 ·simp[h2]
theorem Iu(h:Az k=1)(h2:¬(a=(i:Int)-1/\b=0)):AZ i st ⟨k,a,b,n,t⟩=none:=by
 unfold AZ;simp only[h];split
 ·rfl
 ·simp[h2]
theorem It(h:Az k=2)(h2:¬(a=((st.getD (st.length-1) (0,0)).1:Int)-1/\b=(i:Int)-1)):AZ i st ⟨k,a,b,n,t⟩=none:=by
 unfold AZ;simp only[h];split
 ·rfl
 ·first|(simp[h2];done)|(simp;exact fun h3 h4=>absurd ⟨h3,h4⟩ h2)
theorem RV(h:Az k=0)(hp:AA ⟨k,0,0,n,t⟩=true):AZ i st ⟨k,0,0,n,t⟩=some ((i,1),st.take (st.length-0)++[(i,1)]):=by
 unfold AZ;simp only[h,hp];rw[if_neg (by first|(simp;done)|(simp;omega))];simp
theorem RU(h:Az k=1)(hp:AA ⟨k,(i:Int)-1,0,n,t⟩=true)(hm:1<=st.length):AZ i st ⟨k,(i:Int)-1,0,n,t⟩=some (((st.getD (st.length-1) (0,0)).1,(st.getD (st.length-1) (0,0)).2+1),st.take (st.length-1)++[((st.getD (st.length-1) (0,0)).1,(st.getD (st.length-1) (0,0)).2+1)]):=by
 unfold AZ;simp only[h,hp];rw[if_neg (by first|(simp;done)|(simp;omega)),if_neg (by decide),if_pos trivial,if_pos (by simp)]
theorem RT(h:Az k=2)(hp:AA ⟨k,((st.getD (st.length-1) (0,0)).1:Int)-1,(i:Int)-1,n,t⟩=true)(hm:2<=st.length):AZ i st ⟨k,((st.getD (st.length-1) (0,0)).1:Int)-1,(i:Int)-1,n,t⟩=some (((st.getD (st.length-2) (0,0)).1,max ((st.getD (st.length-1) (0,0)).2+1) ((st.getD (st.length-2) (0,0)).2+1)),st.take (st.length-2)++[((st.getD (st.length-2) (0,0)).1,max ((st.getD (st.length-1) (0,0)).2+1) ((st.getD (st.length-2) (0,0)).2+1))]):=by
 unfold AZ;simp only[h,hp];rw[if_neg (by first|(simp;done)|(simp;omega)),if_neg (by decide),if_neg (by decide),if_pos (by simp)]
theorem E6(h:AA ⟨k,a,b,n,t⟩=false):AZ i st ⟨k,a,b,n,t⟩=none:=by unfold AZ;rw[if_pos (.inr (.inr h))]
end
theorem P6(w:World)(v:Value)(l:List Nd)(hr:RNd w v l)(hl:l.length<=1000000)(nW:∀x∈l,x.text.length<=1073741824)(hm:B5 w):Calls Tryz.prog 132 #[v] w (K9 l w):=by
 have HR:=J hr;have nD:=J nW;have pR:=J hm;obtain⟨i0,hi,aD,hz1,bu⟩:=info_parts Qv;obtain⟨A,c,rfl,_⟩:=hr;clear nW hm;have bF:Hid (J9 l w 0 [] [] (.slice none 0 0) (.slice none 0 0) w):=J ⟨rfl,⟨rfl,.inl ⟨rfl,rfl⟩⟩,⟨rfl,.inl ⟨rfl,rfl⟩⟩,(fun g h=>by cases h),Ext.refl w,(fun p h=>by cases h),qaj _⟩;obtain⟨n,hn⟩:∃n,n=l.length:=⟨_,rfl⟩;have HN:=J hn;rw[<-hn]at hl ⊢;clear hn;go_enter Tryz.func132,Tryz.ntmps132;go_wp2_with fail;go_loopw [4,5,15] (fun s4 s5 s15 wr=>∃(i:Nat) (all st:List (Nat × Nat)),i<=n/\s15= .int .i64 (i:Int)/\J9 l w i all st s4 s5 wr) (fun _ _ s15 _=>n-(intOf s15).toNat)
 case atStart=>exact⟨0,[],[],qaj _,rfl,bF.o⟩
 case round=>
  obtain⟨i,all,st,hin,rfl,a9⟩:=hrel;have HI:=J a9;obtain⟨A4,c4,rfl⟩:=Aw a9.ra;obtain⟨A5,c5,rfl⟩:=Aw a9.rs;clear bF;have hfs:=a9.fs;obtain⟨ms,vR⟩:∃ms,ms=st.length:=⟨_,rfl⟩;rw[<-vR]at hfs ⊢;have lp:=J vR;clear vR;by_cases hlt:i<n
  ·have kH:i<l.length:=by rw[<-HN.o];exact hlt
   obtain⟨A',c',he,hc⟩:=HR.o.ext a9.ext;obtain⟨b,o,V6,hb,hc⟩:=hc (by omega);obtain⟨nd,hnd,hat,jk⟩:∃nd,l[i]? =some nd/\OG wr b (o+i*5) nd/\nd.text.length<=1073741824:=⟨l[i],qad kH,hc i kH,nD.o _ (qaw kH)⟩
   injection he with he1 he2 he3
   subst he1;clear he2 he3;subst V6;have aF:Hid (AZ i st nd=none->DE l=(all,0)):=J (fun h=>a9.bad hnd h);have dl:=J hnd;clear hnd hc;have hw:wr.heap.size>=w.heap.size:=a9.ext.size;have HX:=J a9.ext;have nf:=J (pR.o.ext a9.ext);clear a9 kH;obtain⟨kd,na,nb,nn,nt⟩:=nd;have cI:=J (fun W h=>N2 W ⟨kd,na,nb,nn,nt⟩ jk h);simp only[ndV]at cI;obtain⟨k0,k1,k2,k3,k4⟩:=hat;simp only at k0 k1 k2 k3 k4;obtain⟨s,hs⟩:∃s:ByteArray,s=⟨nt.toArray⟩:=⟨_,rfl⟩;have hst:str nt= .string s:=by rw[hs];rfl
   rw[hst]at cI k4;clear hs hst jk;have aS:=J (fun W=>Kh W kd);have key:=FA kd;obtain⟨p,hp⟩:∃p,p=AA ⟨kd,na,nb,nn,nt⟩:=⟨_,rfl⟩;rw[<-hp]at cI;have hb0:=Blk.new wr 95 #[.int .i64 kd,.int .i64 na,.int .i64 nb,.int .i64 nn,.string s];have bq:=J ((Ext.refl wr).alloc (.cells #[.int .i64 kd,.int .i64 na,.int .i64 nb,.int .i64 nn,.string s] 95));have dV:=J hb0;have q0:=hb0.five;clear hb0;have fE:=J HI.o.ra;have eu:Hid (CX w.heap.size wr (.slice A5 ms c5) ms st):=J (by
    have h:=HI.o.rs;rw[<-lp.o]at h;exact h)
   have kl:=J HI.o.ra.len;have pk:Hid (∀j,j<ms->(st.getD j (0,0)).1<=i/\(st.getD j (0,0)).2<=i):=J (fun j hj=>HI.o.low _ (by
    have qi:j<st.length:=by rw[<-lp.o];exact hj
    rw[qaa,qad qi];exact qaw qi))
   rcases key with aJ|aJ|aJ|aJ
   ·have cC:=J (aF.o (N0 (by rw[aJ];decide)));rw[aJ]at aS;clear aJ hp aF;go_wp2_with fail;refine(aS.o _).mono ?_
    rintro e w2 ⟨rfl,rfl⟩;go_wp2_with fail;go_ret2;exact⟨_,by rw[cC.o];rfl,HX.o.trans bq.o,by rw[cC.o,kl.o];exact fE.o.ext bq.o⟩
   ·cases hpb:p
    ·rw[hpb]at hp cI;have cC:=J (aF.o (E6 hp.symm));rw[aJ]at aS;clear aJ hp aF hpb;go_wp2_with fail;refine(aS.o _).mono ?_
     rintro e w2 ⟨rfl,rfl⟩;go_wp2_with fail;refine(cI.o _ (nf.o.ext bq.o)).mono ?_
     rintro e w3 ⟨rfl,ab⟩;have q0:=(dV.o.ext ab).five;have lw:=(dV.o.ext ab).lt;have iA:wr.heap.size<w3.heap.size+1:=by omega
     have iz:wr.heap.size<w3.heap.size+1+1:=by omega
     have iy:wr.heap.size<w3.heap.size+1+1+1:=by omega
     have aE:=J (bq.o.trans ab);clear ab;go_wp2_with fail;go_ret2;exact⟨_,by rw[cC.o];rfl,HX.o.trans aE.o,by rw[cC.o,kl.o];exact fE.o.ext aE.o⟩
    ·rw[hpb]at hp cI;have eO:=J hp.symm;clear hpb hp;by_cases ha:na=0
     ·subst ha;by_cases hb2:nb=0
      ·subst hb2;have jW:Hid (AZ i st ⟨kd,0,0,nn,nt⟩=some ((i,1),st.take (ms-0)++[(i,1)])):=J (by rw[lp.o];exact RV aJ eO.o);have gQ:Hid (i<=i+1/\1<=i+1):=J ⟨by omega,by omega⟩;rw[aJ]at aS;clear aJ aF;go_wp2_with fail;refine(aS.o _).mono ?_
       rintro e w2 ⟨rfl,rfl⟩;go_wp2_with fail;refine(cI.o _ (nf.o.ext bq.o)).mono ?_
       rintro e w3 ⟨rfl,ab⟩;have q0:=(dV.o.ext ab).five;have lw:=(dV.o.ext ab).lt;have iA:wr.heap.size<w3.heap.size+1:=by omega
       have iz:wr.heap.size<w3.heap.size+1+1:=by omega
       have iy:wr.heap.size<w3.heap.size+1+1+1:=by omega
       have aE:=J (bq.o.trans ab);clear ab;go_upto_region 20 with fail;rcases eu.o.2 with ⟨he,h0⟩|⟨g5,xd,wZ,he,_,_,uJ,_⟩
       ·injection he with he1 he2 he3
        have H0:=J (And.intro he2 he3);subst he1;clear he2 he3 h0;obtain⟨w4,hw4⟩:∃w4,w4=(w3.alloc (.cells #[.int .i64 (i:Int),.int .i64 1] 196)).alloc (.cells #[.int .i64 kd,.int .i64 0,.int .i64 0,.int .i64 nn,.string s] 95):=⟨_,rfl⟩;rw[<-hw4];have ix:Ext w3 w4:=by rw[hw4];exact(((Ext.refl w3).alloc _).alloc _)
        have i6:Blk w4 w3.heap.size 196 #[.int .i64 (i:Int),.int .i64 1]:=by rw[hw4];exact((Blk.new w3 _ _).alloc _)
        have bE:=J (aE.o.trans ix);have pw:=J i6;obtain⟨p0,p1⟩:=i6.two';obtain⟨mk,dp⟩:∃mk,mk=ms-0:=⟨_,rfl⟩;have vg:IntKind.i64.wrap (ms:Int)=(mk:Int):=by rw[IntWalk.i64_in _ (by omega)];omega
        have hmc:mk<=c5:=by have:=H0.o;omega
        have eU:w.heap.size<=w4.heap.size:=qae HX.o.size bE.o.size;have ex:=J (DU (m:=mk) (eu.o.ext bE.o) (by omega));have qJ:=J (fE.o.ext bE.o);have lI:=i6.lt;have sN:wr.heap.size<=w3.heap.size:=aE.o.size;have lT:Hid (mk<=st.length):=J (by rw[<-lp.o];omega);have iu:Hid (AZ i st ⟨kd,0,0,nn,nt⟩=some ((i,1),st.take mk++[(i,1)])):=J (by rw[dp];exact jW.o);have ec:Hid ((w4.alloc (.cells #[.int .i64 (i:Int),.int .i64 1] 196)).drew.ownsRow w.heap.size 196 2 (.slice none mk c5) mk ((prC st).take (mk*2))):=J (Ah ex.o (fun k _ hk=>Below.heap_alloc w4 _ k hk));have dK:Hid (∀(j:Nat) (u:Value),[Value.int .i64 (i:Int),Value.int .i64 1][j]? =some u->(w4.alloc (.cells #[.int .i64 (i:Int),.int .i64 1] 196)).drew.cell? ((⟨w4.heap.size,0,none⟩:Addr).add j)=some u):=J (Cd w4 196 [.int .i64 (i:Int),.int .i64 1]);have ag:Hid (mk+1<=maxLen):=J (by unfold maxLen;omega);have ba:Hid ((mk+1)*16<=140737488355328):=J (by omega);have be:Hid (w.heap.size<=(w4.alloc (.cells #[.int .i64 (i:Int),.int .i64 1] 196)).drew.heap.size):=J (by simp;omega);clear hw4 i6 ix dp q0
        go_region_law (refine step_append_lies _ rfl (.tmp 96) (.tmp 98) 192 rfl w.heap.size 196 i0 _ 2 16 Tryz.underlying192 hi aD hz1 bu rfl (by decide) _ mk ((prC st).take (mk*2)) rfl ec.o ⟨w4.heap.size,0,none⟩ 1 1 [.int .i64 (i:Int),.int .i64 1] rfl rfl dK.o (by simp[Value.oneCell']) (by decide) ag.o ba.o be.o _ rfl ?_;intro g6 c6 w6 bw cG cP gV;have hU:=J bw;have iV:=J cG;have mb:=J cP;clear bw cG cP)
        all_goals
         have au:Hid (Ext w4 (w4.alloc (.cells #[.int .i64 (i:Int),.int .i64 1] 196)).drew):=J ((Ext.refl w4).alloc _).drew;have cQ:=J (Eo (u':= .slice (some ⟨g6,0,none⟩) (mk+1) c6) ex.o qJ.o (fun g h1 h2=>HI.o.apart g h2 h1) au.o eU iV.o mb.o rfl);have iO:Blk w6 w3.heap.size 196 #[.int .i64 (i:Int),.int .i64 1]:=(iV.o.block w3.heap.size (qan lI au.o.size) (by intro he;cases he)).trans (pw.o.ext au.o);obtain⟨y0,y1⟩:=iO.two';have tO:Hid (CX w.heap.size w6 (.slice (some ⟨g6,0,none⟩) (mk+1) c6) (mk+1) (st.take mk++[(i,1)])):=J (by unfold CX;rw[CK,Eu,<-GI];exact hU.o);have lN:Hid ((w6.alloc (.cells #[.int .i64 (i:Int),.int .i64 1] 196)).ownsRow w.heap.size 196 2 (.slice A4 i c4) i (prC all)):=J (Ah cQ.o.1 (fun k _ hk=>Below.heap_alloc w6 _ k hk));have gg:=J (Cd w6 196 [.int .i64 (i:Int),.int .i64 1]);have ig:Hid (i+1<=maxLen):=J (by unfold maxLen;omega);have iZ:Hid ((i+1)*16<=140737488355328):=J (by omega);have lD:w.heap.size<=w6.heap.size:=qae eU cQ.o.2.2.size;have mD:Hid (w.heap.size<=(w6.alloc (.cells #[.int .i64 (i:Int),.int .i64 1] 196)).heap.size):=J (by simp;omega);clear iO p0 p1;go_wp2_with (at_builtin;go_must (refine wpList_append_lies _ rfl _ _ 192 rfl w.heap.size 196 i0 _ 2 16 Tryz.underlying192 hi aD hz1 bu rfl (by decide) (.slice A4 i c4) i (prC all) rfl lN.o ⟨w6.heap.size,0,none⟩ 1 1 [.int .i64 (i:Int),.int .i64 1] rfl rfl gg.o (by simp[Value.oneCell']) (by decide) ig.o iZ.o mD.o _ rfl ?_;intro g7 c7 w7 a5 dh dS mP;have dq:=J (Eo (u':= .slice (some ⟨g7,0,none⟩) (i+1) c7) cQ.o.1 tO.o (fun g h1 h2=>cQ.o.2.1 g h2 h1) ((Ext.refl w6).alloc _) lD dh dS rfl);have uq:Hid (CX w.heap.size w7 (.slice (some ⟨g7,0,none⟩) (i+1) c7) (i+1) (all++[(i,1)])):=J (by unfold CX;rw[CK,Eu];exact a5);clear a5 dh dS));go_wp2_with fail;go_roundw
         case rel=>exact⟨i+1,_,_,by omega,by go_num,HI.o.next dl.o iu.o uq.o dq.o.1 lT.o dq.o.2.1 ((HX.o.trans bE.o).more (cQ.o.2.2.trans dq.o.2.2)) (by have:=gQ.o;exact this)⟩
         case measure=>simp[intOf];omega
       ·injection he with he1 he2 he3
        subst he1;subst he3;clear he2;obtain⟨w4,hw4⟩:∃w4,w4=(w3.alloc (.cells #[.int .i64 (i:Int),.int .i64 1] 196)).alloc (.cells #[.int .i64 kd,.int .i64 0,.int .i64 0,.int .i64 nn,.string s] 95):=⟨_,rfl⟩;rw[<-hw4];have ix:Ext w3 w4:=by rw[hw4];exact(((Ext.refl w3).alloc _).alloc _)
        have i6:Blk w4 w3.heap.size 196 #[.int .i64 (i:Int),.int .i64 1]:=by rw[hw4];exact((Blk.new w3 _ _).alloc _)
        have bE:=J (aE.o.trans ix);have pw:=J i6;obtain⟨p0,p1⟩:=i6.two';obtain⟨mk,dp⟩:∃mk,mk=ms-0:=⟨_,rfl⟩;have vg:IntKind.i64.wrap (ms:Int)=(mk:Int):=by rw[IntWalk.i64_in _ (by omega)];omega
        have hmc:mk<=c5:=by omega
        have eU:w.heap.size<=w4.heap.size:=qae HX.o.size bE.o.size;have ex:=J (DU (m:=mk) (eu.o.ext bE.o) (by omega));have qJ:=J (fE.o.ext bE.o);have lI:=i6.lt;have sN:wr.heap.size<=w3.heap.size:=aE.o.size;have lT:Hid (mk<=st.length):=J (by rw[<-lp.o];omega);have iu:Hid (AZ i st ⟨kd,0,0,nn,nt⟩=some ((i,1),st.take mk++[(i,1)])):=J (by rw[dp];exact jW.o);have ec:Hid ((w4.alloc (.cells #[.int .i64 (i:Int),.int .i64 1] 196)).drew.ownsRow w.heap.size 196 2 (.slice (some ⟨g5,0,none⟩) mk c5) mk ((prC st).take (mk*2))):=J (Ah ex.o (fun k _ hk=>Below.heap_alloc w4 _ k hk));have dK:Hid (∀(j:Nat) (u:Value),[Value.int .i64 (i:Int),Value.int .i64 1][j]? =some u->(w4.alloc (.cells #[.int .i64 (i:Int),.int .i64 1] 196)).drew.cell? ((⟨w4.heap.size,0,none⟩:Addr).add j)=some u):=J (Cd w4 196 [.int .i64 (i:Int),.int .i64 1]);have ag:Hid (mk+1<=maxLen):=J (by unfold maxLen;omega);have ba:Hid ((mk+1)*16<=140737488355328):=J (by omega);have be:Hid (w.heap.size<=(w4.alloc (.cells #[.int .i64 (i:Int),.int .i64 1] 196)).drew.heap.size):=J (by simp;omega);clear hw4 i6 ix dp q0
        go_region_law (refine step_append_lies _ rfl (.tmp 96) (.tmp 98) 192 rfl w.heap.size 196 i0 _ 2 16 Tryz.underlying192 hi aD hz1 bu rfl (by decide) _ mk ((prC st).take (mk*2)) rfl ec.o ⟨w4.heap.size,0,none⟩ 1 1 [.int .i64 (i:Int),.int .i64 1] rfl rfl dK.o (by simp[Value.oneCell']) (by decide) ag.o ba.o be.o _ rfl ?_;intro g6 c6 w6 bw cG cP gV;have hU:=J bw;have iV:=J cG;have mb:=J cP;clear bw cG cP)
        all_goals
         have au:Hid (Ext w4 (w4.alloc (.cells #[.int .i64 (i:Int),.int .i64 1] 196)).drew):=J ((Ext.refl w4).alloc _).drew;have cQ:=J (Eo (u':= .slice (some ⟨g6,0,none⟩) (mk+1) c6) ex.o qJ.o (fun g h1 h2=>HI.o.apart g h2 h1) au.o eU iV.o mb.o rfl);have iO:Blk w6 w3.heap.size 196 #[.int .i64 (i:Int),.int .i64 1]:=(iV.o.block w3.heap.size (qan lI au.o.size) (by intro he;have he2:w3.heap.size=g5:=qbh he;have:=(BM eu.o g5 rfl).2;omega)).trans (pw.o.ext au.o);obtain⟨y0,y1⟩:=iO.two';have tO:Hid (CX w.heap.size w6 (.slice (some ⟨g6,0,none⟩) (mk+1) c6) (mk+1) (st.take mk++[(i,1)])):=J (by unfold CX;rw[CK,Eu,<-GI];exact hU.o);have lN:Hid ((w6.alloc (.cells #[.int .i64 (i:Int),.int .i64 1] 196)).ownsRow w.heap.size 196 2 (.slice A4 i c4) i (prC all)):=J (Ah cQ.o.1 (fun k _ hk=>Below.heap_alloc w6 _ k hk));have gg:=J (Cd w6 196 [.int .i64 (i:Int),.int .i64 1]);have ig:Hid (i+1<=maxLen):=J (by unfold maxLen;omega);have iZ:Hid ((i+1)*16<=140737488355328):=J (by omega);have lD:w.heap.size<=w6.heap.size:=qae eU cQ.o.2.2.size;have mD:Hid (w.heap.size<=(w6.alloc (.cells #[.int .i64 (i:Int),.int .i64 1] 196)).heap.size):=J (by simp;omega);clear iO p0 p1;go_wp2_with (at_builtin;go_must (refine wpList_append_lies _ rfl _ _ 192 rfl w.heap.size 196 i0 _ 2 16 Tryz.underlying192 hi aD hz1 bu rfl (by decide) (.slice A4 i c4) i (prC all) rfl lN.o ⟨w6.heap.size,0,none⟩ 1 1 [.int .i64 (i:Int),.int .i64 1] rfl rfl gg.o (by simp[Value.oneCell']) (by decide) ig.o iZ.o mD.o _ rfl ?_;intro g7 c7 w7 a5 dh dS mP;have dq:=J (Eo (u':= .slice (some ⟨g7,0,none⟩) (i+1) c7) cQ.o.1 tO.o (fun g h1 h2=>cQ.o.2.1 g h2 h1) ((Ext.refl w6).alloc _) lD dh dS rfl);have uq:Hid (CX w.heap.size w7 (.slice (some ⟨g7,0,none⟩) (i+1) c7) (i+1) (all++[(i,1)])):=J (by unfold CX;rw[CK,Eu];exact a5);clear a5 dh dS));go_wp2_with fail;go_roundw
         case rel=>exact⟨i+1,_,_,by omega,by go_num,HI.o.next dl.o iu.o uq.o dq.o.1 lT.o dq.o.2.1 ((HX.o.trans bE.o).more (cQ.o.2.2.trans dq.o.2.2)) (by have:=gQ.o;exact this)⟩
         case measure=>simp[intOf];omega
      ·have cC:=J (aF.o (Iv aJ (fun h=>hb2 h.2)));rw[aJ]at aS;clear aJ aF;go_wp2_with fail;refine(aS.o _).mono ?_
       rintro e w2 ⟨rfl,rfl⟩;go_wp2_with fail;refine(cI.o _ (nf.o.ext bq.o)).mono ?_
       rintro e w3 ⟨rfl,ab⟩;have q0:=(dV.o.ext ab).five;have lw:=(dV.o.ext ab).lt;have iA:wr.heap.size<w3.heap.size+1:=by omega
       have iz:wr.heap.size<w3.heap.size+1+1:=by omega
       have iy:wr.heap.size<w3.heap.size+1+1+1:=by omega
       have aE:=J (bq.o.trans ab);clear ab;go_wp2_with fail;go_ret2;exact⟨_,by rw[cC.o];rfl,HX.o.trans (aE.o.trans ((((Ext.refl w3).alloc _).alloc _))),by rw[cC.o,kl.o];exact fE.o.ext (aE.o.trans ((((Ext.refl w3).alloc _).alloc _)))⟩
     ·have cC:=J (aF.o (Iv aJ (fun h=>ha h.1)));rw[aJ]at aS;clear aJ aF;go_wp2_with fail;refine(aS.o _).mono ?_
      rintro e w2 ⟨rfl,rfl⟩;go_wp2_with fail;refine(cI.o _ (nf.o.ext bq.o)).mono ?_
      rintro e w3 ⟨rfl,ab⟩;have q0:=(dV.o.ext ab).five;have lw:=(dV.o.ext ab).lt;have iA:wr.heap.size<w3.heap.size+1:=by omega
      have iz:wr.heap.size<w3.heap.size+1+1:=by omega
      have iy:wr.heap.size<w3.heap.size+1+1+1:=by omega
      have aE:=J (bq.o.trans ab);clear ab;go_wp2_with fail;go_ret2;exact⟨_,by rw[cC.o];rfl,HX.o.trans (aE.o.trans ((((Ext.refl w3).alloc _).alloc _))),by rw[cC.o,kl.o];exact fE.o.ext (aE.o.trans ((((Ext.refl w3).alloc _).alloc _)))⟩
   ·by_cases hmf:ms<1
    ·obtain rfl:ms=0:=by omega
     have cC:=J (aF.o (Jw (by rw[aJ,<-lp.o];decide)));rw[aJ]at aS;clear aJ hp aF;go_wp2_with fail;refine(aS.o _).mono ?_
     rintro e w2 ⟨rfl,rfl⟩;go_wp2_with fail;go_ret2;exact⟨_,by rw[cC.o];rfl,HX.o.trans bq.o,by rw[cC.o,kl.o];exact fE.o.ext bq.o⟩
    ·have im:1<=ms:=by omega
     have hm1':0<ms:=by omega
     have zR:¬(ms:Int)<1:=by omega
     cases hpb:p
     ·rw[hpb]at hp cI;have cC:=J (aF.o (E6 hp.symm));rw[aJ]at aS;clear aJ hp aF hpb;go_wp2_with fail;refine(aS.o _).mono ?_
      rintro e w2 ⟨rfl,rfl⟩;go_wp2_with fail;refine(cI.o _ (nf.o.ext bq.o)).mono ?_
      rintro e w3 ⟨rfl,ab⟩;have q0:=(dV.o.ext ab).five;have lw:=(dV.o.ext ab).lt;have iA:wr.heap.size<w3.heap.size+1:=by omega
      have iz:wr.heap.size<w3.heap.size+1+1:=by omega
      have iy:wr.heap.size<w3.heap.size+1+1+1:=by omega
      have aE:=J (bq.o.trans ab);clear ab;go_wp2_with fail;go_ret2;exact⟨_,by rw[cC.o];rfl,HX.o.trans aE.o,by rw[cC.o,kl.o];exact fE.o.ext aE.o⟩
     ·rw[hpb]at hp cI;have eO:=J hp.symm;clear hpb hp;obtain⟨g5,d5,he5,sX,sB⟩:=eu.o.form (by omega);injection he5 with he5 hx5 hy5
      subst he5;clear hx5 hy5;obtain⟨z1,iw⟩:∃z1:Int,z1=(ms:Int)-1:=⟨_,rfl⟩;have qj:z1.toNat=ms-1:=by omega
      have ze:IntKind.i64.wrap ((ms:Int)-1)=z1:=by rw[IntWalk.i64_in _ (by omega),iw]
      have yY:(0:Int)<=z1:=by omega
      have yX:z1<(ms:Int):=by omega
      obtain⟨f1,eG⟩:∃f1,f1=(st.getD (ms-1) (0,0)).1:=⟨_,rfl⟩;obtain⟨d1,dJ⟩:∃d1,d1=(st.getD (ms-1) (0,0)).2:=⟨_,rfl⟩;have sA:=pk.o (ms-1) (by omega);rw[<-eG,<-dJ]at sA;have l7:Hid (∀W,CX w.heap.size W (.slice (some ⟨g5,0,none⟩) ms c5) ms st->W.cell? ⟨g5,z1.toNat*2,none⟩=some (.int .i64 (f1:Int))/\W.cell? ⟨g5,z1.toNat*2+1,none⟩=some (.int .i64 (d1:Int))):=J (fun W h=>by rw[qj,eG,dJ];exact h.get (ms-1) (by omega));have qG:=J eG;have gP:=J dJ;obtain⟨zi,pD⟩:∃zi:Int,zi=(i:Int)-1:=⟨_,rfl⟩;have zd:IntKind.i64.wrap ((i:Int)-1)=zi:=by rw[IntWalk.i64_in _ (by omega),pD]
      have tA:=J pD;have rV:IntKind.i64.wrap ((d1:Int)+1)=((d1+1:Nat):Int):=by rw[IntWalk.i64_in _ (by omega)];omega
      obtain⟨e1,he1⟩:∃e1,e1=d1+1:=⟨_,rfl⟩;rw[<-he1]at rV;have jb:=J he1;have tB:=J iw;clear eG dJ pD he1 iw qj;by_cases ha:na=zi
      ·subst ha;by_cases hb2:nb=0
       ·subst hb2;have jW:Hid (AZ i st ⟨kd,na,0,nn,nt⟩=some ((f1,e1),st.take (ms-1)++[(f1,e1)])):=J (by
         have h:=RU (i:=i) (st:=st) (n:=nn) (t:=nt) aJ (by rw[<-tA.o];exact eO.o) (by rw[<-lp.o];omega);rw[<-tA.o,<-lp.o,<-qG.o,<-gP.o,<-jb.o]at h;exact h)
        have gQ:Hid (f1<=i+1/\e1<=i+1):=J ⟨by omega,by rw[jb.o];omega⟩;have he1b:e1<=1000002:=by rw[jb.o];omega
        rw[aJ]at aS;clear aJ aF;go_wp2_with fail;refine(aS.o _).mono ?_
        rintro e w2 ⟨rfl,rfl⟩;go_wp2_with fail;refine(cI.o _ (nf.o.ext bq.o)).mono ?_
        rintro e w3 ⟨rfl,ab⟩;have q0:=(dV.o.ext ab).five;have lw:=(dV.o.ext ab).lt;have iA:wr.heap.size<w3.heap.size+1:=by omega
        have iz:wr.heap.size<w3.heap.size+1+1:=by omega
        have iy:wr.heap.size<w3.heap.size+1+1+1:=by omega
        have aE:=J (bq.o.trans ab);clear ab;have ov:=(BM (eu.o.ext aE.o) g5 rfl).2;have oy:g5<w3.heap.size+1:=by omega
        have ox:g5<w3.heap.size+1+1:=by omega
        have ow:g5<w3.heap.size+1+1+1:=by omega
        obtain⟨xf,xe⟩:=l7.o w3 (eu.o.ext aE.o);go_upto_region 20 with fail;have uJ:ms<=c5:=by
         rcases eu.o.2 with ⟨he,h0⟩|⟨g5',xd,wZ,he,_,_,uJ,_⟩
         ·cases he
         ·injection he with he1 he2 he3;rw[he3];exact uJ
        obtain⟨w4,hw4⟩:∃w4,w4=((w3.alloc (.cells #[.int .i64 (f1:Int),.int .i64 (e1:Int)] 196)).alloc (.cells #[.int .i64 kd,.int .i64 na,.int .i64 0,.int .i64 nn,.string s] 95)).alloc (.cells #[.int .i64 (f1:Int),.int .i64 (d1:Int)] 196):=⟨_,rfl⟩;rw[<-hw4];have ix:Ext w3 w4:=by rw[hw4];exact((((Ext.refl w3).alloc _).alloc _).alloc _)
        have i6:Blk w4 w3.heap.size 196 #[.int .i64 (f1:Int),.int .i64 (e1:Int)]:=by rw[hw4];exact(((Blk.new w3 _ _).alloc _).alloc _)
        have bE:=J (aE.o.trans ix);have pw:=J i6;obtain⟨p0,p1⟩:=i6.two';obtain⟨mk,dp⟩:∃mk,mk=ms-1:=⟨_,rfl⟩;have u7:z1<=(c5:Int):=by have:=tB.o;omega
        have nP:z1.toNat=mk:=by have:=tB.o;omega
        have eU:w.heap.size<=w4.heap.size:=qae HX.o.size bE.o.size;have ex:=J (DU (m:=mk) (eu.o.ext bE.o) (by omega));have qJ:=J (fE.o.ext bE.o);have lI:=i6.lt;have sN:wr.heap.size<=w3.heap.size:=aE.o.size;have lT:Hid (mk<=st.length):=J (by rw[<-lp.o];omega);have iu:Hid (AZ i st ⟨kd,na,0,nn,nt⟩=some ((f1,e1),st.take mk++[(f1,e1)])):=J (by rw[dp];exact jW.o);have ec:Hid ((w4.alloc (.cells #[.int .i64 (f1:Int),.int .i64 (e1:Int)] 196)).drew.ownsRow w.heap.size 196 2 (.slice (some ⟨g5,0,none⟩) mk c5) mk ((prC st).take (mk*2))):=J (Ah ex.o (fun k _ hk=>Below.heap_alloc w4 _ k hk));have dK:Hid (∀(j:Nat) (u:Value),[Value.int .i64 (f1:Int),Value.int .i64 (e1:Int)][j]? =some u->(w4.alloc (.cells #[.int .i64 (f1:Int),.int .i64 (e1:Int)] 196)).drew.cell? ((⟨w4.heap.size,0,none⟩:Addr).add j)=some u):=J (Cd w4 196 [.int .i64 (f1:Int),.int .i64 (e1:Int)]);have ag:Hid (mk+1<=maxLen):=J (by unfold maxLen;omega);have ba:Hid ((mk+1)*16<=140737488355328):=J (by omega);have be:Hid (w.heap.size<=(w4.alloc (.cells #[.int .i64 (f1:Int),.int .i64 (e1:Int)] 196)).drew.heap.size):=J (by simp;omega);clear hw4 i6 ix dp q0
        go_region_law (refine step_append_lies _ rfl (.tmp 96) (.tmp 98) 192 rfl w.heap.size 196 i0 _ 2 16 Tryz.underlying192 hi aD hz1 bu rfl (by decide) _ mk ((prC st).take (mk*2)) rfl ec.o ⟨w4.heap.size,0,none⟩ 1 1 [.int .i64 (f1:Int),.int .i64 (e1:Int)] rfl rfl dK.o (by simp[Value.oneCell']) (by decide) ag.o ba.o be.o _ rfl ?_;intro g6 c6 w6 bw cG cP gV;have hU:=J bw;have iV:=J cG;have mb:=J cP;clear bw cG cP)
        all_goals
         have au:Hid (Ext w4 (w4.alloc (.cells #[.int .i64 (f1:Int),.int .i64 (e1:Int)] 196)).drew):=J ((Ext.refl w4).alloc _).drew;have cQ:=J (Eo (u':= .slice (some ⟨g6,0,none⟩) (mk+1) c6) ex.o qJ.o (fun g h1 h2=>HI.o.apart g h2 h1) au.o eU iV.o mb.o rfl);have iO:Blk w6 w3.heap.size 196 #[.int .i64 (f1:Int),.int .i64 (e1:Int)]:=(iV.o.block w3.heap.size (qan lI au.o.size) (by intro he;have he2:w3.heap.size=g5:=qbh he;have:=(BM eu.o g5 rfl).2;omega)).trans (pw.o.ext au.o);obtain⟨y0,y1⟩:=iO.two';have tO:Hid (CX w.heap.size w6 (.slice (some ⟨g6,0,none⟩) (mk+1) c6) (mk+1) (st.take mk++[(f1,e1)])):=J (by unfold CX;rw[CK,Eu,<-GI];exact hU.o);have lN:Hid ((w6.alloc (.cells #[.int .i64 (f1:Int),.int .i64 (e1:Int)] 196)).ownsRow w.heap.size 196 2 (.slice A4 i c4) i (prC all)):=J (Ah cQ.o.1 (fun k _ hk=>Below.heap_alloc w6 _ k hk));have gg:=J (Cd w6 196 [.int .i64 (f1:Int),.int .i64 (e1:Int)]);have ig:Hid (i+1<=maxLen):=J (by unfold maxLen;omega);have iZ:Hid ((i+1)*16<=140737488355328):=J (by omega);have lD:w.heap.size<=w6.heap.size:=qae eU cQ.o.2.2.size;have mD:Hid (w.heap.size<=(w6.alloc (.cells #[.int .i64 (f1:Int),.int .i64 (e1:Int)] 196)).heap.size):=J (by simp;omega);clear iO p0 p1;go_wp2_with (at_builtin;go_must (refine wpList_append_lies _ rfl _ _ 192 rfl w.heap.size 196 i0 _ 2 16 Tryz.underlying192 hi aD hz1 bu rfl (by decide) (.slice A4 i c4) i (prC all) rfl lN.o ⟨w6.heap.size,0,none⟩ 1 1 [.int .i64 (f1:Int),.int .i64 (e1:Int)] rfl rfl gg.o (by simp[Value.oneCell']) (by decide) ig.o iZ.o mD.o _ rfl ?_;intro g7 c7 w7 a5 dh dS mP;have dq:=J (Eo (u':= .slice (some ⟨g7,0,none⟩) (i+1) c7) cQ.o.1 tO.o (fun g h1 h2=>cQ.o.2.1 g h2 h1) ((Ext.refl w6).alloc _) lD dh dS rfl);have uq:Hid (CX w.heap.size w7 (.slice (some ⟨g7,0,none⟩) (i+1) c7) (i+1) (all++[(f1,e1)])):=J (by unfold CX;rw[CK,Eu];exact a5);clear a5 dh dS));go_wp2_with fail;go_roundw
         case rel=>exact⟨i+1,_,_,by omega,by go_num,HI.o.next dl.o iu.o uq.o dq.o.1 lT.o dq.o.2.1 ((HX.o.trans bE.o).more (cQ.o.2.2.trans dq.o.2.2)) (by have:=gQ.o;exact this)⟩
         case measure=>simp[intOf];omega
       ·have cC:=J (aF.o (Iu aJ (fun h=>hb2 h.2)));rw[aJ]at aS;clear aJ aF;go_wp2_with fail;refine(aS.o _).mono ?_
        rintro e w2 ⟨rfl,rfl⟩;go_wp2_with fail;refine(cI.o _ (nf.o.ext bq.o)).mono ?_
        rintro e w3 ⟨rfl,ab⟩;have q0:=(dV.o.ext ab).five;have lw:=(dV.o.ext ab).lt;have iA:wr.heap.size<w3.heap.size+1:=by omega
        have iz:wr.heap.size<w3.heap.size+1+1:=by omega
        have iy:wr.heap.size<w3.heap.size+1+1+1:=by omega
        have aE:=J (bq.o.trans ab);clear ab;have ov:=(BM (eu.o.ext aE.o) g5 rfl).2;have oy:g5<w3.heap.size+1:=by omega
        have ox:g5<w3.heap.size+1+1:=by omega
        have ow:g5<w3.heap.size+1+1+1:=by omega
        obtain⟨xf,xe⟩:=l7.o w3 (eu.o.ext aE.o);go_wp2_with fail;go_ret2;exact⟨_,by rw[cC.o];rfl,HX.o.trans (aE.o.trans (((((Ext.refl w3).alloc _).alloc _).alloc _))),by rw[cC.o,kl.o];exact fE.o.ext (aE.o.trans (((((Ext.refl w3).alloc _).alloc _).alloc _)))⟩
      ·have cC:=J (aF.o (Iu aJ (fun h=>ha (h.1.trans tA.o.symm))));rw[aJ]at aS;clear aJ aF;go_wp2_with fail;refine(aS.o _).mono ?_
       rintro e w2 ⟨rfl,rfl⟩;go_wp2_with fail;refine(cI.o _ (nf.o.ext bq.o)).mono ?_
       rintro e w3 ⟨rfl,ab⟩;have q0:=(dV.o.ext ab).five;have lw:=(dV.o.ext ab).lt;have iA:wr.heap.size<w3.heap.size+1:=by omega
       have iz:wr.heap.size<w3.heap.size+1+1:=by omega
       have iy:wr.heap.size<w3.heap.size+1+1+1:=by omega
       have aE:=J (bq.o.trans ab);clear ab;have ov:=(BM (eu.o.ext aE.o) g5 rfl).2;have oy:g5<w3.heap.size+1:=by omega
       have ox:g5<w3.heap.size+1+1:=by omega
       have ow:g5<w3.heap.size+1+1+1:=by omega
       obtain⟨xf,xe⟩:=l7.o w3 (eu.o.ext aE.o);go_wp2_with fail;go_ret2;exact⟨_,by rw[cC.o];rfl,HX.o.trans (aE.o.trans (((((Ext.refl w3).alloc _).alloc _).alloc _))),by rw[cC.o,kl.o];exact fE.o.ext (aE.o.trans (((((Ext.refl w3).alloc _).alloc _).alloc _)))⟩
   ·by_cases hmf:ms<2
    ·have hfd:decide (ms<2)=true:=decide_eq_true hmf;have cC:=J (aF.o (Jw (by rw[aJ,<-lp.o];omega)));have hfw:((ms:Int)<2):=by omega
     rw[aJ]at aS;clear aJ hp aF;go_wp2_with fail;refine(aS.o _).mono ?_
     rintro e w2 ⟨rfl,rfl⟩;go_wp2_with fail;go_ret2;exact⟨_,by rw[cC.o];rfl,HX.o.trans bq.o,by rw[cC.o,kl.o];exact fE.o.ext bq.o⟩
    ·have im:2<=ms:=by omega
     have hm1d:decide (ms<2)=false:=decide_eq_false hmf;have zR:¬(ms:Int)<2:=by omega
     cases hpb:p
     ·rw[hpb]at hp cI;have cC:=J (aF.o (E6 hp.symm));rw[aJ]at aS;clear aJ hp aF hpb;go_wp2_with fail;refine(aS.o _).mono ?_
      rintro e w2 ⟨rfl,rfl⟩;go_wp2_with fail;refine(cI.o _ (nf.o.ext bq.o)).mono ?_
      rintro e w3 ⟨rfl,ab⟩;have q0:=(dV.o.ext ab).five;have lw:=(dV.o.ext ab).lt;have iA:wr.heap.size<w3.heap.size+1:=by omega
      have iz:wr.heap.size<w3.heap.size+1+1:=by omega
      have iy:wr.heap.size<w3.heap.size+1+1+1:=by omega
      have aE:=J (bq.o.trans ab);clear ab;go_wp2_with fail;go_ret2;exact⟨_,by rw[cC.o];rfl,HX.o.trans aE.o,by rw[cC.o,kl.o];exact fE.o.ext aE.o⟩
     ·rw[hpb]at hp cI;have eO:=J hp.symm;clear hpb hp;obtain⟨g5,d5,he5,sX,sB⟩:=eu.o.form (by omega);injection he5 with he5 hx5 hy5
      subst he5;clear hx5 hy5;obtain⟨z1,iw⟩:∃z1:Int,z1=(ms:Int)-1:=⟨_,rfl⟩;have qj:z1.toNat=ms-1:=by omega
      have ze:IntKind.i64.wrap ((ms:Int)-1)=z1:=by rw[IntWalk.i64_in _ (by omega),iw]
      have yY:(0:Int)<=z1:=by omega
      have yX:z1<(ms:Int):=by omega
      obtain⟨f1,eG⟩:∃f1,f1=(st.getD (ms-1) (0,0)).1:=⟨_,rfl⟩;obtain⟨d1,dJ⟩:∃d1,d1=(st.getD (ms-1) (0,0)).2:=⟨_,rfl⟩;have sA:=pk.o (ms-1) (by omega);rw[<-eG,<-dJ]at sA;have l7:Hid (∀W,CX w.heap.size W (.slice (some ⟨g5,0,none⟩) ms c5) ms st->W.cell? ⟨g5,z1.toNat*2,none⟩=some (.int .i64 (f1:Int))/\W.cell? ⟨g5,z1.toNat*2+1,none⟩=some (.int .i64 (d1:Int))):=J (fun W h=>by rw[qj,eG,dJ];exact h.get (ms-1) (by omega));have qG:=J eG;have gP:=J dJ;obtain⟨zi,pD⟩:∃zi:Int,zi=(i:Int)-1:=⟨_,rfl⟩;have zd:IntKind.i64.wrap ((i:Int)-1)=zi:=by rw[IntWalk.i64_in _ (by omega),pD]
      have tA:=J pD;have rV:IntKind.i64.wrap ((d1:Int)+1)=((d1+1:Nat):Int):=by rw[IntWalk.i64_in _ (by omega)];omega
      obtain⟨e1,he1⟩:∃e1,e1=d1+1:=⟨_,rfl⟩;rw[<-he1]at rV;have jb:=J he1;have tB:=J iw;clear eG dJ pD he1 iw qj;obtain⟨z2,nR⟩:∃z2:Int,z2=(ms:Int)-2:=⟨_,rfl⟩;have uD:z2.toNat=ms-2:=by omega
      have Z9:IntKind.i64.wrap ((ms:Int)-2)=z2:=by rw[IntWalk.i64_in _ (by omega),nR]
      have Z1:(0:Int)<=z2:=by omega
      have Z0:z2<(ms:Int):=by omega
      obtain⟨f2,q7⟩:∃f2,f2=(st.getD (ms-2) (0,0)).1:=⟨_,rfl⟩;obtain⟨d2,eH⟩:∃d2,d2=(st.getD (ms-2) (0,0)).2:=⟨_,rfl⟩;have sy:=pk.o (ms-2) (by omega);rw[<-q7,<-eH]at sy;have uj:Hid (∀W,CX w.heap.size W (.slice (some ⟨g5,0,none⟩) ms c5) ms st->W.cell? ⟨g5,z2.toNat*2,none⟩=some (.int .i64 (f2:Int))/\W.cell? ⟨g5,z2.toNat*2+1,none⟩=some (.int .i64 (d2:Int))):=J (fun W h=>by rw[uD,q7,eH];exact h.get (ms-2) (by omega));have HF2:=J q7;have nL:=J eH;have zj:IntKind.i64.wrap ((d2:Int)+1)=((d2+1:Nat):Int):=by rw[IntWalk.i64_in _ (by omega)];omega
      obtain⟨e2,he2⟩:∃e2,e2=d2+1:=⟨_,rfl⟩;rw[<-he2]at zj;have fw:=J he2;obtain⟨mx,vQ⟩:∃mx,mx=max e1 e2:=⟨_,rfl⟩;have eA:max (e1:Int) (e2:Int)=(mx:Int):=by omega
      have WT:=J vQ;obtain⟨zf,yV⟩:∃zf:Int,zf=(f1:Int)-1:=⟨_,rfl⟩;have Z8:IntKind.i64.wrap ((f1:Int)-1)=zf:=by rw[IntWalk.i64_in _ (by omega),yV]
      have Wo:=J yV;have xh:=J nR;clear q7 eH he2 nR uD vQ yV;by_cases ha:na=zf
      ·subst ha;by_cases hb2:nb=zi
       ·subst hb2;have jW:Hid (AZ i st ⟨kd,na,nb,nn,nt⟩=some ((f2,mx),st.take (ms-2)++[(f2,mx)])):=J (by
         have h:=RT (i:=i) (st:=st) (n:=nn) (t:=nt) aJ (by rw[<-lp.o,<-qG.o,<-Wo.o,<-tA.o];exact eO.o) (by rw[<-lp.o];omega);rw[<-lp.o,<-qG.o,<-Wo.o,<-tA.o,<-HF2.o,<-gP.o,<-nL.o,<-jb.o,<-fw.o,<-WT.o]at h;exact h)
        have gQ:Hid (f2<=i+1/\mx<=i+1):=J ⟨by omega,by rw[WT.o,jb.o,fw.o];omega⟩;have hmxb:mx<=1000002:=by rw[WT.o,jb.o,fw.o];omega
        rw[aJ]at aS;clear aJ aF;go_wp2_with fail;refine(aS.o _).mono ?_
        rintro e w2 ⟨rfl,rfl⟩;go_wp2_with fail;refine(cI.o _ (nf.o.ext bq.o)).mono ?_
        rintro e w3 ⟨rfl,ab⟩;have q0:=(dV.o.ext ab).five;have lw:=(dV.o.ext ab).lt;have iA:wr.heap.size<w3.heap.size+1:=by omega
        have iz:wr.heap.size<w3.heap.size+1+1:=by omega
        have iy:wr.heap.size<w3.heap.size+1+1+1:=by omega
        have aE:=J (bq.o.trans ab);clear ab;have ov:=(BM (eu.o.ext aE.o) g5 rfl).2;have oy:g5<w3.heap.size+1:=by omega
        have ox:g5<w3.heap.size+1+1:=by omega
        have ow:g5<w3.heap.size+1+1+1:=by omega
        obtain⟨xf,xe⟩:=l7.o w3 (eu.o.ext aE.o);obtain⟨YO,YN⟩:=uj.o w3 (eu.o.ext aE.o);go_upto_region 20 with fail;have uJ:ms<=c5:=by
         rcases eu.o.2 with ⟨he,h0⟩|⟨g5',xd,wZ,he,_,_,uJ,_⟩
         ·cases he
         ·injection he with he1 he2 he3;rw[he3];exact uJ
        obtain⟨w4,hw4⟩:∃w4,w4=(((w3.alloc (.cells #[.int .i64 (f2:Int),.int .i64 (mx:Int)] 196)).alloc (.cells #[.int .i64 kd,.int .i64 na,.int .i64 nb,.int .i64 nn,.string s] 95)).alloc (.cells #[.int .i64 (f1:Int),.int .i64 (d1:Int)] 196)).alloc (.cells #[.int .i64 (f2:Int),.int .i64 (d2:Int)] 196):=⟨_,rfl⟩;rw[<-hw4];have ix:Ext w3 w4:=by rw[hw4];exact(((((Ext.refl w3).alloc _).alloc _).alloc _).alloc _)
        have i6:Blk w4 w3.heap.size 196 #[.int .i64 (f2:Int),.int .i64 (mx:Int)]:=by rw[hw4];exact((((Blk.new w3 _ _).alloc _).alloc _).alloc _)
        have bE:=J (aE.o.trans ix);have pw:=J i6;obtain⟨p0,p1⟩:=i6.two';obtain⟨mk,dp⟩:∃mk,mk=ms-2:=⟨_,rfl⟩;have u7:z2<=(c5:Int):=by have:=xh.o;omega
        have nP:z2.toNat=mk:=by have:=xh.o;omega
        have eU:w.heap.size<=w4.heap.size:=qae HX.o.size bE.o.size;have ex:=J (DU (m:=mk) (eu.o.ext bE.o) (by omega));have qJ:=J (fE.o.ext bE.o);have lI:=i6.lt;have sN:wr.heap.size<=w3.heap.size:=aE.o.size;have lT:Hid (mk<=st.length):=J (by rw[<-lp.o];omega);have iu:Hid (AZ i st ⟨kd,na,nb,nn,nt⟩=some ((f2,mx),st.take mk++[(f2,mx)])):=J (by rw[dp];exact jW.o);have ec:Hid ((w4.alloc (.cells #[.int .i64 (f2:Int),.int .i64 (mx:Int)] 196)).drew.ownsRow w.heap.size 196 2 (.slice (some ⟨g5,0,none⟩) mk c5) mk ((prC st).take (mk*2))):=J (Ah ex.o (fun k _ hk=>Below.heap_alloc w4 _ k hk));have dK:Hid (∀(j:Nat) (u:Value),[Value.int .i64 (f2:Int),Value.int .i64 (mx:Int)][j]? =some u->(w4.alloc (.cells #[.int .i64 (f2:Int),.int .i64 (mx:Int)] 196)).drew.cell? ((⟨w4.heap.size,0,none⟩:Addr).add j)=some u):=J (Cd w4 196 [.int .i64 (f2:Int),.int .i64 (mx:Int)]);have ag:Hid (mk+1<=maxLen):=J (by unfold maxLen;omega);have ba:Hid ((mk+1)*16<=140737488355328):=J (by omega);have be:Hid (w.heap.size<=(w4.alloc (.cells #[.int .i64 (f2:Int),.int .i64 (mx:Int)] 196)).drew.heap.size):=J (by simp;omega);clear hw4 i6 ix dp q0
        go_region_law (refine step_append_lies _ rfl (.tmp 96) (.tmp 98) 192 rfl w.heap.size 196 i0 _ 2 16 Tryz.underlying192 hi aD hz1 bu rfl (by decide) _ mk ((prC st).take (mk*2)) rfl ec.o ⟨w4.heap.size,0,none⟩ 1 1 [.int .i64 (f2:Int),.int .i64 (mx:Int)] rfl rfl dK.o (by simp[Value.oneCell']) (by decide) ag.o ba.o be.o _ rfl ?_;intro g6 c6 w6 bw cG cP gV;have hU:=J bw;have iV:=J cG;have mb:=J cP;clear bw cG cP)
        all_goals
         have au:Hid (Ext w4 (w4.alloc (.cells #[.int .i64 (f2:Int),.int .i64 (mx:Int)] 196)).drew):=J ((Ext.refl w4).alloc _).drew;have cQ:=J (Eo (u':= .slice (some ⟨g6,0,none⟩) (mk+1) c6) ex.o qJ.o (fun g h1 h2=>HI.o.apart g h2 h1) au.o eU iV.o mb.o rfl);have iO:Blk w6 w3.heap.size 196 #[.int .i64 (f2:Int),.int .i64 (mx:Int)]:=(iV.o.block w3.heap.size (qan lI au.o.size) (by intro he;have he2:w3.heap.size=g5:=qbh he;have:=(BM eu.o g5 rfl).2;omega)).trans (pw.o.ext au.o);obtain⟨y0,y1⟩:=iO.two';have tO:Hid (CX w.heap.size w6 (.slice (some ⟨g6,0,none⟩) (mk+1) c6) (mk+1) (st.take mk++[(f2,mx)])):=J (by unfold CX;rw[CK,Eu,<-GI];exact hU.o);have lN:Hid ((w6.alloc (.cells #[.int .i64 (f2:Int),.int .i64 (mx:Int)] 196)).ownsRow w.heap.size 196 2 (.slice A4 i c4) i (prC all)):=J (Ah cQ.o.1 (fun k _ hk=>Below.heap_alloc w6 _ k hk));have gg:=J (Cd w6 196 [.int .i64 (f2:Int),.int .i64 (mx:Int)]);have ig:Hid (i+1<=maxLen):=J (by unfold maxLen;omega);have iZ:Hid ((i+1)*16<=140737488355328):=J (by omega);have lD:w.heap.size<=w6.heap.size:=qae eU cQ.o.2.2.size;have mD:Hid (w.heap.size<=(w6.alloc (.cells #[.int .i64 (f2:Int),.int .i64 (mx:Int)] 196)).heap.size):=J (by simp;omega);clear iO p0 p1;go_wp2_with (at_builtin;go_must (refine wpList_append_lies _ rfl _ _ 192 rfl w.heap.size 196 i0 _ 2 16 Tryz.underlying192 hi aD hz1 bu rfl (by decide) (.slice A4 i c4) i (prC all) rfl lN.o ⟨w6.heap.size,0,none⟩ 1 1 [.int .i64 (f2:Int),.int .i64 (mx:Int)] rfl rfl gg.o (by simp[Value.oneCell']) (by decide) ig.o iZ.o mD.o _ rfl ?_;intro g7 c7 w7 a5 dh dS mP;have dq:=J (Eo (u':= .slice (some ⟨g7,0,none⟩) (i+1) c7) cQ.o.1 tO.o (fun g h1 h2=>cQ.o.2.1 g h2 h1) ((Ext.refl w6).alloc _) lD dh dS rfl);have uq:Hid (CX w.heap.size w7 (.slice (some ⟨g7,0,none⟩) (i+1) c7) (i+1) (all++[(f2,mx)])):=J (by unfold CX;rw[CK,Eu];exact a5);clear a5 dh dS));go_wp2_with fail;go_roundw
         case rel=>exact⟨i+1,_,_,by omega,by go_num,HI.o.next dl.o iu.o uq.o dq.o.1 lT.o dq.o.2.1 ((HX.o.trans bE.o).more (cQ.o.2.2.trans dq.o.2.2)) (by have:=gQ.o;exact this)⟩
         case measure=>simp[intOf];omega
       ·have cC:=J (aF.o (It aJ (fun h=>hb2 (h.2.trans tA.o.symm))));rw[aJ]at aS;clear aJ aF;go_wp2_with fail;refine(aS.o _).mono ?_
        rintro e w2 ⟨rfl,rfl⟩;go_wp2_with fail;refine(cI.o _ (nf.o.ext bq.o)).mono ?_
        rintro e w3 ⟨rfl,ab⟩;have q0:=(dV.o.ext ab).five;have lw:=(dV.o.ext ab).lt;have iA:wr.heap.size<w3.heap.size+1:=by omega
        have iz:wr.heap.size<w3.heap.size+1+1:=by omega
        have iy:wr.heap.size<w3.heap.size+1+1+1:=by omega
        have aE:=J (bq.o.trans ab);clear ab;have ov:=(BM (eu.o.ext aE.o) g5 rfl).2;have oy:g5<w3.heap.size+1:=by omega
        have ox:g5<w3.heap.size+1+1:=by omega
        have ow:g5<w3.heap.size+1+1+1:=by omega
        obtain⟨xf,xe⟩:=l7.o w3 (eu.o.ext aE.o);obtain⟨YO,YN⟩:=uj.o w3 (eu.o.ext aE.o);go_wp2_with fail;go_ret2;exact⟨_,by rw[cC.o];rfl,HX.o.trans (aE.o.trans ((((((Ext.refl w3).alloc _).alloc _).alloc _).alloc _))),by rw[cC.o,kl.o];exact fE.o.ext (aE.o.trans ((((((Ext.refl w3).alloc _).alloc _).alloc _).alloc _)))⟩
      ·have cC:=J (aF.o (It aJ (fun h=>ha (h.1.trans (by rw[<-lp.o,<-qG.o];exact Wo.o.symm)))));rw[aJ]at aS;clear aJ aF;go_wp2_with fail;refine(aS.o _).mono ?_
       rintro e w2 ⟨rfl,rfl⟩;go_wp2_with fail;refine(cI.o _ (nf.o.ext bq.o)).mono ?_
       rintro e w3 ⟨rfl,ab⟩;have q0:=(dV.o.ext ab).five;have lw:=(dV.o.ext ab).lt;have iA:wr.heap.size<w3.heap.size+1:=by omega
       have iz:wr.heap.size<w3.heap.size+1+1:=by omega
       have iy:wr.heap.size<w3.heap.size+1+1+1:=by omega
       have aE:=J (bq.o.trans ab);clear ab;have ov:=(BM (eu.o.ext aE.o) g5 rfl).2;have oy:g5<w3.heap.size+1:=by omega
       have ox:g5<w3.heap.size+1+1:=by omega
       have ow:g5<w3.heap.size+1+1+1:=by omega
       obtain⟨xf,xe⟩:=l7.o w3 (eu.o.ext aE.o);obtain⟨YO,YN⟩:=uj.o w3 (eu.o.ext aE.o);go_wp2_with fail;go_ret2;exact⟨_,by rw[cC.o];rfl,HX.o.trans (aE.o.trans ((((((Ext.refl w3).alloc _).alloc _).alloc _).alloc _))),by rw[cC.o,kl.o];exact fE.o.ext (aE.o.trans ((((((Ext.refl w3).alloc _).alloc _).alloc _).alloc _)))⟩
  ·obtain rfl:i=n:=by omega
   have pJ:=a9.go;rw[qaS (by rw[<-HN.o];exact qab _),Gg,<-lp.o]at pJ;have fO:=J pJ;have HX:=J a9.ext;have fE:=J a9.ra;have kl:=J a9.ra.len;clear a9 pJ;go_wp2_with fail;go_ret2;exact⟨_,by rw[fO.o];rfl,HX.o,by rw[fO.o,kl.o];exact fE.o⟩
theorem RW(l:List Nd):∀(i:Nat) (all st:List (Nat × Nat)),(Gg i all st l).2≠0->(Gg i all st l).1.length=all.length+l.length:=by
 induction l with
 |nil=>intro i all st _;rfl
 |cons x t ih=>
  intro i all st h;rw[Gg]at h ⊢;cases hs:AZ i st x with
  |none=>rw[hs]at h;exact absurd rfl h
  |some q=>
   obtain⟨p,st'⟩:=q;rw[hs]at h;simp only at h ⊢;rw[ih _ _ _ h,qac,qaC];simp;omega
theorem Ju(w:World)(v:Value)(l:List Nd)(hr:RNd w v l)(hl:l.length<=1000000)(nW:∀x∈l,x.text.length<=1073741824)(hm:B5 w):Calls Tryz.prog 68 #[v] w fun e w'=>e= .returned (.bool (Ho l))/\Ext w w':=by
 have HS:=J (P6 w v l hr hl nW hm);have HV:Hid (Ho l=(decide (1<=l.length/\l.length<=200) && (decide ((DE l).2=1) && decide (((DE l).1.getD (l.length-1) (0,0)).2<=40)))):=J rfl;have cI:Hid ((DE l).2≠0->(DE l).1.length=l.length):=J (fun h=>by have:=RW l 0 [] [] h;rw[qaZ,qaW]at this;exact this);obtain⟨A,c,rfl,_⟩:=hr;generalize Ho l=r at *;clear nW hm;obtain⟨n,hn⟩:∃n,n=l.length:=⟨_,rfl⟩;rw[<-hn]at hl HV HS cI ⊢;clear hn;by_cases h1:n<1
 ·obtain rfl:n=0:=by omega
  clear HS h1 cI;go_enter Tryz.func68,Tryz.ntmps68;go_wp2_with fail;go_ret;exact⟨by rw[HV.o];rfl,Ext.refl w⟩
 ·have Wa:¬((n:Int)<1):=by omega
  by_cases h2:200<n
  ·have V8:(200:Int)<(n:Int):=by omega
   have hd:decide (1<=n/\n<=200)=false:=decide_eq_false (by omega);rw[hd]at HV;clear HS h1 h2 hd cI;go_enter Tryz.func68,Tryz.ntmps68;go_wp2_with fail;go_ret;exact⟨by rw[HV.o];rfl,Ext.refl w⟩
  ·have V8:¬(200:Int)<(n:Int):=by omega
   have hd:decide (1<=n/\n<=200)=true:=decide_eq_true (by omega);rw[hd,qaE]at HV;have h1n:1<=n:=by omega
   clear h1 h2 hd;unfold K9 at HS;generalize (DE l).2=Wh at *;generalize (DE l).1=all at *;go_enter Tryz.func68,Tryz.ntmps68;go_wp2_with fail;refine HS.o.mono ?_
   rintro e w1 ⟨v1,rfl,hx,bc⟩;have HX:=J hx;have jw:=J bc;obtain⟨A4,c4,rfl⟩:=Aw bc;clear hx bc;by_cases hc1:Wh=1
   ·subst hc1;have hal:=cI.o (by decide);obtain⟨g4,d4,gF,_,_⟩:=jw.o.form (by omega);injection gF with gF he5 he6
    subst gF;clear he5 he6;have uy:=jw.o;rw[hal]at uy;have aa:=(CX.get uy (n-1) (by omega)).2;obtain⟨y,hy⟩:∃y:Int,y=(n:Int)-1:=⟨_,rfl⟩;have hj:y.toNat=n-1:=by omega
    rw[<-hj]at aa HV;have hw:IntKind.i64.wrap ((n:Int)-1)=y:=by rw[IntWalk.i64_in _ (by omega),hy]
    have mg:(0:Int)<=y:=by omega
    have i3:y<(n:Int):=by omega
    have hdv:decide ((all.getD y.toNat (0,0)).2<=40)=decide (((all.getD y.toNat (0,0)).2:Int)<=40):=by rw[decide_eq_decide];omega
    have pU:Hid (r=decide (((all.getD y.toNat (0,0)).2:Int)<=40)):=J (by rw[HV.o,<-hdv];rfl);generalize (all.getD y.toNat (0,0)).2=dv at *;rw[hal];clear uy hj hy hdv hal HV cI;go_wp2_with fail;go_ret;exact⟨by rw[pU.o];rfl,HX.o⟩
   ·have oG:((Wh:Int) == 1)=false:=by rw[beq_eq_false_iff_ne];omega
    have i9:Hid (r=false):=J (by rw[HV.o,decide_eq_false hc1];rfl);generalize all.length=m at *;clear hc1 HV cI;generalize (Wh:Int)=cz at *;go_wp2_with fail;go_ret;exact⟨by rw[i9.o];rfl,HX.o⟩
theorem JY(e:Ex)(hg:e.Well):∀off,∀x∈Ak off e,x.text.length<=1073741824:=by
 induction e with
 |leaf k t=>
  intro off x hx;rw[Ak,qaQ]at hx;subst hx;rcases hg with ⟨_,h⟩|⟨_,h⟩|⟨_,rfl⟩
  ·have:=MX h;simp only;omega
  ·have:=Gy (qbN.1 h).1;simp only;omega
  ·simp
 |un k n x ih=>
  intro off y hy;rw[Ak,qbt,qaQ]at hy;rcases hy with hy|rfl
  ·exact ih hg.2.2.2.2 off y hy
  ·simp
 |bin k x z ihx ihy=>
  intro off y hy;rw[Ak,qbt,qbt,qaQ]at hy;rcases hy with hy|hy|rfl
  ·exact ihx hg.2.1 _ y hy
  ·exact ihy hg.2.2 _ y hy
  ·simp
def EC(s:List UInt8):Option Ex × Nat × Nat:=
 if (Bm s).2.2≠0 then (none,(Bm s).2.1,(Bm s).2.2)
 else if (Bk (Bm s).1 ((Bm s).1.length+1) 0).2<(Bm s).1.length then (none,((Bm s).1.getD (Bk (Bm s).1 ((Bm s).1.length+1) 0).2 ⟨0,0,[]⟩).at_,6)
 else match (Bk (Bm s).1 ((Bm s).1.length+1) 0).1 with
  |none=>(none,s.length,6)
  |some x=>if x.big=false/\x.size<=200/\x.depth<=40 then (some x,s.length,0) else (none,0,7)
def TZ:Option Ex->List Nd
 |none=>[]
 |some x=>Ak 0 x
def OF(w:World)(s:List UInt8)(e:Ending)(w':World):Prop:=
 ∃v,e= .returned (.tuple #[v,.int .i64 ((EC s).2.1:Int),.int .i64 ((EC s).2.2:Int)])/\Ext w w'/\RNd w' v (TZ (EC s).1)
theorem RNd.nil(w:World):RNd w (.slice none 0 0) []:=⟨none,0,rfl,fun h=>by simp at h⟩
theorem JN{n k:Nat}(h:AT n<=32*k):(Ac n).length<=k:=by
 refine AH ?_
 have h2:n<2 ^ (32*k):=by
  unfold AT at h;split at h
  ·rename_i h0;subst h0;exact Nat.two_pow_pos _
  ·exact(Nat.log2_lt ‹_›).1 (by omega)
 rw[show (4294967296:Nat)=2 ^ 32 from rfl,<-qbY];exact h2
theorem X2.Ok.size{x:X2}(h:x.Ok):(Ac x.p.natAbs).length<=32/\(Ac x.q).length<=32:=by
 rcases h with ⟨_,_,h⟩|h|h
 ·exact⟨JN (by omega),JN (by omega)⟩
 ·rw[h];exact⟨qaj _,qaj _⟩
 ·rw[h];exact⟨qaj _,qaj _⟩
theorem SF(e:Ex):(exX e).Ok:=by
 induction e with
 |leaf k t=>exact FP _ X2.O_ok X2.O_ok
 |un k n x ih=>exact FP _ ih X2.O_ok
 |bin k x y ihx ihy=>exact FP _ ihx ihy
theorem Fd(t:List UInt8):exX (.leaf 1 t)=AN (HJ t) (Ia t):=by
 unfold exX Bj;rw[if_pos (show ((1:Nat):Int)<5 by decide),if_pos (show ((1:Nat):Int)=1 by decide)]
theorem SG(t:List UInt8):exX (.leaf 2 t)=X2.O:=by
 unfold exX Bj;rw[if_pos (show ((2:Nat):Int)<5 by decide),if_neg (show ¬((2:Nat):Int)=1 by decide)]
def QK:Ex:= .bin 7 (.un 11 0 (.bin 9 (.leaf 1 [57]) (.leaf 1 [52]))) (.bin 9 (.leaf 1 [51]) (.leaf 1 [50]))
def SI:Ex:= .bin 9 (.leaf 1 [49]) (.bin 7 (.leaf 2 [120]) (.leaf 2 [120]))
def SH:Ex:= .bin 8 (.leaf 1 [48]) (.un 13 0 (.leaf 1 [48]))
def QJ:Ex:= .un 10 0 (.leaf 1 [48])
theorem O7:exX QK=⟨1,0,1⟩:=by
 have h9:exX (.leaf 1 [57])=⟨1,9,1⟩:=by rw[Fd];kernel_rfl
 have h4:exX (.leaf 1 [52])=⟨1,4,1⟩:=by rw[Fd];kernel_rfl
 have h3:exX (.leaf 1 [51])=⟨1,3,1⟩:=by rw[Fd];kernel_rfl
 have h2:exX (.leaf 1 [50])=⟨1,2,1⟩:=by rw[Fd];kernel_rfl
 have hq:exX (.bin 9 (.leaf 1 [57]) (.leaf 1 [52]))=⟨1,9,4⟩:=by
  rw[exX,h9,h4];kernel_rfl
 have hr:exX (.bin 9 (.leaf 1 [51]) (.leaf 1 [50]))=⟨1,3,2⟩:=by
  rw[exX,h3,h2];kernel_rfl
 have hs:exX (.un 11 0 (.bin 9 (.leaf 1 [57]) (.leaf 1 [52])))=⟨1,3,2⟩:=by
  rw[exX,hq];have h1:sqX 9 4=AN 3 2:=Jd (r:=3) (s:=2);have h5:Bj ⟨((11:Nat):Int),0,0,0,[]⟩ ⟨1,9,4⟩ X2.O=sqX 9 4:=by kernel_rfl
  rw[h5,h1];show _=_
  kernel_rfl
 unfold QK;rw[exX,hs,hr];show _=_
 kernel_rfl
theorem TY:exX SI=X2.O:=by
 unfold SI;have h1:exX (.leaf 1 [49])=⟨1,1,1⟩:=by rw[Fd];kernel_rfl
 have h2:exX (.bin 7 (.leaf 2 [120]) (.leaf 2 [120]))=X2.O:=by rw[exX,SG];kernel_rfl
 rw[exX,h1,h2];show _=_
 kernel_rfl
theorem TX:exX SH=X2.U:=by
 unfold SH;have h1:exX (.leaf 1 [48])=⟨1,0,1⟩:=by rw[Fd];kernel_rfl
 have h2:exX (.un 13 0 (.leaf 1 [48]))=X2.U:=by rw[exX,h1];kernel_rfl
 rw[exX,h1,h2];show _=_
 kernel_rfl
theorem O6:exX QJ=⟨1,1,1⟩:=by
 unfold QJ;have h1:exX (.leaf 1 [48])=⟨1,0,1⟩:=by rw[Fd];kernel_rfl
 rw[exX,h1];show _=_
 kernel_rfl
def UT:List UInt8:=[115,113,114,116,40,57,47,52,41,32,45,32,51,47,50]
def US:List UInt8:=[49,32,47,32,40,120,32,45,32,120,41]
def UR:List UInt8:=[48,32,42,32,108,110,40,48,41]
def UQ:List UInt8:=[48,94,48]
theorem Uy:EC UT=(some QK,15,0):=by kernel_rfl
theorem Ux:EC US=(some SI,11,0):=by kernel_rfl
theorem Uw:EC UR=(some SH,9,0):=by kernel_rfl
theorem Uv:EC UQ=(some QJ,3,0):=by kernel_rfl
end Big
end Go.Proofs.YtkoaogkknnelaaaGreatDoor
