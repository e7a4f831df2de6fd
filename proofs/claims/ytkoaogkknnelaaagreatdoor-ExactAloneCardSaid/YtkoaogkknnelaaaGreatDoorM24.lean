import Derived.Test.YtkoaogkknnelaaaGreatDoorM23
set_option linter.unusedVariables false
set_option linter.unusedSimpArgs false
set_option maxHeartbeats 4000000
set_option maxRecDepth 100000
namespace Go.Proofs.YtkoaogkknnelaaaGreatDoor
namespace Big
open Lib (hid)
open Go.RowKit
theorem JB(w:World)(k:Int):Calls Tryz.prog 174 #[.int .i64 k] w fun e w'=>e= .returned (.int .i64 (Aq k))/\w=w':=by
 have key:(k<1/\Aq k= -1)\/(1<=k/\k<=4/\Aq k=0)\/(k=5/\Aq k=1)\/(6<=k/\k<=9/\Aq k=2)\/(10<=k/\k<=16/\Aq k=1)\/(17<=k/\Aq k= -1):=by
  unfold Aq;by_cases h1:k<1
  ·simp[h1]
  by_cases h2:16<k
  ·simp[h1,h2];omega
  by_cases h3:k<=4
  ·simp[h1,h2,h3];omega
  by_cases h4:6<=k/\k<=9
  ·simp[h1,h2,h3,h4]
  ·simp[h1,h2,h3,h4];omega
 rcases key with ⟨h1,h⟩|⟨h1,h2,h⟩|⟨rfl,h⟩|⟨h1,h2,h⟩|⟨h1,h2,h⟩|⟨h1,h⟩
 ·have H:=hid h;have d1:decide (k>=1)=false:=decide_eq_false (by omega);have yD:¬1<=k:=by omega
  have d2:(k == 5)=false:=by rw[beq_eq_false_iff_ne];omega
  have d3:decide (k>=10)=false:=decide_eq_false (by omega);have VP:¬10<=k:=by omega
  have d4:decide (k>=6)=false:=decide_eq_false (by omega);have YF:¬6<=k:=by omega
  clear h;go_enter Tryz.func174,Tryz.ntmps174;go_wp2_with fail;go_ret;exact⟨by rw[H.out];rfl,rfl⟩
 ·have H:=hid h;clear h;go_enter Tryz.func174,Tryz.ntmps174;go_wp2_with fail;go_ret;exact⟨by rw[H.out];rfl,rfl⟩
 ·have H:=hid h;clear h;go_enter Tryz.func174,Tryz.ntmps174;go_wp2_with fail;go_ret;exact⟨by rw[H.out];rfl,rfl⟩
 ·have H:=hid h;have yD:1<=k:=by omega
  have uA:¬k<=4:=by omega
  have d2:(k == 5)=false:=by rw[beq_eq_false_iff_ne];omega
  have VP:¬10<=k:=by omega
  clear h;go_enter Tryz.func174,Tryz.ntmps174;go_wp2_with fail;go_ret;exact⟨by rw[H.out];rfl,rfl⟩
 ·have H:=hid h;have yD:1<=k:=by omega
  have uA:¬k<=4:=by omega
  have d2:(k == 5)=false:=by rw[beq_eq_false_iff_ne];omega
  clear h;go_enter Tryz.func174,Tryz.ntmps174;go_wp2_with fail;go_ret;exact⟨by rw[H.out];rfl,rfl⟩
 ·have H:=hid h;have yD:1<=k:=by omega
  have uA:¬k<=4:=by omega
  have d2:(k == 5)=false:=by rw[beq_eq_false_iff_ne];omega
  have VP:10<=k:=by omega
  have YG:¬k<=16:=by omega
  have YF:6<=k:=by omega
  have YE:¬k<=9:=by omega
  clear h;go_enter Tryz.func174,Tryz.ntmps174;go_wp2_with fail;go_ret;exact⟨by rw[H.out];rfl,rfl⟩
theorem Nm(w:World)(x:Nd)(hl:x.text.length<=1073741824)(hm:BW w):Calls Tryz.prog 175 #[ndV x] w fun e w'=>e= .returned (.bool (Ax x))/\Ext w w':=by
 obtain⟨k,a,b,n,t⟩:=x;simp only[ndV]at hl ⊢;have HP:=hid (fun W h=>FT W t h);have HM:=hid hm;have HW:=hid (fun W=>Li W t hl);have dL:=hid (fun W=>F9 W t);have qn:Dv t=(CT t && !Bc t):=by rw[Ci];rfl
 obtain⟨s,hs⟩:∃s:ByteArray,s=⟨t.toArray⟩:=⟨_,rfl⟩;have ac:str t= .string s:=by rw[hs];rfl
 have hne:s.toList.isEmpty=(t == []):=by rw[hs];exact H7 t
 rw[ac]at HP HW dL ⊢;clear hs ac hm;have hb0:=Blk.new w 95 #[.int .i64 k,.int .i64 a,.int .i64 b,.int .i64 n,.string s];have cX:=hid ((Ext.refl w).alloc (.cells #[.int .i64 k,.int .i64 a,.int .i64 b,.int .i64 n,.string s] 95));have am:=hid hb0;have q0:=hb0.five;clear hb0;have key:(k=1)\/(k=2)\/(k=10)\/(k≠1/\k≠2/\k≠10):=by omega
 rcases key with rfl|rfl|rfl|⟨eQ,hk2,dx⟩
 ·have oA:((AX t:Int) == 0)=(AX t == 0):=by rw[Bool.eq_iff_iff];simp
  have H:Hid (Ax ⟨1,a,b,n,t⟩=((AX t:Int) == 0 && (n == 0))):=hid (by rw[oA];unfold Ax B8 BT;simp);clear hne oA qn;generalize Ax ⟨1,a,b,n,t⟩=r at *;generalize hce:(AX t:Int)=ce at *;go_enter Tryz.func175,Tryz.ntmps175;go_wp2_with fail;refine(HP.out _ (HM.out.ext cX.out)).mono ?_
  rintro e w5 ⟨v5,rfl,cG,hx5⟩;obtain⟨b5,n5,A5,c5,n6,A6,c6,rfl⟩:=cG.shape;have cF:=hx5.alloc (.cells #[.bool b5,.slice A5 n5 c5,.slice A6 n6 c6] 26);have cV:=hid (cX.out.trans cF);have q0:=(am.out.ext cF).five;clear cG hx5 cF;rw[hce];clear hce;cases hz:(ce == 0)
  ·rw[hz]at H;go_wp2_with fail;go_ret;exact⟨by rw[H.out];rfl,cV.out⟩
  ·rw[hz]at H;go_wp2_with fail;go_ret;exact⟨by rw[H.out];rfl,cV.out⟩
 ·have H:Hid (Ax ⟨2,a,b,n,t⟩=((CT t && !Bc t) && (n == 0))):=hid (by rw[<-qn];unfold Ax B8 BT;simp);generalize Ax ⟨2,a,b,n,t⟩=r at *;clear hne qn;cases hw:CT t
  ·rw[hw]at HW H;clear hw;go_enter Tryz.func175,Tryz.ntmps175;go_wp2_with fail;refine(HW.out _).mono ?_
   rintro e w5 ⟨rfl,rfl⟩;go_wp2_with fail;go_ret;exact⟨by rw[H.out];rfl,cX.out⟩
  ·rw[hw]at HW H;clear hw;cases hv:Bc t
   all_goals
    rw[hv]at dL H;clear hv;go_enter Tryz.func175,Tryz.ntmps175;go_wp2_with fail;refine(HW.out _).mono ?_
    rintro e w5 ⟨rfl,rfl⟩;go_wp2_with fail;refine(dL.out _).mono ?_
    rintro e w6 ⟨rfl,rfl⟩;go_wp2_with fail;go_ret;exact⟨by rw[H.out];rfl,cX.out⟩
 ·have H:Hid (Ax ⟨10,a,b,n,t⟩=((decide (-64<=n) && decide (n<=64)) && s.toList.isEmpty)):=hid (by rw[hne,<-J1];unfold Ax B8 BT;rw[Bool.and_comm];rfl);generalize Ax ⟨10,a,b,n,t⟩=r at *;clear hne qn HP HW dL hl;by_cases hn: -64<=n
  ·have hd:decide (-64<=n)=true:=decide_eq_true hn;rw[hd]at H;by_cases hn2:n<=64
   ·have ed:decide (n<=64)=true:=decide_eq_true hn2;rw[ed]at H;go_enter Tryz.func175,Tryz.ntmps175;go_wp2_with fail;go_ret;exact⟨by rw[H.out];rfl,cX.out⟩
   ·have ed:decide (n<=64)=false:=decide_eq_false hn2;rw[ed]at H;go_enter Tryz.func175,Tryz.ntmps175;go_wp2_with fail;go_ret;exact⟨by rw[H.out];rfl,cX.out⟩
  ·have hd:decide (-64<=n)=false:=decide_eq_false hn;rw[hd]at H;go_enter Tryz.func175,Tryz.ntmps175;go_wp2_with fail;go_ret;exact⟨by rw[H.out];rfl,cX.out⟩
 ·have e1:(k == 1)=false:=by rw[beq_eq_false_iff_ne];omega
  have e2:(k == 2)=false:=by rw[beq_eq_false_iff_ne];omega
  have e3:(k == 10)=false:=by rw[beq_eq_false_iff_ne];omega
  have H:Hid (Ax ⟨k,a,b,n,t⟩=((n == 0) && s.toList.isEmpty)):=hid (by rw[hne,Bool.and_comm];unfold Ax B8 BT;rw[if_neg eQ,if_neg hk2,if_neg dx]);generalize Ax ⟨k,a,b,n,t⟩=r at *;clear hne qn HP HW dL hl eQ hk2 dx;cases hz:(n == 0)
  ·rw[hz]at H;go_enter Tryz.func175,Tryz.ntmps175;go_wp2_with fail;go_ret;exact⟨by rw[H.out];rfl,cX.out⟩
  ·rw[hz]at H;go_enter Tryz.func175,Tryz.ntmps175;go_wp2_with fail;go_ret;exact⟨by rw[H.out];rfl,cX.out⟩
def prC(L:List (Nat × Nat)):List Value:=L.flatMap (fun p=>[din p.1,din p.2])
theorem SE(L:List (Nat × Nat)):(prC L).length=L.length*2:=by
 induction L with
 |nil=>rfl
 |cons p L ih=>
  unfold prC at *;rw[List.flatMap_cons,List.length_append,ih,List.length_cons];simp;omega
theorem Cr(L M:List (Nat × Nat)):prC (L++M)=prC L++prC M:=by simp[prC]
theorem D3(p:Nat × Nat):prC [p]=[din p.1,din p.2]:=by simp[prC]
theorem Gb(L:List (Nat × Nat))(n:Nat):(prC L).take (n*2)=prC (L.take n):=by
 induction L generalizing n with
 |nil=>simp[prC]
 |cons p L ih=>
  cases n with
  |zero=>simp[prC]
  |succ n=>
   unfold prC at *;rw[List.flatMap_cons,List.take_succ_cons,List.flatMap_cons,show (n+1)*2=n*2+2 by omega];show din p.1::din p.2::List.take (n*2) (List.flatMap (fun p=>[din p.1,din p.2]) L)=din p.1::din p.2::List.flatMap (fun p=>[din p.1,din p.2]) (List.take n L);rw[ih n]
theorem SF(L:List (Nat × Nat))(i:Nat)(hi:i<L.length):(prC L)[i*2]? =some (din (L.getD i (0,0)).1)/\(prC L)[i*2+1]? =some (din (L.getD i (0,0)).2):=by
 induction L generalizing i with
 |nil=>simp at hi
 |cons p L ih=>
  unfold prC at *;rw[List.flatMap_cons];cases i with
  |zero=>exact⟨rfl,rfl⟩
  |succ i=>
   have h:=ih i (by simpa using hi);rw[List.getElem?_append_right (by simp;omega),List.getElem?_append_right (by simp;omega)];have e1:(i+1)*2-[din p.1,din p.2].length=i*2:=by simp;omega
   have e2:(i+1)*2+1-[din p.1,din p.2].length=i*2+1:=by simp;omega
   rw[e1,e2];exact h
def CI(B:Nat)(w:World)(v:Value)(n:Nat)(L:List (Nat × Nat)):Prop:=w.ownsRow B 196 2 v n (prC L)
theorem PY:(Tryz.prog.info? 196).map (fun i=>(i.zero,i.size,i.bytes))=some (some (.agg #[.int .i64 0,.int .i64 0]),2,16):=by kernel_rfl
theorem CI.len{B n:Nat}{w:World}{v:Value}{L:List (Nat × Nat)}(h:CI B w v n L):L.length=n:=by
 have:=h.1;rw[SE]at this;omega
theorem CI.ext{B n:Nat}{w w':World}{v:Value}{L:List (Nat × Nat)}(h:CI B w v n L)(hx:Ext w w'):CI B w' v n L:=Af h (fun _ _ hg=>Below.block hx _ hg)
theorem CI.get{B n g c:Nat}{w:World}{L:List (Nat × Nat)}(h:CI B w (.slice (some ⟨g,0,none⟩) n c) n L)(j:Nat)(hj:j<n):w.cell? ⟨g,j*2,none⟩=some (.int .i64 ((L.getD j (0,0)).1:Int))/\w.cell? ⟨g,j*2+1,none⟩=some (.int .i64 ((L.getD j (0,0)).2:Int)):=by
 have hl:=h.len;have h1:=h.cellAt (j*2) (by omega);have h2:=h.cellAt (j*2+1) (by omega);have h3:=SF L j (by omega);rw[h1,h2];exact h3
theorem Bv{B sz n:Nat}{e:TypeId}{w:World}{v:Value}{xs:List Value}(h:w.ownsRow B e sz v n xs)(g:Nat)(hg:v.ownBlock=some g):B<=g/\g<w.heap.size:=by
 rcases h.2 with ⟨rfl,h2⟩|⟨g',cap,cur,rfl,hb,hh,_⟩
 ·cases hg
 ·simp only[Value.ownBlock,Option.some.injEq]at hg;subst hg;refine⟨hb,?_⟩;rcases Nat.lt_or_ge g' w.heap.size with h|h
  ·exact h
  ·rw[Array.getElem?_eq_none h]at hh;cases hh
theorem Dx{B sz n m:Nat}{e:TypeId}{w:World}{A:Option Addr}{c:Nat}{xs:List Value}(h:w.ownsRow B e sz (.slice A n c) n xs)(hm:m<=n):w.ownsRow B e sz (.slice A m c) m (xs.take (m*sz)):=by
 have tK:m*sz<=n*sz:=Nat.mul_le_mul_right sz hm;refine⟨by rw[List.length_take,h.1];omega,?_⟩;rcases h.2 with ⟨h1,h2⟩|⟨g,cap,cur,h1,hb,hh,hc,ek,hs,ht⟩
 ·injection h1 with h1 h3 h4
  subst h1;subst h2;obtain rfl:m=0:=by omega
  exact .inl ⟨by rw[h4],rfl⟩
 ·injection h1 with h1 h3 h4
  subst h1;subst h4;exact .inr ⟨g,c,cur,rfl,hb,hh,by omega,ek,hs,by rw[<-ht,List.take_take,Nat.min_eq_left tK]⟩
theorem DW {B Wx UL n m g:Nat} {e1 e2:TypeId} {W W1 w':World} {v u u':Value} {xs ys:List Value} (h4:W.ownsRow B e1 Wx v n xs) (h5:W.ownsRow B e2 UL u m ys) (fc:D7 v u) (hx:Ext W W1) (hB:B<=W.heap.size)
  (au:W1.grownBy w' v.ownBlock) (hat:v.ownBlock=some g\/g=W1.heap.size) (hu:u'.ownBlock=some g):w'.ownsRow B e2 UL u m ys/\D7 u' u/\Below B W w':=by
 refine⟨?_,fun k hk he=> ?_,?_⟩
 ·refine(Af h5 (fun _ _ hg=>Below.block hx _ hg)).kept au ?_
  cases hu5:u.ownBlock with
  |none=>exact .inl rfl
  |some k=>exact .inr (fun he=>fc k he.symm hu5)
 ·rw[hu]at hk;injection hk with hk
  subst hk;rcases hat with hat|hat
  ·exact fc g hat he
  ·have:=(Bv h5 g he).2;have:=hx.size;omega
 ·exact Below.grown (Below.mono hx hB) au (Nat.le_trans hB hx.size) (fun k hk=>(Bv h4 k hk).1)
def Kp(l:List Nd)(w:World)(e:Ending)(w':World):Prop:=
 ∃v,e= .returned (.tuple #[v,.int .i64 ((Dl l).2:Int)])/\Ext w w'/\CI w.heap.size w' v (Dl l).1.length (Dl l).1
structure Jt (l:List Nd) (w:World) (i:Nat) (all st:List (Nat × Nat)) (va vs:Value) (wr:World):Prop where
 go:Dl l=FR i all st (l.drop i)
 ra:CI w.heap.size wr va i all
 rs:CI w.heap.size wr vs st.length st
 apart:D7 va vs
 ext:Ext w wr
 low:∀p∈st,p.1<=i/\p.2<=i
 fs:st.length<=i
theorem Jt.bad{l:List Nd}{w wr:World}{i:Nat}{all st:List (Nat × Nat)}{va vs:Value}{nd:Nd}(h:Jt l w i all st va vs wr)(hn:l[i]? =some nd)(hs:AP i st nd=none):Dl l=(all,0):=by
 have h1:=h.go;rw[DA hn,FR,hs]at h1;exact h1
theorem Jt.next {l:List Nd} {w wr w':World} {i k:Nat} {all st:List (Nat × Nat)} {va vs ws sH:Value} {nd:Nd} {p:Nat × Nat} (h:Jt l w i all st va vs wr) (hn:l[i]? =some nd) (hs:AP i st nd=some (p,st.take k++[p]))
  (h4:CI w.heap.size w' ws (i+1) (all++[p])) (h5:CI w.heap.size w' sH (k+1) (st.take k++[p])) (hk:k<=st.length) (fc:D7 ws sH) (hx:Ext w w') (hp:p.1<=i+1/\p.2<=i+1):Jt l w (i+1) (all++[p]) (st.take k++[p]) ws sH w':=by
 have h1:=h.go;rw[DA hn,FR,hs]at h1;have hl:(st.take k++[p]).length=k+1:=by rw[List.length_append,List.length_take,List.length_singleton];omega
 refine⟨h1,h4,by rw[hl];exact h5,fc,hx,fun q hq=> ?_,by have:=h.fs;rw[hl];omega⟩;rcases List.mem_append.1 hq with hq|hq
 ·have:=h.low q (List.mem_of_mem_take hq);omega
 ·rw[List.mem_singleton]at hq;rw[hq];exact hp
section
variable {st:List (Nat × Nat)} {i:Nat} {k a b n:Int} {t:List UInt8}
theorem Nk(h:Aq k<0):AP i st ⟨k,a,b,n,t⟩=none:=by unfold AP;rw[if_pos (.inl h)]
theorem IN(h:(st.length:Int)<Aq k):AP i st ⟨k,a,b,n,t⟩=none:=by unfold AP;rw[if_pos (.inr (.inl h))]
theorem Hq(h:Aq k=0)(h2:¬(a=0/\b=0)):AP i st ⟨k,a,b,n,t⟩=none:=by
 unfold AP;simp only[h];split
 ·rfl
 ·simp[h2]
theorem Hp(h:Aq k=1)(h2:¬(a=(i:Int)-1/\b=0)):AP i st ⟨k,a,b,n,t⟩=none:=by
 unfold AP;simp only[h];split
 ·rfl
 ·simp[h2]
theorem Ho(h:Aq k=2)(h2:¬(a=((st.getD (st.length-1) (0,0)).1:Int)-1/\b=(i:Int)-1)):AP i st ⟨k,a,b,n,t⟩=none:=by
 unfold AP;simp only[h];split
 ·rfl
 ·first|(simp[h2];done)|(simp;exact fun h3 h4=>absurd ⟨h3,h4⟩ h2)
theorem Q9(h:Aq k=0)(hp:Ax ⟨k,0,0,n,t⟩=true):AP i st ⟨k,0,0,n,t⟩=some ((i,1),st.take (st.length-0)++[(i,1)]):=by
 unfold AP;simp only[h,hp];rw[if_neg (by first|(simp;done)|(simp;omega))];simp
theorem Q8(h:Aq k=1)(hp:Ax ⟨k,(i:Int)-1,0,n,t⟩=true)(hm:1<=st.length):AP i st ⟨k,(i:Int)-1,0,n,t⟩=some (((st.getD (st.length-1) (0,0)).1,(st.getD (st.length-1) (0,0)).2+1),st.take (st.length-1)++[((st.getD (st.length-1) (0,0)).1,(st.getD (st.length-1) (0,0)).2+1)]):=by
 unfold AP;simp only[h,hp];rw[if_neg (by first|(simp;done)|(simp;omega)),if_neg (by decide),if_pos trivial,if_pos (by simp)]
theorem Q7(h:Aq k=2)(hp:Ax ⟨k,((st.getD (st.length-1) (0,0)).1:Int)-1,(i:Int)-1,n,t⟩=true)(hm:2<=st.length):AP i st ⟨k,((st.getD (st.length-1) (0,0)).1:Int)-1,(i:Int)-1,n,t⟩=some (((st.getD (st.length-2) (0,0)).1,max ((st.getD (st.length-1) (0,0)).2+1) ((st.getD (st.length-2) (0,0)).2+1)),st.take (st.length-2)++[((st.getD (st.length-2) (0,0)).1,max ((st.getD (st.length-1) (0,0)).2+1) ((st.getD (st.length-2) (0,0)).2+1))]):=by
 unfold AP;simp only[h,hp];rw[if_neg (by first|(simp;done)|(simp;omega)),if_neg (by decide),if_neg (by decide),if_pos (by simp)]
theorem EE(h:Ax ⟨k,a,b,n,t⟩=false):AP i st ⟨k,a,b,n,t⟩=none:=by unfold AP;rw[if_pos (.inr (.inr h))]
end
theorem Px(w:World)(v:Value)(l:List Nd)(hr:RNd w v l)(hl:l.length<=1000000)(l7:∀x∈l,x.text.length<=1073741824)(hm:BW w):Calls Tryz.prog 132 #[v] w (Kp l w):=by
 have HR:=hid hr;have lL:=hid l7;have nQ:=hid hm;obtain⟨i0,hi,aE,hz1,bx⟩:=info_parts PY;obtain⟨A,c,rfl,_⟩:=hr;clear l7 hm;have bZ:Hid (Jt l w 0 [] [] (.slice none 0 0) (.slice none 0 0) w):=hid ⟨rfl,⟨rfl,.inl ⟨rfl,rfl⟩⟩,⟨rfl,.inl ⟨rfl,rfl⟩⟩,(fun g h=>by cases h),Ext.refl w,(fun p h=>by cases h),Nat.zero_le _⟩;obtain⟨n,hn⟩:∃n,n=l.length:=⟨_,rfl⟩;have HN:=hid hn;rw[<-hn]at hl ⊢;clear hn;go_enter Tryz.func132,Tryz.ntmps132;go_wp2_with fail;go_loopw [4,5,15] (fun s4 s5 s15 wr=>∃(i:Nat) (all st:List (Nat × Nat)),i<=n/\s15= .int .i64 (i:Int)/\Jt l w i all st s4 s5 wr) (fun _ _ s15 _=>n-(intOf s15).toNat)
 case atStart=>exact⟨0,[],[],Nat.zero_le _,rfl,bZ.out⟩
 case round=>
  obtain⟨i,all,st,hin,rfl,aX⟩:=hrel;have HI:=hid aX;obtain⟨A4,c4,rfl⟩:=Ap aX.ra;obtain⟨A5,c5,rfl⟩:=Ap aX.rs;clear bZ;have XZ:=aX.fs;obtain⟨ms,tK⟩:∃ms,ms=st.length:=⟨_,rfl⟩;rw[<-tK]at XZ ⊢;have jB:=hid tK;clear tK;by_cases hlt:i<n
  ·have i7:i<l.length:=by rw[<-HN.out];exact hlt
   obtain⟨A',c',he,hc⟩:=HR.out.ext aX.ext;obtain⟨b,o,yy,hb,hc⟩:=hc (by omega);obtain⟨nd,jN,hat,jt⟩:∃nd,l[i]? =some nd/\N0 wr b (o+i*5) nd/\nd.text.length<=1073741824:=⟨l[i],List.getElem?_eq_getElem i7,hc i i7,lL.out _ (List.getElem_mem i7)⟩
   injection he with he1 he2 he3
   subst he1;clear he2 he3;subst yy;have aA:Hid (AP i st nd=none->Dl l=(all,0)):=hid (fun h=>aX.bad jN h);have dd:=hid jN;clear jN hc;have hw:wr.heap.size>=w.heap.size:=aX.ext.size;have HX:=hid aX.ext;have lw:=hid (nQ.out.ext aX.ext);clear aX i7;obtain⟨kd,na,nb,nn,nt⟩:=nd;have co:=hid (fun W h=>Nm W ⟨kd,na,nb,nn,nt⟩ jt h);simp only[ndV]at co;obtain⟨k0,k1,k2,k3,k4⟩:=hat;simp only at k0 k1 k2 k3 k4;obtain⟨s,hs⟩:∃s:ByteArray,s=⟨nt.toArray⟩:=⟨_,rfl⟩;have ac:str nt= .string s:=by rw[hs];rfl
   rw[ac]at co k4;clear hs ac jt;have aO:=hid (fun W=>JB W kd);have key:=Fb kd;obtain⟨p,hp⟩:∃p,p=Ax ⟨kd,na,nb,nn,nt⟩:=⟨_,rfl⟩;rw[<-hp]at co;have hb0:=Blk.new wr 95 #[.int .i64 kd,.int .i64 na,.int .i64 nb,.int .i64 nn,.string s];have be:=hid ((Ext.refl wr).alloc (.cells #[.int .i64 kd,.int .i64 na,.int .i64 nb,.int .i64 nn,.string s] 95));have dp:=hid hb0;have q0:=hb0.five;clear hb0;have eE:=hid HI.out.ra;have dL:Hid (CI w.heap.size wr (.slice A5 ms c5) ms st):=hid (by
    have h:=HI.out.rs;rw[<-jB.out]at h;exact h)
   have iT:=hid HI.out.ra.len;have m9:Hid (∀j,j<ms->(st.getD j (0,0)).1<=i/\(st.getD j (0,0)).2<=i):=hid (fun j hj=>HI.out.low _ (by
    have ot:j<st.length:=by rw[<-jB.out];exact hj
    rw[List.getD_eq_getElem?_getD,List.getElem?_eq_getElem ot];exact List.getElem_mem ot))
   rcases key with aD|aD|aD|aD
   ·have b9:=hid (aA.out (Nk (by rw[aD];decide)));rw[aD]at aO;clear aD hp aA;go_wp2_with fail;refine(aO.out _).mono ?_
    rintro e w2 ⟨rfl,rfl⟩;go_wp2_with fail;go_ret2;exact⟨_,by rw[b9.out];rfl,HX.out.trans be.out,by rw[b9.out,iT.out];exact eE.out.ext be.out⟩
   ·cases hpb:p
    ·rw[hpb]at hp co;have b9:=hid (aA.out (EE hp.symm));rw[aD]at aO;clear aD hp aA hpb;go_wp2_with fail;refine(aO.out _).mono ?_
     rintro e w2 ⟨rfl,rfl⟩;go_wp2_with fail;refine(co.out _ (lw.out.ext be.out)).mono ?_
     rintro e w3 ⟨rfl,ab⟩;have q0:=(dp.out.ext ab).five;have jJ:=(dp.out.ext ab).lt;have gf:wr.heap.size<w3.heap.size+1:=by omega
     have ge:wr.heap.size<w3.heap.size+1+1:=by omega
     have gc:wr.heap.size<w3.heap.size+1+1+1:=by omega
     have ay:=hid (be.out.trans ab);clear ab;go_wp2_with fail;go_ret2;exact⟨_,by rw[b9.out];rfl,HX.out.trans ay.out,by rw[b9.out,iT.out];exact eE.out.ext ay.out⟩
    ·rw[hpb]at hp co;have eF:=hid hp.symm;clear hpb hp;by_cases ha:na=0
     ·subst ha;by_cases hb2:nb=0
      ·subst hb2;have iL:Hid (AP i st ⟨kd,0,0,nn,nt⟩=some ((i,1),st.take (ms-0)++[(i,1)])):=hid (by rw[jB.out];exact Q9 aD eF.out);have fv:Hid (i<=i+1/\1<=i+1):=hid ⟨by omega,by omega⟩;rw[aD]at aO;clear aD aA;go_wp2_with fail;refine(aO.out _).mono ?_
       rintro e w2 ⟨rfl,rfl⟩;go_wp2_with fail;refine(co.out _ (lw.out.ext be.out)).mono ?_
       rintro e w3 ⟨rfl,ab⟩;have q0:=(dp.out.ext ab).five;have jJ:=(dp.out.ext ab).lt;have gf:wr.heap.size<w3.heap.size+1:=by omega
       have ge:wr.heap.size<w3.heap.size+1+1:=by omega
       have gc:wr.heap.size<w3.heap.size+1+1+1:=by omega
       have ay:=hid (be.out.trans ab);clear ab;go_upto_region 20 with fail;rcases dL.out.2 with ⟨he,h0⟩|⟨g5,uD,uB,he,_,_,sp,_⟩
       ·injection he with he1 he2 he3
        have H0:=hid (And.intro he2 he3);subst he1;clear he2 he3 h0;obtain⟨w4,hw4⟩:∃w4,w4=(w3.alloc (.cells #[.int .i64 (i:Int),.int .i64 1] 196)).alloc (.cells #[.int .i64 kd,.int .i64 0,.int .i64 0,.int .i64 nn,.string s] 95):=⟨_,rfl⟩;rw[<-hw4];have fZ:Ext w3 w4:=by rw[hw4];exact(((Ext.refl w3).alloc _).alloc _)
        have gR:Blk w4 w3.heap.size 196 #[.int .i64 (i:Int),.int .i64 1]:=by rw[hw4];exact((Blk.new w3 _ _).alloc _)
        have bu:=hid (ay.out.trans fZ);have nl:=hid gR;obtain⟨p0,p1⟩:=gR.two';obtain⟨mk,cS⟩:∃mk,mk=ms-0:=⟨_,rfl⟩;have UV:IntKind.i64.wrap (ms:Int)=(mk:Int):=by rw[IntWalk.i64_in _ (by omega)];omega
        have Xz:mk<=c5:=by have:=H0.out;omega
        have eR:w.heap.size<=w4.heap.size:=Nat.le_trans HX.out.size bu.out.size;have dQ:=hid (Dx (m:=mk) (dL.out.ext bu.out) (by omega));have oT:=hid (eE.out.ext bu.out);have jV:=gR.lt;have qF:wr.heap.size<=w3.heap.size:=ay.out.size;have kg:Hid (mk<=st.length):=hid (by rw[<-jB.out];omega);have ib:Hid (AP i st ⟨kd,0,0,nn,nt⟩=some ((i,1),st.take mk++[(i,1)])):=hid (by rw[cS];exact iL.out);have dA:Hid ((w4.alloc (.cells #[.int .i64 (i:Int),.int .i64 1] 196)).drew.ownsRow w.heap.size 196 2 (.slice none mk c5) mk ((prC st).take (mk*2))):=hid (Af dQ.out (fun k _ hk=>Below.heap_alloc w4 _ k hk));have cZ:Hid (∀(j:Nat) (u:Value),[Value.int .i64 (i:Int),Value.int .i64 1][j]? =some u->(w4.alloc (.cells #[.int .i64 (i:Int),.int .i64 1] 196)).drew.cell? ((⟨w4.heap.size,0,none⟩:Addr).add j)=some u):=hid (BV w4 196 [.int .i64 (i:Int),.int .i64 1]);have ag:Hid (mk+1<=maxLen):=hid (by unfold maxLen;omega);have aY:Hid ((mk+1)*16<=140737488355328):=hid (by omega);have aZ:Hid (w.heap.size<=(w4.alloc (.cells #[.int .i64 (i:Int),.int .i64 1] 196)).drew.heap.size):=hid (by simp;omega);clear hw4 gR fZ cS q0
        go_region_law (refine step_append_lies _ rfl (.tmp 96) (.tmp 98) 192 rfl w.heap.size 196 i0 _ 2 16 Tryz.underlying192 hi aE hz1 bx rfl (by decide) _ mk ((prC st).take (mk*2)) rfl dA.out ⟨w4.heap.size,0,none⟩ 1 1 [.int .i64 (i:Int),.int .i64 1] rfl rfl cZ.out (by simp[Value.oneCell']) (by decide) ag.out aY.out aZ.out _ rfl ?_;intro g6 c6 w6 bd cj cA fD;have fJ:=hid bd;have gJ:=hid cj;have kp:=hid cA;clear bd cj cA)
        all_goals
         have ar:Hid (Ext w4 (w4.alloc (.cells #[.int .i64 (i:Int),.int .i64 1] 196)).drew):=hid ((Ext.refl w4).alloc _).drew;have cE:=hid (DW (u':= .slice (some ⟨g6,0,none⟩) (mk+1) c6) dQ.out oT.out (fun g h1 h2=>HI.out.apart g h2 h1) ar.out eR gJ.out kp.out rfl);have gB:Blk w6 w3.heap.size 196 #[.int .i64 (i:Int),.int .i64 1]:=(gJ.out.block w3.heap.size (Nat.lt_of_lt_of_le jV ar.out.size) (by intro he;cases he)).trans (nl.out.ext ar.out);obtain⟨y0,y1⟩:=gB.two';have ri:Hid (CI w.heap.size w6 (.slice (some ⟨g6,0,none⟩) (mk+1) c6) (mk+1) (st.take mk++[(i,1)])):=hid (by unfold CI;rw[Cr,D3,<-Gb];exact fJ.out);have kc:Hid ((w6.alloc (.cells #[.int .i64 (i:Int),.int .i64 1] 196)).ownsRow w.heap.size 196 2 (.slice A4 i c4) i (prC all)):=hid (Af cE.out.1 (fun k _ hk=>Below.heap_alloc w6 _ k hk));have fe:=hid (BV w6 196 [.int .i64 (i:Int),.int .i64 1]);have fP:Hid (i+1<=maxLen):=hid (by unfold maxLen;omega);have gM:Hid ((i+1)*16<=140737488355328):=hid (by omega);have jR:w.heap.size<=w6.heap.size:=Nat.le_trans eR cE.out.2.2.size;have kP:Hid (w.heap.size<=(w6.alloc (.cells #[.int .i64 (i:Int),.int .i64 1] 196)).heap.size):=hid (by simp;omega);clear gB p0 p1;go_wp2_with (at_builtin;go_must (refine wpList_append_lies _ rfl _ _ 192 rfl w.heap.size 196 i0 _ 2 16 Tryz.underlying192 hi aE hz1 bx rfl (by decide) (.slice A4 i c4) i (prC all) rfl kc.out ⟨w6.heap.size,0,none⟩ 1 1 [.int .i64 (i:Int),.int .i64 1] rfl rfl fe.out (by simp[Value.oneCell']) (by decide) fP.out gM.out kP.out _ rfl ?_;intro g7 c7 w7 aW cH dk kZ;have cY:=hid (DW (u':= .slice (some ⟨g7,0,none⟩) (i+1) c7) cE.out.1 ri.out (fun g h1 h2=>cE.out.2.1 g h2 h1) ((Ext.refl w6).alloc _) jR cH dk rfl);have rV:Hid (CI w.heap.size w7 (.slice (some ⟨g7,0,none⟩) (i+1) c7) (i+1) (all++[(i,1)])):=hid (by unfold CI;rw[Cr,D3];exact aW);clear aW cH dk));go_wp2_with fail;go_roundw
         case rel=>exact⟨i+1,_,_,by omega,by go_num,HI.out.next dd.out ib.out rV.out cY.out.1 kg.out cY.out.2.1 ((HX.out.trans bu.out).more (cE.out.2.2.trans cY.out.2.2)) (by have:=fv.out;exact this)⟩
         case measure=>simp[intOf];omega
       ·injection he with he1 he2 he3
        subst he1;subst he3;clear he2;obtain⟨w4,hw4⟩:∃w4,w4=(w3.alloc (.cells #[.int .i64 (i:Int),.int .i64 1] 196)).alloc (.cells #[.int .i64 kd,.int .i64 0,.int .i64 0,.int .i64 nn,.string s] 95):=⟨_,rfl⟩;rw[<-hw4];have fZ:Ext w3 w4:=by rw[hw4];exact(((Ext.refl w3).alloc _).alloc _)
        have gR:Blk w4 w3.heap.size 196 #[.int .i64 (i:Int),.int .i64 1]:=by rw[hw4];exact((Blk.new w3 _ _).alloc _)
        have bu:=hid (ay.out.trans fZ);have nl:=hid gR;obtain⟨p0,p1⟩:=gR.two';obtain⟨mk,cS⟩:∃mk,mk=ms-0:=⟨_,rfl⟩;have UV:IntKind.i64.wrap (ms:Int)=(mk:Int):=by rw[IntWalk.i64_in _ (by omega)];omega
        have Xz:mk<=c5:=by omega
        have eR:w.heap.size<=w4.heap.size:=Nat.le_trans HX.out.size bu.out.size;have dQ:=hid (Dx (m:=mk) (dL.out.ext bu.out) (by omega));have oT:=hid (eE.out.ext bu.out);have jV:=gR.lt;have qF:wr.heap.size<=w3.heap.size:=ay.out.size;have kg:Hid (mk<=st.length):=hid (by rw[<-jB.out];omega);have ib:Hid (AP i st ⟨kd,0,0,nn,nt⟩=some ((i,1),st.take mk++[(i,1)])):=hid (by rw[cS];exact iL.out);have dA:Hid ((w4.alloc (.cells #[.int .i64 (i:Int),.int .i64 1] 196)).drew.ownsRow w.heap.size 196 2 (.slice (some ⟨g5,0,none⟩) mk c5) mk ((prC st).take (mk*2))):=hid (Af dQ.out (fun k _ hk=>Below.heap_alloc w4 _ k hk));have cZ:Hid (∀(j:Nat) (u:Value),[Value.int .i64 (i:Int),Value.int .i64 1][j]? =some u->(w4.alloc (.cells #[.int .i64 (i:Int),.int .i64 1] 196)).drew.cell? ((⟨w4.heap.size,0,none⟩:Addr).add j)=some u):=hid (BV w4 196 [.int .i64 (i:Int),.int .i64 1]);have ag:Hid (mk+1<=maxLen):=hid (by unfold maxLen;omega);have aY:Hid ((mk+1)*16<=140737488355328):=hid (by omega);have aZ:Hid (w.heap.size<=(w4.alloc (.cells #[.int .i64 (i:Int),.int .i64 1] 196)).drew.heap.size):=hid (by simp;omega);clear hw4 gR fZ cS q0
        go_region_law (refine step_append_lies _ rfl (.tmp 96) (.tmp 98) 192 rfl w.heap.size 196 i0 _ 2 16 Tryz.underlying192 hi aE hz1 bx rfl (by decide) _ mk ((prC st).take (mk*2)) rfl dA.out ⟨w4.heap.size,0,none⟩ 1 1 [.int .i64 (i:Int),.int .i64 1] rfl rfl cZ.out (by simp[Value.oneCell']) (by decide) ag.out aY.out aZ.out _ rfl ?_;intro g6 c6 w6 bd cj cA fD;have fJ:=hid bd;have gJ:=hid cj;have kp:=hid cA;clear bd cj cA)
        all_goals
         have ar:Hid (Ext w4 (w4.alloc (.cells #[.int .i64 (i:Int),.int .i64 1] 196)).drew):=hid ((Ext.refl w4).alloc _).drew;have cE:=hid (DW (u':= .slice (some ⟨g6,0,none⟩) (mk+1) c6) dQ.out oT.out (fun g h1 h2=>HI.out.apart g h2 h1) ar.out eR gJ.out kp.out rfl);have gB:Blk w6 w3.heap.size 196 #[.int .i64 (i:Int),.int .i64 1]:=(gJ.out.block w3.heap.size (Nat.lt_of_lt_of_le jV ar.out.size) (by intro he;have he2:w3.heap.size=g5:=Option.some.inj he;have:=(Bv dL.out g5 rfl).2;omega)).trans (nl.out.ext ar.out);obtain⟨y0,y1⟩:=gB.two';have ri:Hid (CI w.heap.size w6 (.slice (some ⟨g6,0,none⟩) (mk+1) c6) (mk+1) (st.take mk++[(i,1)])):=hid (by unfold CI;rw[Cr,D3,<-Gb];exact fJ.out);have kc:Hid ((w6.alloc (.cells #[.int .i64 (i:Int),.int .i64 1] 196)).ownsRow w.heap.size 196 2 (.slice A4 i c4) i (prC all)):=hid (Af cE.out.1 (fun k _ hk=>Below.heap_alloc w6 _ k hk));have fe:=hid (BV w6 196 [.int .i64 (i:Int),.int .i64 1]);have fP:Hid (i+1<=maxLen):=hid (by unfold maxLen;omega);have gM:Hid ((i+1)*16<=140737488355328):=hid (by omega);have jR:w.heap.size<=w6.heap.size:=Nat.le_trans eR cE.out.2.2.size;have kP:Hid (w.heap.size<=(w6.alloc (.cells #[.int .i64 (i:Int),.int .i64 1] 196)).heap.size):=hid (by simp;omega);clear gB p0 p1;go_wp2_with (at_builtin;go_must (refine wpList_append_lies _ rfl _ _ 192 rfl w.heap.size 196 i0 _ 2 16 Tryz.underlying192 hi aE hz1 bx rfl (by decide) (.slice A4 i c4) i (prC all) rfl kc.out ⟨w6.heap.size,0,none⟩ 1 1 [.int .i64 (i:Int),.int .i64 1] rfl rfl fe.out (by simp[Value.oneCell']) (by decide) fP.out gM.out kP.out _ rfl ?_;intro g7 c7 w7 aW cH dk kZ;have cY:=hid (DW (u':= .slice (some ⟨g7,0,none⟩) (i+1) c7) cE.out.1 ri.out (fun g h1 h2=>cE.out.2.1 g h2 h1) ((Ext.refl w6).alloc _) jR cH dk rfl);have rV:Hid (CI w.heap.size w7 (.slice (some ⟨g7,0,none⟩) (i+1) c7) (i+1) (all++[(i,1)])):=hid (by unfold CI;rw[Cr,D3];exact aW);clear aW cH dk));go_wp2_with fail;go_roundw
         case rel=>exact⟨i+1,_,_,by omega,by go_num,HI.out.next dd.out ib.out rV.out cY.out.1 kg.out cY.out.2.1 ((HX.out.trans bu.out).more (cE.out.2.2.trans cY.out.2.2)) (by have:=fv.out;exact this)⟩
         case measure=>simp[intOf];omega
      ·have b9:=hid (aA.out (Hq aD (fun h=>hb2 h.2)));rw[aD]at aO;clear aD aA;go_wp2_with fail;refine(aO.out _).mono ?_
       rintro e w2 ⟨rfl,rfl⟩;go_wp2_with fail;refine(co.out _ (lw.out.ext be.out)).mono ?_
       rintro e w3 ⟨rfl,ab⟩;have q0:=(dp.out.ext ab).five;have jJ:=(dp.out.ext ab).lt;have gf:wr.heap.size<w3.heap.size+1:=by omega
       have ge:wr.heap.size<w3.heap.size+1+1:=by omega
       have gc:wr.heap.size<w3.heap.size+1+1+1:=by omega
       have ay:=hid (be.out.trans ab);clear ab;go_wp2_with fail;go_ret2;exact⟨_,by rw[b9.out];rfl,HX.out.trans (ay.out.trans ((((Ext.refl w3).alloc _).alloc _))),by rw[b9.out,iT.out];exact eE.out.ext (ay.out.trans ((((Ext.refl w3).alloc _).alloc _)))⟩
     ·have b9:=hid (aA.out (Hq aD (fun h=>ha h.1)));rw[aD]at aO;clear aD aA;go_wp2_with fail;refine(aO.out _).mono ?_
      rintro e w2 ⟨rfl,rfl⟩;go_wp2_with fail;refine(co.out _ (lw.out.ext be.out)).mono ?_
      rintro e w3 ⟨rfl,ab⟩;have q0:=(dp.out.ext ab).five;have jJ:=(dp.out.ext ab).lt;have gf:wr.heap.size<w3.heap.size+1:=by omega
      have ge:wr.heap.size<w3.heap.size+1+1:=by omega
      have gc:wr.heap.size<w3.heap.size+1+1+1:=by omega
      have ay:=hid (be.out.trans ab);clear ab;go_wp2_with fail;go_ret2;exact⟨_,by rw[b9.out];rfl,HX.out.trans (ay.out.trans ((((Ext.refl w3).alloc _).alloc _))),by rw[b9.out,iT.out];exact eE.out.ext (ay.out.trans ((((Ext.refl w3).alloc _).alloc _)))⟩
   ·by_cases hmf:ms<1
    ·obtain rfl:ms=0:=by omega
     have b9:=hid (aA.out (IN (by rw[aD,<-jB.out];decide)));rw[aD]at aO;clear aD hp aA;go_wp2_with fail;refine(aO.out _).mono ?_
     rintro e w2 ⟨rfl,rfl⟩;go_wp2_with fail;go_ret2;exact⟨_,by rw[b9.out];rfl,HX.out.trans be.out,by rw[b9.out,iT.out];exact eE.out.ext be.out⟩
    ·have iD:1<=ms:=by omega
     have XD:0<ms:=by omega
     have xx:¬(ms:Int)<1:=by omega
     cases hpb:p
     ·rw[hpb]at hp co;have b9:=hid (aA.out (EE hp.symm));rw[aD]at aO;clear aD hp aA hpb;go_wp2_with fail;refine(aO.out _).mono ?_
      rintro e w2 ⟨rfl,rfl⟩;go_wp2_with fail;refine(co.out _ (lw.out.ext be.out)).mono ?_
      rintro e w3 ⟨rfl,ab⟩;have q0:=(dp.out.ext ab).five;have jJ:=(dp.out.ext ab).lt;have gf:wr.heap.size<w3.heap.size+1:=by omega
      have ge:wr.heap.size<w3.heap.size+1+1:=by omega
      have gc:wr.heap.size<w3.heap.size+1+1+1:=by omega
      have ay:=hid (be.out.trans ab);clear ab;go_wp2_with fail;go_ret2;exact⟨_,by rw[b9.out];rfl,HX.out.trans ay.out,by rw[b9.out,iT.out];exact eE.out.ext ay.out⟩
     ·rw[hpb]at hp co;have eF:=hid hp.symm;clear hpb hp;obtain⟨g5,d5,he5,qN,qu⟩:=dL.out.form (by omega);injection he5 with he5 hx5 hy5
      subst he5;clear hx5 hy5;obtain⟨z1,fY⟩:∃z1:Int,z1=(ms:Int)-1:=⟨_,rfl⟩;have ou:z1.toNat=ms-1:=by omega
      have wN:IntKind.i64.wrap ((ms:Int)-1)=z1:=by rw[IntWalk.i64_in _ (by omega),fY]
      have wJ:(0:Int)<=z1:=by omega
      have wI:z1<(ms:Int):=by omega
      obtain⟨f1,dY⟩:∃f1,f1=(st.getD (ms-1) (0,0)).1:=⟨_,rfl⟩;obtain⟨d1,dE⟩:∃d1,d1=(st.getD (ms-1) (0,0)).2:=⟨_,rfl⟩;have qr:=m9.out (ms-1) (by omega);rw[<-dY,<-dE]at qr;have ko:Hid (∀W,CI w.heap.size W (.slice (some ⟨g5,0,none⟩) ms c5) ms st->W.cell? ⟨g5,z1.toNat*2,none⟩=some (.int .i64 (f1:Int))/\W.cell? ⟨g5,z1.toNat*2+1,none⟩=some (.int .i64 (d1:Int))):=hid (fun W h=>by rw[ou,dY,dE];exact h.get (ms-1) (by omega));have oN:=hid dY;have iV:=hid dE;obtain⟨zi,nz⟩:∃zi:Int,zi=(i:Int)-1:=⟨_,rfl⟩;have wM:IntKind.i64.wrap ((i:Int)-1)=zi:=by rw[IntWalk.i64_in _ (by omega),nz]
      have q7:=hid nz;have p7:IntKind.i64.wrap ((d1:Int)+1)=((d1+1:Nat):Int):=by rw[IntWalk.i64_in _ (by omega)];omega
      obtain⟨e1,he1⟩:∃e1,e1=d1+1:=⟨_,rfl⟩;rw[<-he1]at p7;have km:=hid he1;have q8:=hid fY;clear dY dE nz he1 fY ou;by_cases ha:na=zi
      ·subst ha;by_cases hb2:nb=0
       ·subst hb2;have iL:Hid (AP i st ⟨kd,na,0,nn,nt⟩=some ((f1,e1),st.take (ms-1)++[(f1,e1)])):=hid (by
         have h:=Q8 (i:=i) (st:=st) (n:=nn) (t:=nt) aD (by rw[<-q7.out];exact eF.out) (by rw[<-jB.out];omega);rw[<-q7.out,<-jB.out,<-oN.out,<-iV.out,<-km.out]at h;exact h)
        have fv:Hid (f1<=i+1/\e1<=i+1):=hid ⟨by omega,by rw[km.out];omega⟩;have X1:e1<=1000002:=by rw[km.out];omega
        rw[aD]at aO;clear aD aA;go_wp2_with fail;refine(aO.out _).mono ?_
        rintro e w2 ⟨rfl,rfl⟩;go_wp2_with fail;refine(co.out _ (lw.out.ext be.out)).mono ?_
        rintro e w3 ⟨rfl,ab⟩;have q0:=(dp.out.ext ab).five;have jJ:=(dp.out.ext ab).lt;have gf:wr.heap.size<w3.heap.size+1:=by omega
        have ge:wr.heap.size<w3.heap.size+1+1:=by omega
        have gc:wr.heap.size<w3.heap.size+1+1+1:=by omega
        have ay:=hid (be.out.trans ab);clear ab;have mn:=(Bv (dL.out.ext ay.out) g5 rfl).2;have mq:g5<w3.heap.size+1:=by omega
        have mp:g5<w3.heap.size+1+1:=by omega
        have mo:g5<w3.heap.size+1+1+1:=by omega
        obtain⟨uF,uE⟩:=ko.out w3 (dL.out.ext ay.out);go_upto_region 20 with fail;have sp:ms<=c5:=by
         rcases dL.out.2 with ⟨he,h0⟩|⟨YB,uD,uB,he,_,_,sp,_⟩
         ·cases he
         ·injection he with he1 he2 he3;rw[he3];exact sp
        obtain⟨w4,hw4⟩:∃w4,w4=((w3.alloc (.cells #[.int .i64 (f1:Int),.int .i64 (e1:Int)] 196)).alloc (.cells #[.int .i64 kd,.int .i64 na,.int .i64 0,.int .i64 nn,.string s] 95)).alloc (.cells #[.int .i64 (f1:Int),.int .i64 (d1:Int)] 196):=⟨_,rfl⟩;rw[<-hw4];have fZ:Ext w3 w4:=by rw[hw4];exact((((Ext.refl w3).alloc _).alloc _).alloc _)
        have gR:Blk w4 w3.heap.size 196 #[.int .i64 (f1:Int),.int .i64 (e1:Int)]:=by rw[hw4];exact(((Blk.new w3 _ _).alloc _).alloc _)
        have bu:=hid (ay.out.trans fZ);have nl:=hid gR;obtain⟨p0,p1⟩:=gR.two';obtain⟨mk,cS⟩:∃mk,mk=ms-1:=⟨_,rfl⟩;have sM:z1<=(c5:Int):=by have:=q8.out;omega
        have lU:z1.toNat=mk:=by have:=q8.out;omega
        have eR:w.heap.size<=w4.heap.size:=Nat.le_trans HX.out.size bu.out.size;have dQ:=hid (Dx (m:=mk) (dL.out.ext bu.out) (by omega));have oT:=hid (eE.out.ext bu.out);have jV:=gR.lt;have qF:wr.heap.size<=w3.heap.size:=ay.out.size;have kg:Hid (mk<=st.length):=hid (by rw[<-jB.out];omega);have ib:Hid (AP i st ⟨kd,na,0,nn,nt⟩=some ((f1,e1),st.take mk++[(f1,e1)])):=hid (by rw[cS];exact iL.out);have dA:Hid ((w4.alloc (.cells #[.int .i64 (f1:Int),.int .i64 (e1:Int)] 196)).drew.ownsRow w.heap.size 196 2 (.slice (some ⟨g5,0,none⟩) mk c5) mk ((prC st).take (mk*2))):=hid (Af dQ.out (fun k _ hk=>Below.heap_alloc w4 _ k hk));have cZ:Hid (∀(j:Nat) (u:Value),[Value.int .i64 (f1:Int),Value.int .i64 (e1:Int)][j]? =some u->(w4.alloc (.cells #[.int .i64 (f1:Int),.int .i64 (e1:Int)] 196)).drew.cell? ((⟨w4.heap.size,0,none⟩:Addr).add j)=some u):=hid (BV w4 196 [.int .i64 (f1:Int),.int .i64 (e1:Int)]);have ag:Hid (mk+1<=maxLen):=hid (by unfold maxLen;omega);have aY:Hid ((mk+1)*16<=140737488355328):=hid (by omega);have aZ:Hid (w.heap.size<=(w4.alloc (.cells #[.int .i64 (f1:Int),.int .i64 (e1:Int)] 196)).drew.heap.size):=hid (by simp;omega);clear hw4 gR fZ cS q0
        go_region_law (refine step_append_lies _ rfl (.tmp 96) (.tmp 98) 192 rfl w.heap.size 196 i0 _ 2 16 Tryz.underlying192 hi aE hz1 bx rfl (by decide) _ mk ((prC st).take (mk*2)) rfl dA.out ⟨w4.heap.size,0,none⟩ 1 1 [.int .i64 (f1:Int),.int .i64 (e1:Int)] rfl rfl cZ.out (by simp[Value.oneCell']) (by decide) ag.out aY.out aZ.out _ rfl ?_;intro g6 c6 w6 bd cj cA fD;have fJ:=hid bd;have gJ:=hid cj;have kp:=hid cA;clear bd cj cA)
        all_goals
         have ar:Hid (Ext w4 (w4.alloc (.cells #[.int .i64 (f1:Int),.int .i64 (e1:Int)] 196)).drew):=hid ((Ext.refl w4).alloc _).drew;have cE:=hid (DW (u':= .slice (some ⟨g6,0,none⟩) (mk+1) c6) dQ.out oT.out (fun g h1 h2=>HI.out.apart g h2 h1) ar.out eR gJ.out kp.out rfl);have gB:Blk w6 w3.heap.size 196 #[.int .i64 (f1:Int),.int .i64 (e1:Int)]:=(gJ.out.block w3.heap.size (Nat.lt_of_lt_of_le jV ar.out.size) (by intro he;have he2:w3.heap.size=g5:=Option.some.inj he;have:=(Bv dL.out g5 rfl).2;omega)).trans (nl.out.ext ar.out);obtain⟨y0,y1⟩:=gB.two';have ri:Hid (CI w.heap.size w6 (.slice (some ⟨g6,0,none⟩) (mk+1) c6) (mk+1) (st.take mk++[(f1,e1)])):=hid (by unfold CI;rw[Cr,D3,<-Gb];exact fJ.out);have kc:Hid ((w6.alloc (.cells #[.int .i64 (f1:Int),.int .i64 (e1:Int)] 196)).ownsRow w.heap.size 196 2 (.slice A4 i c4) i (prC all)):=hid (Af cE.out.1 (fun k _ hk=>Below.heap_alloc w6 _ k hk));have fe:=hid (BV w6 196 [.int .i64 (f1:Int),.int .i64 (e1:Int)]);have fP:Hid (i+1<=maxLen):=hid (by unfold maxLen;omega);have gM:Hid ((i+1)*16<=140737488355328):=hid (by omega);have jR:w.heap.size<=w6.heap.size:=Nat.le_trans eR cE.out.2.2.size;have kP:Hid (w.heap.size<=(w6.alloc (.cells #[.int .i64 (f1:Int),.int .i64 (e1:Int)] 196)).heap.size):=hid (by simp;omega);clear gB p0 p1;go_wp2_with (at_builtin;go_must (refine wpList_append_lies _ rfl _ _ 192 rfl w.heap.size 196 i0 _ 2 16 Tryz.underlying192 hi aE hz1 bx rfl (by decide) (.slice A4 i c4) i (prC all) rfl kc.out ⟨w6.heap.size,0,none⟩ 1 1 [.int .i64 (f1:Int),.int .i64 (e1:Int)] rfl rfl fe.out (by simp[Value.oneCell']) (by decide) fP.out gM.out kP.out _ rfl ?_;intro g7 c7 w7 aW cH dk kZ;have cY:=hid (DW (u':= .slice (some ⟨g7,0,none⟩) (i+1) c7) cE.out.1 ri.out (fun g h1 h2=>cE.out.2.1 g h2 h1) ((Ext.refl w6).alloc _) jR cH dk rfl);have rV:Hid (CI w.heap.size w7 (.slice (some ⟨g7,0,none⟩) (i+1) c7) (i+1) (all++[(f1,e1)])):=hid (by unfold CI;rw[Cr,D3];exact aW);clear aW cH dk));go_wp2_with fail;go_roundw
         case rel=>exact⟨i+1,_,_,by omega,by go_num,HI.out.next dd.out ib.out rV.out cY.out.1 kg.out cY.out.2.1 ((HX.out.trans bu.out).more (cE.out.2.2.trans cY.out.2.2)) (by have:=fv.out;exact this)⟩
         case measure=>simp[intOf];omega
       ·have b9:=hid (aA.out (Hp aD (fun h=>hb2 h.2)));rw[aD]at aO;clear aD aA;go_wp2_with fail;refine(aO.out _).mono ?_
        rintro e w2 ⟨rfl,rfl⟩;go_wp2_with fail;refine(co.out _ (lw.out.ext be.out)).mono ?_
        rintro e w3 ⟨rfl,ab⟩;have q0:=(dp.out.ext ab).five;have jJ:=(dp.out.ext ab).lt;have gf:wr.heap.size<w3.heap.size+1:=by omega
        have ge:wr.heap.size<w3.heap.size+1+1:=by omega
        have gc:wr.heap.size<w3.heap.size+1+1+1:=by omega
        have ay:=hid (be.out.trans ab);clear ab;have mn:=(Bv (dL.out.ext ay.out) g5 rfl).2;have mq:g5<w3.heap.size+1:=by omega
        have mp:g5<w3.heap.size+1+1:=by omega
        have mo:g5<w3.heap.size+1+1+1:=by omega
        obtain⟨uF,uE⟩:=ko.out w3 (dL.out.ext ay.out);go_wp2_with fail;go_ret2;exact⟨_,by rw[b9.out];rfl,HX.out.trans (ay.out.trans (((((Ext.refl w3).alloc _).alloc _).alloc _))),by rw[b9.out,iT.out];exact eE.out.ext (ay.out.trans (((((Ext.refl w3).alloc _).alloc _).alloc _)))⟩
      ·have b9:=hid (aA.out (Hp aD (fun h=>ha (h.1.trans q7.out.symm))));rw[aD]at aO;clear aD aA;go_wp2_with fail;refine(aO.out _).mono ?_
       rintro e w2 ⟨rfl,rfl⟩;go_wp2_with fail;refine(co.out _ (lw.out.ext be.out)).mono ?_
       rintro e w3 ⟨rfl,ab⟩;have q0:=(dp.out.ext ab).five;have jJ:=(dp.out.ext ab).lt;have gf:wr.heap.size<w3.heap.size+1:=by omega
       have ge:wr.heap.size<w3.heap.size+1+1:=by omega
       have gc:wr.heap.size<w3.heap.size+1+1+1:=by omega
       have ay:=hid (be.out.trans ab);clear ab;have mn:=(Bv (dL.out.ext ay.out) g5 rfl).2;have mq:g5<w3.heap.size+1:=by omega
       have mp:g5<w3.heap.size+1+1:=by omega
       have mo:g5<w3.heap.size+1+1+1:=by omega
       obtain⟨uF,uE⟩:=ko.out w3 (dL.out.ext ay.out);go_wp2_with fail;go_ret2;exact⟨_,by rw[b9.out];rfl,HX.out.trans (ay.out.trans (((((Ext.refl w3).alloc _).alloc _).alloc _))),by rw[b9.out,iT.out];exact eE.out.ext (ay.out.trans (((((Ext.refl w3).alloc _).alloc _).alloc _)))⟩
   ·by_cases hmf:ms<2
    ·have Z6:decide (ms<2)=true:=decide_eq_true hmf;have b9:=hid (aA.out (IN (by rw[aD,<-jB.out];omega)));have XY:((ms:Int)<2):=by omega
     rw[aD]at aO;clear aD hp aA;go_wp2_with fail;refine(aO.out _).mono ?_
     rintro e w2 ⟨rfl,rfl⟩;go_wp2_with fail;go_ret2;exact⟨_,by rw[b9.out];rfl,HX.out.trans be.out,by rw[b9.out,iT.out];exact eE.out.ext be.out⟩
    ·have iD:2<=ms:=by omega
     have XC:decide (ms<2)=false:=decide_eq_false hmf;have xx:¬(ms:Int)<2:=by omega
     cases hpb:p
     ·rw[hpb]at hp co;have b9:=hid (aA.out (EE hp.symm));rw[aD]at aO;clear aD hp aA hpb;go_wp2_with fail;refine(aO.out _).mono ?_
      rintro e w2 ⟨rfl,rfl⟩;go_wp2_with fail;refine(co.out _ (lw.out.ext be.out)).mono ?_
      rintro e w3 ⟨rfl,ab⟩;have q0:=(dp.out.ext ab).five;have jJ:=(dp.out.ext ab).lt;have gf:wr.heap.size<w3.heap.size+1:=by omega
      have ge:wr.heap.size<w3.heap.size+1+1:=by omega
      have gc:wr.heap.size<w3.heap.size+1+1+1:=by omega
      have ay:=hid (be.out.trans ab);clear ab;go_wp2_with fail;go_ret2;exact⟨_,by rw[b9.out];rfl,HX.out.trans ay.out,by rw[b9.out,iT.out];exact eE.out.ext ay.out⟩
     ·rw[hpb]at hp co;have eF:=hid hp.symm;clear hpb hp;obtain⟨g5,d5,he5,qN,qu⟩:=dL.out.form (by omega);injection he5 with he5 hx5 hy5
      subst he5;clear hx5 hy5;obtain⟨z1,fY⟩:∃z1:Int,z1=(ms:Int)-1:=⟨_,rfl⟩;have ou:z1.toNat=ms-1:=by omega
      have wN:IntKind.i64.wrap ((ms:Int)-1)=z1:=by rw[IntWalk.i64_in _ (by omega),fY]
      have wJ:(0:Int)<=z1:=by omega
      have wI:z1<(ms:Int):=by omega
      obtain⟨f1,dY⟩:∃f1,f1=(st.getD (ms-1) (0,0)).1:=⟨_,rfl⟩;obtain⟨d1,dE⟩:∃d1,d1=(st.getD (ms-1) (0,0)).2:=⟨_,rfl⟩;have qr:=m9.out (ms-1) (by omega);rw[<-dY,<-dE]at qr;have ko:Hid (∀W,CI w.heap.size W (.slice (some ⟨g5,0,none⟩) ms c5) ms st->W.cell? ⟨g5,z1.toNat*2,none⟩=some (.int .i64 (f1:Int))/\W.cell? ⟨g5,z1.toNat*2+1,none⟩=some (.int .i64 (d1:Int))):=hid (fun W h=>by rw[ou,dY,dE];exact h.get (ms-1) (by omega));have oN:=hid dY;have iV:=hid dE;obtain⟨zi,nz⟩:∃zi:Int,zi=(i:Int)-1:=⟨_,rfl⟩;have wM:IntKind.i64.wrap ((i:Int)-1)=zi:=by rw[IntWalk.i64_in _ (by omega),nz]
      have q7:=hid nz;have p7:IntKind.i64.wrap ((d1:Int)+1)=((d1+1:Nat):Int):=by rw[IntWalk.i64_in _ (by omega)];omega
      obtain⟨e1,he1⟩:∃e1,e1=d1+1:=⟨_,rfl⟩;rw[<-he1]at p7;have km:=hid he1;have q8:=hid fY;clear dY dE nz he1 fY ou;obtain⟨z2,lV⟩:∃z2:Int,z2=(ms:Int)-2:=⟨_,rfl⟩;have pe:z2.toNat=ms-2:=by omega
      have WX:IntKind.i64.wrap ((ms:Int)-2)=z2:=by rw[IntWalk.i64_in _ (by omega),lV]
      have WP:(0:Int)<=z2:=by omega
      have WO:z2<(ms:Int):=by omega
      obtain⟨f2,ph⟩:∃f2,f2=(st.getD (ms-2) (0,0)).1:=⟨_,rfl⟩;obtain⟨d2,ed⟩:∃d2,d2=(st.getD (ms-2) (0,0)).2:=⟨_,rfl⟩;have qq:=m9.out (ms-2) (by omega);rw[<-ph,<-ed]at qq;have rQ:Hid (∀W,CI w.heap.size W (.slice (some ⟨g5,0,none⟩) ms c5) ms st->W.cell? ⟨g5,z2.toNat*2,none⟩=some (.int .i64 (f2:Int))/\W.cell? ⟨g5,z2.toNat*2+1,none⟩=some (.int .i64 (d2:Int))):=hid (fun W h=>by rw[pe,ph,ed];exact h.get (ms-2) (by omega));have Zx:=hid ph;have lP:=hid ed;have wQ:IntKind.i64.wrap ((d2:Int)+1)=((d2+1:Nat):Int):=by rw[IntWalk.i64_in _ (by omega)];omega
      obtain⟨e2,he2⟩:∃e2,e2=d2+1:=⟨_,rfl⟩;rw[<-he2]at wQ;have eV:=hid he2;obtain⟨mx,tJ⟩:∃mx,mx=max e1 e2:=⟨_,rfl⟩;have ek:max (e1:Int) (e2:Int)=(mx:Int):=by omega
      have zw:=hid tJ;obtain⟨zf,wG⟩:∃zf:Int,zf=(f1:Int)-1:=⟨_,rfl⟩;have WW:IntKind.i64.wrap ((f1:Int)-1)=zf:=by rw[IntWalk.i64_in _ (by omega),wG]
      have yI:=hid wG;have uH:=hid lV;clear ph ed he2 lV pe tJ wG;by_cases ha:na=zf
      ·subst ha;by_cases hb2:nb=zi
       ·subst hb2;have iL:Hid (AP i st ⟨kd,na,nb,nn,nt⟩=some ((f2,mx),st.take (ms-2)++[(f2,mx)])):=hid (by
         have h:=Q7 (i:=i) (st:=st) (n:=nn) (t:=nt) aD (by rw[<-jB.out,<-oN.out,<-yI.out,<-q7.out];exact eF.out) (by rw[<-jB.out];omega);rw[<-jB.out,<-oN.out,<-yI.out,<-q7.out,<-Zx.out,<-iV.out,<-lP.out,<-km.out,<-eV.out,<-zw.out]at h;exact h)
        have fv:Hid (f2<=i+1/\mx<=i+1):=hid ⟨by omega,by rw[zw.out,km.out,eV.out];omega⟩;have Xv:mx<=1000002:=by rw[zw.out,km.out,eV.out];omega
        rw[aD]at aO;clear aD aA;go_wp2_with fail;refine(aO.out _).mono ?_
        rintro e w2 ⟨rfl,rfl⟩;go_wp2_with fail;refine(co.out _ (lw.out.ext be.out)).mono ?_
        rintro e w3 ⟨rfl,ab⟩;have q0:=(dp.out.ext ab).five;have jJ:=(dp.out.ext ab).lt;have gf:wr.heap.size<w3.heap.size+1:=by omega
        have ge:wr.heap.size<w3.heap.size+1+1:=by omega
        have gc:wr.heap.size<w3.heap.size+1+1+1:=by omega
        have ay:=hid (be.out.trans ab);clear ab;have mn:=(Bv (dL.out.ext ay.out) g5 rfl).2;have mq:g5<w3.heap.size+1:=by omega
        have mp:g5<w3.heap.size+1+1:=by omega
        have mo:g5<w3.heap.size+1+1+1:=by omega
        obtain⟨uF,uE⟩:=ko.out w3 (dL.out.ext ay.out);obtain⟨VS,VR⟩:=rQ.out w3 (dL.out.ext ay.out);go_upto_region 20 with fail;have sp:ms<=c5:=by
         rcases dL.out.2 with ⟨he,h0⟩|⟨YB,uD,uB,he,_,_,sp,_⟩
         ·cases he
         ·injection he with he1 he2 he3;rw[he3];exact sp
        obtain⟨w4,hw4⟩:∃w4,w4=(((w3.alloc (.cells #[.int .i64 (f2:Int),.int .i64 (mx:Int)] 196)).alloc (.cells #[.int .i64 kd,.int .i64 na,.int .i64 nb,.int .i64 nn,.string s] 95)).alloc (.cells #[.int .i64 (f1:Int),.int .i64 (d1:Int)] 196)).alloc (.cells #[.int .i64 (f2:Int),.int .i64 (d2:Int)] 196):=⟨_,rfl⟩;rw[<-hw4];have fZ:Ext w3 w4:=by rw[hw4];exact(((((Ext.refl w3).alloc _).alloc _).alloc _).alloc _)
        have gR:Blk w4 w3.heap.size 196 #[.int .i64 (f2:Int),.int .i64 (mx:Int)]:=by rw[hw4];exact((((Blk.new w3 _ _).alloc _).alloc _).alloc _)
        have bu:=hid (ay.out.trans fZ);have nl:=hid gR;obtain⟨p0,p1⟩:=gR.two';obtain⟨mk,cS⟩:∃mk,mk=ms-2:=⟨_,rfl⟩;have sM:z2<=(c5:Int):=by have:=uH.out;omega
        have lU:z2.toNat=mk:=by have:=uH.out;omega
        have eR:w.heap.size<=w4.heap.size:=Nat.le_trans HX.out.size bu.out.size;have dQ:=hid (Dx (m:=mk) (dL.out.ext bu.out) (by omega));have oT:=hid (eE.out.ext bu.out);have jV:=gR.lt;have qF:wr.heap.size<=w3.heap.size:=ay.out.size;have kg:Hid (mk<=st.length):=hid (by rw[<-jB.out];omega);have ib:Hid (AP i st ⟨kd,na,nb,nn,nt⟩=some ((f2,mx),st.take mk++[(f2,mx)])):=hid (by rw[cS];exact iL.out);have dA:Hid ((w4.alloc (.cells #[.int .i64 (f2:Int),.int .i64 (mx:Int)] 196)).drew.ownsRow w.heap.size 196 2 (.slice (some ⟨g5,0,none⟩) mk c5) mk ((prC st).take (mk*2))):=hid (Af dQ.out (fun k _ hk=>Below.heap_alloc w4 _ k hk));have cZ:Hid (∀(j:Nat) (u:Value),[Value.int .i64 (f2:Int),Value.int .i64 (mx:Int)][j]? =some u->(w4.alloc (.cells #[.int .i64 (f2:Int),.int .i64 (mx:Int)] 196)).drew.cell? ((⟨w4.heap.size,0,none⟩:Addr).add j)=some u):=hid (BV w4 196 [.int .i64 (f2:Int),.int .i64 (mx:Int)]);have ag:Hid (mk+1<=maxLen):=hid (by unfold maxLen;omega);have aY:Hid ((mk+1)*16<=140737488355328):=hid (by omega);have aZ:Hid (w.heap.size<=(w4.alloc (.cells #[.int .i64 (f2:Int),.int .i64 (mx:Int)] 196)).drew.heap.size):=hid (by simp;omega);clear hw4 gR fZ cS q0
        go_region_law (refine step_append_lies _ rfl (.tmp 96) (.tmp 98) 192 rfl w.heap.size 196 i0 _ 2 16 Tryz.underlying192 hi aE hz1 bx rfl (by decide) _ mk ((prC st).take (mk*2)) rfl dA.out ⟨w4.heap.size,0,none⟩ 1 1 [.int .i64 (f2:Int),.int .i64 (mx:Int)] rfl rfl cZ.out (by simp[Value.oneCell']) (by decide) ag.out aY.out aZ.out _ rfl ?_;intro g6 c6 w6 bd cj cA fD;have fJ:=hid bd;have gJ:=hid cj;have kp:=hid cA;clear bd cj cA)
        all_goals
         have ar:Hid (Ext w4 (w4.alloc (.cells #[.int .i64 (f2:Int),.int .i64 (mx:Int)] 196)).drew):=hid ((Ext.refl w4).alloc _).drew;have cE:=hid (DW (u':= .slice (some ⟨g6,0,none⟩) (mk+1) c6) dQ.out oT.out (fun g h1 h2=>HI.out.apart g h2 h1) ar.out eR gJ.out kp.out rfl);have gB:Blk w6 w3.heap.size 196 #[.int .i64 (f2:Int),.int .i64 (mx:Int)]:=(gJ.out.block w3.heap.size (Nat.lt_of_lt_of_le jV ar.out.size) (by intro he;have he2:w3.heap.size=g5:=Option.some.inj he;have:=(Bv dL.out g5 rfl).2;omega)).trans (nl.out.ext ar.out);obtain⟨y0,y1⟩:=gB.two';have ri:Hid (CI w.heap.size w6 (.slice (some ⟨g6,0,none⟩) (mk+1) c6) (mk+1) (st.take mk++[(f2,mx)])):=hid (by unfold CI;rw[Cr,D3,<-Gb];exact fJ.out);have kc:Hid ((w6.alloc (.cells #[.int .i64 (f2:Int),.int .i64 (mx:Int)] 196)).ownsRow w.heap.size 196 2 (.slice A4 i c4) i (prC all)):=hid (Af cE.out.1 (fun k _ hk=>Below.heap_alloc w6 _ k hk));have fe:=hid (BV w6 196 [.int .i64 (f2:Int),.int .i64 (mx:Int)]);have fP:Hid (i+1<=maxLen):=hid (by unfold maxLen;omega);have gM:Hid ((i+1)*16<=140737488355328):=hid (by omega);have jR:w.heap.size<=w6.heap.size:=Nat.le_trans eR cE.out.2.2.size;have kP:Hid (w.heap.size<=(w6.alloc (.cells #[.int .i64 (f2:Int),.int .i64 (mx:Int)] 196)).heap.size):=hid (by simp;omega);clear gB p0 p1;go_wp2_with (at_builtin;go_must (refine wpList_append_lies _ rfl _ _ 192 rfl w.heap.size 196 i0 _ 2 16 Tryz.underlying192 hi aE hz1 bx rfl (by decide) (.slice A4 i c4) i (prC all) rfl kc.out ⟨w6.heap.size,0,none⟩ 1 1 [.int .i64 (f2:Int),.int .i64 (mx:Int)] rfl rfl fe.out (by simp[Value.oneCell']) (by decide) fP.out gM.out kP.out _ rfl ?_;intro g7 c7 w7 aW cH dk kZ;have cY:=hid (DW (u':= .slice (some ⟨g7,0,none⟩) (i+1) c7) cE.out.1 ri.out (fun g h1 h2=>cE.out.2.1 g h2 h1) ((Ext.refl w6).alloc _) jR cH dk rfl);have rV:Hid (CI w.heap.size w7 (.slice (some ⟨g7,0,none⟩) (i+1) c7) (i+1) (all++[(f2,mx)])):=hid (by unfold CI;rw[Cr,D3];exact aW);clear aW cH dk));go_wp2_with fail;go_roundw
         case rel=>exact⟨i+1,_,_,by omega,by go_num,HI.out.next dd.out ib.out rV.out cY.out.1 kg.out cY.out.2.1 ((HX.out.trans bu.out).more (cE.out.2.2.trans cY.out.2.2)) (by have:=fv.out;exact this)⟩
         case measure=>simp[intOf];omega
       ·have b9:=hid (aA.out (Ho aD (fun h=>hb2 (h.2.trans q7.out.symm))));rw[aD]at aO;clear aD aA;go_wp2_with fail;refine(aO.out _).mono ?_
        rintro e w2 ⟨rfl,rfl⟩;go_wp2_with fail;refine(co.out _ (lw.out.ext be.out)).mono ?_
        rintro e w3 ⟨rfl,ab⟩;have q0:=(dp.out.ext ab).five;have jJ:=(dp.out.ext ab).lt;have gf:wr.heap.size<w3.heap.size+1:=by omega
        have ge:wr.heap.size<w3.heap.size+1+1:=by omega
        have gc:wr.heap.size<w3.heap.size+1+1+1:=by omega
        have ay:=hid (be.out.trans ab);clear ab;have mn:=(Bv (dL.out.ext ay.out) g5 rfl).2;have mq:g5<w3.heap.size+1:=by omega
        have mp:g5<w3.heap.size+1+1:=by omega
        have mo:g5<w3.heap.size+1+1+1:=by omega
        obtain⟨uF,uE⟩:=ko.out w3 (dL.out.ext ay.out);obtain⟨VS,VR⟩:=rQ.out w3 (dL.out.ext ay.out);go_wp2_with fail;go_ret2;exact⟨_,by rw[b9.out];rfl,HX.out.trans (ay.out.trans ((((((Ext.refl w3).alloc _).alloc _).alloc _).alloc _))),by rw[b9.out,iT.out];exact eE.out.ext (ay.out.trans ((((((Ext.refl w3).alloc _).alloc _).alloc _).alloc _)))⟩
      ·have b9:=hid (aA.out (Ho aD (fun h=>ha (h.1.trans (by rw[<-jB.out,<-oN.out];exact yI.out.symm)))));rw[aD]at aO;clear aD aA;go_wp2_with fail;refine(aO.out _).mono ?_
       rintro e w2 ⟨rfl,rfl⟩;go_wp2_with fail;refine(co.out _ (lw.out.ext be.out)).mono ?_
       rintro e w3 ⟨rfl,ab⟩;have q0:=(dp.out.ext ab).five;have jJ:=(dp.out.ext ab).lt;have gf:wr.heap.size<w3.heap.size+1:=by omega
       have ge:wr.heap.size<w3.heap.size+1+1:=by omega
       have gc:wr.heap.size<w3.heap.size+1+1+1:=by omega
       have ay:=hid (be.out.trans ab);clear ab;have mn:=(Bv (dL.out.ext ay.out) g5 rfl).2;have mq:g5<w3.heap.size+1:=by omega
       have mp:g5<w3.heap.size+1+1:=by omega
       have mo:g5<w3.heap.size+1+1+1:=by omega
       obtain⟨uF,uE⟩:=ko.out w3 (dL.out.ext ay.out);obtain⟨VS,VR⟩:=rQ.out w3 (dL.out.ext ay.out);go_wp2_with fail;go_ret2;exact⟨_,by rw[b9.out];rfl,HX.out.trans (ay.out.trans ((((((Ext.refl w3).alloc _).alloc _).alloc _).alloc _))),by rw[b9.out,iT.out];exact eE.out.ext (ay.out.trans ((((((Ext.refl w3).alloc _).alloc _).alloc _).alloc _)))⟩
  ·obtain rfl:i=n:=by omega
   have nE:=aX.go;rw[List.drop_eq_nil_of_le (by rw[<-HN.out];exact Nat.le_refl _),FR,<-jB.out]at nE;have eN:=hid nE;have HX:=hid aX.ext;have eE:=hid aX.ra;have iT:=hid aX.ra.len;clear aX nE;go_wp2_with fail;go_ret2;exact⟨_,by rw[eN.out];rfl,HX.out,by rw[eN.out,iT.out];exact eE.out⟩
theorem Ra(l:List Nd):∀(i:Nat) (all st:List (Nat × Nat)),(FR i all st l).2≠0->(FR i all st l).1.length=all.length+l.length:=by
 induction l with
 |nil=>intro i all st _;rfl
 |cons x t ih=>
  intro i all st h;rw[FR]at h ⊢;cases hs:AP i st x with
  |none=>rw[hs]at h;exact absurd rfl h
  |some q=>
   obtain⟨p,st'⟩:=q;rw[hs]at h;simp only at h ⊢;rw[ih _ _ _ h,List.length_append,List.length_cons];simp;omega
theorem IL(w:World)(v:Value)(l:List Nd)(hr:RNd w v l)(hl:l.length<=1000000)(l7:∀x∈l,x.text.length<=1073741824)(hm:BW w):Calls Tryz.prog 68 #[v] w fun e w'=>e= .returned (.bool (GG l))/\Ext w w':=by
 have HS:=hid (Px w v l hr hl l7 hm);have HV:Hid (GG l=(decide (1<=l.length/\l.length<=200) && (decide ((Dl l).2=1) && decide (((Dl l).1.getD (l.length-1) (0,0)).2<=40)))):=hid rfl;have co:Hid ((Dl l).2≠0->(Dl l).1.length=l.length):=hid (fun h=>by have:=Ra l 0 [] [] h;rw[List.length_nil,Nat.zero_add]at this;exact this);obtain⟨A,c,rfl,_⟩:=hr;generalize GG l=r at *;clear l7 hm;obtain⟨n,hn⟩:∃n,n=l.length:=⟨_,rfl⟩;rw[<-hn]at hl HV HS co ⊢;clear hn;by_cases h1:n<1
 ·obtain rfl:n=0:=by omega
  clear HS h1 co;go_enter Tryz.func68,Tryz.ntmps68;go_wp2_with fail;go_ret;exact⟨by rw[HV.out];rfl,Ext.refl w⟩
 ·have Yz:¬((n:Int)<1):=by omega
  by_cases h2:200<n
  ·have yA:(200:Int)<(n:Int):=by omega
   have hd:decide (1<=n/\n<=200)=false:=decide_eq_false (by omega);rw[hd]at HV;clear HS h1 h2 hd co;go_enter Tryz.func68,Tryz.ntmps68;go_wp2_with fail;go_ret;exact⟨by rw[HV.out];rfl,Ext.refl w⟩
  ·have yA:¬(200:Int)<(n:Int):=by omega
   have hd:decide (1<=n/\n<=200)=true:=decide_eq_true (by omega);rw[hd,Bool.true_and]at HV;have Yy:1<=n:=by omega
   clear h1 h2 hd;unfold Kp at HS;generalize (Dl l).2=yE at *;generalize (Dl l).1=all at *;go_enter Tryz.func68,Tryz.ntmps68;go_wp2_with fail;refine HS.out.mono ?_
   rintro e w1 ⟨v1,rfl,hx,a9⟩;have HX:=hid hx;have ip:=hid a9;obtain⟨A4,c4,rfl⟩:=Ap a9;clear hx a9;by_cases hc1:yE=1
   ·subst hc1;have hal:=co.out (by decide);obtain⟨g4,d4,fo,_,_⟩:=ip.out.form (by omega);injection fo with fo he5 he6
    subst fo;clear he5 he6;have sd:=ip.out;rw[hal]at sd;have aa:=(CI.get sd (n-1) (by omega)).2;obtain⟨y,hy⟩:∃y:Int,y=(n:Int)-1:=⟨_,rfl⟩;have hj:y.toNat=n-1:=by omega
    rw[<-hj]at aa HV;have hw:IntKind.i64.wrap ((n:Int)-1)=y:=by rw[IntWalk.i64_in _ (by omega),hy]
    have oe:(0:Int)<=y:=by omega
    have ii:y<(n:Int):=by omega
    have hdv:decide ((all.getD y.toNat (0,0)).2<=40)=decide (((all.getD y.toNat (0,0)).2:Int)<=40):=by rw[decide_eq_decide];omega
    have vi:Hid (r=decide (((all.getD y.toNat (0,0)).2:Int)<=40)):=hid (by rw[HV.out,<-hdv];rfl);generalize (all.getD y.toNat (0,0)).2=dv at *;rw[hal];clear sd hj hy hdv hal HV co;go_wp2_with fail;go_ret;exact⟨by rw[vi.out];rfl,HX.out⟩
   ·have oA:((yE:Int) == 1)=false:=by rw[beq_eq_false_iff_ne];omega
    have mS:Hid (r=false):=hid (by rw[HV.out,decide_eq_false hc1];rfl);generalize all.length=m at *;clear hc1 HV co;generalize (yE:Int)=cz at *;go_wp2_with fail;go_ret;exact⟨by rw[mS.out];rfl,HX.out⟩
theorem Ji(e:Ex)(hg:e.Well):∀off,∀x∈Ah off e,x.text.length<=1073741824:=by
 induction e with
 |leaf k t=>
  intro off x hx;rw[Ah,List.mem_singleton]at hx;subst hx;rcases hg with ⟨_,h⟩|⟨_,h⟩|⟨_,rfl⟩
  ·have:=Mp h;simp only;omega
  ·have:=F4 (Bool.and_eq_true_iff.1 h).1;simp only;omega
  ·simp
 |un k n x ih=>
  intro off y hy;rw[Ah,List.mem_append,List.mem_singleton]at hy;rcases hy with hy|rfl
  ·exact ih hg.2.2.2.2 off y hy
  ·simp
 |bin k x z ihx ihy=>
  intro off y hy;rw[Ah,List.mem_append,List.mem_append,List.mem_singleton]at hy;rcases hy with hy|hy|rfl
  ·exact ihx hg.2.1 _ y hy
  ·exact ihy hg.2.2 _ y hy
  ·simp
def Ea(s:List UInt8):Option Ex × Nat × Nat:=
 if (Bb s).2.2≠0 then (none,(Bb s).2.1,(Bb s).2.2)
 else if (AZ (Bb s).1 ((Bb s).1.length+1) 0).2<(Bb s).1.length then (none,((Bb s).1.getD (AZ (Bb s).1 ((Bb s).1.length+1) 0).2 ⟨0,0,[]⟩).at_,6)
 else match (AZ (Bb s).1 ((Bb s).1.length+1) 0).1 with
  |none=>(none,s.length,6)
  |some x=>if x.big=false/\x.size<=200/\x.depth<=40 then (some x,s.length,0) else (none,0,7)
def Tc:Option Ex->List Nd
 |none=>[]
 |some x=>Ah 0 x
def NY(w:World)(s:List UInt8)(e:Ending)(w':World):Prop:=
 ∃v,e= .returned (.tuple #[v,.int .i64 ((Ea s).2.1:Int),.int .i64 ((Ea s).2.2:Int)])/\Ext w w'/\RNd w' v (Tc (Ea s).1)
theorem RNd.nil(w:World):RNd w (.slice none 0 0) []:=⟨none,0,rfl,fun h=>by simp at h⟩
theorem I7{n k:Nat}(h:Be n<=32*k):(Ac n).length<=k:=by
 refine AG ?_
 have h2:n<2 ^ (32*k):=by
  unfold Be at h;split at h
  ·rename_i h0;subst h0;exact Nat.two_pow_pos _
  ·exact(Nat.log2_lt ‹_›).1 (by omega)
 rw[show (4294967296:Nat)=2 ^ 32 from rfl,<-Nat.pow_mul];exact h2
theorem X2.Ok.size{x:X2}(h:x.Ok):(Ac x.p.natAbs).length<=32/\(Ac x.q).length<=32:=by
 rcases h with ⟨_,_,h⟩|h|h
 ·exact⟨I7 (by omega),I7 (by omega)⟩
 ·rw[h];exact⟨Nat.zero_le _,Nat.zero_le _⟩
 ·rw[h];exact⟨Nat.zero_le _,Nat.zero_le _⟩
theorem NP(e:Ex):(exX e).Ok:=by
 induction e with
 |leaf k t=>exact Ii _ X2.O_ok X2.O_ok
 |un k n x ih=>exact Ii _ ih X2.O_ok
 |bin k x y ihx ihy=>exact Ii _ ihx ihy
theorem EM(t:List UInt8):exX (.leaf 1 t)=AW (Ic t) (If t):=by
 unfold exX BH;rw[if_pos (show ((1:Nat):Int)<5 by decide),if_pos (show ((1:Nat):Int)=1 by decide)]
theorem RL(t:List UInt8):exX (.leaf 2 t)=X2.O:=by
 unfold exX BH;rw[if_pos (show ((2:Nat):Int)<5 by decide),if_neg (show ¬((2:Nat):Int)=1 by decide)]
def Qc:Ex:= .bin 7 (.un 11 0 (.bin 9 (.leaf 1 [57]) (.leaf 1 [52]))) (.bin 9 (.leaf 1 [51]) (.leaf 1 [50]))
def RO:Ex:= .bin 9 (.leaf 1 [49]) (.bin 7 (.leaf 2 [120]) (.leaf 2 [120]))
def RM:Ex:= .bin 8 (.leaf 1 [48]) (.un 13 0 (.leaf 1 [48]))
def Qb:Ex:= .un 10 0 (.leaf 1 [48])
theorem OA:exX Qc=⟨1,0,1⟩:=by
 have h9:exX (.leaf 1 [57])=⟨1,9,1⟩:=by rw[EM];kernel_rfl
 have h4:exX (.leaf 1 [52])=⟨1,4,1⟩:=by rw[EM];kernel_rfl
 have h3:exX (.leaf 1 [51])=⟨1,3,1⟩:=by rw[EM];kernel_rfl
 have h2:exX (.leaf 1 [50])=⟨1,2,1⟩:=by rw[EM];kernel_rfl
 have hq:exX (.bin 9 (.leaf 1 [57]) (.leaf 1 [52]))=⟨1,9,4⟩:=by
  rw[exX,h9,h4];kernel_rfl
 have hr:exX (.bin 9 (.leaf 1 [51]) (.leaf 1 [50]))=⟨1,3,2⟩:=by
  rw[exX,h3,h2];kernel_rfl
 have hs:exX (.un 11 0 (.bin 9 (.leaf 1 [57]) (.leaf 1 [52])))=⟨1,3,2⟩:=by
  rw[exX,hq];have h1:sqX 9 4=AW 3 2:=Iy (r:=3) (s:=2);have h5:BH ⟨((11:Nat):Int),0,0,0,[]⟩ ⟨1,9,4⟩ X2.O=sqX 9 4:=by kernel_rfl
  rw[h5,h1];show _=_
  kernel_rfl
 unfold Qc;rw[exX,hs,hr];show _=_
 kernel_rfl
theorem Tb:exX RO=X2.O:=by
 unfold RO;have h1:exX (.leaf 1 [49])=⟨1,1,1⟩:=by rw[EM];kernel_rfl
 have h2:exX (.bin 7 (.leaf 2 [120]) (.leaf 2 [120]))=X2.O:=by rw[exX,RL];kernel_rfl
 rw[exX,h1,h2];show _=_
 kernel_rfl
theorem Ta:exX RM=X2.U:=by
 unfold RM;have h1:exX (.leaf 1 [48])=⟨1,0,1⟩:=by rw[EM];kernel_rfl
 have h2:exX (.un 13 0 (.leaf 1 [48]))=X2.U:=by rw[exX,h1];kernel_rfl
 rw[exX,h1,h2];show _=_
 kernel_rfl
theorem Oz:exX Qb=⟨1,1,1⟩:=by
 unfold Qb;have h1:exX (.leaf 1 [48])=⟨1,0,1⟩:=by rw[EM];kernel_rfl
 rw[exX,h1];show _=_
 kernel_rfl
def T3:List UInt8:=[115,113,114,116,40,57,47,52,41,32,45,32,51,47,50]
def T2:List UInt8:=[49,32,47,32,40,120,32,45,32,120,41]
def T1:List UInt8:=[48,32,42,32,108,110,40,48,41]
def T0:List UInt8:=[48,94,48]
theorem TK:Ea T3=(some Qc,15,0):=by kernel_rfl
theorem TJ:Ea T2=(some RO,11,0):=by kernel_rfl
theorem TI:Ea T1=(some RM,9,0):=by kernel_rfl
theorem TH:Ea T0=(some Qb,3,0):=by kernel_rfl
def Uq(b e:List UInt8):Nat->List UInt8
 |0=>b
 |k+1=>40::(Uq b e k++([41,94]++e))
def Ur(b:List UInt8)(n:Int):Nat->Ex
 |0=> .leaf 1 b
 |k+1=> .un 10 n (Ur b n k)
def Um:List (List UInt8):=[[50],[48,46,53],[51],[49,48],[48,46,49],[55]]
def Uu:List (List UInt8 × Int):=[([57],9),([49,48],10),([49,49],11),([51,49],31),([51,50],32),([51,51],33),([54,52],64)]
def Ib(w0 wr:World)(xs ys:List Nat)(k cy:Nat):Prop:=
 ∃zs:List Nat,zs.length=k/\Ok zs/\val zs+4294967296 ^ k*cy=val (xs.take k)+val (ys.take k)/\
  Blk wr w0.heap.size 183 (cells (zs++List.replicate (xs.length+1-k) 0))/\Ext w0 wr
theorem Ib.step {w0 wr:World} {xs ys zs:List Nat} {k q t:Nat} (hk:k<xs.length) (hl:zs.length=k) (ax:Ok zs)
  (h:val zs+4294967296 ^ k*q=val (xs.take k)+val (ys.take k)) (ht:t=q+xs.getD k 0+ys.getD k 0)
  (hb:Blk wr w0.heap.size 183 (cells (zs++List.replicate (xs.length+1-k) 0))) (he:Ext w0 wr):
  Ib w0 (wr.setCell ⟨w0.heap.size,k,none⟩ (d32 (t % 4294967296))) xs ys (k+1) (t / 4294967296):=by
 refine⟨zs++[t % 4294967296],by simp[hl],ax.snoc (Nat.mod_lt _ (by omega)),Jo hl h ht,?_,he.setCell (Nat.le_refl _) _⟩;have h1:=hb.set_ k (d32 (t % 4294967296));rw[Bp,show xs.length+1-k=(xs.length-k)+1 by omega]at h1;have h2:=C7 zs (xs.length-k) (t % 4294967296);rw[hl]at h2;rw[h2]at h1;rw[show xs.length+1-(k+1)=xs.length-k by omega];exact h1
theorem TV(w:World)(v u:Value)(xs ys:List Nat)(h:Arr w v xs)(h':Arr w u ys)(hn:xs.length<=536870912)(cx:ys.length<=xs.length):
  Calls Tryz.prog 298 #[v,u] w fun e w'=>∃v',e= .returned v'/\Own w.heap.size w' v' (Ac (val xs+val ys))/\Ext w w':=by
 obtain⟨ax,A,cap,rfl,dz,ek,aa⟩:=h.open;obtain⟨bE,A',mM,rfl,eJ,iC,an⟩:=h'.open;have HC:=hid aa;have oR:=hid an;have cS:=CN xs.length (by omega);have tO:¬(xs.length:Int)<(ys.length:Int):=by omega
 have gH:ys.length<=xs.length:=by omega
 clear h h' aa an ek iC dz eJ cx;go_enter Tryz.func298,Tryz.ntmps298;go_wp2_with fail;clear cS;go_loopw [6,22] (fun cy i wr=>∃k q:Nat,k<=xs.length/\q<=1/\i= .int .i64 k/\cy= .int .u64 q/\Ib w wr xs ys k q) (fun _ i _=>xs.length-(intOf i).toNat)
 case atStart=>exact⟨0,0,Nat.zero_le _,by omega,rfl,rfl,[],rfl,B3,by simp[val],Blk.new _ _ _,(Ext.refl w).alloc _⟩
 case round=>
  obtain⟨k,q,hk,hq,rfl,rfl,zs,hl,fy,hv,ao,ad⟩:=hrel;have HV:=hid hv;clear hv;have HB:=hid ao;clear ao;have HL:=hid hl;clear hl;by_cases hlt:k<xs.length
  ·obtain⟨b,o,rfl,hb,aa⟩:=HC.out (by omega);have hx:=(ad.cell hb).trans (aa k hlt);have ac:=HB.out.cell k;have gP:=HB.out.frozen k;rw[AY _ _ (by simp[HL.out];omega)]at ac;clear aa;have cK:=ax.get k;by_cases hk2:k<ys.length
   ·obtain⟨b',o',rfl,fS,an⟩:=oR.out (by omega);have hy:=(ad.cell fS).trans (an k hk2);clear an;have fi:=bE.get k;have HS:=hid (fun t h=>Ib.step (t:=t) hlt HL.out fy HV.out h HB.out ad);obtain⟨x,b7⟩:∃x,xs.getD k 0=x:=⟨_,rfl⟩;obtain⟨y,dC⟩:∃y,ys.getD k 0=y:=⟨_,rfl⟩;rw[b7]at hx cK HS;rw[dC]at hy fi HS;clear b7 dC;simp only[d32]at hx ac hy
    go_wp2
    go_round
    case rel=>exact⟨k+1,(q+x+y) / 4294967296,by omega,by omega,by go_num,by go_num,HS.out _ rfl⟩
    case measure=>simp[intOf];omega
   ·have h0:ys.getD k 0=0:=Di ys k (by omega);have HS:=hid (fun t h=>Ib.step (t:=t) hlt HL.out fy HV.out h HB.out ad);obtain⟨x,b7⟩:∃x,xs.getD k 0=x:=⟨_,rfl⟩;rw[h0]at HS;rw[b7]at hx cK HS;clear b7 h0;simp only[d32]at hx ac
    go_wp2
    go_round
    case rel=>exact⟨k+1,(q+x) / 4294967296,by omega,by omega,by go_num,by go_num,HS.out _ rfl⟩
    case measure=>simp[intOf];omega
  ·obtain rfl:k=xs.length:=by omega
   have ac:=HB.out.cell xs.length;have gP:=HB.out.frozen xs.length;rw[AY _ _ (by simp[HL.out])]at ac;have aw:Own w.heap.size (wr.setCell ⟨w.heap.size,xs.length,none⟩ (d32 q)) (.slice (some ⟨w.heap.size,0,none⟩) (xs.length+1) (xs.length+1)) (zs++[q]):=by
    have h1:=HB.out.set_ xs.length (d32 q);have h2:=C7 zs 0 q;rw[HL.out]at h2;rw[Bp,show xs.length+1-xs.length=0+1 by omega,h2]at h1;have h3:=Own.block (B:=w.heap.size) (fy.snoc (show q<4294967296 by omega)) (by simpa using h1) (Nat.le_refl _) (by simp[HL.out];omega)
    simpa [HL.out] using h3
   have bj:val (zs++[q])=val xs+val ys:=by
    rw[BG,HL.out,HV.out,List.take_of_length_le (Nat.le_refl _),List.take_of_length_le gH]
   have HT:=hid (Co _ _ _ aw.arr);have cB:=Cm (zs++[q]);rw[show (zs++[q]).length=xs.length+1 by simp[HL.out]]at cB;obtain⟨A1,c1,fl,HO⟩:=aw.take (size (zs++[q])) (by rw[show (zs++[q]).length=xs.length+1 by simp[HL.out]];exact cB);rw[BY aw.ok,bj]at HO;injection fl with fl hv3 hv2
   clear hv3;subst fl;subst hv2;have HO:=hid HO;generalize size (zs++[q])=sz at *;clear bj aw;simp only[d32]at ac;go_wp2_with fail;refine HT.out.mono ?_
   rintro e w' ⟨rfl,rfl⟩;go_wp2_with fail;go_ret;exact⟨_,rfl,HO.out,ad.setCell (Nat.le_refl _) _⟩
theorem TU(w:World)(v u:Value)(xs ys:List Nat)(h:Arr w v xs)(h':Arr w u ys)(hn:xs.length<=536870912)(cx:ys.length<xs.length):
  Calls Tryz.prog 298 #[u,v] w fun e w'=>∃v',e= .returned v'/\Own w.heap.size w' v' (Ac (val xs+val ys))/\Ext w w':=by
 obtain⟨ax,A,cap,rfl,dz,ek,aa⟩:=h.open;obtain⟨bE,A',mM,rfl,eJ,iC,an⟩:=h'.open;have HC:=hid aa;have oR:=hid an;have cS:=CN xs.length (by omega);have tO:(ys.length:Int)<(xs.length:Int):=by omega
 have gH:ys.length<=xs.length:=by omega
 clear h h' aa an ek iC dz eJ cx;go_enter Tryz.func298,Tryz.ntmps298;go_wp2_with fail;clear cS;go_loopw [6,22] (fun cy i wr=>∃k q:Nat,k<=xs.length/\q<=1/\i= .int .i64 k/\cy= .int .u64 q/\Ib w wr xs ys k q) (fun _ i _=>xs.length-(intOf i).toNat)
 case atStart=>exact⟨0,0,Nat.zero_le _,by omega,rfl,rfl,[],rfl,B3,by simp[val],Blk.new _ _ _,(Ext.refl w).alloc _⟩
 case round=>
  obtain⟨k,q,hk,hq,rfl,rfl,zs,hl,fy,hv,ao,ad⟩:=hrel;have HV:=hid hv;clear hv;have HB:=hid ao;clear ao;have HL:=hid hl;clear hl;by_cases hlt:k<xs.length
  ·obtain⟨b,o,rfl,hb,aa⟩:=HC.out (by omega);have hx:=(ad.cell hb).trans (aa k hlt);have ac:=HB.out.cell k;have gP:=HB.out.frozen k;rw[AY _ _ (by simp[HL.out];omega)]at ac;clear aa;have cK:=ax.get k;by_cases hk2:k<ys.length
   ·obtain⟨b',o',rfl,fS,an⟩:=oR.out (by omega);have hy:=(ad.cell fS).trans (an k hk2);clear an;have fi:=bE.get k;have HS:=hid (fun t h=>Ib.step (t:=t) hlt HL.out fy HV.out h HB.out ad);obtain⟨x,b7⟩:∃x,xs.getD k 0=x:=⟨_,rfl⟩;obtain⟨y,dC⟩:∃y,ys.getD k 0=y:=⟨_,rfl⟩;rw[b7]at hx cK HS;rw[dC]at hy fi HS;clear b7 dC;simp only[d32]at hx ac hy
    go_wp2
    go_round
    case rel=>exact⟨k+1,(q+x+y) / 4294967296,by omega,by omega,by go_num,by go_num,HS.out _ rfl⟩
    case measure=>simp[intOf];omega
   ·have h0:ys.getD k 0=0:=Di ys k (by omega);have HS:=hid (fun t h=>Ib.step (t:=t) hlt HL.out fy HV.out h HB.out ad);obtain⟨x,b7⟩:∃x,xs.getD k 0=x:=⟨_,rfl⟩;rw[h0]at HS;rw[b7]at hx cK HS;clear b7 h0;simp only[d32]at hx ac
    go_wp2
    go_round
    case rel=>exact⟨k+1,(q+x) / 4294967296,by omega,by omega,by go_num,by go_num,HS.out _ rfl⟩
    case measure=>simp[intOf];omega
  ·obtain rfl:k=xs.length:=by omega
   have ac:=HB.out.cell xs.length;have gP:=HB.out.frozen xs.length;rw[AY _ _ (by simp[HL.out])]at ac;have aw:Own w.heap.size (wr.setCell ⟨w.heap.size,xs.length,none⟩ (d32 q)) (.slice (some ⟨w.heap.size,0,none⟩) (xs.length+1) (xs.length+1)) (zs++[q]):=by
    have h1:=HB.out.set_ xs.length (d32 q);have h2:=C7 zs 0 q;rw[HL.out]at h2;rw[Bp,show xs.length+1-xs.length=0+1 by omega,h2]at h1;have h3:=Own.block (B:=w.heap.size) (fy.snoc (show q<4294967296 by omega)) (by simpa using h1) (Nat.le_refl _) (by simp[HL.out];omega)
    simpa [HL.out] using h3
   have bj:val (zs++[q])=val xs+val ys:=by
    rw[BG,HL.out,HV.out,List.take_of_length_le (Nat.le_refl _),List.take_of_length_le gH]
   have HT:=hid (Co _ _ _ aw.arr);have cB:=Cm (zs++[q]);rw[show (zs++[q]).length=xs.length+1 by simp[HL.out]]at cB;obtain⟨A1,c1,fl,HO⟩:=aw.take (size (zs++[q])) (by rw[show (zs++[q]).length=xs.length+1 by simp[HL.out]];exact cB);rw[BY aw.ok,bj]at HO;injection fl with fl hv3 hv2
   clear hv3;subst fl;subst hv2;have HO:=hid HO;generalize size (zs++[q])=sz at *;clear bj aw;simp only[d32]at ac;go_wp2_with fail;refine HT.out.mono ?_
   rintro e w' ⟨rfl,rfl⟩;go_wp2_with fail;go_ret;exact⟨_,rfl,HO.out,ad.setCell (Nat.le_refl _) _⟩
theorem OE(w:World)(v u:Value)(xs ys:List Nat)(h:Arr w v xs)(h':Arr w u ys)(hn:xs.length<=536870912)(bh:ys.length<=536870912):
  Calls Tryz.prog 298 #[v,u] w fun e w'=>∃v',e= .returned v'/\Own w.heap.size w' v' (Ac (val xs+val ys))/\Ext w w':=by
 rcases Nat.lt_or_ge xs.length ys.length with hlt|ew
 ·rw[Nat.add_comm];exact TU w u v ys xs h' h bh hlt
 ·exact TV w v u xs ys h h' hn ew
end Big
end Go.Proofs.YtkoaogkknnelaaaGreatDoor
