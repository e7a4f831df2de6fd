import Derived.Test.YtkoaogkknnelaaaGreatDoorM23
set_option linter.unusedVariables false
set_option linter.unusedSimpArgs false
set_option maxHeartbeats 4000000
set_option maxRecDepth 100000
namespace Go.Proofs.YtkoaogkknnelaaaGreatDoor
namespace Big
open Lib (hid)
open Go.RowKit
theorem J1(w:World)(k:Int):Calls Tryz.prog 174 #[.int .i64 k] w fun e w'=>e= .returned (.int .i64 (Ay k))/\w=w':=by
 have key:(k<1/\Ay k= -1)\/(1<=k/\k<=4/\Ay k=0)\/(k=5/\Ay k=1)\/(6<=k/\k<=9/\Ay k=2)\/(10<=k/\k<=16/\Ay k=1)\/(17<=k/\Ay k= -1):=by
  unfold Ay;by_cases h1:k<1
  ·simp[h1]
  by_cases h2:16<k
  ·simp[h1,h2];omega
  by_cases h3:k<=4
  ·simp[h1,h2,h3];omega
  by_cases h4:6<=k/\k<=9
  ·simp[h1,h2,h3,h4]
  ·simp[h1,h2,h3,h4];omega
 rcases key with ⟨h1,h⟩|⟨h1,h2,h⟩|⟨rfl,h⟩|⟨h1,h2,h⟩|⟨h1,h2,h⟩|⟨h1,h⟩
 ·have H:=hid h;have d1:decide (k>=1)=false:=decide_eq_false (by omega);have Vt:¬1<=k:=by omega
  have d2:(k == 5)=false:=by rw[beq_eq_false_iff_ne];omega
  have d3:decide (k>=10)=false:=decide_eq_false (by omega);have X1:¬10<=k:=by omega
  have d4:decide (k>=6)=false:=decide_eq_false (by omega);have d4':¬6<=k:=by omega
  clear h;go_enter Tryz.func174,Tryz.ntmps174;go_wp2_with fail;go_ret;exact⟨by rw[H.out];rfl,rfl⟩
 ·have H:=hid h;clear h;go_enter Tryz.func174,Tryz.ntmps174;go_wp2_with fail;go_ret;exact⟨by rw[H.out];rfl,rfl⟩
 ·have H:=hid h;clear h;go_enter Tryz.func174,Tryz.ntmps174;go_wp2_with fail;go_ret;exact⟨by rw[H.out];rfl,rfl⟩
 ·have H:=hid h;have Vt:1<=k:=by omega
  have vM:¬k<=4:=by omega
  have d2:(k == 5)=false:=by rw[beq_eq_false_iff_ne];omega
  have X1:¬10<=k:=by omega
  clear h;go_enter Tryz.func174,Tryz.ntmps174;go_wp2_with fail;go_ret;exact⟨by rw[H.out];rfl,rfl⟩
 ·have H:=hid h;have Vt:1<=k:=by omega
  have vM:¬k<=4:=by omega
  have d2:(k == 5)=false:=by rw[beq_eq_false_iff_ne];omega
  clear h;go_enter Tryz.func174,Tryz.ntmps174;go_wp2_with fail;go_ret;exact⟨by rw[H.out];rfl,rfl⟩
 ·have H:=hid h;have Vt:1<=k:=by omega
  have vM:¬k<=4:=by omega
  have d2:(k == 5)=false:=by rw[beq_eq_false_iff_ne];omega
  have X1:10<=k:=by omega
  have d3'':¬k<=16:=by omega
  have d4':6<=k:=by omega
  have d4'':¬k<=9:=by omega
  clear h;go_enter Tryz.func174,Tryz.ntmps174;go_wp2_with fail;go_ret;exact⟨by rw[H.out];rfl,rfl⟩
theorem NH(w:World)(x:Nd)(hl:x.text.length<=1073741824)(hm:Ce w):Calls Tryz.prog 175 #[ndV x] w fun e w'=>e= .returned (.bool (Az x))/\Ext w w':=by
 obtain⟨k,a,b,n,t⟩:=x;simp only[ndV]at hl ⊢;have HP:=hid (fun W h=>F6 W t h);have HM:=hid hm;have HW:=hid (fun W=>LI W t hl);have eg:=hid (fun W=>Gr W t);have rC:Ej t=(C0 t && !Bk t):=by rw[Ct];rfl
 obtain⟨s,hs⟩:∃s:ByteArray,s=⟨t.toArray⟩:=⟨_,rfl⟩;have hst:str t= .string s:=by rw[hs];rfl
 have hne:s.toList.isEmpty=(t == []):=by rw[hs];exact Iu t
 rw[hst]at HP HW eg ⊢;clear hs hst hm;have hb0:=Blk.new w 95 #[.int .i64 k,.int .i64 a,.int .i64 b,.int .i64 n,.string s];have cq:=hid ((Ext.refl w).alloc (.cells #[.int .i64 k,.int .i64 a,.int .i64 b,.int .i64 n,.string s] 95));have ak:=hid hb0;have q0:=hb0.five;clear hb0;have key:(k=1)\/(k=2)\/(k=10)\/(k≠1/\k≠2/\k≠10):=by omega
 rcases key with rfl|rfl|rfl|⟨fu,hk2,jY⟩
 ·have nV:((Bm t:Int) == 0)=(Bm t == 0):=by rw[Bool.eq_iff_iff];simp
  have H:Hid (Az ⟨1,a,b,n,t⟩=((Bm t:Int) == 0 && (n == 0))):=hid (by rw[nV];unfold Az Ch B5;simp);clear hne nV rC;generalize Az ⟨1,a,b,n,t⟩=r at *;generalize hce:(Bm t:Int)=ce at *;go_enter Tryz.func175,Tryz.ntmps175;go_wp2_with fail;refine(HP.out _ (HM.out.ext cq.out)).mono ?_
  rintro e w5 ⟨v5,rfl,cT,hx5⟩;obtain⟨b5,n5,A5,c5,n6,A6,c6,rfl⟩:=cT.shape;have cZ:=hx5.alloc (.cells #[.bool b5,.slice A5 n5 c5,.slice A6 n6 c6] 26);have dB:=hid (cq.out.trans cZ);have q0:=(ak.out.ext cZ).five;clear cT hx5 cZ;rw[hce];clear hce;cases hz:(ce == 0)
  ·rw[hz]at H;go_wp2_with fail;go_ret;exact⟨by rw[H.out];rfl,dB.out⟩
  ·rw[hz]at H;go_wp2_with fail;go_ret;exact⟨by rw[H.out];rfl,dB.out⟩
 ·have H:Hid (Az ⟨2,a,b,n,t⟩=((C0 t && !Bk t) && (n == 0))):=hid (by rw[<-rC];unfold Az Ch B5;simp);generalize Az ⟨2,a,b,n,t⟩=r at *;clear hne rC;cases hw:C0 t
  ·rw[hw]at HW H;clear hw;go_enter Tryz.func175,Tryz.ntmps175;go_wp2_with fail;refine(HW.out _).mono ?_
   rintro e w5 ⟨rfl,rfl⟩;go_wp2_with fail;go_ret;exact⟨by rw[H.out];rfl,cq.out⟩
  ·rw[hw]at HW H;clear hw;cases hv:Bk t
   all_goals
    rw[hv]at eg H;clear hv;go_enter Tryz.func175,Tryz.ntmps175;go_wp2_with fail;refine(HW.out _).mono ?_
    rintro e w5 ⟨rfl,rfl⟩;go_wp2_with fail;refine(eg.out _).mono ?_
    rintro e w6 ⟨rfl,rfl⟩;go_wp2_with fail;go_ret;exact⟨by rw[H.out];rfl,cq.out⟩
 ·have H:Hid (Az ⟨10,a,b,n,t⟩=((decide (-64<=n) && decide (n<=64)) && s.toList.isEmpty)):=hid (by rw[hne,<-Kt];unfold Az Ch B5;rw[Bool.and_comm];rfl);generalize Az ⟨10,a,b,n,t⟩=r at *;clear hne rC HP HW eg hl;by_cases hn: -64<=n
  ·have hd:decide (-64<=n)=true:=decide_eq_true hn;rw[hd]at H;by_cases hn2:n<=64
   ·have eN:decide (n<=64)=true:=decide_eq_true hn2;rw[eN]at H;go_enter Tryz.func175,Tryz.ntmps175;go_wp2_with fail;go_ret;exact⟨by rw[H.out];rfl,cq.out⟩
   ·have eN:decide (n<=64)=false:=decide_eq_false hn2;rw[eN]at H;go_enter Tryz.func175,Tryz.ntmps175;go_wp2_with fail;go_ret;exact⟨by rw[H.out];rfl,cq.out⟩
  ·have hd:decide (-64<=n)=false:=decide_eq_false hn;rw[hd]at H;go_enter Tryz.func175,Tryz.ntmps175;go_wp2_with fail;go_ret;exact⟨by rw[H.out];rfl,cq.out⟩
 ·have e1:(k == 1)=false:=by rw[beq_eq_false_iff_ne];omega
  have e2:(k == 2)=false:=by rw[beq_eq_false_iff_ne];omega
  have e3:(k == 10)=false:=by rw[beq_eq_false_iff_ne];omega
  have H:Hid (Az ⟨k,a,b,n,t⟩=((n == 0) && s.toList.isEmpty)):=hid (by rw[hne,Bool.and_comm];unfold Az Ch B5;rw[if_neg fu,if_neg hk2,if_neg jY]);generalize Az ⟨k,a,b,n,t⟩=r at *;clear hne rC HP HW eg hl fu hk2 jY;cases hz:(n == 0)
  ·rw[hz]at H;go_enter Tryz.func175,Tryz.ntmps175;go_wp2_with fail;go_ret;exact⟨by rw[H.out];rfl,cq.out⟩
  ·rw[hz]at H;go_enter Tryz.func175,Tryz.ntmps175;go_wp2_with fail;go_ret;exact⟨by rw[H.out];rfl,cq.out⟩
def prC(L:List (Nat × Nat)):List Value:=L.flatMap (fun p=>[din p.1,din p.2])
theorem S9(L:List (Nat × Nat)):(prC L).length=L.length*2:=by
 induction L with
 |nil=>rfl
 |cons p L ih=>
  unfold prC at *;rw[List.flatMap_cons,List.length_append,ih,List.length_cons];simp;omega
theorem CD(L M:List (Nat × Nat)):prC (L++M)=prC L++prC M:=by simp[prC]
theorem Ei(p:Nat × Nat):prC [p]=[din p.1,din p.2]:=by simp[prC]
theorem Gt(L:List (Nat × Nat))(n:Nat):(prC L).take (n*2)=prC (L.take n):=by
 induction L generalizing n with
 |nil=>simp[prC]
 |cons p L ih=>
  cases n with
  |zero=>simp[prC]
  |succ n=>
   unfold prC at *;rw[List.flatMap_cons,List.take_succ_cons,List.flatMap_cons,show (n+1)*2=n*2+2 by omega];show din p.1::din p.2::List.take (n*2) (List.flatMap (fun p=>[din p.1,din p.2]) L)=din p.1::din p.2::List.flatMap (fun p=>[din p.1,din p.2]) (List.take n L);rw[ih n]
theorem Ta(L:List (Nat × Nat))(i:Nat)(hi:i<L.length):(prC L)[i*2]? =some (din (L.getD i (0,0)).1)/\(prC L)[i*2+1]? =some (din (L.getD i (0,0)).2):=by
 induction L generalizing i with
 |nil=>simp at hi
 |cons p L ih=>
  unfold prC at *;rw[List.flatMap_cons];cases i with
  |zero=>exact⟨rfl,rfl⟩
  |succ i=>
   have h:=ih i (by simpa using hi);rw[List.getElem?_append_right (by simp;omega),List.getElem?_append_right (by simp;omega)];have e1:(i+1)*2-[din p.1,din p.2].length=i*2:=by simp;omega
   have e2:(i+1)*2+1-[din p.1,din p.2].length=i*2+1:=by simp;omega
   rw[e1,e2];exact h
def CP(B:Nat)(w:World)(v:Value)(n:Nat)(L:List (Nat × Nat)):Prop:=w.ownsRow B 196 2 v n (prC L)
theorem Qa:(Tryz.prog.info? 196).map (fun i=>(i.zero,i.size,i.bytes))=some (some (.agg #[.int .i64 0,.int .i64 0]),2,16):=by kernel_rfl
theorem CP.len{B n:Nat}{w:World}{v:Value}{L:List (Nat × Nat)}(h:CP B w v n L):L.length=n:=by
 have:=h.1;rw[S9]at this;omega
theorem CP.ext{B n:Nat}{w w':World}{v:Value}{L:List (Nat × Nat)}(h:CP B w v n L)(hx:Ext w w'):CP B w' v n L:=Aj h (fun _ _ hg=>Below.block hx _ hg)
theorem CP.get{B n g c:Nat}{w:World}{L:List (Nat × Nat)}(h:CP B w (.slice (some ⟨g,0,none⟩) n c) n L)(j:Nat)(hj:j<n):w.cell? ⟨g,j*2,none⟩=some (.int .i64 ((L.getD j (0,0)).1:Int))/\w.cell? ⟨g,j*2+1,none⟩=some (.int .i64 ((L.getD j (0,0)).2:Int)):=by
 have hl:=h.len;have h1:=h.cellAt (j*2) (by omega);have h2:=h.cellAt (j*2+1) (by omega);have h3:=Ta L j (by omega);rw[h1,h2];exact h3
theorem BE{B sz n:Nat}{e:TypeId}{w:World}{v:Value}{xs:List Value}(h:w.ownsRow B e sz v n xs)(g:Nat)(hg:v.ownBlock=some g):B<=g/\g<w.heap.size:=by
 rcases h.2 with ⟨rfl,h2⟩|⟨g',cap,cur,rfl,hb,hh,_⟩
 ·cases hg
 ·simp only[Value.ownBlock,Option.some.injEq]at hg;subst hg;refine⟨hb,?_⟩;rcases Nat.lt_or_ge g' w.heap.size with h|h
  ·exact h
  ·rw[Array.getElem?_eq_none h]at hh;cases hh
theorem DL{B sz n m:Nat}{e:TypeId}{w:World}{A:Option Addr}{c:Nat}{xs:List Value}(h:w.ownsRow B e sz (.slice A n c) n xs)(hm:m<=n):w.ownsRow B e sz (.slice A m c) m (xs.take (m*sz)):=by
 have uT:m*sz<=n*sz:=Nat.mul_le_mul_right sz hm;refine⟨by rw[List.length_take,h.1];omega,?_⟩;rcases h.2 with ⟨h1,h2⟩|⟨g,cap,cur,h1,hb,hh,hc,dT,hs,ht⟩
 ·injection h1 with h1 h3 h4
  subst h1;subst h2;obtain rfl:m=0:=by omega
  exact .inl ⟨by rw[h4],rfl⟩
 ·injection h1 with h1 h3 h4
  subst h1;subst h4;exact .inr ⟨g,c,cur,rfl,hb,hh,by omega,dT,hs,by rw[<-ht,List.take_take,Nat.min_eq_left uT]⟩
theorem Ee {B YZ WU n m g:Nat} {e1 e2:TypeId} {W W1 w':World} {v u u':Value} {xs ys:List Value} (h4:W.ownsRow B e1 YZ v n xs) (h5:W.ownsRow B e2 WU u m ys) (fK:En v u) (hx:Ext W W1) (hB:B<=W.heap.size)
  (aQ:W1.grownBy w' v.ownBlock) (hat:v.ownBlock=some g\/g=W1.heap.size) (hu:u'.ownBlock=some g):w'.ownsRow B e2 WU u m ys/\En u' u/\Below B W w':=by
 refine⟨?_,fun k hk he=> ?_,?_⟩
 ·refine(Aj h5 (fun _ _ hg=>Below.block hx _ hg)).kept aQ ?_
  cases hu5:u.ownBlock with
  |none=>exact .inl rfl
  |some k=>exact .inr (fun he=>fK k he.symm hu5)
 ·rw[hu]at hk;injection hk with hk
  subst hk;rcases hat with hat|hat
  ·exact fK g hat he
  ·have:=(BE h5 g he).2;have:=hx.size;omega
 ·exact Below.grown (Below.mono hx hB) aQ (Nat.le_trans hB hx.size) (fun k hk=>(BE h4 k hk).1)
def KS(l:List Nd)(w:World)(e:Ending)(w':World):Prop:=
 ∃v,e= .returned (.tuple #[v,.int .i64 ((Dw l).2:Int)])/\Ext w w'/\CP w.heap.size w' v (Dw l).1.length (Dw l).1
structure JU (l:List Nd) (w:World) (i:Nat) (all st:List (Nat × Nat)) (va vs:Value) (wr:World):Prop where
 go:Dw l=F4 i all st (l.drop i)
 ra:CP w.heap.size wr va i all
 rs:CP w.heap.size wr vs st.length st
 apart:En va vs
 ext:Ext w wr
 low:∀p∈st,p.1<=i/\p.2<=i
 fs:st.length<=i
theorem JU.bad{l:List Nd}{w wr:World}{i:Nat}{all st:List (Nat × Nat)}{va vs:Value}{nd:Nd}(h:JU l w i all st va vs wr)(hn:l[i]? =some nd)(hs:AT i st nd=none):Dw l=(all,0):=by
 have h1:=h.go;rw[DN hn,F4,hs]at h1;exact h1
theorem JU.next {l:List Nd} {w wr w':World} {i k:Nat} {all st:List (Nat × Nat)} {va vs xU uh:Value} {nd:Nd} {p:Nat × Nat} (h:JU l w i all st va vs wr) (hn:l[i]? =some nd) (hs:AT i st nd=some (p,st.take k++[p]))
  (h4:CP w.heap.size w' xU (i+1) (all++[p])) (h5:CP w.heap.size w' uh (k+1) (st.take k++[p])) (hk:k<=st.length) (fK:En xU uh) (hx:Ext w w') (hp:p.1<=i+1/\p.2<=i+1):JU l w (i+1) (all++[p]) (st.take k++[p]) xU uh w':=by
 have h1:=h.go;rw[DN hn,F4,hs]at h1;have hl:(st.take k++[p]).length=k+1:=by rw[List.length_append,List.length_take,List.length_singleton];omega
 refine⟨h1,h4,by rw[hl];exact h5,fK,hx,fun q hq=> ?_,by have:=h.fs;rw[hl];omega⟩;rcases List.mem_append.1 hq with hq|hq
 ·have:=h.low q (List.mem_of_mem_take hq);omega
 ·rw[List.mem_singleton]at hq;rw[hq];exact hp
section
variable {st:List (Nat × Nat)} {i:Nat} {k a b n:Int} {t:List UInt8}
theorem NF(h:Ay k<0):AT i st ⟨k,a,b,n,t⟩=none:=by unfold AT;rw[if_pos (.inl h)]
theorem Jf(h:(st.length:Int)<Ay k):AT i st ⟨k,a,b,n,t⟩=none:=by unfold AT;rw[if_pos (.inr (.inl h))]
theorem Ie(h:Ay k=0)(h2:¬(a=0/\b=0)):AT i st ⟨k,a,b,n,t⟩=none:=by
 unfold AT;simp only[h];split
 ·rfl
 ·simp[h2]
theorem Ic(h:Ay k=1)(h2:¬(a=(i:Int)-1/\b=0)):AT i st ⟨k,a,b,n,t⟩=none:=by
 unfold AT;simp only[h];split
 ·rfl
 ·simp[h2]
theorem Ib(h:Ay k=2)(h2:¬(a=((st.getD (st.length-1) (0,0)).1:Int)-1/\b=(i:Int)-1)):AT i st ⟨k,a,b,n,t⟩=none:=by
 unfold AT;simp only[h];split
 ·rfl
 ·first|(simp[h2];done)|(simp;exact fun h3 h4=>absurd ⟨h3,h4⟩ h2)
theorem Rv(h:Ay k=0)(hp:Az ⟨k,0,0,n,t⟩=true):AT i st ⟨k,0,0,n,t⟩=some ((i,1),st.take (st.length-0)++[(i,1)]):=by
 unfold AT;simp only[h,hp];rw[if_neg (by first|(simp;done)|(simp;omega))];simp
theorem Ru(h:Ay k=1)(hp:Az ⟨k,(i:Int)-1,0,n,t⟩=true)(hm:1<=st.length):AT i st ⟨k,(i:Int)-1,0,n,t⟩=some (((st.getD (st.length-1) (0,0)).1,(st.getD (st.length-1) (0,0)).2+1),st.take (st.length-1)++[((st.getD (st.length-1) (0,0)).1,(st.getD (st.length-1) (0,0)).2+1)]):=by
 unfold AT;simp only[h,hp];rw[if_neg (by first|(simp;done)|(simp;omega)),if_neg (by decide),if_pos trivial,if_pos (by simp)]
theorem Rt(h:Ay k=2)(hp:Az ⟨k,((st.getD (st.length-1) (0,0)).1:Int)-1,(i:Int)-1,n,t⟩=true)(hm:2<=st.length):AT i st ⟨k,((st.getD (st.length-1) (0,0)).1:Int)-1,(i:Int)-1,n,t⟩=some (((st.getD (st.length-2) (0,0)).1,max ((st.getD (st.length-1) (0,0)).2+1) ((st.getD (st.length-2) (0,0)).2+1)),st.take (st.length-2)++[((st.getD (st.length-2) (0,0)).1,max ((st.getD (st.length-1) (0,0)).2+1) ((st.getD (st.length-2) (0,0)).2+1))]):=by
 unfold AT;simp only[h,hp];rw[if_neg (by first|(simp;done)|(simp;omega)),if_neg (by decide),if_neg (by decide),if_pos (by simp)]
theorem EO(h:Az ⟨k,a,b,n,t⟩=false):AT i st ⟨k,a,b,n,t⟩=none:=by unfold AT;rw[if_pos (.inr (.inr h))]
end
theorem PP(w:World)(v:Value)(l:List Nd)(hr:RNd w v l)(hl:l.length<=1000000)(nh:∀x∈l,x.text.length<=1073741824)(hm:Ce w):Calls Tryz.prog 132 #[v] w (KS l w):=by
 have HR:=hid hr;have VN:=hid nh;have pe:=hid hm;obtain⟨i0,hi,aE,hz1,ba⟩:=info_parts Qa;obtain⟨A,c,rfl,_⟩:=hr;clear nh hm;have bG:Hid (JU l w 0 [] [] (.slice none 0 0) (.slice none 0 0) w):=hid ⟨rfl,⟨rfl,.inl ⟨rfl,rfl⟩⟩,⟨rfl,.inl ⟨rfl,rfl⟩⟩,(fun g h=>by cases h),Ext.refl w,(fun p h=>by cases h),Nat.zero_le _⟩;obtain⟨n,hn⟩:∃n,n=l.length:=⟨_,rfl⟩;have HN:=hid hn;rw[<-hn]at hl ⊢;clear hn;go_enter Tryz.func132,Tryz.ntmps132;go_wp2_with fail;go_loopw [4,5,15] (fun s4 s5 s15 wr=>∃(i:Nat) (all st:List (Nat × Nat)),i<=n/\s15= .int .i64 (i:Int)/\JU l w i all st s4 s5 wr) (fun _ _ s15 _=>n-(intOf s15).toNat)
 case atStart=>exact⟨0,[],[],Nat.zero_le _,rfl,bG.out⟩
 case round=>
  obtain⟨i,all,st,hin,rfl,a5⟩:=hrel;have HI:=hid a5;obtain⟨A4,c4,rfl⟩:=AN a5.ra;obtain⟨A5,c5,rfl⟩:=AN a5.rs;clear bG;have hfs:=a5.fs;obtain⟨ms,uT⟩:∃ms,ms=st.length:=⟨_,rfl⟩;rw[<-uT]at hfs ⊢;have kH:=hid uT;clear uT;by_cases hlt:i<n
  ·have kA:i<l.length:=by rw[<-HN.out];exact hlt
   obtain⟨A',c',he,hc⟩:=HR.out.ext a5.ext;obtain⟨b,o,St,hb,hc⟩:=hc (by omega);obtain⟨nd,jF,hat,oW⟩:∃nd,l[i]? =some nd/\Oe wr b (o+i*5) nd/\nd.text.length<=1073741824:=⟨l[i],List.getElem?_eq_getElem kA,hc i kA,VN.out _ (List.getElem_mem kA)⟩
   injection he with he1 he2 he3
   subst he1;clear he2 he3;subst St;have aD:Hid (AT i st nd=none->Dw l=(all,0)):=hid (fun h=>a5.bad jF h);have dw:=hid jF;clear jF hc;have hw:wr.heap.size>=w.heap.size:=a5.ext.size;have HX:=hid a5.ext;have mu:=hid (pe.out.ext a5.ext);clear a5 kA;obtain⟨kd,na,nb,nn,nt⟩:=nd;have cC:=hid (fun W h=>NH W ⟨kd,na,nb,nn,nt⟩ oW h);simp only[ndV]at cC;obtain⟨k0,k1,k2,k3,k4⟩:=hat;simp only at k0 k1 k2 k3 k4;obtain⟨s,hs⟩:∃s:ByteArray,s=⟨nt.toArray⟩:=⟨_,rfl⟩;have hst:str nt= .string s:=by rw[hs];rfl
   rw[hst]at cC k4;clear hs hst oW;have aT:=hid (fun W=>J1 W kd);have key:=Fk kd;obtain⟨p,hp⟩:∃p,p=Az ⟨kd,na,nb,nn,nt⟩:=⟨_,rfl⟩;rw[<-hp]at cC;have hb0:=Blk.new wr 95 #[.int .i64 kd,.int .i64 na,.int .i64 nb,.int .i64 nn,.string s];have bj:=hid ((Ext.refl wr).alloc (.cells #[.int .i64 kd,.int .i64 na,.int .i64 nb,.int .i64 nn,.string s] 95));have dG:=hid hb0;have q0:=hb0.five;clear hb0;have fj:=hid HI.out.ra;have eg:Hid (CP w.heap.size wr (.slice A5 ms c5) ms st):=hid (by
    have h:=HI.out.rs;rw[<-kH.out]at h;exact h)
   have jN:=hid HI.out.ra.len;have oI:Hid (∀j,j<ms->(st.getD j (0,0)).1<=i/\(st.getD j (0,0)).2<=i):=hid (fun j hj=>HI.out.low _ (by
    have rS:j<st.length:=by rw[<-kH.out];exact hj
    rw[List.getD_eq_getElem?_getD,List.getElem?_eq_getElem rS];exact List.getElem_mem rS))
   rcases key with aS|aS|aS|aS
   ·have co:=hid (aD.out (NF (by rw[aS];decide)));rw[aS]at aT;clear aS hp aD;go_wp2_with fail;refine(aT.out _).mono ?_
    rintro e w2 ⟨rfl,rfl⟩;go_wp2_with fail;go_ret2;exact⟨_,by rw[co.out];rfl,HX.out.trans bj.out,by rw[co.out,jN.out];exact fj.out.ext bj.out⟩
   ·cases hpb:p
    ·rw[hpb]at hp cC;have co:=hid (aD.out (EO hp.symm));rw[aS]at aT;clear aS hp aD hpb;go_wp2_with fail;refine(aT.out _).mono ?_
     rintro e w2 ⟨rfl,rfl⟩;go_wp2_with fail;refine(cC.out _ (mu.out.ext bj.out)).mono ?_
     rintro e w3 ⟨rfl,ab⟩;have q0:=(dG.out.ext ab).five;have nf:=(dG.out.ext ab).lt;have gX:wr.heap.size<w3.heap.size+1:=by omega
     have gW:wr.heap.size<w3.heap.size+1+1:=by omega
     have gV:wr.heap.size<w3.heap.size+1+1+1:=by omega
     have aC:=hid (bj.out.trans ab);clear ab;go_wp2_with fail;go_ret2;exact⟨_,by rw[co.out];rfl,HX.out.trans aC.out,by rw[co.out,jN.out];exact fj.out.ext aC.out⟩
    ·rw[hpb]at hp cC;have ey:=hid hp.symm;clear hpb hp;by_cases ha:na=0
     ·subst ha;by_cases hb2:nb=0
      ·subst hb2;have jw:Hid (AT i st ⟨kd,0,0,nn,nt⟩=some ((i,1),st.take (ms-0)++[(i,1)])):=hid (by rw[kH.out];exact Rv aS ey.out);have gf:Hid (i<=i+1/\1<=i+1):=hid ⟨by omega,by omega⟩;rw[aS]at aT;clear aS aD;go_wp2_with fail;refine(aT.out _).mono ?_
       rintro e w2 ⟨rfl,rfl⟩;go_wp2_with fail;refine(cC.out _ (mu.out.ext bj.out)).mono ?_
       rintro e w3 ⟨rfl,ab⟩;have q0:=(dG.out.ext ab).five;have nf:=(dG.out.ext ab).lt;have gX:wr.heap.size<w3.heap.size+1:=by omega
       have gW:wr.heap.size<w3.heap.size+1+1:=by omega
       have gV:wr.heap.size<w3.heap.size+1+1+1:=by omega
       have aC:=hid (bj.out.trans ab);clear ab;go_upto_region 20 with fail;rcases eg.out.2 with ⟨he,h0⟩|⟨g5,vP,vN,he,_,_,t5,_⟩
       ·injection he with he1 he2 he3
        have H0:=hid (And.intro he2 he3);subst he1;clear he2 he3 h0;obtain⟨w4,hw4⟩:∃w4,w4=(w3.alloc (.cells #[.int .i64 (i:Int),.int .i64 1] 196)).alloc (.cells #[.int .i64 kd,.int .i64 0,.int .i64 0,.int .i64 nn,.string s] 95):=⟨_,rfl⟩;rw[<-hw4];have gT:Ext w3 w4:=by rw[hw4];exact(((Ext.refl w3).alloc _).alloc _)
        have iE:Blk w4 w3.heap.size 196 #[.int .i64 (i:Int),.int .i64 1]:=by rw[hw4];exact((Blk.new w3 _ _).alloc _)
        have bw:=hid (aC.out.trans gT);have oP:=hid iE;obtain⟨p0,p1⟩:=iE.two';obtain⟨mk,df⟩:∃mk,mk=ms-0:=⟨_,rfl⟩;have wY:IntKind.i64.wrap (ms:Int)=(mk:Int):=by rw[IntWalk.i64_in _ (by omega)];omega
        have Z7:mk<=c5:=by have:=H0.out;omega
        have fD:w.heap.size<=w4.heap.size:=Nat.le_trans HX.out.size bw.out.size;have ej:=hid (DL (m:=mk) (eg.out.ext bw.out) (by omega));have pW:=hid (fj.out.ext bw.out);have kY:=iE.lt;have rZ:wr.heap.size<=w3.heap.size:=aC.out.size;have lm:Hid (mk<=st.length):=hid (by rw[<-kH.out];omega);have gO:Hid (AT i st ⟨kd,0,0,nn,nt⟩=some ((i,1),st.take mk++[(i,1)])):=hid (by rw[df];exact jw.out);have io:Hid ((w4.alloc (.cells #[.int .i64 (i:Int),.int .i64 1] 196)).drew.ownsRow w.heap.size 196 2 (.slice none mk c5) mk ((prC st).take (mk*2))):=hid (Aj ej.out (fun k _ hk=>Below.heap_alloc w4 _ k hk));have fF:Hid (∀(j:Nat) (u:Value),[Value.int .i64 (i:Int),Value.int .i64 1][j]? =some u->(w4.alloc (.cells #[.int .i64 (i:Int),.int .i64 1] 196)).drew.cell? ((⟨w4.heap.size,0,none⟩:Addr).add j)=some u):=hid (C3 w4 196 [.int .i64 (i:Int),.int .i64 1]);have ai:Hid (mk+1<=maxLen):=hid (by unfold maxLen;omega);have a6:Hid ((mk+1)*16<=140737488355328):=hid (by omega);have a8:Hid (w.heap.size<=(w4.alloc (.cells #[.int .i64 (i:Int),.int .i64 1] 196)).drew.heap.size):=hid (by simp;omega);clear hw4 iE gT df q0
        go_region_law (refine step_append_lies _ rfl (.tmp 96) (.tmp 98) 192 rfl w.heap.size 196 i0 _ 2 16 Tryz.underlying192 hi aE hz1 ba rfl (by decide) _ mk ((prC st).take (mk*2)) rfl io.out ⟨w4.heap.size,0,none⟩ 1 1 [.int .i64 (i:Int),.int .i64 1] rfl rfl fF.out (by simp[Value.oneCell']) (by decide) ai.out a6.out a8.out _ rfl ?_;intro g6 c6 w6 bh cw cG gr;have gD:=hid bh;have iv:=hid cw;have lB:=hid cG;clear bh cw cG)
        all_goals
         have ar:Hid (Ext w4 (w4.alloc (.cells #[.int .i64 (i:Int),.int .i64 1] 196)).drew):=hid ((Ext.refl w4).alloc _).drew;have cR:=hid (Ee (u':= .slice (some ⟨g6,0,none⟩) (mk+1) c6) ej.out pW.out (fun g h1 h2=>HI.out.apart g h2 h1) ar.out fD iv.out lB.out rfl);have ii:Blk w6 w3.heap.size 196 #[.int .i64 (i:Int),.int .i64 1]:=(iv.out.block w3.heap.size (Nat.lt_of_lt_of_le kY ar.out.size) (by intro he;cases he)).trans (oP.out.ext ar.out);obtain⟨y0,y1⟩:=ii.two';have sZ:Hid (CP w.heap.size w6 (.slice (some ⟨g6,0,none⟩) (mk+1) c6) (mk+1) (st.take mk++[(i,1)])):=hid (by unfold CP;rw[CD,Ei,<-Gt];exact gD.out);have ld:Hid ((w6.alloc (.cells #[.int .i64 (i:Int),.int .i64 1] 196)).ownsRow w.heap.size 196 2 (.slice A4 i c4) i (prC all)):=hid (Aj cR.out.1 (fun k _ hk=>Below.heap_alloc w6 _ k hk));have fN:=hid (C3 w6 196 [.int .i64 (i:Int),.int .i64 1]);have gJ:Hid (i+1<=maxLen):=hid (by unfold maxLen;omega);have gI:Hid ((i+1)*16<=140737488355328):=hid (by omega);have kS:w.heap.size<=w6.heap.size:=Nat.le_trans fD cR.out.2.2.size;have lU:Hid (w.heap.size<=(w6.alloc (.cells #[.int .i64 (i:Int),.int .i64 1] 196)).heap.size):=hid (by simp;omega);clear ii p0 p1;go_wp2_with (at_builtin;go_must (refine wpList_append_lies _ rfl _ _ 192 rfl w.heap.size 196 i0 _ 2 16 Tryz.underlying192 hi aE hz1 ba rfl (by decide) (.slice A4 i c4) i (prC all) rfl ld.out ⟨w6.heap.size,0,none⟩ 1 1 [.int .i64 (i:Int),.int .i64 1] rfl rfl fN.out (by simp[Value.oneCell']) (by decide) gJ.out gI.out lU.out _ rfl ?_;intro g7 c7 w7 cA db dA mf;have d7:=hid (Ee (u':= .slice (some ⟨g7,0,none⟩) (i+1) c7) cR.out.1 sZ.out (fun g h1 h2=>cR.out.2.1 g h2 h1) ((Ext.refl w6).alloc _) kS db dA rfl);have tI:Hid (CP w.heap.size w7 (.slice (some ⟨g7,0,none⟩) (i+1) c7) (i+1) (all++[(i,1)])):=hid (by unfold CP;rw[CD,Ei];exact cA);clear cA db dA));go_wp2_with fail;go_roundw
         case rel=>exact⟨i+1,_,_,by omega,by go_num,HI.out.next dw.out gO.out tI.out d7.out.1 lm.out d7.out.2.1 ((HX.out.trans bw.out).more (cR.out.2.2.trans d7.out.2.2)) (by have:=gf.out;exact this)⟩
         case measure=>simp[intOf];omega
       ·injection he with he1 he2 he3
        subst he1;subst he3;clear he2;obtain⟨w4,hw4⟩:∃w4,w4=(w3.alloc (.cells #[.int .i64 (i:Int),.int .i64 1] 196)).alloc (.cells #[.int .i64 kd,.int .i64 0,.int .i64 0,.int .i64 nn,.string s] 95):=⟨_,rfl⟩;rw[<-hw4];have gT:Ext w3 w4:=by rw[hw4];exact(((Ext.refl w3).alloc _).alloc _)
        have iE:Blk w4 w3.heap.size 196 #[.int .i64 (i:Int),.int .i64 1]:=by rw[hw4];exact((Blk.new w3 _ _).alloc _)
        have bw:=hid (aC.out.trans gT);have oP:=hid iE;obtain⟨p0,p1⟩:=iE.two';obtain⟨mk,df⟩:∃mk,mk=ms-0:=⟨_,rfl⟩;have wY:IntKind.i64.wrap (ms:Int)=(mk:Int):=by rw[IntWalk.i64_in _ (by omega)];omega
        have Z7:mk<=c5:=by omega
        have fD:w.heap.size<=w4.heap.size:=Nat.le_trans HX.out.size bw.out.size;have ej:=hid (DL (m:=mk) (eg.out.ext bw.out) (by omega));have pW:=hid (fj.out.ext bw.out);have kY:=iE.lt;have rZ:wr.heap.size<=w3.heap.size:=aC.out.size;have lm:Hid (mk<=st.length):=hid (by rw[<-kH.out];omega);have gO:Hid (AT i st ⟨kd,0,0,nn,nt⟩=some ((i,1),st.take mk++[(i,1)])):=hid (by rw[df];exact jw.out);have io:Hid ((w4.alloc (.cells #[.int .i64 (i:Int),.int .i64 1] 196)).drew.ownsRow w.heap.size 196 2 (.slice (some ⟨g5,0,none⟩) mk c5) mk ((prC st).take (mk*2))):=hid (Aj ej.out (fun k _ hk=>Below.heap_alloc w4 _ k hk));have fF:Hid (∀(j:Nat) (u:Value),[Value.int .i64 (i:Int),Value.int .i64 1][j]? =some u->(w4.alloc (.cells #[.int .i64 (i:Int),.int .i64 1] 196)).drew.cell? ((⟨w4.heap.size,0,none⟩:Addr).add j)=some u):=hid (C3 w4 196 [.int .i64 (i:Int),.int .i64 1]);have ai:Hid (mk+1<=maxLen):=hid (by unfold maxLen;omega);have a6:Hid ((mk+1)*16<=140737488355328):=hid (by omega);have a8:Hid (w.heap.size<=(w4.alloc (.cells #[.int .i64 (i:Int),.int .i64 1] 196)).drew.heap.size):=hid (by simp;omega);clear hw4 iE gT df q0
        go_region_law (refine step_append_lies _ rfl (.tmp 96) (.tmp 98) 192 rfl w.heap.size 196 i0 _ 2 16 Tryz.underlying192 hi aE hz1 ba rfl (by decide) _ mk ((prC st).take (mk*2)) rfl io.out ⟨w4.heap.size,0,none⟩ 1 1 [.int .i64 (i:Int),.int .i64 1] rfl rfl fF.out (by simp[Value.oneCell']) (by decide) ai.out a6.out a8.out _ rfl ?_;intro g6 c6 w6 bh cw cG gr;have gD:=hid bh;have iv:=hid cw;have lB:=hid cG;clear bh cw cG)
        all_goals
         have ar:Hid (Ext w4 (w4.alloc (.cells #[.int .i64 (i:Int),.int .i64 1] 196)).drew):=hid ((Ext.refl w4).alloc _).drew;have cR:=hid (Ee (u':= .slice (some ⟨g6,0,none⟩) (mk+1) c6) ej.out pW.out (fun g h1 h2=>HI.out.apart g h2 h1) ar.out fD iv.out lB.out rfl);have ii:Blk w6 w3.heap.size 196 #[.int .i64 (i:Int),.int .i64 1]:=(iv.out.block w3.heap.size (Nat.lt_of_lt_of_le kY ar.out.size) (by intro he;have he2:w3.heap.size=g5:=Option.some.inj he;have:=(BE eg.out g5 rfl).2;omega)).trans (oP.out.ext ar.out);obtain⟨y0,y1⟩:=ii.two';have sZ:Hid (CP w.heap.size w6 (.slice (some ⟨g6,0,none⟩) (mk+1) c6) (mk+1) (st.take mk++[(i,1)])):=hid (by unfold CP;rw[CD,Ei,<-Gt];exact gD.out);have ld:Hid ((w6.alloc (.cells #[.int .i64 (i:Int),.int .i64 1] 196)).ownsRow w.heap.size 196 2 (.slice A4 i c4) i (prC all)):=hid (Aj cR.out.1 (fun k _ hk=>Below.heap_alloc w6 _ k hk));have fN:=hid (C3 w6 196 [.int .i64 (i:Int),.int .i64 1]);have gJ:Hid (i+1<=maxLen):=hid (by unfold maxLen;omega);have gI:Hid ((i+1)*16<=140737488355328):=hid (by omega);have kS:w.heap.size<=w6.heap.size:=Nat.le_trans fD cR.out.2.2.size;have lU:Hid (w.heap.size<=(w6.alloc (.cells #[.int .i64 (i:Int),.int .i64 1] 196)).heap.size):=hid (by simp;omega);clear ii p0 p1;go_wp2_with (at_builtin;go_must (refine wpList_append_lies _ rfl _ _ 192 rfl w.heap.size 196 i0 _ 2 16 Tryz.underlying192 hi aE hz1 ba rfl (by decide) (.slice A4 i c4) i (prC all) rfl ld.out ⟨w6.heap.size,0,none⟩ 1 1 [.int .i64 (i:Int),.int .i64 1] rfl rfl fN.out (by simp[Value.oneCell']) (by decide) gJ.out gI.out lU.out _ rfl ?_;intro g7 c7 w7 cA db dA mf;have d7:=hid (Ee (u':= .slice (some ⟨g7,0,none⟩) (i+1) c7) cR.out.1 sZ.out (fun g h1 h2=>cR.out.2.1 g h2 h1) ((Ext.refl w6).alloc _) kS db dA rfl);have tI:Hid (CP w.heap.size w7 (.slice (some ⟨g7,0,none⟩) (i+1) c7) (i+1) (all++[(i,1)])):=hid (by unfold CP;rw[CD,Ei];exact cA);clear cA db dA));go_wp2_with fail;go_roundw
         case rel=>exact⟨i+1,_,_,by omega,by go_num,HI.out.next dw.out gO.out tI.out d7.out.1 lm.out d7.out.2.1 ((HX.out.trans bw.out).more (cR.out.2.2.trans d7.out.2.2)) (by have:=gf.out;exact this)⟩
         case measure=>simp[intOf];omega
      ·have co:=hid (aD.out (Ie aS (fun h=>hb2 h.2)));rw[aS]at aT;clear aS aD;go_wp2_with fail;refine(aT.out _).mono ?_
       rintro e w2 ⟨rfl,rfl⟩;go_wp2_with fail;refine(cC.out _ (mu.out.ext bj.out)).mono ?_
       rintro e w3 ⟨rfl,ab⟩;have q0:=(dG.out.ext ab).five;have nf:=(dG.out.ext ab).lt;have gX:wr.heap.size<w3.heap.size+1:=by omega
       have gW:wr.heap.size<w3.heap.size+1+1:=by omega
       have gV:wr.heap.size<w3.heap.size+1+1+1:=by omega
       have aC:=hid (bj.out.trans ab);clear ab;go_wp2_with fail;go_ret2;exact⟨_,by rw[co.out];rfl,HX.out.trans (aC.out.trans ((((Ext.refl w3).alloc _).alloc _))),by rw[co.out,jN.out];exact fj.out.ext (aC.out.trans ((((Ext.refl w3).alloc _).alloc _)))⟩
     ·have co:=hid (aD.out (Ie aS (fun h=>ha h.1)));rw[aS]at aT;clear aS aD;go_wp2_with fail;refine(aT.out _).mono ?_
      rintro e w2 ⟨rfl,rfl⟩;go_wp2_with fail;refine(cC.out _ (mu.out.ext bj.out)).mono ?_
      rintro e w3 ⟨rfl,ab⟩;have q0:=(dG.out.ext ab).five;have nf:=(dG.out.ext ab).lt;have gX:wr.heap.size<w3.heap.size+1:=by omega
      have gW:wr.heap.size<w3.heap.size+1+1:=by omega
      have gV:wr.heap.size<w3.heap.size+1+1+1:=by omega
      have aC:=hid (bj.out.trans ab);clear ab;go_wp2_with fail;go_ret2;exact⟨_,by rw[co.out];rfl,HX.out.trans (aC.out.trans ((((Ext.refl w3).alloc _).alloc _))),by rw[co.out,jN.out];exact fj.out.ext (aC.out.trans ((((Ext.refl w3).alloc _).alloc _)))⟩
   ·by_cases hmf:ms<1
    ·obtain rfl:ms=0:=by omega
     have co:=hid (aD.out (Jf (by rw[aS,<-kH.out];decide)));rw[aS]at aT;clear aS hp aD;go_wp2_with fail;refine(aT.out _).mono ?_
     rintro e w2 ⟨rfl,rfl⟩;go_wp2_with fail;go_ret2;exact⟨_,by rw[co.out];rfl,HX.out.trans bj.out,by rw[co.out,jN.out];exact fj.out.ext bj.out⟩
    ·have gM:1<=ms:=by omega
     have hm1':0<ms:=by omega
     have yZ:¬(ms:Int)<1:=by omega
     cases hpb:p
     ·rw[hpb]at hp cC;have co:=hid (aD.out (EO hp.symm));rw[aS]at aT;clear aS hp aD hpb;go_wp2_with fail;refine(aT.out _).mono ?_
      rintro e w2 ⟨rfl,rfl⟩;go_wp2_with fail;refine(cC.out _ (mu.out.ext bj.out)).mono ?_
      rintro e w3 ⟨rfl,ab⟩;have q0:=(dG.out.ext ab).five;have nf:=(dG.out.ext ab).lt;have gX:wr.heap.size<w3.heap.size+1:=by omega
      have gW:wr.heap.size<w3.heap.size+1+1:=by omega
      have gV:wr.heap.size<w3.heap.size+1+1+1:=by omega
      have aC:=hid (bj.out.trans ab);clear ab;go_wp2_with fail;go_ret2;exact⟨_,by rw[co.out];rfl,HX.out.trans aC.out,by rw[co.out,jN.out];exact fj.out.ext aC.out⟩
     ·rw[hpb]at hp cC;have ey:=hid hp.symm;clear hpb hp;obtain⟨g5,d5,he5,so,rK⟩:=eg.out.form (by omega);injection he5 with he5 hx5 hy5
      subst he5;clear hx5 hy5;obtain⟨z1,gS⟩:∃z1:Int,z1=(ms:Int)-1:=⟨_,rfl⟩;have pC:z1.toNat=ms-1:=by omega
      have yo:IntKind.i64.wrap ((ms:Int)-1)=z1:=by rw[IntWalk.i64_in _ (by omega),gS]
      have yh:(0:Int)<=z1:=by omega
      have yg:z1<(ms:Int):=by omega
      obtain⟨f1,eh⟩:∃f1,f1=(st.getD (ms-1) (0,0)).1:=⟨_,rfl⟩;obtain⟨d1,ee⟩:∃d1,d1=(st.getD (ms-1) (0,0)).2:=⟨_,rfl⟩;have rJ:=oI.out (ms-1) (by omega);rw[<-eh,<-ee]at rJ;have lz:Hid (∀W,CP w.heap.size W (.slice (some ⟨g5,0,none⟩) ms c5) ms st->W.cell? ⟨g5,z1.toNat*2,none⟩=some (.int .i64 (f1:Int))/\W.cell? ⟨g5,z1.toNat*2+1,none⟩=some (.int .i64 (d1:Int))):=hid (fun W h=>by rw[pC,eh,ee];exact h.get (ms-1) (by omega));have pS:=hid eh;have iH:=hid ee;obtain⟨zi,oT⟩:∃zi:Int,zi=(i:Int)-1:=⟨_,rfl⟩;have ym:IntKind.i64.wrap ((i:Int)-1)=zi:=by rw[IntWalk.i64_in _ (by omega),oT]
      have sM:=hid oT;have rk:IntKind.i64.wrap ((d1:Int)+1)=((d1+1:Nat):Int):=by rw[IntWalk.i64_in _ (by omega)];omega
      obtain⟨e1,he1⟩:∃e1,e1=d1+1:=⟨_,rfl⟩;rw[<-he1]at rk;have gQ:=hid he1;have sN:=hid gS;clear eh ee oT he1 gS pC;by_cases ha:na=zi
      ·subst ha;by_cases hb2:nb=0
       ·subst hb2;have jw:Hid (AT i st ⟨kd,na,0,nn,nt⟩=some ((f1,e1),st.take (ms-1)++[(f1,e1)])):=hid (by
         have h:=Ru (i:=i) (st:=st) (n:=nn) (t:=nt) aS (by rw[<-sM.out];exact ey.out) (by rw[<-kH.out];omega);rw[<-sM.out,<-kH.out,<-pS.out,<-iH.out,<-gQ.out]at h;exact h)
        have gf:Hid (f1<=i+1/\e1<=i+1):=hid ⟨by omega,by rw[gQ.out];omega⟩;have he1b:e1<=1000002:=by rw[gQ.out];omega
        rw[aS]at aT;clear aS aD;go_wp2_with fail;refine(aT.out _).mono ?_
        rintro e w2 ⟨rfl,rfl⟩;go_wp2_with fail;refine(cC.out _ (mu.out.ext bj.out)).mono ?_
        rintro e w3 ⟨rfl,ab⟩;have q0:=(dG.out.ext ab).five;have nf:=(dG.out.ext ab).lt;have gX:wr.heap.size<w3.heap.size+1:=by omega
        have gW:wr.heap.size<w3.heap.size+1+1:=by omega
        have gV:wr.heap.size<w3.heap.size+1+1+1:=by omega
        have aC:=hid (bj.out.trans ab);clear ab;have nL:=(BE (eg.out.ext aC.out) g5 rfl).2;have nO:g5<w3.heap.size+1:=by omega
        have nN:g5<w3.heap.size+1+1:=by omega
        have nM:g5<w3.heap.size+1+1+1:=by omega
        obtain⟨vR,vQ⟩:=lz.out w3 (eg.out.ext aC.out);go_upto_region 20 with fail;have t5:ms<=c5:=by
         rcases eg.out.2 with ⟨he,h0⟩|⟨g5',vP,vN,he,_,_,t5,_⟩
         ·cases he
         ·injection he with he1 he2 he3;rw[he3];exact t5
        obtain⟨w4,hw4⟩:∃w4,w4=((w3.alloc (.cells #[.int .i64 (f1:Int),.int .i64 (e1:Int)] 196)).alloc (.cells #[.int .i64 kd,.int .i64 na,.int .i64 0,.int .i64 nn,.string s] 95)).alloc (.cells #[.int .i64 (f1:Int),.int .i64 (d1:Int)] 196):=⟨_,rfl⟩;rw[<-hw4];have gT:Ext w3 w4:=by rw[hw4];exact((((Ext.refl w3).alloc _).alloc _).alloc _)
        have iE:Blk w4 w3.heap.size 196 #[.int .i64 (f1:Int),.int .i64 (e1:Int)]:=by rw[hw4];exact(((Blk.new w3 _ _).alloc _).alloc _)
        have bw:=hid (aC.out.trans gT);have oP:=hid iE;obtain⟨p0,p1⟩:=iE.two';obtain⟨mk,df⟩:∃mk,mk=ms-1:=⟨_,rfl⟩;have ul:z1<=(c5:Int):=by have:=sN.out;omega
        have m7:z1.toNat=mk:=by have:=sN.out;omega
        have fD:w.heap.size<=w4.heap.size:=Nat.le_trans HX.out.size bw.out.size;have ej:=hid (DL (m:=mk) (eg.out.ext bw.out) (by omega));have pW:=hid (fj.out.ext bw.out);have kY:=iE.lt;have rZ:wr.heap.size<=w3.heap.size:=aC.out.size;have lm:Hid (mk<=st.length):=hid (by rw[<-kH.out];omega);have gO:Hid (AT i st ⟨kd,na,0,nn,nt⟩=some ((f1,e1),st.take mk++[(f1,e1)])):=hid (by rw[df];exact jw.out);have io:Hid ((w4.alloc (.cells #[.int .i64 (f1:Int),.int .i64 (e1:Int)] 196)).drew.ownsRow w.heap.size 196 2 (.slice (some ⟨g5,0,none⟩) mk c5) mk ((prC st).take (mk*2))):=hid (Aj ej.out (fun k _ hk=>Below.heap_alloc w4 _ k hk));have fF:Hid (∀(j:Nat) (u:Value),[Value.int .i64 (f1:Int),Value.int .i64 (e1:Int)][j]? =some u->(w4.alloc (.cells #[.int .i64 (f1:Int),.int .i64 (e1:Int)] 196)).drew.cell? ((⟨w4.heap.size,0,none⟩:Addr).add j)=some u):=hid (C3 w4 196 [.int .i64 (f1:Int),.int .i64 (e1:Int)]);have ai:Hid (mk+1<=maxLen):=hid (by unfold maxLen;omega);have a6:Hid ((mk+1)*16<=140737488355328):=hid (by omega);have a8:Hid (w.heap.size<=(w4.alloc (.cells #[.int .i64 (f1:Int),.int .i64 (e1:Int)] 196)).drew.heap.size):=hid (by simp;omega);clear hw4 iE gT df q0
        go_region_law (refine step_append_lies _ rfl (.tmp 96) (.tmp 98) 192 rfl w.heap.size 196 i0 _ 2 16 Tryz.underlying192 hi aE hz1 ba rfl (by decide) _ mk ((prC st).take (mk*2)) rfl io.out ⟨w4.heap.size,0,none⟩ 1 1 [.int .i64 (f1:Int),.int .i64 (e1:Int)] rfl rfl fF.out (by simp[Value.oneCell']) (by decide) ai.out a6.out a8.out _ rfl ?_;intro g6 c6 w6 bh cw cG gr;have gD:=hid bh;have iv:=hid cw;have lB:=hid cG;clear bh cw cG)
        all_goals
         have ar:Hid (Ext w4 (w4.alloc (.cells #[.int .i64 (f1:Int),.int .i64 (e1:Int)] 196)).drew):=hid ((Ext.refl w4).alloc _).drew;have cR:=hid (Ee (u':= .slice (some ⟨g6,0,none⟩) (mk+1) c6) ej.out pW.out (fun g h1 h2=>HI.out.apart g h2 h1) ar.out fD iv.out lB.out rfl);have ii:Blk w6 w3.heap.size 196 #[.int .i64 (f1:Int),.int .i64 (e1:Int)]:=(iv.out.block w3.heap.size (Nat.lt_of_lt_of_le kY ar.out.size) (by intro he;have he2:w3.heap.size=g5:=Option.some.inj he;have:=(BE eg.out g5 rfl).2;omega)).trans (oP.out.ext ar.out);obtain⟨y0,y1⟩:=ii.two';have sZ:Hid (CP w.heap.size w6 (.slice (some ⟨g6,0,none⟩) (mk+1) c6) (mk+1) (st.take mk++[(f1,e1)])):=hid (by unfold CP;rw[CD,Ei,<-Gt];exact gD.out);have ld:Hid ((w6.alloc (.cells #[.int .i64 (f1:Int),.int .i64 (e1:Int)] 196)).ownsRow w.heap.size 196 2 (.slice A4 i c4) i (prC all)):=hid (Aj cR.out.1 (fun k _ hk=>Below.heap_alloc w6 _ k hk));have fN:=hid (C3 w6 196 [.int .i64 (f1:Int),.int .i64 (e1:Int)]);have gJ:Hid (i+1<=maxLen):=hid (by unfold maxLen;omega);have gI:Hid ((i+1)*16<=140737488355328):=hid (by omega);have kS:w.heap.size<=w6.heap.size:=Nat.le_trans fD cR.out.2.2.size;have lU:Hid (w.heap.size<=(w6.alloc (.cells #[.int .i64 (f1:Int),.int .i64 (e1:Int)] 196)).heap.size):=hid (by simp;omega);clear ii p0 p1;go_wp2_with (at_builtin;go_must (refine wpList_append_lies _ rfl _ _ 192 rfl w.heap.size 196 i0 _ 2 16 Tryz.underlying192 hi aE hz1 ba rfl (by decide) (.slice A4 i c4) i (prC all) rfl ld.out ⟨w6.heap.size,0,none⟩ 1 1 [.int .i64 (f1:Int),.int .i64 (e1:Int)] rfl rfl fN.out (by simp[Value.oneCell']) (by decide) gJ.out gI.out lU.out _ rfl ?_;intro g7 c7 w7 cA db dA mf;have d7:=hid (Ee (u':= .slice (some ⟨g7,0,none⟩) (i+1) c7) cR.out.1 sZ.out (fun g h1 h2=>cR.out.2.1 g h2 h1) ((Ext.refl w6).alloc _) kS db dA rfl);have tI:Hid (CP w.heap.size w7 (.slice (some ⟨g7,0,none⟩) (i+1) c7) (i+1) (all++[(f1,e1)])):=hid (by unfold CP;rw[CD,Ei];exact cA);clear cA db dA));go_wp2_with fail;go_roundw
         case rel=>exact⟨i+1,_,_,by omega,by go_num,HI.out.next dw.out gO.out tI.out d7.out.1 lm.out d7.out.2.1 ((HX.out.trans bw.out).more (cR.out.2.2.trans d7.out.2.2)) (by have:=gf.out;exact this)⟩
         case measure=>simp[intOf];omega
       ·have co:=hid (aD.out (Ic aS (fun h=>hb2 h.2)));rw[aS]at aT;clear aS aD;go_wp2_with fail;refine(aT.out _).mono ?_
        rintro e w2 ⟨rfl,rfl⟩;go_wp2_with fail;refine(cC.out _ (mu.out.ext bj.out)).mono ?_
        rintro e w3 ⟨rfl,ab⟩;have q0:=(dG.out.ext ab).five;have nf:=(dG.out.ext ab).lt;have gX:wr.heap.size<w3.heap.size+1:=by omega
        have gW:wr.heap.size<w3.heap.size+1+1:=by omega
        have gV:wr.heap.size<w3.heap.size+1+1+1:=by omega
        have aC:=hid (bj.out.trans ab);clear ab;have nL:=(BE (eg.out.ext aC.out) g5 rfl).2;have nO:g5<w3.heap.size+1:=by omega
        have nN:g5<w3.heap.size+1+1:=by omega
        have nM:g5<w3.heap.size+1+1+1:=by omega
        obtain⟨vR,vQ⟩:=lz.out w3 (eg.out.ext aC.out);go_wp2_with fail;go_ret2;exact⟨_,by rw[co.out];rfl,HX.out.trans (aC.out.trans (((((Ext.refl w3).alloc _).alloc _).alloc _))),by rw[co.out,jN.out];exact fj.out.ext (aC.out.trans (((((Ext.refl w3).alloc _).alloc _).alloc _)))⟩
      ·have co:=hid (aD.out (Ic aS (fun h=>ha (h.1.trans sM.out.symm))));rw[aS]at aT;clear aS aD;go_wp2_with fail;refine(aT.out _).mono ?_
       rintro e w2 ⟨rfl,rfl⟩;go_wp2_with fail;refine(cC.out _ (mu.out.ext bj.out)).mono ?_
       rintro e w3 ⟨rfl,ab⟩;have q0:=(dG.out.ext ab).five;have nf:=(dG.out.ext ab).lt;have gX:wr.heap.size<w3.heap.size+1:=by omega
       have gW:wr.heap.size<w3.heap.size+1+1:=by omega
       have gV:wr.heap.size<w3.heap.size+1+1+1:=by omega
       have aC:=hid (bj.out.trans ab);clear ab;have nL:=(BE (eg.out.ext aC.out) g5 rfl).2;have nO:g5<w3.heap.size+1:=by omega
       have nN:g5<w3.heap.size+1+1:=by omega
       have nM:g5<w3.heap.size+1+1+1:=by omega
       obtain⟨vR,vQ⟩:=lz.out w3 (eg.out.ext aC.out);go_wp2_with fail;go_ret2;exact⟨_,by rw[co.out];rfl,HX.out.trans (aC.out.trans (((((Ext.refl w3).alloc _).alloc _).alloc _))),by rw[co.out,jN.out];exact fj.out.ext (aC.out.trans (((((Ext.refl w3).alloc _).alloc _).alloc _)))⟩
   ·by_cases hmf:ms<2
    ·have hfd:decide (ms<2)=true:=decide_eq_true hmf;have co:=hid (aD.out (Jf (by rw[aS,<-kH.out];omega)));have hfw:((ms:Int)<2):=by omega
     rw[aS]at aT;clear aS hp aD;go_wp2_with fail;refine(aT.out _).mono ?_
     rintro e w2 ⟨rfl,rfl⟩;go_wp2_with fail;go_ret2;exact⟨_,by rw[co.out];rfl,HX.out.trans bj.out,by rw[co.out,jN.out];exact fj.out.ext bj.out⟩
    ·have gM:2<=ms:=by omega
     have hm1d:decide (ms<2)=false:=decide_eq_false hmf;have yZ:¬(ms:Int)<2:=by omega
     cases hpb:p
     ·rw[hpb]at hp cC;have co:=hid (aD.out (EO hp.symm));rw[aS]at aT;clear aS hp aD hpb;go_wp2_with fail;refine(aT.out _).mono ?_
      rintro e w2 ⟨rfl,rfl⟩;go_wp2_with fail;refine(cC.out _ (mu.out.ext bj.out)).mono ?_
      rintro e w3 ⟨rfl,ab⟩;have q0:=(dG.out.ext ab).five;have nf:=(dG.out.ext ab).lt;have gX:wr.heap.size<w3.heap.size+1:=by omega
      have gW:wr.heap.size<w3.heap.size+1+1:=by omega
      have gV:wr.heap.size<w3.heap.size+1+1+1:=by omega
      have aC:=hid (bj.out.trans ab);clear ab;go_wp2_with fail;go_ret2;exact⟨_,by rw[co.out];rfl,HX.out.trans aC.out,by rw[co.out,jN.out];exact fj.out.ext aC.out⟩
     ·rw[hpb]at hp cC;have ey:=hid hp.symm;clear hpb hp;obtain⟨g5,d5,he5,so,rK⟩:=eg.out.form (by omega);injection he5 with he5 hx5 hy5
      subst he5;clear hx5 hy5;obtain⟨z1,gS⟩:∃z1:Int,z1=(ms:Int)-1:=⟨_,rfl⟩;have pC:z1.toNat=ms-1:=by omega
      have yo:IntKind.i64.wrap ((ms:Int)-1)=z1:=by rw[IntWalk.i64_in _ (by omega),gS]
      have yh:(0:Int)<=z1:=by omega
      have yg:z1<(ms:Int):=by omega
      obtain⟨f1,eh⟩:∃f1,f1=(st.getD (ms-1) (0,0)).1:=⟨_,rfl⟩;obtain⟨d1,ee⟩:∃d1,d1=(st.getD (ms-1) (0,0)).2:=⟨_,rfl⟩;have rJ:=oI.out (ms-1) (by omega);rw[<-eh,<-ee]at rJ;have lz:Hid (∀W,CP w.heap.size W (.slice (some ⟨g5,0,none⟩) ms c5) ms st->W.cell? ⟨g5,z1.toNat*2,none⟩=some (.int .i64 (f1:Int))/\W.cell? ⟨g5,z1.toNat*2+1,none⟩=some (.int .i64 (d1:Int))):=hid (fun W h=>by rw[pC,eh,ee];exact h.get (ms-1) (by omega));have pS:=hid eh;have iH:=hid ee;obtain⟨zi,oT⟩:∃zi:Int,zi=(i:Int)-1:=⟨_,rfl⟩;have ym:IntKind.i64.wrap ((i:Int)-1)=zi:=by rw[IntWalk.i64_in _ (by omega),oT]
      have sM:=hid oT;have rk:IntKind.i64.wrap ((d1:Int)+1)=((d1+1:Nat):Int):=by rw[IntWalk.i64_in _ (by omega)];omega
      obtain⟨e1,he1⟩:∃e1,e1=d1+1:=⟨_,rfl⟩;rw[<-he1]at rk;have gQ:=hid he1;have sN:=hid gS;clear eh ee oT he1 gS pC;obtain⟨z2,m9⟩:∃z2:Int,z2=(ms:Int)-2:=⟨_,rfl⟩;have rT:z2.toNat=ms-2:=by omega
      have Zw:IntKind.i64.wrap ((ms:Int)-2)=z2:=by rw[IntWalk.i64_in _ (by omega),m9]
      have Zo:(0:Int)<=z2:=by omega
      have Zn:z2<(ms:Int):=by omega
      obtain⟨f2,qo⟩:∃f2,f2=(st.getD (ms-2) (0,0)).1:=⟨_,rfl⟩;obtain⟨d2,eN⟩:∃d2,d2=(st.getD (ms-2) (0,0)).2:=⟨_,rfl⟩;have rI:=oI.out (ms-2) (by omega);rw[<-qo,<-eN]at rI;have tF:Hid (∀W,CP w.heap.size W (.slice (some ⟨g5,0,none⟩) ms c5) ms st->W.cell? ⟨g5,z2.toNat*2,none⟩=some (.int .i64 (f2:Int))/\W.cell? ⟨g5,z2.toNat*2+1,none⟩=some (.int .i64 (d2:Int))):=hid (fun W h=>by rw[rT,qo,eN];exact h.get (ms-2) (by omega));have HF2:=hid qo;have mW:=hid eN;have yr:IntKind.i64.wrap ((d2:Int)+1)=((d2+1:Nat):Int):=by rw[IntWalk.i64_in _ (by omega)];omega
      obtain⟨e2,he2⟩:∃e2,e2=d2+1:=⟨_,rfl⟩;rw[<-he2]at yr;have eJ:=hid he2;obtain⟨mx,uS⟩:∃mx,mx=max e1 e2:=⟨_,rfl⟩;have dT:max (e1:Int) (e2:Int)=(mx:Int):=by omega
      have Wc:=hid uS;obtain⟨zf,yd⟩:∃zf:Int,zf=(f1:Int)-1:=⟨_,rfl⟩;have Zv:IntKind.i64.wrap ((f1:Int)-1)=zf:=by rw[IntWalk.i64_in _ (by omega),yd]
      have VC:=hid yd;have vU:=hid m9;clear qo eN he2 m9 rT uS yd;by_cases ha:na=zf
      ·subst ha;by_cases hb2:nb=zi
       ·subst hb2;have jw:Hid (AT i st ⟨kd,na,nb,nn,nt⟩=some ((f2,mx),st.take (ms-2)++[(f2,mx)])):=hid (by
         have h:=Rt (i:=i) (st:=st) (n:=nn) (t:=nt) aS (by rw[<-kH.out,<-pS.out,<-VC.out,<-sM.out];exact ey.out) (by rw[<-kH.out];omega);rw[<-kH.out,<-pS.out,<-VC.out,<-sM.out,<-HF2.out,<-iH.out,<-mW.out,<-gQ.out,<-eJ.out,<-Wc.out]at h;exact h)
        have gf:Hid (f2<=i+1/\mx<=i+1):=hid ⟨by omega,by rw[Wc.out,gQ.out,eJ.out];omega⟩;have Z3:mx<=1000002:=by rw[Wc.out,gQ.out,eJ.out];omega
        rw[aS]at aT;clear aS aD;go_wp2_with fail;refine(aT.out _).mono ?_
        rintro e w2 ⟨rfl,rfl⟩;go_wp2_with fail;refine(cC.out _ (mu.out.ext bj.out)).mono ?_
        rintro e w3 ⟨rfl,ab⟩;have q0:=(dG.out.ext ab).five;have nf:=(dG.out.ext ab).lt;have gX:wr.heap.size<w3.heap.size+1:=by omega
        have gW:wr.heap.size<w3.heap.size+1+1:=by omega
        have gV:wr.heap.size<w3.heap.size+1+1+1:=by omega
        have aC:=hid (bj.out.trans ab);clear ab;have nL:=(BE (eg.out.ext aC.out) g5 rfl).2;have nO:g5<w3.heap.size+1:=by omega
        have nN:g5<w3.heap.size+1+1:=by omega
        have nM:g5<w3.heap.size+1+1+1:=by omega
        obtain⟨vR,vQ⟩:=lz.out w3 (eg.out.ext aC.out);obtain⟨X5,X4⟩:=tF.out w3 (eg.out.ext aC.out);go_upto_region 20 with fail;have t5:ms<=c5:=by
         rcases eg.out.2 with ⟨he,h0⟩|⟨g5',vP,vN,he,_,_,t5,_⟩
         ·cases he
         ·injection he with he1 he2 he3;rw[he3];exact t5
        obtain⟨w4,hw4⟩:∃w4,w4=(((w3.alloc (.cells #[.int .i64 (f2:Int),.int .i64 (mx:Int)] 196)).alloc (.cells #[.int .i64 kd,.int .i64 na,.int .i64 nb,.int .i64 nn,.string s] 95)).alloc (.cells #[.int .i64 (f1:Int),.int .i64 (d1:Int)] 196)).alloc (.cells #[.int .i64 (f2:Int),.int .i64 (d2:Int)] 196):=⟨_,rfl⟩;rw[<-hw4];have gT:Ext w3 w4:=by rw[hw4];exact(((((Ext.refl w3).alloc _).alloc _).alloc _).alloc _)
        have iE:Blk w4 w3.heap.size 196 #[.int .i64 (f2:Int),.int .i64 (mx:Int)]:=by rw[hw4];exact((((Blk.new w3 _ _).alloc _).alloc _).alloc _)
        have bw:=hid (aC.out.trans gT);have oP:=hid iE;obtain⟨p0,p1⟩:=iE.two';obtain⟨mk,df⟩:∃mk,mk=ms-2:=⟨_,rfl⟩;have ul:z2<=(c5:Int):=by have:=vU.out;omega
        have m7:z2.toNat=mk:=by have:=vU.out;omega
        have fD:w.heap.size<=w4.heap.size:=Nat.le_trans HX.out.size bw.out.size;have ej:=hid (DL (m:=mk) (eg.out.ext bw.out) (by omega));have pW:=hid (fj.out.ext bw.out);have kY:=iE.lt;have rZ:wr.heap.size<=w3.heap.size:=aC.out.size;have lm:Hid (mk<=st.length):=hid (by rw[<-kH.out];omega);have gO:Hid (AT i st ⟨kd,na,nb,nn,nt⟩=some ((f2,mx),st.take mk++[(f2,mx)])):=hid (by rw[df];exact jw.out);have io:Hid ((w4.alloc (.cells #[.int .i64 (f2:Int),.int .i64 (mx:Int)] 196)).drew.ownsRow w.heap.size 196 2 (.slice (some ⟨g5,0,none⟩) mk c5) mk ((prC st).take (mk*2))):=hid (Aj ej.out (fun k _ hk=>Below.heap_alloc w4 _ k hk));have fF:Hid (∀(j:Nat) (u:Value),[Value.int .i64 (f2:Int),Value.int .i64 (mx:Int)][j]? =some u->(w4.alloc (.cells #[.int .i64 (f2:Int),.int .i64 (mx:Int)] 196)).drew.cell? ((⟨w4.heap.size,0,none⟩:Addr).add j)=some u):=hid (C3 w4 196 [.int .i64 (f2:Int),.int .i64 (mx:Int)]);have ai:Hid (mk+1<=maxLen):=hid (by unfold maxLen;omega);have a6:Hid ((mk+1)*16<=140737488355328):=hid (by omega);have a8:Hid (w.heap.size<=(w4.alloc (.cells #[.int .i64 (f2:Int),.int .i64 (mx:Int)] 196)).drew.heap.size):=hid (by simp;omega);clear hw4 iE gT df q0
        go_region_law (refine step_append_lies _ rfl (.tmp 96) (.tmp 98) 192 rfl w.heap.size 196 i0 _ 2 16 Tryz.underlying192 hi aE hz1 ba rfl (by decide) _ mk ((prC st).take (mk*2)) rfl io.out ⟨w4.heap.size,0,none⟩ 1 1 [.int .i64 (f2:Int),.int .i64 (mx:Int)] rfl rfl fF.out (by simp[Value.oneCell']) (by decide) ai.out a6.out a8.out _ rfl ?_;intro g6 c6 w6 bh cw cG gr;have gD:=hid bh;have iv:=hid cw;have lB:=hid cG;clear bh cw cG)
        all_goals
         have ar:Hid (Ext w4 (w4.alloc (.cells #[.int .i64 (f2:Int),.int .i64 (mx:Int)] 196)).drew):=hid ((Ext.refl w4).alloc _).drew;have cR:=hid (Ee (u':= .slice (some ⟨g6,0,none⟩) (mk+1) c6) ej.out pW.out (fun g h1 h2=>HI.out.apart g h2 h1) ar.out fD iv.out lB.out rfl);have ii:Blk w6 w3.heap.size 196 #[.int .i64 (f2:Int),.int .i64 (mx:Int)]:=(iv.out.block w3.heap.size (Nat.lt_of_lt_of_le kY ar.out.size) (by intro he;have he2:w3.heap.size=g5:=Option.some.inj he;have:=(BE eg.out g5 rfl).2;omega)).trans (oP.out.ext ar.out);obtain⟨y0,y1⟩:=ii.two';have sZ:Hid (CP w.heap.size w6 (.slice (some ⟨g6,0,none⟩) (mk+1) c6) (mk+1) (st.take mk++[(f2,mx)])):=hid (by unfold CP;rw[CD,Ei,<-Gt];exact gD.out);have ld:Hid ((w6.alloc (.cells #[.int .i64 (f2:Int),.int .i64 (mx:Int)] 196)).ownsRow w.heap.size 196 2 (.slice A4 i c4) i (prC all)):=hid (Aj cR.out.1 (fun k _ hk=>Below.heap_alloc w6 _ k hk));have fN:=hid (C3 w6 196 [.int .i64 (f2:Int),.int .i64 (mx:Int)]);have gJ:Hid (i+1<=maxLen):=hid (by unfold maxLen;omega);have gI:Hid ((i+1)*16<=140737488355328):=hid (by omega);have kS:w.heap.size<=w6.heap.size:=Nat.le_trans fD cR.out.2.2.size;have lU:Hid (w.heap.size<=(w6.alloc (.cells #[.int .i64 (f2:Int),.int .i64 (mx:Int)] 196)).heap.size):=hid (by simp;omega);clear ii p0 p1;go_wp2_with (at_builtin;go_must (refine wpList_append_lies _ rfl _ _ 192 rfl w.heap.size 196 i0 _ 2 16 Tryz.underlying192 hi aE hz1 ba rfl (by decide) (.slice A4 i c4) i (prC all) rfl ld.out ⟨w6.heap.size,0,none⟩ 1 1 [.int .i64 (f2:Int),.int .i64 (mx:Int)] rfl rfl fN.out (by simp[Value.oneCell']) (by decide) gJ.out gI.out lU.out _ rfl ?_;intro g7 c7 w7 cA db dA mf;have d7:=hid (Ee (u':= .slice (some ⟨g7,0,none⟩) (i+1) c7) cR.out.1 sZ.out (fun g h1 h2=>cR.out.2.1 g h2 h1) ((Ext.refl w6).alloc _) kS db dA rfl);have tI:Hid (CP w.heap.size w7 (.slice (some ⟨g7,0,none⟩) (i+1) c7) (i+1) (all++[(f2,mx)])):=hid (by unfold CP;rw[CD,Ei];exact cA);clear cA db dA));go_wp2_with fail;go_roundw
         case rel=>exact⟨i+1,_,_,by omega,by go_num,HI.out.next dw.out gO.out tI.out d7.out.1 lm.out d7.out.2.1 ((HX.out.trans bw.out).more (cR.out.2.2.trans d7.out.2.2)) (by have:=gf.out;exact this)⟩
         case measure=>simp[intOf];omega
       ·have co:=hid (aD.out (Ib aS (fun h=>hb2 (h.2.trans sM.out.symm))));rw[aS]at aT;clear aS aD;go_wp2_with fail;refine(aT.out _).mono ?_
        rintro e w2 ⟨rfl,rfl⟩;go_wp2_with fail;refine(cC.out _ (mu.out.ext bj.out)).mono ?_
        rintro e w3 ⟨rfl,ab⟩;have q0:=(dG.out.ext ab).five;have nf:=(dG.out.ext ab).lt;have gX:wr.heap.size<w3.heap.size+1:=by omega
        have gW:wr.heap.size<w3.heap.size+1+1:=by omega
        have gV:wr.heap.size<w3.heap.size+1+1+1:=by omega
        have aC:=hid (bj.out.trans ab);clear ab;have nL:=(BE (eg.out.ext aC.out) g5 rfl).2;have nO:g5<w3.heap.size+1:=by omega
        have nN:g5<w3.heap.size+1+1:=by omega
        have nM:g5<w3.heap.size+1+1+1:=by omega
        obtain⟨vR,vQ⟩:=lz.out w3 (eg.out.ext aC.out);obtain⟨X5,X4⟩:=tF.out w3 (eg.out.ext aC.out);go_wp2_with fail;go_ret2;exact⟨_,by rw[co.out];rfl,HX.out.trans (aC.out.trans ((((((Ext.refl w3).alloc _).alloc _).alloc _).alloc _))),by rw[co.out,jN.out];exact fj.out.ext (aC.out.trans ((((((Ext.refl w3).alloc _).alloc _).alloc _).alloc _)))⟩
      ·have co:=hid (aD.out (Ib aS (fun h=>ha (h.1.trans (by rw[<-kH.out,<-pS.out];exact VC.out.symm)))));rw[aS]at aT;clear aS aD;go_wp2_with fail;refine(aT.out _).mono ?_
       rintro e w2 ⟨rfl,rfl⟩;go_wp2_with fail;refine(cC.out _ (mu.out.ext bj.out)).mono ?_
       rintro e w3 ⟨rfl,ab⟩;have q0:=(dG.out.ext ab).five;have nf:=(dG.out.ext ab).lt;have gX:wr.heap.size<w3.heap.size+1:=by omega
       have gW:wr.heap.size<w3.heap.size+1+1:=by omega
       have gV:wr.heap.size<w3.heap.size+1+1+1:=by omega
       have aC:=hid (bj.out.trans ab);clear ab;have nL:=(BE (eg.out.ext aC.out) g5 rfl).2;have nO:g5<w3.heap.size+1:=by omega
       have nN:g5<w3.heap.size+1+1:=by omega
       have nM:g5<w3.heap.size+1+1+1:=by omega
       obtain⟨vR,vQ⟩:=lz.out w3 (eg.out.ext aC.out);obtain⟨X5,X4⟩:=tF.out w3 (eg.out.ext aC.out);go_wp2_with fail;go_ret2;exact⟨_,by rw[co.out];rfl,HX.out.trans (aC.out.trans ((((((Ext.refl w3).alloc _).alloc _).alloc _).alloc _))),by rw[co.out,jN.out];exact fj.out.ext (aC.out.trans ((((((Ext.refl w3).alloc _).alloc _).alloc _).alloc _)))⟩
  ·obtain rfl:i=n:=by omega
   have o6:=a5.go;rw[List.drop_eq_nil_of_le (by rw[<-HN.out];exact Nat.le_refl _),F4,<-kH.out]at o6;have fy:=hid o6;have HX:=hid a5.ext;have fj:=hid a5.ra;have jN:=hid a5.ra.len;clear a5 o6;go_wp2_with fail;go_ret2;exact⟨_,by rw[fy.out];rfl,HX.out,by rw[fy.out,jN.out];exact fj.out⟩
theorem Rw(l:List Nd):∀(i:Nat) (all st:List (Nat × Nat)),(F4 i all st l).2≠0->(F4 i all st l).1.length=all.length+l.length:=by
 induction l with
 |nil=>intro i all st _;rfl
 |cons x t ih=>
  intro i all st h;rw[F4]at h ⊢;cases hs:AT i st x with
  |none=>rw[hs]at h;exact absurd rfl h
  |some q=>
   obtain⟨p,st'⟩:=q;rw[hs]at h;simp only at h ⊢;rw[ih _ _ _ h,List.length_append,List.length_cons];simp;omega
theorem Jd(w:World)(v:Value)(l:List Nd)(hr:RNd w v l)(hl:l.length<=1000000)(nh:∀x∈l,x.text.length<=1073741824)(hm:Ce w):Calls Tryz.prog 68 #[v] w fun e w'=>e= .returned (.bool (GZ l))/\Ext w w':=by
 have HS:=hid (PP w v l hr hl nh hm);have HV:Hid (GZ l=(decide (1<=l.length/\l.length<=200) && (decide ((Dw l).2=1) && decide (((Dw l).1.getD (l.length-1) (0,0)).2<=40)))):=hid rfl;have cC:Hid ((Dw l).2≠0->(Dw l).1.length=l.length):=hid (fun h=>by have:=Rw l 0 [] [] h;rw[List.length_nil,Nat.zero_add]at this;exact this);obtain⟨A,c,rfl,_⟩:=hr;generalize GZ l=r at *;clear nh hm;obtain⟨n,hn⟩:∃n,n=l.length:=⟨_,rfl⟩;rw[<-hn]at hl HV HS cC ⊢;clear hn;by_cases h1:n<1
 ·obtain rfl:n=0:=by omega
  clear HS h1 cC;go_enter Tryz.func68,Tryz.ntmps68;go_wp2_with fail;go_ret;exact⟨by rw[HV.out];rfl,Ext.refl w⟩
 ·have Vn:¬((n:Int)<1):=by omega
  by_cases h2:200<n
  ·have Vl:(200:Int)<(n:Int):=by omega
   have hd:decide (1<=n/\n<=200)=false:=decide_eq_false (by omega);rw[hd]at HV;clear HS h1 h2 hd cC;go_enter Tryz.func68,Tryz.ntmps68;go_wp2_with fail;go_ret;exact⟨by rw[HV.out];rfl,Ext.refl w⟩
  ·have Vl:¬(200:Int)<(n:Int):=by omega
   have hd:decide (1<=n/\n<=200)=true:=decide_eq_true (by omega);rw[hd,Bool.true_and]at HV;have h1n:1<=n:=by omega
   clear h1 h2 hd;unfold KS at HS;generalize (Dw l).2=Vu at *;generalize (Dw l).1=all at *;go_enter Tryz.func68,Tryz.ntmps68;go_wp2_with fail;refine HS.out.mono ?_
   rintro e w1 ⟨v1,rfl,hx,be⟩;have HX:=hid hx;have i4:=hid be;obtain⟨A4,c4,rfl⟩:=AN be;clear hx be;by_cases hc1:Vu=1
   ·subst hc1;have kD:=cC.out (by decide);obtain⟨g4,d4,fU,_,_⟩:=i4.out.form (by omega);injection fU with fU he5 he6
    subst fU;clear he5 he6;have tO:=i4.out;rw[kD]at tO;have aa:=(CP.get tO (n-1) (by omega)).2;obtain⟨y,hy⟩:∃y:Int,y=(n:Int)-1:=⟨_,rfl⟩;have hj:y.toNat=n-1:=by omega
    rw[<-hj]at aa HV;have hw:IntKind.i64.wrap ((n:Int)-1)=y:=by rw[IntWalk.i64_in _ (by omega),hy]
    have mK:(0:Int)<=y:=by omega
    have iB:y<(n:Int):=by omega
    have hdv:decide ((all.getD y.toNat (0,0)).2<=40)=decide (((all.getD y.toNat (0,0)).2:Int)<=40):=by rw[decide_eq_decide];omega
    have pf:Hid (r=decide (((all.getD y.toNat (0,0)).2:Int)<=40)):=hid (by rw[HV.out,<-hdv];rfl);generalize (all.getD y.toNat (0,0)).2=dv at *;rw[kD];clear tO hj hy hdv kD HV cC;go_wp2_with fail;go_ret;exact⟨by rw[pf.out];rfl,HX.out⟩
   ·have nV:((Vu:Int) == 1)=false:=by rw[beq_eq_false_iff_ne];omega
    have lf:Hid (r=false):=hid (by rw[HV.out,decide_eq_false hc1];rfl);generalize all.length=m at *;clear hc1 HV cC;generalize (Vu:Int)=cz at *;go_wp2_with fail;go_ret;exact⟨by rw[lf.out];rfl,HX.out⟩
theorem JI(e:Ex)(hg:e.Well):∀off,∀x∈Ak off e,x.text.length<=1073741824:=by
 induction e with
 |leaf k t=>
  intro off x hx;rw[Ak,List.mem_singleton]at hx;subst hx;rcases hg with ⟨_,h⟩|⟨_,h⟩|⟨_,rfl⟩
  ·have:=MH h;simp only;omega
  ·have:=Gj (Bool.and_eq_true_iff.1 h).1;simp only;omega
  ·simp
 |un k n x ih=>
  intro off y hy;rw[Ak,List.mem_append,List.mem_singleton]at hy;rcases hy with hy|rfl
  ·exact ih hg.2.2.2.2 off y hy
  ·simp
 |bin k x z ihx ihy=>
  intro off y hy;rw[Ak,List.mem_append,List.mem_append,List.mem_singleton]at hy;rcases hy with hy|hy|rfl
  ·exact ihx hg.2.1 _ y hy
  ·exact ihy hg.2.2 _ y hy
  ·simp
def DY(s:List UInt8):Option Ex × Nat × Nat:=
 if (Bj s).2.2≠0 then (none,(Bj s).2.1,(Bj s).2.2)
 else if (Bh (Bj s).1 ((Bj s).1.length+1) 0).2<(Bj s).1.length then (none,((Bj s).1.getD (Bh (Bj s).1 ((Bj s).1.length+1) 0).2 ⟨0,0,[]⟩).at_,6)
 else match (Bh (Bj s).1 ((Bj s).1.length+1) 0).1 with
  |none=>(none,s.length,6)
  |some x=>if x.big=false/\x.size<=200/\x.depth<=40 then (some x,s.length,0) else (none,0,7)
def TF:Option Ex->List Nd
 |none=>[]
 |some x=>Ak 0 x
def LE(w:World)(s:List UInt8)(e:Ending)(w':World):Prop:=
 ∃v,e= .returned (.tuple #[v,.int .i64 ((DY s).2.1:Int),.int .i64 ((DY s).2.2:Int)])/\Ext w w'/\RNd w' v (TF (DY s).1)
theorem RNd.nil(w:World):RNd w (.slice none 0 0) []:=⟨none,0,rfl,fun h=>by simp at h⟩
theorem Jy{n k:Nat}(h:AG n<=32*k):(Ac n).length<=k:=by
 refine AE ?_
 have h2:n<2 ^ (32*k):=by
  unfold AG at h;split at h
  ·rename_i h0;subst h0;exact Nat.two_pow_pos _
  ·exact(Nat.log2_lt ‹_›).1 (by omega)
 rw[show (4294967296:Nat)=2 ^ 32 from rfl,<-Nat.pow_mul];exact h2
theorem X2.Ok.size{x:X2}(h:x.Ok):(Ac x.p.natAbs).length<=32/\(Ac x.q).length<=32:=by
 rcases h with ⟨_,_,h⟩|h|h
 ·exact⟨Jy (by omega),Jy (by omega)⟩
 ·rw[h];exact⟨Nat.zero_le _,Nat.zero_le _⟩
 ·rw[h];exact⟨Nat.zero_le _,Nat.zero_le _⟩
theorem N4(e:Ex):(exX e).Ok:=by
 induction e with
 |leaf k t=>exact Fz _ X2.O_ok X2.O_ok
 |un k n x ih=>exact Fz _ ih X2.O_ok
 |bin k x y ihx ihy=>exact Fz _ ihx ihy
theorem EV(t:List UInt8):exX (.leaf 1 t)=AJ (Hl t) (Hq t):=by
 unfold exX Bf;rw[if_pos (show ((1:Nat):Int)<5 by decide),if_pos (show ((1:Nat):Int)=1 by decide)]
theorem Sn(t:List UInt8):exX (.leaf 2 t)=X2.O:=by
 unfold exX Bf;rw[if_pos (show ((2:Nat):Int)<5 by decide),if_neg (show ¬((2:Nat):Int)=1 by decide)]
def Qm:Ex:= .bin 7 (.un 11 0 (.bin 9 (.leaf 1 [57]) (.leaf 1 [52]))) (.bin 9 (.leaf 1 [51]) (.leaf 1 [50]))
def Sp:Ex:= .bin 9 (.leaf 1 [49]) (.bin 7 (.leaf 2 [120]) (.leaf 2 [120]))
def So:Ex:= .bin 8 (.leaf 1 [48]) (.un 13 0 (.leaf 1 [48]))
def Ql:Ex:= .un 10 0 (.leaf 1 [48])
theorem OM:exX Qm=⟨1,0,1⟩:=by
 have h9:exX (.leaf 1 [57])=⟨1,9,1⟩:=by rw[EV];kernel_rfl
 have h4:exX (.leaf 1 [52])=⟨1,4,1⟩:=by rw[EV];kernel_rfl
 have h3:exX (.leaf 1 [51])=⟨1,3,1⟩:=by rw[EV];kernel_rfl
 have h2:exX (.leaf 1 [50])=⟨1,2,1⟩:=by rw[EV];kernel_rfl
 have hq:exX (.bin 9 (.leaf 1 [57]) (.leaf 1 [52]))=⟨1,9,4⟩:=by
  rw[exX,h9,h4];kernel_rfl
 have hr:exX (.bin 9 (.leaf 1 [51]) (.leaf 1 [50]))=⟨1,3,2⟩:=by
  rw[exX,h3,h2];kernel_rfl
 have hs:exX (.un 11 0 (.bin 9 (.leaf 1 [57]) (.leaf 1 [52])))=⟨1,3,2⟩:=by
  rw[exX,hq];have h1:sqX 9 4=AJ 3 2:=IX (r:=3) (s:=2);have h5:Bf ⟨((11:Nat):Int),0,0,0,[]⟩ ⟨1,9,4⟩ X2.O=sqX 9 4:=by kernel_rfl
  rw[h5,h1];show _=_
  kernel_rfl
 unfold Qm;rw[exX,hs,hr];show _=_
 kernel_rfl
theorem TD:exX Sp=X2.O:=by
 unfold Sp;have h1:exX (.leaf 1 [49])=⟨1,1,1⟩:=by rw[EV];kernel_rfl
 have h2:exX (.bin 7 (.leaf 2 [120]) (.leaf 2 [120]))=X2.O:=by rw[exX,Sn];kernel_rfl
 rw[exX,h1,h2];show _=_
 kernel_rfl
theorem TC:exX So=X2.U:=by
 unfold So;have h1:exX (.leaf 1 [48])=⟨1,0,1⟩:=by rw[EV];kernel_rfl
 have h2:exX (.un 13 0 (.leaf 1 [48]))=X2.U:=by rw[exX,h1];kernel_rfl
 rw[exX,h1,h2];show _=_
 kernel_rfl
theorem OL:exX Ql=⟨1,1,1⟩:=by
 unfold Ql;have h1:exX (.leaf 1 [48])=⟨1,0,1⟩:=by rw[EV];kernel_rfl
 rw[exX,h1];show _=_
 kernel_rfl
def UO:List UInt8:=[115,113,114,116,40,57,47,52,41,32,45,32,51,47,50]
def UN:List UInt8:=[49,32,47,32,40,120,32,45,32,120,41]
def UM:List UInt8:=[48,32,42,32,108,110,40,48,41]
def UL:List UInt8:=[48,94,48]
theorem Ul:DY UO=(some Qm,15,0):=by kernel_rfl
theorem Uk:DY UN=(some Sp,11,0):=by kernel_rfl
theorem Uj:DY UM=(some So,9,0):=by kernel_rfl
theorem Ui:DY UL=(some Ql,3,0):=by kernel_rfl
def E7(b e:List UInt8):Nat->List UInt8
 |0=>b
 |k+1=>40::(E7 b e k++([41,94]++e))
def IA(b:List UInt8)(n:Int):Nat->Ex
 |0=> .leaf 1 b
 |k+1=> .un 10 n (IA b n k)
def FN:List (List UInt8):=[[50],[48,46,53],[51],[49,48],[48,46,49],[55]]
def JJ:List (List UInt8 × Int):=[([57],9),([49,48],10),([49,49],11),([51,49],31),([51,50],32),([51,51],33),([54,52],64)]
theorem OZ:∀b∈FN,∀p∈JJ,∀k,1<=k->k<=3->DY (E7 b p.1 k)=(some (IA b p.2 k),(E7 b p.1 k).length,0):=by
 intro b hb p hp k hk jY;simp only[FN,JJ,List.mem_cons,List.not_mem_nil,or_false]at hb hp;have hk:k=1\/k=2\/k=3:=by omega
 rcases hb with rfl|rfl|rfl|rfl|rfl|rfl<;>rcases hp with rfl|rfl|rfl|rfl|rfl|rfl|rfl<;>rcases hk with rfl|rfl|rfl<;>(show _=_;kernel_rfl)
theorem Qs:∀b∈FN,Bm b=0/\b.length<=400:=by
 intro b hb;simp only[FN,List.mem_cons,List.not_mem_nil,or_false]at hb;rcases hb with rfl|rfl|rfl|rfl|rfl|rfl<;>exact⟨by kernel_rfl,by decide⟩
theorem QN:∀b∈FN,∀p∈JJ,∀k,(IA b p.2 k).Good:=by
 intro b hb p hp k
 induction k with
 |zero=>exact .inl ⟨rfl,Qs b hb⟩
 |succ k ih=>
  refine⟨.inr ⟨by decide,by decide⟩,fun h=>absurd rfl h,?_,?_,ih⟩
  all_goals
   simp only[JJ,List.mem_cons,List.not_mem_nil,or_false]at hp;rcases hp with rfl|rfl|rfl|rfl|rfl|rfl|rfl<;>decide
theorem QM(b:List UInt8)(n:Int)(k:Nat):(IA b n k).size=k+1:=by
 induction k with
 |zero=>rfl
 |succ k ih=>rw[IA,Ex.size,ih]
theorem O0(b:List UInt8)(n:Int)(k:Nat):(IA b n k).depth=k+1:=by
 induction k with
 |zero=>rfl
 |succ k ih=>rw[IA,Ex.depth,ih]
def Iz(w0 wr:World)(xs ys:List Nat)(k cy:Nat):Prop:=
 ∃zs:List Nat,zs.length=k/\Ok zs/\val zs+4294967296 ^ k*cy=val (xs.take k)+val (ys.take k)/\
  Blk wr w0.heap.size 183 (cells (zs++List.replicate (xs.length+1-k) 0))/\Ext w0 wr
theorem Iz.step {w0 wr:World} {xs ys zs:List Nat} {k q t:Nat} (hk:k<xs.length) (hl:zs.length=k) (az:Ok zs)
  (h:val zs+4294967296 ^ k*q=val (xs.take k)+val (ys.take k)) (ht:t=q+xs.getD k 0+ys.getD k 0)
  (hb:Blk wr w0.heap.size 183 (cells (zs++List.replicate (xs.length+1-k) 0))) (he:Ext w0 wr):
  Iz w0 (wr.setCell ⟨w0.heap.size,k,none⟩ (d32 (t % 4294967296))) xs ys (k+1) (t / 4294967296):=by
 refine⟨zs++[t % 4294967296],by simp[hl],az.snoc (Nat.mod_lt _ (by omega)),JO hl h ht,?_,he.setCell (Nat.le_refl _) _⟩;have h1:=hb.set_ k (d32 (t % 4294967296));rw[Bx,show xs.length+1-k=(xs.length-k)+1 by omega]at h1;have h2:=Dg zs (xs.length-k) (t % 4294967296);rw[hl]at h2;rw[h2]at h1;rw[show xs.length+1-(k+1)=xs.length-k by omega];exact h1
theorem UC(w:World)(v u:Value)(xs ys:List Nat)(h:Arr w v xs)(h':Arr w u ys)(hn:xs.length<=536870912)(cp:ys.length<=xs.length):
  Calls Tryz.prog 298 #[v,u] w fun e w'=>∃v',e= .returned v'/\Own w.heap.size w' v' (Ac (val xs+val ys))/\Ext w w':=by
 obtain⟨az,A,cap,rfl,dp,dT,aa⟩:=h.open;obtain⟨bM,A',og,rfl,fv,ji,ao⟩:=h'.open;have HC:=hid aa;have pU:=hid ao;have df:=CV xs.length (by omega);have uX:¬(xs.length:Int)<(ys.length:Int):=by omega
 have ge:ys.length<=xs.length:=by omega
 clear h h' aa ao dT ji dp fv cp;go_enter Tryz.func298,Tryz.ntmps298;go_wp2_with fail;clear df;go_loopw [6,22] (fun cy i wr=>∃k q:Nat,k<=xs.length/\q<=1/\i= .int .i64 k/\cy= .int .u64 q/\Iz w wr xs ys k q) (fun _ i _=>xs.length-(intOf i).toNat)
 case atStart=>exact⟨0,0,Nat.zero_le _,by omega,rfl,rfl,[],rfl,Cj,by simp[val],Blk.new _ _ _,(Ext.refl w).alloc _⟩
 case round=>
  obtain⟨k,q,hk,hq,rfl,rfl,zs,hl,gg,hv,ay,ah⟩:=hrel;have HV:=hid hv;clear hv;have HB:=hid ay;clear ay;have HL:=hid hl;clear hl;by_cases hlt:k<xs.length
  ·obtain⟨b,o,rfl,hb,aa⟩:=HC.out (by omega);have hx:=(ah.cell hb).trans (aa k hlt);have hst:=HB.out.cell k;have iD:=HB.out.frozen k;rw[Be _ _ (by simp[HL.out];omega)]at hst;clear aa;have cK:=az.get k;by_cases hk2:k<ys.length
   ·obtain⟨b',o',rfl,gN,ao⟩:=pU.out (by omega);have hy:=(ah.cell gN).trans (ao k hk2);clear ao;have fT:=bM.get k;have HS:=hid (fun t h=>Iz.step (t:=t) hlt HL.out gg HV.out h HB.out ah);obtain⟨x,bN⟩:∃x,xs.getD k 0=x:=⟨_,rfl⟩;obtain⟨y,dR⟩:∃y,ys.getD k 0=y:=⟨_,rfl⟩;rw[bN]at hx cK HS;rw[dR]at hy fT HS;clear bN dR;simp only[d32]at hx hst hy
    go_wp2
    go_round
    case rel=>exact⟨k+1,(q+x+y) / 4294967296,by omega,by omega,by go_num,by go_num,HS.out _ rfl⟩
    case measure=>simp[intOf];omega
   ·have h0:ys.getD k 0=0:=Db ys k (by omega);have HS:=hid (fun t h=>Iz.step (t:=t) hlt HL.out gg HV.out h HB.out ah);obtain⟨x,bN⟩:∃x,xs.getD k 0=x:=⟨_,rfl⟩;rw[h0]at HS;rw[bN]at hx cK HS;clear bN h0;simp only[d32]at hx hst
    go_wp2
    go_round
    case rel=>exact⟨k+1,(q+x) / 4294967296,by omega,by omega,by go_num,by go_num,HS.out _ rfl⟩
    case measure=>simp[intOf];omega
  ·obtain rfl:k=xs.length:=by omega
   have hst:=HB.out.cell xs.length;have iD:=HB.out.frozen xs.length;rw[Be _ _ (by simp[HL.out])]at hst;have aA:Own w.heap.size (wr.setCell ⟨w.heap.size,xs.length,none⟩ (d32 q)) (.slice (some ⟨w.heap.size,0,none⟩) (xs.length+1) (xs.length+1)) (zs++[q]):=by
    have h1:=HB.out.set_ xs.length (d32 q);have h2:=Dg zs 0 q;rw[HL.out]at h2;rw[Bx,show xs.length+1-xs.length=0+1 by omega,h2]at h1;have h3:=Own.block (B:=w.heap.size) (gg.snoc (show q<4294967296 by omega)) (by simpa using h1) (Nat.le_refl _) (by simp[HL.out];omega)
    simpa [HL.out] using h3
   have bd:val (zs++[q])=val xs+val ys:=by
    rw[BK,HL.out,HV.out,List.take_of_length_le (Nat.le_refl _),List.take_of_length_le ge]
   have HT:=hid (CB _ _ _ aA.arr);have bK:=Cx (zs++[q]);rw[show (zs++[q]).length=xs.length+1 by simp[HL.out]]at bK;obtain⟨A1,c1,fo,HO⟩:=aA.take (size (zs++[q])) (by rw[show (zs++[q]).length=xs.length+1 by simp[HL.out]];exact bK);rw[B8 aA.ok,bd]at HO;injection fo with fo hv3 hv2
   clear hv3;subst fo;subst hv2;have HO:=hid HO;generalize size (zs++[q])=sz at *;clear bd aA;simp only[d32]at hst;go_wp2_with fail;refine HT.out.mono ?_
   rintro e w' ⟨rfl,rfl⟩;go_wp2_with fail;go_ret;exact⟨_,rfl,HO.out,ah.setCell (Nat.le_refl _) _⟩
theorem UB(w:World)(v u:Value)(xs ys:List Nat)(h:Arr w v xs)(h':Arr w u ys)(hn:xs.length<=536870912)(cp:ys.length<xs.length):
  Calls Tryz.prog 298 #[u,v] w fun e w'=>∃v',e= .returned v'/\Own w.heap.size w' v' (Ac (val xs+val ys))/\Ext w w':=by
 obtain⟨az,A,cap,rfl,dp,dT,aa⟩:=h.open;obtain⟨bM,A',og,rfl,fv,ji,ao⟩:=h'.open;have HC:=hid aa;have pU:=hid ao;have df:=CV xs.length (by omega);have uX:(ys.length:Int)<(xs.length:Int):=by omega
 have ge:ys.length<=xs.length:=by omega
 clear h h' aa ao dT ji dp fv cp;go_enter Tryz.func298,Tryz.ntmps298;go_wp2_with fail;clear df;go_loopw [6,22] (fun cy i wr=>∃k q:Nat,k<=xs.length/\q<=1/\i= .int .i64 k/\cy= .int .u64 q/\Iz w wr xs ys k q) (fun _ i _=>xs.length-(intOf i).toNat)
 case atStart=>exact⟨0,0,Nat.zero_le _,by omega,rfl,rfl,[],rfl,Cj,by simp[val],Blk.new _ _ _,(Ext.refl w).alloc _⟩
 case round=>
  obtain⟨k,q,hk,hq,rfl,rfl,zs,hl,gg,hv,ay,ah⟩:=hrel;have HV:=hid hv;clear hv;have HB:=hid ay;clear ay;have HL:=hid hl;clear hl;by_cases hlt:k<xs.length
  ·obtain⟨b,o,rfl,hb,aa⟩:=HC.out (by omega);have hx:=(ah.cell hb).trans (aa k hlt);have hst:=HB.out.cell k;have iD:=HB.out.frozen k;rw[Be _ _ (by simp[HL.out];omega)]at hst;clear aa;have cK:=az.get k;by_cases hk2:k<ys.length
   ·obtain⟨b',o',rfl,gN,ao⟩:=pU.out (by omega);have hy:=(ah.cell gN).trans (ao k hk2);clear ao;have fT:=bM.get k;have HS:=hid (fun t h=>Iz.step (t:=t) hlt HL.out gg HV.out h HB.out ah);obtain⟨x,bN⟩:∃x,xs.getD k 0=x:=⟨_,rfl⟩;obtain⟨y,dR⟩:∃y,ys.getD k 0=y:=⟨_,rfl⟩;rw[bN]at hx cK HS;rw[dR]at hy fT HS;clear bN dR;simp only[d32]at hx hst hy
    go_wp2
    go_round
    case rel=>exact⟨k+1,(q+x+y) / 4294967296,by omega,by omega,by go_num,by go_num,HS.out _ rfl⟩
    case measure=>simp[intOf];omega
   ·have h0:ys.getD k 0=0:=Db ys k (by omega);have HS:=hid (fun t h=>Iz.step (t:=t) hlt HL.out gg HV.out h HB.out ah);obtain⟨x,bN⟩:∃x,xs.getD k 0=x:=⟨_,rfl⟩;rw[h0]at HS;rw[bN]at hx cK HS;clear bN h0;simp only[d32]at hx hst
    go_wp2
    go_round
    case rel=>exact⟨k+1,(q+x) / 4294967296,by omega,by omega,by go_num,by go_num,HS.out _ rfl⟩
    case measure=>simp[intOf];omega
  ·obtain rfl:k=xs.length:=by omega
   have hst:=HB.out.cell xs.length;have iD:=HB.out.frozen xs.length;rw[Be _ _ (by simp[HL.out])]at hst;have aA:Own w.heap.size (wr.setCell ⟨w.heap.size,xs.length,none⟩ (d32 q)) (.slice (some ⟨w.heap.size,0,none⟩) (xs.length+1) (xs.length+1)) (zs++[q]):=by
    have h1:=HB.out.set_ xs.length (d32 q);have h2:=Dg zs 0 q;rw[HL.out]at h2;rw[Bx,show xs.length+1-xs.length=0+1 by omega,h2]at h1;have h3:=Own.block (B:=w.heap.size) (gg.snoc (show q<4294967296 by omega)) (by simpa using h1) (Nat.le_refl _) (by simp[HL.out];omega)
    simpa [HL.out] using h3
   have bd:val (zs++[q])=val xs+val ys:=by
    rw[BK,HL.out,HV.out,List.take_of_length_le (Nat.le_refl _),List.take_of_length_le ge]
   have HT:=hid (CB _ _ _ aA.arr);have bK:=Cx (zs++[q]);rw[show (zs++[q]).length=xs.length+1 by simp[HL.out]]at bK;obtain⟨A1,c1,fo,HO⟩:=aA.take (size (zs++[q])) (by rw[show (zs++[q]).length=xs.length+1 by simp[HL.out]];exact bK);rw[B8 aA.ok,bd]at HO;injection fo with fo hv3 hv2
   clear hv3;subst fo;subst hv2;have HO:=hid HO;generalize size (zs++[q])=sz at *;clear bd aA;simp only[d32]at hst;go_wp2_with fail;refine HT.out.mono ?_
   rintro e w' ⟨rfl,rfl⟩;go_wp2_with fail;go_ret;exact⟨_,rfl,HO.out,ah.setCell (Nat.le_refl _) _⟩
theorem OT(w:World)(v u:Value)(xs ys:List Nat)(h:Arr w v xs)(h':Arr w u ys)(hn:xs.length<=536870912)(bu:ys.length<=536870912):
  Calls Tryz.prog 298 #[v,u] w fun e w'=>∃v',e= .returned v'/\Own w.heap.size w' v' (Ac (val xs+val ys))/\Ext w w':=by
 rcases Nat.lt_or_ge xs.length ys.length with hlt|fE
 ·rw[Nat.add_comm];exact UB w u v ys xs h' h bu hlt
 ·exact UC w v u xs ys h h' hn fE
end Big
end Go.Proofs.YtkoaogkknnelaaaGreatDoor
