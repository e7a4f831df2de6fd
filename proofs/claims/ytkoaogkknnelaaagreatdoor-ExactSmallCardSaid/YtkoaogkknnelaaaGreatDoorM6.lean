import Derived.Test.YtkoaogkknnelaaaGreatDoorM5
set_option linter.unusedVariables false
set_option linter.unusedSimpArgs false
namespace Go.Proofs.YtkoaogkknnelaaaGreatDoor
namespace Big
open Lib (hid)
open Go.RowKit
section
variable {w:World} {g:Nat} {t:TypeId} {a b c d e:Value}
theorem Blk.two(h:Blk w g t #[a,b]):w.cell? ⟨g,0,none⟩=some a/\w.cell? ⟨g,1,none⟩=some b/\w.frozen? ⟨g,0,none⟩=false/\w.frozen? ⟨g,1,none⟩=false/\g<w.heap.size:=
 ⟨h.cell 0,h.cell 1,h.frozen 0,h.frozen 1,h.lt⟩
theorem Blk.three(h:Blk w g t #[a,b,c]):w.cell? ⟨g,0,none⟩=some a/\w.cell? ⟨g,1,none⟩=some b/\w.cell? ⟨g,2,none⟩=some c/\w.frozen? ⟨g,0,none⟩=false/\w.frozen? ⟨g,1,none⟩=false/\w.frozen? ⟨g,2,none⟩=false/\g<w.heap.size:=
 ⟨h.cell 0,h.cell 1,h.cell 2,h.frozen 0,h.frozen 1,h.frozen 2,h.lt⟩
theorem CQ.at_{T:TypeId}{B i:Nat}{vs:List Value}(h:CQ T B w a vs)(hi:i<vs.length):∃g c,a= .slice (some ⟨g,0,none⟩) vs.length c/\B<=g/\g<w.heap.size/\w.cell? ⟨g,i,none⟩=vs[i]?∧w.frozen? ⟨g,i,none⟩=false/\
  ∀u,CQ T B (w.setCell ⟨g,i,none⟩ u) a (vs.set i u):=by
 obtain⟨A,c,rfl,h2,h3,h4⟩:=h;rcases h4 with ⟨rfl,_⟩|⟨g,cur,rfl,hg,ay,hs,ht⟩
 ·simp at hi
 ·refine⟨g,c,rfl,hg,ay.lt,?_,ay.frozen i,fun u=>⟨_,c,by rw[List.length_set],by rw[List.length_set];exact h2,h3,.inr ⟨g,_,rfl,hg,ay.set_ i u,by simpa using hs,?_⟩⟩⟩
  ·rw[ay.cell,List.getElem?_eq_getElem hi];exact Ol ht (List.getElem?_eq_getElem hi)
  ·rw[List.length_set]
   conv=>rhs;rw[<-ht]
   apply List.ext_getElem?;intro j;simp only[Array.toList_setIfInBounds,List.getElem?_take,List.getElem?_set,List.length_take];have ig:vs.length<=cur.toList.length:=by simp;omega
   by_cases hj:j<vs.length
   ·rw[if_pos hj,if_pos hj];by_cases hij:i=j
    ·subst hij;rw[if_pos rfl,if_pos rfl,if_pos (by omega),if_pos (by omega)]
    ·rw[if_neg hij,if_neg hij]
   ·rw[if_neg hj];by_cases hij:i=j
    ·omega
    ·rw[if_neg hij,if_neg hj]
theorem Eb.shape{vs:List Value}(h:Eb w a vs):∃n A c,a= .slice A n c:=by
 obtain⟨A,c,rfl,_⟩:=h;exact⟨_,A,c,rfl⟩
theorem Own.shape{B:Nat}{xs:List Nat}(h:Own B w a xs):∃n A c,a= .slice A n c:=h.arr.2.shape
theorem Arr.shape{xs:List Nat}(h:Arr w a xs):∃n A c,a= .slice A n c:=h.2.shape
theorem Arr.len{xs:List Nat}{n c:Nat}{A:Option Addr}(h:Arr w (.slice A n c) xs):n=xs.length:=by
 obtain⟨_,A',c',he,_⟩:=h;injection he with _ h2 _
 rw[h2,List.length_map]
theorem Own.len{B:Nat}{xs:List Nat}{n c:Nat}{A:Option Addr}(h:Own B w (.slice A n c) xs):n=xs.length:=h.arr.len
theorem AI.shape{B:Nat}{z:Int}(h:AI B w a z):∃b n A c,a= .agg #[.bool b,.slice A n c]:=by
 obtain⟨m,rfl,h⟩:=h;obtain⟨n,A,c,rfl⟩:=h.shape;exact⟨_,n,A,c,rfl⟩
theorem Ap.shape{z:Int}(h:Ap w a z):∃b n A c,a= .agg #[.bool b,.slice A n c]:=by
 obtain⟨m,rfl,h⟩:=h;obtain⟨n,A,c,rfl⟩:=h.shape;exact⟨_,n,A,c,rfl⟩
theorem AI.mag{B:Nat}{z:Int}{bb:Bool}{m:Value}(h:AI B w (.agg #[.bool bb,m]) z):Own B w m (Ac z.natAbs):=by
 obtain⟨m',he,h⟩:=h;injection he with he
 injection he with he
 injection he with _ he
 injection he with he
 subst he;exact h
theorem AI.sign{B:Nat}{z:Int}{bb:Bool}{m:Value}(h:AI B w (.agg #[.bool bb,m]) z):bb=decide (z<0):=by
 obtain⟨m',he,h⟩:=h;injection he with he
 injection he with he
 injection he with he _
 injection he
theorem Ap.mag{z:Int}{bb:Bool}{m:Value}(h:Ap w (.agg #[.bool bb,m]) z):Arr w m (Ac z.natAbs):=by
 obtain⟨m',he,h⟩:=h;injection he with he
 injection he with he
 injection he with _ he
 injection he with he
 subst he;exact h
theorem Ap.sign{z:Int}{bb:Bool}{m:Value}(h:Ap w (.agg #[.bool bb,m]) z):bb=decide (z<0):=by
 obtain⟨m',he,h⟩:=h;injection he with he
 injection he with he
 injection he with he _
 injection he
end
section
theorem Ext.keep{w w':World}{b o:Nat}{u:Value}(hx:Ext w w')(h:w.cell? ⟨b,o,none⟩=some u):w'.cell? ⟨b,o,none⟩=some u:=(hx.cell (World.block_lt_of_cell? w _ h)).trans h
theorem kept1{wo w1 w2:World}{b0 o0:Nat}{u0:Value}(h:Ext wo w1/\w1.cell? ⟨b0,o0,none⟩=some u0)(hx:Ext w1 w2):Ext wo w2/\w2.cell? ⟨b0,o0,none⟩=some u0:=
 ⟨h.1.trans hx,hx.keep h.2⟩
end
def Ag(B:Nat)(w:World)(v:Value)(p:Int)(q:Nat):Prop:=∃m d,v= .agg #[.bool (decide (p<0)),m,d]/\Own B w m (Ac p.natAbs)/\Own B w d (Ac q)
def Ao(w:World)(v:Value)(p:Int)(q:Nat):Prop:=∃m d,v= .agg #[.bool (decide (p<0)),m,d]/\Arr w m (Ac p.natAbs)/\Arr w d (Ac q)
section
variable {B B':Nat} {w w':World} {v:Value} {p:Int} {q:Nat}
theorem Ag.ext(h:Ag B w v p q)(hb:Ext w w'):Ag B w' v p q:=by
 obtain⟨m,d,rfl,h1,h2⟩:=h;exact⟨m,d,rfl,h1.ext hb,h2.ext hb⟩
theorem Ag.mono(h:Ag B w v p q)(hB:B'<=B):Ag B' w v p q:=by
 obtain⟨m,d,rfl,h1,h2⟩:=h;exact⟨m,d,rfl,h1.mono hB,h2.mono hB⟩
theorem Ag.far(h:Ag B w v p q){a:Addr}(ha:a.block<B)(u:Value):Ag B (w.setCell a u) v p q:=by
 obtain⟨m,d,rfl,h1,h2⟩:=h;exact⟨m,d,rfl,h1.far ha u,h2.far ha u⟩
theorem Ag.arr(h:Ag B w v p q):Ao w v p q:=by
 obtain⟨m,d,rfl,h1,h2⟩:=h;exact⟨m,d,rfl,h1.arr,h2.arr⟩
theorem Ao.ext(h:Ao w v p q)(hb:Ext w w'):Ao w' v p q:=by
 obtain⟨m,d,rfl,h1,h2⟩:=h;exact⟨m,d,rfl,h1.ext hb,h2.ext hb⟩
theorem Ao.shape(h:Ao w v p q):∃b n A c n' A' c',v= .agg #[.bool b,.slice A n c,.slice A' n' c']:=by
 obtain⟨m,d,rfl,h1,h2⟩:=h;obtain⟨n,A,c,rfl⟩:=h1.shape;obtain⟨n',A',c',rfl⟩:=h2.shape;exact⟨_,n,A,c,n',A',c',rfl⟩
theorem Ag.shape(h:Ag B w v p q):∃b n A c n' A' c',v= .agg #[.bool b,.slice A n c,.slice A' n' c']:=h.arr.shape
theorem TP{a b c a' b' c':Value}(h:Value.agg #[a,b,c]= .agg #[a',b',c']):a=a'/\b=b'/\c=c':=by
 injection h with h
 injection h with h
 injection h with h1 h
 injection h with h2 h
 injection h with h3 h
 exact⟨h1,h2,h3⟩
theorem Ao.sign{bb:Bool}{m d:Value}(h:Ao w (.agg #[.bool bb,m,d]) p q):bb=decide (p<0):=by
 obtain⟨m',d',he,h1,h2⟩:=h;obtain⟨e1,_,_⟩:=TP he;injection e1
theorem Ao.num{bb:Bool}{m d:Value}(h:Ao w (.agg #[.bool bb,m,d]) p q):Arr w m (Ac p.natAbs):=by
 obtain⟨m',d',he,h1,h2⟩:=h;obtain⟨_,e2,_⟩:=TP he;rw[e2];exact h1
theorem Ao.den{bb:Bool}{m d:Value}(h:Ao w (.agg #[.bool bb,m,d]) p q):Arr w d (Ac q):=by
 obtain⟨m',d',he,h1,h2⟩:=h;obtain⟨_,_,e3⟩:=TP he;rw[e3];exact h2
theorem Ao.int{bb:Bool}{m d:Value}(h:Ao w (.agg #[.bool bb,m,d]) p q):Ap w (.agg #[.bool bb,m]) p:=⟨m,by rw[h.sign],h.num⟩
theorem Ag.mk{bb:Bool}{m d:Value}(h:AI B w (.agg #[.bool bb,m]) p)(h':Own B w d (Ac q)):Ag B w (.agg #[.bool bb,m,d]) p q:=⟨m,d,by rw[h.sign],h.mag,h'⟩
end
def Dy(z:Int)(d:Nat):Int:=sgn (decide (z<0)) (z.natAbs / Nat.gcd z.natAbs d)
def C9(z:Int)(d:Nat):Nat:=d / Nat.gcd z.natAbs d
theorem Ah{w:World}{g:Nat}{t:TypeId}{a b c:Value}(h:Blk w g t #[a,b,c])(a' b' c':Value):
  (w.setCell ⟨g,0,none⟩ a').cell? ⟨g,0,none⟩=some a'/\((w.setCell ⟨g,0,none⟩ a').setCell ⟨g,1,none⟩ b').cell? ⟨g,1,none⟩=some b'/\(((w.setCell ⟨g,0,none⟩ a').setCell ⟨g,1,none⟩ b').setCell ⟨g,2,none⟩ c').cell? ⟨g,2,none⟩=some c':=
 ⟨(h.set_ 0 a').cell 0,((h.set_ 0 a').set_ 1 b').cell 1,(((h.set_ 0 a').set_ 1 b').set_ 2 c').cell 2⟩
theorem Ag.put{w w1 w':World}{g:Nat}{bi:Bool}{m d:Value}{p:Int}{q:Nat}(hi:Ag w1.heap.size w' (.agg #[.bool bi,m,d]) p q)(hg:g<w1.heap.size)(hw:w.heap.size<=w1.heap.size):
  Ag w.heap.size (((w'.setCell ⟨g,0,none⟩ (.bool bi)).setCell ⟨g,1,none⟩ m).setCell ⟨g,2,none⟩ d) (.agg #[.bool bi,m,d]) p q:=(((hi.far hg _).far hg _).far hg _).mono hw
theorem Ag.zero(B:Nat)(w:World):Ag B w (.agg #[.bool false,.slice none 0 0,.slice none 0 0]) 0 0:=⟨_,_,rfl,Own.none_ _ _,Own.none_ _ _⟩
def Low(p:Int)(q:Nat):Prop:=0<q/\Nat.gcd p.natAbs q=1
theorem Mv(p:Int):p ^ 2=p*p:=by rw[show (2:Nat)=0+1+1 from rfl,Int.pow_succ,Int.pow_succ,Int.pow_zero,Int.one_mul]
theorem EJ(z:Int):sgn (decide (z<0)) z.natAbs=z:=by
 unfold sgn;by_cases h:z<0<;>simp[h]<;>omega
theorem RU{z:Int}{d:Nat}(h:0<d):0<C9 z d:=by
 unfold C9;exact Nat.div_gcd_pos_of_pos_right _ h
theorem Ek(z:Int)(d:Nat):(Dy z d).natAbs=z.natAbs / Nat.gcd z.natAbs d:=by unfold Dy;rw[B6]
theorem Jv(z:Int){d:Nat}(h:0<d):Low (Dy z d) (C9 z d):=by
 refine⟨RU h,?_⟩;rw[Ek];unfold C9;exact Nat.coprime_div_gcd_div_gcd (Nat.gcd_pos_of_pos_right _ h)
theorem Ju{p:Int}{q:Nat}(h:Low p q):Dy p q=p/\C9 p q=q:=by
 unfold Dy C9;rw[h.2,Nat.div_one,Nat.div_one,EJ];exact⟨rfl,rfl⟩
theorem FE(z:Int):Low z 1:=⟨by decide,Nat.gcd_one_right _⟩
theorem OA{p:Int}{q:Nat}(h:Low p q):Low (-p) q:=⟨h.1,by rw[Int.natAbs_neg];exact h.2⟩
def LA(p:Int)(q:Nat)(p':Int)(q':Nat):Int:=p*(q':Int)+p'*(q:Int)
def MR(p:Int)(q:Nat)(p':Int)(q':Nat):Int:=Dy (LA p q p' q') (q*q')
def MQ(p:Int)(q:Nat)(p':Int)(q':Nat):Nat:=C9 (LA p q p' q') (q*q')
def IC(p:Int)(q:Nat)(p':Int)(q':Nat):Int:=Dy (p*p') (q*q')
def IB(p:Int)(q:Nat)(p':Int)(q':Nat):Nat:=C9 (p*p') (q*q')
def CM(p:Int)(q:Nat):Int:=sgn (decide (p<0)) q
theorem Ll{p:Int}{q:Nat}(h:Low p q)(hp:p≠0):Low (CM p q) p.natAbs:=by
 refine⟨by omega,?_⟩;unfold CM;rw[B6,Nat.gcd_comm];exact h.2
theorem OC{p p':Int}{q q':Nat}(h:Low p q)(h':Low p' q'):Low (MR p q p' q') (MQ p q p' q'):=Jv _ (Nat.mul_pos h.1 h'.1)
theorem OB{p p':Int}{q q':Nat}(h:Low p q)(h':Low p' q'):Low (IC p q p' q') (IB p q p' q'):=Jv _ (Nat.mul_pos h.1 h'.1)
section
variable {p p' r:Int} {q q' s:Nat}
end
theorem Ii(p:Int)(n:Nat):(p ^ n).natAbs=p.natAbs ^ n:=Int.natAbs_pow p n
theorem La(p:Int)(n:Nat):sgn (decide (p<0) && decide (n % 2=1)) (p.natAbs ^ n)=p ^ n:=by
 have hs:∀k,p.natAbs ^ (2*k)=(p.natAbs*p.natAbs) ^ k:=fun k=>by rw[Nat.pow_mul,Nat.pow_two]
 rcases Nat.mod_two_eq_zero_or_one n with h|h
 ·have hn:n=2*(n / 2):=by omega
  rw[h];simp only[show decide ((0:Nat)=1)=false from rfl,Bool.and_false];unfold sgn;simp only[Bool.false_eq_true,if_false];rw[hn,hs,Int.pow_mul,Mv];rw[<-Int.natAbs_mul_self' p,Int.natCast_pow,Int.natCast_mul]
 ·have hn:n=2*(n / 2)+1:=by omega
  rw[h];simp only[decide_true,Bool.and_true];rw[hn,Nat.pow_succ,Int.pow_succ,hs,Int.pow_mul,Mv,<-EJ p,B6];have hd:decide (sgn (decide (p<0)) p.natAbs<0)=decide (p<0):=by rw[EJ]
  rw[hd];have eF:sgn (decide (p<0)) p.natAbs*sgn (decide (p<0)) p.natAbs=((p.natAbs*p.natAbs:Nat):Int):=by
   rw[EJ,Int.natAbs_mul_self]
  rw[eF,<-Int.natCast_pow];generalize (p.natAbs*p.natAbs) ^ (n / 2)=m;generalize p.natAbs=a;unfold sgn;cases decide (p<0)<;>simp[Int.mul_neg]
theorem Oz{p:Int}{q:Nat}(h:Low p q)(n:Nat):Low (p ^ n) (q ^ n):=by
 refine⟨Nat.pow_pos h.1,?_⟩;rw[Ii];exact Nat.Coprime.pow n n h.2
theorem Ar{a b:Nat}(h:a<=b):(Ac a).length<=(Ac b).length:=
 AE (Nat.lt_of_le_of_lt h (by have:=Cf (Cp b);rwa [Ad]at this))
theorem On{xs ys:List Nat}(h:Ok xs)(h':Ok ys)(hs:size xs<size ys):val xs<val ys:=by
 rcases Nat.lt_or_ge (val xs) (val ys) with h1|h1
 ·exact h1
 ·have:=Ar h1;rw[<-KY h,<-KY h']at this;omega
theorem Eo{xs:List Nat}(h:Ok xs):val (xs.drop (size xs))=0:=by
 have h1:=Kc xs (size xs) (Cx xs);rw[B8 h,Ad]at h1;have h2:=Fg (size xs);rcases Nat.eq_zero_or_pos (val (xs.drop (size xs))) with h3|h3
 ·exact h3
 ·have:=Nat.mul_pos h2 h3;omega
theorem Em(w:World)(v u:Value)(xs ys:List Nat)(h:Arr w v xs)(h':Arr w u ys)(hn:xs.length<=1073741824)(bu:ys.length<=1073741824):
  Calls Tryz.prog 280 #[v,u] w fun e w'=>e= .returned (.int .i64 (BS (val xs) (val ys)))/\Ext w w':=by
 have HA:=hid h;have HB:=hid h';obtain⟨az,A,c,rfl,hc,hm,aa⟩:=h.open;obtain⟨bM,A',c',rfl,fW,me,ao⟩:=h'.open;have sY:=hid (fun W hx=>CB W _ xs (HA.out.ext hx));have lM:=hid (fun W hx=>CB W _ ys (HB.out.ext hx));have h1:=Cx xs;have h2:=Cx ys;have HL:=hid (On az bM);have HG:=hid (On bM az);have HD:=hid (show size xs=size ys->val (xs.drop (size xs))=val (ys.drop (size xs)) from fun e=>by rw[Eo az,e,Eo bM]);have WE:=hid aa;have mE:=hid ao;clear h h' aa ao hm me hc fW;go_enter Tryz.func280,Tryz.ntmps280;go_wp2_with fail;refine(sY.out _ (Ext.refl w)).mono ?_
 rintro e w' ⟨rfl,rfl⟩;go_wp2_with fail;refine(lM.out _ (Ext.refl w)).mono ?_
 rintro e w' ⟨rfl,rfl⟩;rcases Nat.lt_trichotomy (size xs) (size ys) with hs|hs|hs
 ·have HC:=hid (EX (HL.out hs));have ZN:(size xs:Int)<(size ys:Int):=by omega
  clear hs;go_wp2_with fail;go_ret;exact⟨congrArg (fun z=>Ending.returned (.int .i64 z)) HC.out.symm,Ext.refl _⟩
 ·have mW:=hid (HD.out hs);rw[<-hs]at h2 ⊢;clear hs sY lM HL HG HD HA HB;generalize size xs=n at *;go_wp2_with fail;go_loopw [7] (fun i wr=>∃k:Nat,k<=n/\i= .int .i64 ((k:Int)-1)/\Hid (val (xs.drop k)=val (ys.drop k))/\Ext w wr) (fun i _=>(intOf i+1).toNat)
  case atStart=>exact⟨n,Nat.le_refl _,rfl,mW,Ext.refl _⟩
  case round=>
   obtain⟨k,hk,rfl,HV,ah⟩:=hrel;rcases Nat.eq_zero_or_pos k with h0|h0
   ·subst h0;have HE:=hid (Ls (show val xs=val ys from HV.out));go_wp2_with fail;go_ret;exact⟨congrArg (fun z=>Ending.returned (.int .i64 z)) HE.out.symm,ah⟩
   ·obtain⟨m,rfl⟩:∃m,k=m+1:=⟨k-1,by omega⟩;obtain⟨b,o,rfl,hb,aa⟩:=WE.out (by omega);obtain⟨b',o',rfl,gN,ao⟩:=mE.out (by omega);have hx:=(ah.cell hb).trans (aa m (by omega));have hy:=(ah.cell gN).trans (ao m (by omega));clear aa ao;have HL:=hid (GP az m HV.out);have HG:=hid (GP bM m HV.out.symm);have HE:=hid (fun he=>MG (xs:=xs) (ys:=ys) m HV.out he);obtain⟨x,bN⟩:∃x,xs.getD m 0=x:=⟨_,rfl⟩;obtain⟨y,dR⟩:∃y,ys.getD m 0=y:=⟨_,rfl⟩;rw[bN]at hx HL HG HE;rw[dR]at hy HL HG HE;clear bN dR;simp only[d32]at hx hy;have HX:=hid ah;clear ah;have h3:(m:Int)<(xs.length:Int):=by omega
    have h4:(m:Int)<(ys.length:Int):=by omega
    have h5:(0:Int)<=(m:Int):=by omega
    rcases Nat.lt_trichotomy x y with lW|rfl|lW
    ·have HC:=hid (EX (HL.out lW));have hd:decide (x<y)=true:=by simpa using lW
     have eN:decide ((x:Int)<(y:Int))=true:=by simpa using lW
     go_wp2_with fail;go_quiet (fail);go_wp2_with fail;go_ret;exact⟨congrArg (fun z=>Ending.returned (.int .i64 z)) HC.out.symm,HX.out.drewN _⟩
    ·have eJ:=hid (HE.out rfl);go_wp2_with fail;go_quiet (fail);go_wp2_with fail;go_quiet (fail);go_wp2_with fail;go_roundw
     case rel=>exact⟨m,by omega,rfl,eJ,HX.out.drewN _⟩
     case measure=>simp[intOf]
    ·have HC:=hid (Lr (HG.out lW));have hd:decide (x<y)=false:=by simp;omega
     have eN:decide ((x:Int)<(y:Int))=false:=by simp;omega
     have zE:decide (y<x)=true:=by simpa using lW
     have pa:decide ((y:Int)<(x:Int))=true:=by simpa using lW
     go_wp2_with fail;go_quiet (fail);go_wp2_with fail;go_quiet (fail);go_wp2_with fail;go_ret;exact⟨congrArg (fun z=>Ending.returned (.int .i64 z)) HC.out.symm,(HX.out.drewN _).drewN _⟩
 ·have HC:=hid (Lr (HG.out hs));have ZN:(size ys:Int)<(size xs:Int):=by omega
  have ZM:¬(size xs:Int)<(size ys:Int):=by omega
  clear hs;go_wp2_with fail;go_ret;exact⟨congrArg (fun z=>Ending.returned (.int .i64 z)) HC.out.symm,Ext.refl _⟩
theorem GR(a b:Nat)(ha:a<4294967296)(hb:b<4294967296):bits .and .u32 (a:Int) (b:Int)=((a &&& b:Nat):Int):=by
 have hx:a &&& b<2 ^ 32:=Nat.and_lt_two_pow _ (by omega);have h1:(BitVec.ofInt 32 (a:Int)).toNat=a:=by
  rw[BitVec.ofInt_natCast,BitVec.toNat_ofNat];exact Nat.mod_eq_of_lt (by omega)
 have h2:(BitVec.ofInt 32 (b:Int)).toNat=b:=by
  rw[BitVec.ofInt_natCast,BitVec.toNat_ofNat];exact Nat.mod_eq_of_lt (by omega)
 show IntKind.u32.wrap ((BitVec.ofInt 32 (a:Int) &&& BitVec.ofInt 32 (b:Int)).toNat:Int)=_;rw[BitVec.toNat_and,h1,h2,IntKind.wrap_u32];omega
theorem Iv(a b:Nat)(ha:a<4294967296)(hb:b<4294967296):bits .or .u32 (a:Int) (b:Int)=((a ||| b:Nat):Int):=by
 have hx:a ||| b<2 ^ 32:=Nat.or_lt_two_pow (by omega) (by omega)
 have h1:(BitVec.ofInt 32 (a:Int)).toNat=a:=by
  rw[BitVec.ofInt_natCast,BitVec.toNat_ofNat];exact Nat.mod_eq_of_lt (by omega)
 have h2:(BitVec.ofInt 32 (b:Int)).toNat=b:=by
  rw[BitVec.ofInt_natCast,BitVec.toNat_ofNat];exact Nat.mod_eq_of_lt (by omega)
 show IntKind.u32.wrap ((BitVec.ofInt 32 (a:Int) ||| BitVec.ofInt 32 (b:Int)).toNat:Int)=_;rw[BitVec.toNat_or,h1,h2,IntKind.wrap_u32];omega
theorem EZ(a b:Nat)(ha:a<4294967296)(hb:b<4294967296):bits .xor .u32 (a:Int) (b:Int)=((a ^^^ b:Nat):Int):=by
 have hx:a ^^^ b<2 ^ 32:=Nat.xor_lt_two_pow (by omega) (by omega);have h1:(BitVec.ofInt 32 (a:Int)).toNat=a:=by
  rw[BitVec.ofInt_natCast,BitVec.toNat_ofNat];exact Nat.mod_eq_of_lt (by omega)
 have h2:(BitVec.ofInt 32 (b:Int)).toNat=b:=by
  rw[BitVec.ofInt_natCast,BitVec.toNat_ofNat];exact Nat.mod_eq_of_lt (by omega)
 show IntKind.u32.wrap ((BitVec.ofInt 32 (a:Int) ^^^ BitVec.ofInt 32 (b:Int)).toNat:Int)=_;rw[BitVec.toNat_xor,h1,h2,IntKind.wrap_u32];omega
theorem SW{n:Nat}(h:n<4294967296):n / 2147483648=(n.testBit 31).toNat:=by
 rw[Nat.testBit_eq_decide_div_mod_eq,show (2:Nat) ^ 31=2147483648 from rfl];have:n / 2147483648<2:=by omega
 rcases Nat.lt_or_ge (n / 2147483648) 1 with h1|h1
 ·have:n / 2147483648=0:=by omega
  rw[this];rfl
 ·have:n / 2147483648=1:=by omega
  rw[this];rfl
theorem KT{n:Nat}(h:n<4294967296):n.testBit 31=decide (2147483648<=n):=by
 rw[Nat.testBit_eq_decide_div_mod_eq,show (2:Nat) ^ 31=2147483648 from rfl];rw[decide_eq_decide];omega
theorem Sz{x y b d b':Nat}(hx:x<4294967296)(hy:y<4294967296)(hb:b<=1)(hd:d<4294967296)(gN:b'<=1)(h:x+4294967296*b'=d+y+b):
  bits .or .u32 (bits .and .u32 (bits .xor .u32 IntKind.u32.max (x:Int)) (y:Int)) (bits .and .u32 (bits .xor .u32 IntKind.u32.max (bits .xor .u32 (x:Int) (y:Int))) (((x:Int)-(y:Int)-(b:Int)) % 4294967296)) / 2147483648=((b':Nat):Int):=by
 have e1:((x:Int)-(y:Int)-(b:Int)) % 4294967296=((d:Nat):Int):=by omega
 have e2:IntKind.u32.max=((4294967295:Nat):Int):=by rfl
 have l1:x ^^^ y<4294967296:=Nat.xor_lt_two_pow (n:=32) hx hy;have l2:4294967295 ^^^ x<4294967296:=Nat.xor_lt_two_pow (n:=32) (by decide) hx;have l3:4294967295 ^^^ (x ^^^ y)<4294967296:=Nat.xor_lt_two_pow (n:=32) (by decide) l1;have l4:(4294967295 ^^^ x) &&& y<4294967296:=Nat.and_lt_two_pow (n:=32) _ hy;have l5:(4294967295 ^^^ (x ^^^ y)) &&& d<4294967296:=Nat.and_lt_two_pow (n:=32) _ hd;have l6:(4294967295 ^^^ x) &&& y ||| (4294967295 ^^^ (x ^^^ y)) &&& d<4294967296:=Nat.or_lt_two_pow (n:=32) l4 l5
 rw[e1,e2,EZ _ _ (by decide) hx,EZ _ _ hx hy,EZ _ _ (by decide) l1,GR _ _ l2 hy,GR _ _ l3 hd,Iv _ _ l4 l5];have key:((4294967295 ^^^ x) &&& y ||| (4294967295 ^^^ (x ^^^ y)) &&& d) / 2147483648=b':=by
  rw[SW l6,Nat.testBit_or,Nat.testBit_and,Nat.testBit_and,Nat.testBit_xor,Nat.testBit_xor,Nat.testBit_xor,KT hx,KT hy,KT hd,KT (show 4294967295<4294967296 by decide)];by_cases hX:2147483648<=x<;>by_cases hY:2147483648<=y<;>by_cases hD:2147483648<=d<;>simp[hX,hY,hD]<;>omega
 omega
theorem QC(w:World)(x y c:Nat)(hx:x<4294967296)(hy:y<4294967296)(hc:c<=1):
  Calls Tryz.prog 305 #[.int .u32 (x:Int),.int .u32 (y:Int),.int .u32 (c:Int)] w fun e w'=>e= .returned (.tuple #[.int .u32 (((x+y+c) % 4294967296:Nat):Int),.int .u32 (((x+y+c) / 4294967296:Nat):Int)])/\w=w':=by
 go_enter Tryz.func305,Tryz.ntmps305;go_wp2_with fail;go_ret2;exact⟨rfl,rfl⟩
theorem Jg(w:World)(n:Nat)(hn:n<=1048576):
  Calls Tryz.prog 303 #[.int .i64 (n:Int)] w fun e w'=>e= .returned (.int .i64 (n:Int))/\w=w':=by
 go_enter Tryz.func303,Tryz.ntmps303;go_wp2_with fail;go_ret;exact⟨rfl,rfl⟩
theorem FB(w:World)(x y b:Nat)(hx:x<4294967296)(hy:y<4294967296)(hb:b<=1):
  Calls Tryz.prog 304 #[.int .u32 (x:Int),.int .u32 (y:Int),.int .u32 (b:Int)] w fun e w'=>∃d b':Nat,e= .returned (.tuple #[.int .u32 (d:Int),.int .u32 (b':Int)])/\d<4294967296/\b'<=1/\x+4294967296*b'=d+y+b/\w=w':=by
 obtain⟨d,b',hd,gN,h⟩:∃d b':Nat,d<4294967296/\b'<=1/\x+4294967296*b'=d+y+b:=by
  by_cases h:x<y+b
  ·exact⟨x+4294967296-(y+b),1,by omega,by omega,by omega⟩
  ·exact⟨x-(y+b),0,by omega,by omega,by omega⟩
 have H:=hid h;have hq:=Sz hx hy hb hd gN h;have e1:((x:Int)-(y:Int)-(b:Int)) % 4294967296=((d:Nat):Int):=by omega
 have E:=hid e1;have E2:Hid (((((x:Int)-(y:Int)) % 4294967296)-(b:Int)) % 4294967296=((d:Nat):Int)):=hid (by omega);have Q:=hid hq;have hu:(IntKind.u32.signed=true)=False:=by simp[IntKind.signed]
 clear h hq e1;go_enter Tryz.func304,Tryz.ntmps304;go_wp2_with fail;go_ret2;rw[E.out]at Q;refine⟨d,b',?_,hd,gN,H.out,rfl⟩;simp only[E.out,E2.out,Q.out];rfl
end Big
end Go.Proofs.YtkoaogkknnelaaaGreatDoor
