import Derived.Test.YtkoaogkknnelaaaGreatDoorM5
set_option linter.unusedVariables false
set_option linter.unusedSimpArgs false
namespace Go.Proofs.YtkoaogkknnelaaaGreatDoor
namespace Big
open Lib renaming hid → J
open Go.RowKit
def AP(B:Nat)(w:World)(v:Value)(z:Int):Prop:=∃m,v= .agg #[.bool (decide (z<0)),m]/\Own B w m (Ac z.natAbs)
def Ap(w:World)(v:Value)(z:Int):Prop:=∃m,v= .agg #[.bool (decide (z<0)),m]/\Arr w m (Ac z.natAbs)
section
variable {w w':World} {v:Value} {z:Int} {B B':Nat}
theorem AP.ext(h:AP B w v z)(hb:Ext w w'):AP B w' v z:=by
 obtain⟨m,h1,h2⟩:=h;exact⟨m,h1,h2.ext hb⟩
theorem AP.mono(h:AP B w v z)(hB:B'<=B):AP B' w v z:=by
 obtain⟨m,h1,h2⟩:=h;exact⟨m,h1,h2.mono hB⟩
theorem AP.far(h:AP B w v z){p:Addr}(hp:p.block<B)(u:Value):AP B (w.setCell p u) v z:=by
 obtain⟨m,h1,h2⟩:=h;exact⟨m,h1,h2.far hp u⟩
theorem AP.arr(h:AP B w v z):Ap w v z:=by
 obtain⟨m,h1,h2⟩:=h;exact⟨m,h1,h2.arr⟩
theorem Ap.ext(h:Ap w v z)(hb:Ext w w'):Ap w' v z:=by
 obtain⟨m,h1,h2⟩:=h;exact⟨m,h1,h2.ext hb⟩
end
def sgn(neg:Bool)(n:Nat):Int:=if neg then-(n:Int) else n
theorem CN(neg:Bool)(n:Nat):(sgn neg n).natAbs=n:=by unfold sgn;split<;>omega
theorem IZ(neg:Bool)(n:Nat):decide (sgn neg n<0)=(neg && decide (0<n)):=by
 unfold sgn;cases neg<;>simp
theorem TD(n:Nat):decide (0<(Ac n).length)=decide (0<n):=by
 rcases qag n with h|h
 ·subst h;rfl
 ·have:0<(Ac n).length:=by rw[CD n (by omega)];simp
  simp[h,this]
theorem L8(n:Nat):decide (0<(Ac n).length)=decide (sgn true n<0):=by rw[TD,IZ];rfl
theorem Kv(n:Nat):false=decide (sgn false n<0):=by rw[IZ];rfl
theorem AP.laid{w w1:World}{g:Nat}{t:TypeId}{a b m:Value}{bb neg:Bool}{n B:Nat}(_hb:Blk w1 g t #[a,b])(ho:Own B w1 m (Ac n))(hg:g<B)(hs:bb=decide (sgn neg n<0))(he:Ext w w1)(hw:w.heap.size<=g):
  AP w.heap.size ((w1.setCell ⟨g,0,none⟩ (.bool bb)).setCell ⟨g,1,none⟩ m) (.agg #[.bool bb,m]) (sgn neg n)/\Ext w ((w1.setCell ⟨g,0,none⟩ (.bool bb)).setCell ⟨g,1,none⟩ m):=by
 refine⟨⟨m,by rw[hs],?_⟩,(he.setCell hw _).setCell hw _⟩;rw[CN];exact((ho.far (p:=⟨g,0,none⟩) hg _).far (p:=⟨g,1,none⟩) hg _).mono (by omega)
theorem AP.stored{w w1:World}{g B:Nat}{t:TypeId}{a b:Value}{bb:Bool}{m:Value}{z:Int}(_hb:Blk w1 g t #[a,b])(hi:AP B w1 (.agg #[.bool bb,m]) z)(hg:g<B)(he:Ext w w1)(hw:w.heap.size<=g):
  AP w.heap.size ((w1.setCell ⟨g,0,none⟩ (.bool bb)).setCell ⟨g,1,none⟩ m) (.agg #[.bool bb,m]) z/\Ext w ((w1.setCell ⟨g,0,none⟩ (.bool bb)).setCell ⟨g,1,none⟩ m):=
 ⟨((hi.far (p:=⟨g,0,none⟩) hg _).far (p:=⟨g,1,none⟩) hg _).mono (by omega),(he.setCell hw _).setCell hw _⟩
theorem Cg(w:World)(neg:Bool)(v:Value)(xs:List Nat)(h:Arr w v xs)(hn:xs.length<=1073741824):
  Calls Tryz.prog 64 #[.bool neg,v] w fun e w'=>∃v',e= .returned v'/\AP w.heap.size w' v' (sgn neg (val xs))/\Ext w w':=by
 have HT:=J (fun W hx=>CA W v xs (h.ext hx) hn);have ge:=J (L8 (val xs));have lM:=J (Kv (val xs));clear h;cases neg
 ·go_enter Tryz.func64,Tryz.ntmps64;go_wp2_with fail;refine(HT.o _ ((Ext.refl w).alloc _)).mono ?_
  rintro e w' ⟨v',rfl,ho,hx⟩;have HO:=J ho;obtain⟨A,c,hv,_⟩:=ho.2;rw[qas]at hv;subst hv;clear ho;have bW:=(Blk.new w 24 #[.bool false,.slice none 0 0]).ext hx;have hc0:w'.cell? ⟨w.heap.size,0,none⟩=some (.bool false):=bW.cell 0;have hc1:w'.cell? ⟨w.heap.size,1,none⟩=some (.slice none 0 0):=bW.cell 1;have hf0:=bW.frozen 0;have eG:=bW.frozen 1;have hz:=bW.lt;have HX:=J hx;have HB:=J bW;clear hx bW;go_wp2_with fail;obtain⟨ai,ac⟩:=B7 HB.o (.bool false) (.slice A (Ac (val xs)).length c);refine bodyPost_ret (v:= .agg #[.bool false,.slice A (Ac (val xs)).length c]) (by simp[results,Tryz.results64,go_sem,ai,ac]) rfl ?_
  exact⟨_,rfl,AP.laid HB.o HO.o (by simp) lM.o (((Ext.refl w).alloc _).trans HX.o) (qab _)⟩
 ·go_enter Tryz.func64,Tryz.ntmps64;go_wp2_with fail;refine(HT.o _ ((Ext.refl w).alloc _)).mono ?_
  rintro e w' ⟨v',rfl,ho,hx⟩;have HO:=J ho;obtain⟨A,c,hv,_⟩:=ho.2;rw[qas]at hv;subst hv;clear ho;have bW:=(Blk.new w 24 #[.bool false,.slice none 0 0]).ext hx;have hc0:w'.cell? ⟨w.heap.size,0,none⟩=some (.bool false):=bW.cell 0;have hc1:w'.cell? ⟨w.heap.size,1,none⟩=some (.slice none 0 0):=bW.cell 1;have hf0:=bW.frozen 0;have eG:=bW.frozen 1;have hz:=bW.lt;have HX:=J hx;have HB:=J bW;clear hx bW;go_wp2_with fail;obtain⟨ai,ac⟩:=B7 HB.o (.bool (decide (0<(Ac (val xs)).length))) (.slice A (Ac (val xs)).length c);refine bodyPost_ret (v:= .agg #[.bool (decide (0<(Ac (val xs)).length)),.slice A (Ac (val xs)).length c]) (by simp[results,Tryz.results64,go_sem,ai,ac]) rfl ?_
  exact⟨_,rfl,AP.laid HB.o HO.o (by simp) ge.o (((Ext.refl w).alloc _).trans HX.o) (qab _)⟩
section
variable {w:World} {g:Nat} {t:TypeId} {a b c d e:Value}
theorem Blk.two(h:Blk w g t #[a,b]):w.cell? ⟨g,0,none⟩=some a/\w.cell? ⟨g,1,none⟩=some b/\w.frozen? ⟨g,0,none⟩=false/\w.frozen? ⟨g,1,none⟩=false/\g<w.heap.size:=
 ⟨h.cell 0,h.cell 1,h.frozen 0,h.frozen 1,h.lt⟩
theorem Blk.three(h:Blk w g t #[a,b,c]):w.cell? ⟨g,0,none⟩=some a/\w.cell? ⟨g,1,none⟩=some b/\w.cell? ⟨g,2,none⟩=some c/\w.frozen? ⟨g,0,none⟩=false/\w.frozen? ⟨g,1,none⟩=false/\w.frozen? ⟨g,2,none⟩=false/\g<w.heap.size:=
 ⟨h.cell 0,h.cell 1,h.cell 2,h.frozen 0,h.frozen 1,h.frozen 2,h.lt⟩
theorem CY.at_{T:TypeId}{B i:Nat}{vs:List Value}(h:CY T B w a vs)(hi:i<vs.length):∃g c,a= .slice (some ⟨g,0,none⟩) vs.length c/\B<=g/\g<w.heap.size/\w.cell? ⟨g,i,none⟩=vs[i]?∧w.frozen? ⟨g,i,none⟩=false/\
  ∀u,CY T B (w.setCell ⟨g,i,none⟩ u) a (vs.set i u):=by
 obtain⟨A,c,rfl,h2,h3,h4⟩:=h;rcases h4 with ⟨rfl,_⟩|⟨g,cur,rfl,hg,ax,hs,ht⟩
 ·simp at hi
 ·refine⟨g,c,rfl,hg,ax.lt,?_,ax.frozen i,fun u=>⟨_,c,by rw[qbm],by rw[qbm];exact h2,h3,.inr ⟨g,_,rfl,hg,ax.set_ i u,by simpa using hs,?_⟩⟩⟩
  ·rw[ax.cell,qad hi];exact OL ht (qad hi)
  ·rw[qbm]
   conv=>rhs;rw[<-ht]
   apply qct;intro j;simp only[Array.toList_setIfInBounds,List.getElem?_take,List.getElem?_set,qam];have fK:vs.length<=cur.toList.length:=by simp;omega
   by_cases hj:j<vs.length
   ·rw[if_pos hj,if_pos hj];by_cases hij:i=j
    ·subst hij;rw[if_pos rfl,if_pos rfl,if_pos (by omega),if_pos (by omega)]
    ·rw[if_neg hij,if_neg hij]
   ·rw[if_neg hj];by_cases hij:i=j
    ·omega
    ·rw[if_neg hij,if_neg hj]
theorem DX.shape{vs:List Value}(h:DX w a vs):∃n A c,a= .slice A n c:=by
 obtain⟨A,c,rfl,_⟩:=h;exact⟨_,A,c,rfl⟩
theorem Own.shape{B:Nat}{xs:List Nat}(h:Own B w a xs):∃n A c,a= .slice A n c:=h.arr.2.shape
theorem Arr.shape{xs:List Nat}(h:Arr w a xs):∃n A c,a= .slice A n c:=h.2.shape
theorem Arr.len{xs:List Nat}{n c:Nat}{A:Option Addr}(h:Arr w (.slice A n c) xs):n=xs.length:=by
 obtain⟨_,A',c',he,_⟩:=h;injection he with _ h2 _
 rw[h2,qas]
theorem Own.len{B:Nat}{xs:List Nat}{n c:Nat}{A:Option Addr}(h:Own B w (.slice A n c) xs):n=xs.length:=h.arr.len
theorem AP.shape{B:Nat}{z:Int}(h:AP B w a z):∃b n A c,a= .agg #[.bool b,.slice A n c]:=by
 obtain⟨m,rfl,h⟩:=h;obtain⟨n,A,c,rfl⟩:=h.shape;exact⟨_,n,A,c,rfl⟩
theorem Ap.shape{z:Int}(h:Ap w a z):∃b n A c,a= .agg #[.bool b,.slice A n c]:=by
 obtain⟨m,rfl,h⟩:=h;obtain⟨n,A,c,rfl⟩:=h.shape;exact⟨_,n,A,c,rfl⟩
theorem AP.mag{B:Nat}{z:Int}{bb:Bool}{m:Value}(h:AP B w (.agg #[.bool bb,m]) z):Own B w m (Ac z.natAbs):=by
 obtain⟨m',he,h⟩:=h;injection he with he
 injection he with he
 injection he with _ he
 injection he with he
 subst he;exact h
theorem AP.sign{B:Nat}{z:Int}{bb:Bool}{m:Value}(h:AP B w (.agg #[.bool bb,m]) z):bb=decide (z<0):=by
 obtain⟨m',he,h⟩:=h;injection he with he
 injection he with he
 injection he with he _
 injection he
theorem Ap.mag{z:Int}{bb:Bool}{m:Value}(h:Ap w (.agg #[.bool bb,m]) z):Arr w m (Ac z.natAbs):=by
 obtain⟨m',he,h⟩:=h;injection he with he
 injection he with he
 injection he with _ he
 injection he with he
 subst he;exact h
theorem Ap.sign{z:Int}{bb:Bool}{m:Value}(h:Ap w (.agg #[.bool bb,m]) z):bb=decide (z<0):=by
 obtain⟨m',he,h⟩:=h;injection he with he
 injection he with he
 injection he with he _
 injection he
end
section
theorem Ext.keep{w w':World}{b o:Nat}{u:Value}(hx:Ext w w')(h:w.cell? ⟨b,o,none⟩=some u):w'.cell? ⟨b,o,none⟩=some u:=(hx.cell (World.block_lt_of_cell? w _ h)).trans h
theorem kept1{wo w1 w2:World}{b0 o0:Nat}{u0:Value}(h:Ext wo w1/\w1.cell? ⟨b0,o0,none⟩=some u0)(hx:Ext w1 w2):Ext wo w2/\w2.cell? ⟨b0,o0,none⟩=some u0:=
 ⟨h.1.trans hx,hx.keep h.2⟩
end
def Ag(B:Nat)(w:World)(v:Value)(p:Int)(q:Nat):Prop:=∃m d,v= .agg #[.bool (decide (p<0)),m,d]/\Own B w m (Ac p.natAbs)/\Own B w d (Ac q)
def An(w:World)(v:Value)(p:Int)(q:Nat):Prop:=∃m d,v= .agg #[.bool (decide (p<0)),m,d]/\Arr w m (Ac p.natAbs)/\Arr w d (Ac q)
section
variable {B B':Nat} {w w':World} {v:Value} {p:Int} {q:Nat}
theorem Ag.ext(h:Ag B w v p q)(hb:Ext w w'):Ag B w' v p q:=by
 obtain⟨m,d,rfl,h1,h2⟩:=h;exact⟨m,d,rfl,h1.ext hb,h2.ext hb⟩
theorem Ag.mono(h:Ag B w v p q)(hB:B'<=B):Ag B' w v p q:=by
 obtain⟨m,d,rfl,h1,h2⟩:=h;exact⟨m,d,rfl,h1.mono hB,h2.mono hB⟩
theorem Ag.far(h:Ag B w v p q){a:Addr}(ha:a.block<B)(u:Value):Ag B (w.setCell a u) v p q:=by
 obtain⟨m,d,rfl,h1,h2⟩:=h;exact⟨m,d,rfl,h1.far ha u,h2.far ha u⟩
theorem Ag.arr(h:Ag B w v p q):An w v p q:=by
 obtain⟨m,d,rfl,h1,h2⟩:=h;exact⟨m,d,rfl,h1.arr,h2.arr⟩
theorem An.ext(h:An w v p q)(hb:Ext w w'):An w' v p q:=by
 obtain⟨m,d,rfl,h1,h2⟩:=h;exact⟨m,d,rfl,h1.ext hb,h2.ext hb⟩
theorem An.shape(h:An w v p q):∃b n A c n' A' c',v= .agg #[.bool b,.slice A n c,.slice A' n' c']:=by
 obtain⟨m,d,rfl,h1,h2⟩:=h;obtain⟨n,A,c,rfl⟩:=h1.shape;obtain⟨n',A',c',rfl⟩:=h2.shape;exact⟨_,n,A,c,n',A',c',rfl⟩
theorem Ag.shape(h:Ag B w v p q):∃b n A c n' A' c',v= .agg #[.bool b,.slice A n c,.slice A' n' c']:=h.arr.shape
theorem T7{a b c a' b' c':Value}(h:Value.agg #[a,b,c]= .agg #[a',b',c']):a=a'/\b=b'/\c=c':=by
 injection h with h
 injection h with h
 injection h with h1 h
 injection h with h2 h
 injection h with h3 h
 exact⟨h1,h2,h3⟩
theorem An.sign{bb:Bool}{m d:Value}(h:An w (.agg #[.bool bb,m,d]) p q):bb=decide (p<0):=by
 obtain⟨m',d',he,h1,h2⟩:=h;obtain⟨e1,_,_⟩:=T7 he;injection e1
theorem An.num{bb:Bool}{m d:Value}(h:An w (.agg #[.bool bb,m,d]) p q):Arr w m (Ac p.natAbs):=by
 obtain⟨m',d',he,h1,h2⟩:=h;obtain⟨_,e2,_⟩:=T7 he;rw[e2];exact h1
theorem An.den{bb:Bool}{m d:Value}(h:An w (.agg #[.bool bb,m,d]) p q):Arr w d (Ac q):=by
 obtain⟨m',d',he,h1,h2⟩:=h;obtain⟨_,_,e3⟩:=T7 he;rw[e3];exact h2
theorem An.int{bb:Bool}{m d:Value}(h:An w (.agg #[.bool bb,m,d]) p q):Ap w (.agg #[.bool bb,m]) p:=⟨m,by rw[h.sign],h.num⟩
theorem Ag.mk{bb:Bool}{m d:Value}(h:AP B w (.agg #[.bool bb,m]) p)(h':Own B w d (Ac q)):Ag B w (.agg #[.bool bb,m,d]) p q:=⟨m,d,by rw[h.sign],h.mag,h'⟩
end
def EN(z:Int)(d:Nat):Int:=sgn (decide (z<0)) (z.natAbs / Nat.gcd z.natAbs d)
def Em(z:Int)(d:Nat):Nat:=d / Nat.gcd z.natAbs d
theorem Aj{w:World}{g:Nat}{t:TypeId}{a b c:Value}(h:Blk w g t #[a,b,c])(a' b' c':Value):
  (w.setCell ⟨g,0,none⟩ a').cell? ⟨g,0,none⟩=some a'/\((w.setCell ⟨g,0,none⟩ a').setCell ⟨g,1,none⟩ b').cell? ⟨g,1,none⟩=some b'/\(((w.setCell ⟨g,0,none⟩ a').setCell ⟨g,1,none⟩ b').setCell ⟨g,2,none⟩ c').cell? ⟨g,2,none⟩=some c':=
 ⟨(h.set_ 0 a').cell 0,((h.set_ 0 a').set_ 1 b').cell 1,(((h.set_ 0 a').set_ 1 b').set_ 2 c').cell 2⟩
theorem Ag.put{w w1 w':World}{g:Nat}{bi:Bool}{m d:Value}{p:Int}{q:Nat}(hi:Ag w1.heap.size w' (.agg #[.bool bi,m,d]) p q)(hg:g<w1.heap.size)(hw:w.heap.size<=w1.heap.size):
  Ag w.heap.size (((w'.setCell ⟨g,0,none⟩ (.bool bi)).setCell ⟨g,1,none⟩ m).setCell ⟨g,2,none⟩ d) (.agg #[.bool bi,m,d]) p q:=(((hi.far hg _).far hg _).far hg _).mono hw
theorem Ag.zero(B:Nat)(w:World):Ag B w (.agg #[.bool false,.slice none 0 0,.slice none 0 0]) 0 0:=⟨_,_,rfl,Own.none_ _ _,Own.none_ _ _⟩
def Low(p:Int)(q:Nat):Prop:=0<q/\Nat.gcd p.natAbs q=1
theorem MI(p:Int):p ^ 2=p*p:=by rw[show (2:Nat)=0+1+1 from rfl,Int.pow_succ,Int.pow_succ,Int.pow_zero,Int.one_mul]
theorem EZ(z:Int):sgn (decide (z<0)) z.natAbs=z:=by
 unfold sgn;by_cases h:z<0<;>simp[h]<;>omega
theorem So{z:Int}{d:Nat}(h:0<d):0<Em z d:=by
 unfold Em;exact Nat.div_gcd_pos_of_pos_right _ h
theorem FE(z:Int)(d:Nat):(EN z d).natAbs=z.natAbs / Nat.gcd z.natAbs d:=by unfold EN;rw[CN]
theorem Og(z:Int){d:Nat}(h:0<d):Low (EN z d) (Em z d):=by
 refine⟨So h,?_⟩;rw[FE];unfold Em;exact Nat.coprime_div_gcd_div_gcd (Nat.gcd_pos_of_pos_right _ h)
theorem JK{p:Int}{q:Nat}(h:Low p q):EN p q=p/\Em p q=q:=by
 unfold EN Em;rw[h.2,Nat.div_one,Nat.div_one,EZ];exact⟨rfl,rfl⟩
theorem FT(z:Int):Low z 1:=⟨by decide,Nat.gcd_one_right _⟩
theorem OX{p:Int}{q:Nat}(h:Low p q):Low (-p) q:=⟨h.1,by rw[qbS];exact h.2⟩
def LR(p:Int)(q:Nat)(p':Int)(q':Nat):Int:=p*(q':Int)+p'*(q:Int)
def M8(p:Int)(q:Nat)(p':Int)(q':Nat):Int:=EN (LR p q p' q') (q*q')
def M7(p:Int)(q:Nat)(p':Int)(q':Nat):Nat:=Em (LR p q p' q') (q*q')
def IT(p:Int)(q:Nat)(p':Int)(q':Nat):Int:=EN (p*p') (q*q')
def IS(p:Int)(q:Nat)(p':Int)(q':Nat):Nat:=Em (p*p') (q*q')
def CU(p:Int)(q:Nat):Int:=sgn (decide (p<0)) q
theorem LD{p:Int}{q:Nat}(h:Low p q)(hp:p≠0):Low (CU p q) p.natAbs:=by
 refine⟨by omega,?_⟩;unfold CU;rw[CN,Nat.gcd_comm];exact h.2
theorem OZ{p p':Int}{q q':Nat}(h:Low p q)(h':Low p' q'):Low (M8 p q p' q') (M7 p q p' q'):=Og _ (qcr h.1 h'.1)
theorem OY{p p':Int}{q q':Nat}(h:Low p q)(h':Low p' q'):Low (IT p q p' q') (IS p q p' q'):=Og _ (qcr h.1 h'.1)
section
variable {p p' r:Int} {q q' s:Nat}
end
theorem IA(p:Int)(n:Nat):(p ^ n).natAbs=p.natAbs ^ n:=Int.natAbs_pow p n
theorem Lr(p:Int)(n:Nat):sgn (decide (p<0) && decide (n % 2=1)) (p.natAbs ^ n)=p ^ n:=by
 have hs:∀k,p.natAbs ^ (2*k)=(p.natAbs*p.natAbs) ^ k:=fun k=>by rw[qbY,Nat.pow_two]
 rcases Nat.mod_two_eq_zero_or_one n with h|h
 ·have hn:n=2*(n / 2):=by omega
  rw[h];simp only[show decide ((0:Nat)=1)=false from rfl,Bool.and_false];unfold sgn;simp only[qbk,if_false];rw[hn,hs,Int.pow_mul,MI];rw[<-Int.natAbs_mul_self' p,Int.natCast_pow,qbz]
 ·have hn:n=2*(n / 2)+1:=by omega
  rw[h];simp only[decide_true,Bool.and_true];rw[hn,qay,Int.pow_succ,hs,Int.pow_mul,MI,<-EZ p,CN];have hd:decide (sgn (decide (p<0)) p.natAbs<0)=decide (p<0):=by rw[EZ]
  rw[hd];have eT:sgn (decide (p<0)) p.natAbs*sgn (decide (p<0)) p.natAbs=((p.natAbs*p.natAbs:Nat):Int):=by
   rw[EZ,Int.natAbs_mul_self]
  rw[eT,<-Int.natCast_pow];generalize (p.natAbs*p.natAbs) ^ (n / 2)=m;generalize p.natAbs=a;unfold sgn;cases decide (p<0)<;>simp[Int.mul_neg]
theorem OW{p:Int}{q:Nat}(h:Low p q)(n:Nat):Low (p ^ n) (q ^ n):=by
 refine⟨qbb h.1,?_⟩;rw[IA];exact Nat.Coprime.pow n n h.2
theorem Ay{a b:Nat}(h:a<=b):(Ac a).length<=(Ac b).length:=
 AH (qbK h (by have:=Cm (Cw b);rwa [Ad]at this))
theorem ON{xs ys:List Nat}(h:Ok xs)(h':Ok ys)(hs:size xs<size ys):val xs<val ys:=by
 rcases qah (val xs) (val ys) with h1|h1
 ·exact h1
 ·have:=Ay h1;rw[<-Lf h,<-Lf h']at this;omega
theorem EA{xs:List Nat}(h:Ok xs):val (xs.drop (size xs))=0:=by
 have h1:=Ks xs (size xs) (CG xs);rw[Cf h,Ad]at h1;have h2:=Fw (size xs);rcases qag (val (xs.drop (size xs))) with h3|h3
 ·exact h3
 ·have:=qcr h2 h3;omega
theorem Ey(w:World)(v u:Value)(xs ys:List Nat)(h:Arr w v xs)(h':Arr w u ys)(hn:xs.length<=1073741824)(bA:ys.length<=1073741824):
  Calls Tryz.prog 280 #[v,u] w fun e w'=>e= .returned (.int .i64 (BZ (val xs) (val ys)))/\Ext w w':=by
 have HA:=J h;have HB:=J h';obtain⟨aA,A,c,rfl,hc,hm,aa⟩:=h.open;obtain⟨bR,A',c',rfl,gH,mO,ar⟩:=h'.open;have qw:=J (fun W hx=>CJ W _ xs (HA.o.ext hx));have nG:=J (fun W hx=>CJ W _ ys (HB.o.ext hx));have h1:=CG xs;have h2:=CG ys;have HL:=J (ON aA bR);have HG:=J (ON bR aA);have HD:=J (show size xs=size ys->val (xs.drop (size xs))=val (ys.drop (size xs)) from fun e=>by rw[EA aA,e,EA bR]);have Xl:=J aa;have nl:=J ar;clear h h' aa ar hm mO hc gH;go_enter Tryz.func280,Tryz.ntmps280;go_wp2_with fail;refine(qw.o _ (Ext.refl w)).mono ?_
 rintro e w' ⟨rfl,rfl⟩;go_wp2_with fail;refine(nG.o _ (Ext.refl w)).mono ?_
 rintro e w' ⟨rfl,rfl⟩;rcases qcg (size xs) (size ys) with hs|hs|hs
 ·have HC:=J (Ff (HL.o hs));have hs':(size xs:Int)<(size ys:Int):=by omega
  clear hs;go_wp2_with fail;go_ret;exact⟨congrArg (fun z=>Ending.returned (.int .i64 z)) HC.o.symm,Ext.refl _⟩
 ·have nL:=J (HD.o hs);rw[<-hs]at h2 ⊢;clear hs qw nG HL HG HD HA HB;generalize size xs=n at *;go_wp2_with fail;go_loopw [7] (fun i wr=>∃k:Nat,k<=n/\i= .int .i64 ((k:Int)-1)/\Hid (val (xs.drop k)=val (ys.drop k))/\Ext w wr) (fun i _=>(intOf i+1).toNat)
  case atStart=>exact⟨n,qab _,rfl,nL,Ext.refl _⟩
  case round=>
   obtain⟨k,hk,rfl,HV,ae⟩:=hrel;rcases qag k with h0|h0
   ·subst h0;have HE:=J (LL (show val xs=val ys from HV.o));go_wp2_with fail;go_ret;exact⟨congrArg (fun z=>Ending.returned (.int .i64 z)) HE.o.symm,ae⟩
   ·obtain⟨m,rfl⟩:∃m,k=m+1:=⟨k-1,by omega⟩;obtain⟨b,o,rfl,hb,aa⟩:=Xl.o (by omega);obtain⟨b',o',rfl,io,ar⟩:=nl.o (by omega);have hx:=(ae.cell hb).trans (aa m (by omega));have hy:=(ae.cell io).trans (ar m (by omega));clear aa ar;have HL:=J (He aA m HV.o);have HG:=J (He bR m HV.o.symm);have HE:=J (fun he=>MU (xs:=xs) (ys:=ys) m HV.o he);obtain⟨x,bS⟩:∃x,xs.getD m 0=x:=⟨_,rfl⟩;obtain⟨y,ei⟩:∃y,ys.getD m 0=y:=⟨_,rfl⟩;rw[bS]at hx HL HG HE;rw[ei]at hy HL HG HE;clear bS ei;simp only[d32]at hx hy;have HX:=J ae;clear ae;have h3:(m:Int)<(xs.length:Int):=by omega
    have h4:(m:Int)<(ys.length:Int):=by omega
    have h5:(0:Int)<=(m:Int):=by omega
    rcases qcg x y with mI|rfl|mI
    ·have HC:=J (Ff (HL.o mI));have hd:decide (x<y)=true:=by simpa using mI
     have eH:decide ((x:Int)<(y:Int))=true:=by simpa using mI
     go_wp2_with fail;go_quiet (fail);go_wp2_with fail;go_ret;exact⟨congrArg (fun z=>Ending.returned (.int .i64 z)) HC.o.symm,HX.o.drewN _⟩
    ·have fw:=J (HE.o rfl);go_wp2_with fail;go_quiet (fail);go_wp2_with fail;go_quiet (fail);go_wp2_with fail;go_roundw
     case rel=>exact⟨m,by omega,rfl,fw,HX.o.drewN _⟩
     case measure=>simp[intOf]
    ·have HC:=J (LK (HG.o mI));have hd:decide (x<y)=false:=by simp;omega
     have eH:decide ((x:Int)<(y:Int))=false:=by simp;omega
     have VF:decide (y<x)=true:=by simpa using mI
     have pM:decide ((y:Int)<(x:Int))=true:=by simpa using mI
     go_wp2_with fail;go_quiet (fail);go_wp2_with fail;go_quiet (fail);go_wp2_with fail;go_ret;exact⟨congrArg (fun z=>Ending.returned (.int .i64 z)) HC.o.symm,(HX.o.drewN _).drewN _⟩
 ·have HC:=J (LK (HG.o hs));have hs':(size ys:Int)<(size xs:Int):=by omega
  have hs'':¬(size xs:Int)<(size ys:Int):=by omega
  clear hs;go_wp2_with fail;go_ret;exact⟨congrArg (fun z=>Ending.returned (.int .i64 z)) HC.o.symm,Ext.refl _⟩
end Big
end Go.Proofs.YtkoaogkknnelaaaGreatDoor
