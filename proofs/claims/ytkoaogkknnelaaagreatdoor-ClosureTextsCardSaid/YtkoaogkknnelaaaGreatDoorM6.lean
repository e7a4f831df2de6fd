import Derived.Test.YtkoaogkknnelaaaGreatDoorM5
set_option linter.unusedVariables false
set_option linter.unusedSimpArgs false
namespace Go.Proofs.YtkoaogkknnelaaaGreatDoor
namespace Big
open Lib renaming hid → J
open Go.RowKit
def BY(B:Nat)(w:World)(v:Value)(z:Int):Prop:=∃m,v= .agg #[.bool (decide (z<0)),m]/\Own B w m (Af z.natAbs)
def Cf(w:World)(v:Value)(z:Int):Prop:=∃m,v= .agg #[.bool (decide (z<0)),m]/\Arr w m (Af z.natAbs)
section
variable {w w':World} {v:Value} {z:Int} {B B':Nat}
theorem BY.ext(h:BY B w v z)(hb:Ext w w'):BY B w' v z:=by
 obtain⟨m,h1,h2⟩:=h;exact⟨m,h1,h2.ext hb⟩
theorem BY.mono(h:BY B w v z)(hB:B'<=B):BY B' w v z:=by
 obtain⟨m,h1,h2⟩:=h;exact⟨m,h1,h2.mono hB⟩
theorem BY.far(h:BY B w v z){p:Addr}(hp:p.block<B)(u:Value):BY B (w.setCell p u) v z:=by
 obtain⟨m,h1,h2⟩:=h;exact⟨m,h1,h2.far hp u⟩
theorem BY.arr(h:BY B w v z):Cf w v z:=by
 obtain⟨m,h1,h2⟩:=h;exact⟨m,h1,h2.arr⟩
theorem Cf.ext(h:Cf w v z)(hb:Ext w w'):Cf w' v z:=by
 obtain⟨m,h1,h2⟩:=h;exact⟨m,h1,h2.ext hb⟩
end
def sgn(neg:Bool)(n:Nat):Int:=if neg then-(n:Int) else n
theorem Oj(neg:Bool)(n:Nat):(sgn neg n).natAbs=n:=by unfold sgn;split<;>omega
theorem Pa(neg:Bool)(n:Nat):decide (sgn neg n<0)=(neg && decide (0<n)):=by
 unfold sgn;cases neg<;>simp
theorem Tw(n:Nat):decide (0<(Af n).length)=decide (0<n):=by
 rcases qar n with h|h
 ·subst h;rfl
 ·have:0<(Af n).length:=by rw[Co n (by omega)];simp
  simp[h,this]
theorem Mj(n:Nat):decide (0<(Af n).length)=decide (sgn true n<0):=by rw[Tw,Pa];rfl
theorem Kw(n:Nat):false=decide (sgn false n<0):=by rw[Pa];rfl
theorem BY.laid{w w1:World}{g:Nat}{t:TypeId}{a b m:Value}{bb neg:Bool}{n B:Nat}(_hb:Blk w1 g t #[a,b])(ho:Own B w1 m (Af n))(hg:g<B)(hs:bb=decide (sgn neg n<0))(he:Ext w w1)(hw:w.heap.size<=g):
  BY w.heap.size ((w1.setCell ⟨g,0,none⟩ (.bool bb)).setCell ⟨g,1,none⟩ m) (.agg #[.bool bb,m]) (sgn neg n)/\Ext w ((w1.setCell ⟨g,0,none⟩ (.bool bb)).setCell ⟨g,1,none⟩ m):=by
 refine⟨⟨m,by rw[hs],?_⟩,(he.setCell hw _).setCell hw _⟩;rw[Oj];exact((ho.far (p:=⟨g,0,none⟩) hg _).far (p:=⟨g,1,none⟩) hg _).mono (by omega)
theorem BY.stored{w w1:World}{g B:Nat}{t:TypeId}{a b:Value}{bb:Bool}{m:Value}{z:Int}(_hb:Blk w1 g t #[a,b])(hi:BY B w1 (.agg #[.bool bb,m]) z)(hg:g<B)(he:Ext w w1)(hw:w.heap.size<=g):
  BY w.heap.size ((w1.setCell ⟨g,0,none⟩ (.bool bb)).setCell ⟨g,1,none⟩ m) (.agg #[.bool bb,m]) z/\Ext w ((w1.setCell ⟨g,0,none⟩ (.bool bb)).setCell ⟨g,1,none⟩ m):=
 ⟨((hi.far (p:=⟨g,0,none⟩) hg _).far (p:=⟨g,1,none⟩) hg _).mono (by omega),(he.setCell hw _).setCell hw _⟩
theorem FF(w:World)(neg:Bool)(v:Value)(xs:List Nat)(h:Arr w v xs)(hn:xs.length<=1073741824):
  Calls Tryz.prog 64 #[.bool neg,v] w fun e w'=>∃v',e= .returned v'/\BY w.heap.size w' v' (sgn neg (val xs))/\Ext w w':=by
 have HT:=J (fun W hx=>D3 W v xs (h.ext hx) hn);have gJ:=J (Mj (val xs));have fj:=J (Kw (val xs));clear h;cases neg
 ·go_enter Tryz.func64,Tryz.ntmps64;go_wp2_with fail;refine(HT.o _ ((Ext.refl w).alloc _)).mono ?_
  rintro e w' ⟨v',rfl,ho,hx⟩;have HO:=J ho;obtain⟨A,c,hv,_⟩:=ho.2;rw[qag]at hv;subst hv;clear ho;have bF:=(Blk.new w 24 #[.bool false,.slice none 0 0]).ext hx;have hc0:w'.cell? ⟨w.heap.size,0,none⟩=some (.bool false):=bF.cell 0;have hc1:w'.cell? ⟨w.heap.size,1,none⟩=some (.slice none 0 0):=bF.cell 1;have hf0:=bF.frozen 0;have en:=bF.frozen 1;have hz:=bF.lt;have HX:=J hx;have HB:=J bF;clear hx bF;go_wp2_with fail;obtain⟨dN,cB⟩:=Ec HB.o (.bool false) (.slice A (Af (val xs)).length c);refine bodyPost_ret (v:= .agg #[.bool false,.slice A (Af (val xs)).length c]) (by simp[results,Tryz.results64,go_sem,dN,cB]) rfl ?_
  exact⟨_,rfl,BY.laid HB.o HO.o (by simp) fj.o (((Ext.refl w).alloc _).trans HX.o) (qad _)⟩
 ·go_enter Tryz.func64,Tryz.ntmps64;go_wp2_with fail;refine(HT.o _ ((Ext.refl w).alloc _)).mono ?_
  rintro e w' ⟨v',rfl,ho,hx⟩;have HO:=J ho;obtain⟨A,c,hv,_⟩:=ho.2;rw[qag]at hv;subst hv;clear ho;have bF:=(Blk.new w 24 #[.bool false,.slice none 0 0]).ext hx;have hc0:w'.cell? ⟨w.heap.size,0,none⟩=some (.bool false):=bF.cell 0;have hc1:w'.cell? ⟨w.heap.size,1,none⟩=some (.slice none 0 0):=bF.cell 1;have hf0:=bF.frozen 0;have en:=bF.frozen 1;have hz:=bF.lt;have HX:=J hx;have HB:=J bF;clear hx bF;go_wp2_with fail;obtain⟨dN,cB⟩:=Ec HB.o (.bool (decide (0<(Af (val xs)).length))) (.slice A (Af (val xs)).length c);refine bodyPost_ret (v:= .agg #[.bool (decide (0<(Af (val xs)).length)),.slice A (Af (val xs)).length c]) (by simp[results,Tryz.results64,go_sem,dN,cB]) rfl ?_
  exact⟨_,rfl,BY.laid HB.o HO.o (by simp) gJ.o (((Ext.refl w).alloc _).trans HX.o) (qad _)⟩
section
variable {w:World} {g:Nat} {t:TypeId} {a b c d e:Value}
theorem Blk.two(h:Blk w g t #[a,b]):w.cell? ⟨g,0,none⟩=some a/\w.cell? ⟨g,1,none⟩=some b/\w.frozen? ⟨g,0,none⟩=false/\w.frozen? ⟨g,1,none⟩=false/\g<w.heap.size:=
 ⟨h.cell 0,h.cell 1,h.frozen 0,h.frozen 1,h.lt⟩
theorem Blk.three(h:Blk w g t #[a,b,c]):w.cell? ⟨g,0,none⟩=some a/\w.cell? ⟨g,1,none⟩=some b/\w.cell? ⟨g,2,none⟩=some c/\w.frozen? ⟨g,0,none⟩=false/\w.frozen? ⟨g,1,none⟩=false/\w.frozen? ⟨g,2,none⟩=false/\g<w.heap.size:=
 ⟨h.cell 0,h.cell 1,h.cell 2,h.frozen 0,h.frozen 1,h.frozen 2,h.lt⟩
theorem Cp.at_{T:TypeId}{B i:Nat}{vs:List Value}(h:Cp T B w a vs)(hi:i<vs.length):∃g c,a= .slice (some ⟨g,0,none⟩) vs.length c/\B<=g/\g<w.heap.size/\w.cell? ⟨g,i,none⟩=vs[i]?∧w.frozen? ⟨g,i,none⟩=false/\
  ∀u,Cp T B (w.setCell ⟨g,i,none⟩ u) a (vs.set i u):=by
 obtain⟨A,c,rfl,h2,h3,h4⟩:=h;rcases h4 with ⟨rfl,_⟩|⟨g,cur,rfl,hg,ax,hs,ht⟩
 ·simp at hi
 ·refine⟨g,c,rfl,hg,ax.lt,?_,ax.frozen i,fun u=>⟨_,c,by rw[qbX],by rw[qbX];exact h2,h3,.inr ⟨g,_,rfl,hg,ax.set_ i u,by simpa using hs,?_⟩⟩⟩
  ·rw[ax.cell,qaa hi];exact O7 ht (qaa hi)
  ·rw[qbX]
   conv=>rhs;rw[<-ht]
   apply qcb;intro j;simp only[Array.toList_setIfInBounds,qcm,List.getElem?_set,qas];have qI:vs.length<=cur.toList.length:=by simp;omega
   by_cases hj:j<vs.length
   ·rw[if_pos hj,if_pos hj];by_cases hij:i=j
    ·subst hij;rw[if_pos rfl,if_pos rfl,if_pos (by omega),if_pos (by omega)]
    ·rw[if_neg hij,if_neg hij]
   ·rw[if_neg hj];by_cases hij:i=j
    ·omega
    ·rw[if_neg hij,if_neg hj]
theorem CX.shape{vs:List Value}(h:CX w a vs):∃n A c,a= .slice A n c:=by
 obtain⟨A,c,rfl,_⟩:=h;exact⟨_,A,c,rfl⟩
theorem Own.shape{B:Nat}{xs:List Nat}(h:Own B w a xs):∃n A c,a= .slice A n c:=h.arr.2.shape
theorem Arr.shape{xs:List Nat}(h:Arr w a xs):∃n A c,a= .slice A n c:=h.2.shape
theorem Arr.len{xs:List Nat}{n c:Nat}{A:Option Addr}(h:Arr w (.slice A n c) xs):n=xs.length:=by
 obtain⟨_,A',c',he,_⟩:=h;injection he with _ h2 _
 rw[h2,qag]
theorem Own.len{B:Nat}{xs:List Nat}{n c:Nat}{A:Option Addr}(h:Own B w (.slice A n c) xs):n=xs.length:=h.arr.len
theorem BY.shape{B:Nat}{z:Int}(h:BY B w a z):∃b n A c,a= .agg #[.bool b,.slice A n c]:=by
 obtain⟨m,rfl,h⟩:=h;obtain⟨n,A,c,rfl⟩:=h.shape;exact⟨_,n,A,c,rfl⟩
theorem Cf.shape{z:Int}(h:Cf w a z):∃b n A c,a= .agg #[.bool b,.slice A n c]:=by
 obtain⟨m,rfl,h⟩:=h;obtain⟨n,A,c,rfl⟩:=h.shape;exact⟨_,n,A,c,rfl⟩
theorem BY.mag{B:Nat}{z:Int}{bb:Bool}{m:Value}(h:BY B w (.agg #[.bool bb,m]) z):Own B w m (Af z.natAbs):=by
 obtain⟨m',he,h⟩:=h;injection he with he
 injection he with he
 injection he with _ he
 injection he with he
 subst he;exact h
theorem BY.sign{B:Nat}{z:Int}{bb:Bool}{m:Value}(h:BY B w (.agg #[.bool bb,m]) z):bb=decide (z<0):=by
 obtain⟨m',he,h⟩:=h;injection he with he
 injection he with he
 injection he with he _
 injection he
theorem Cf.mag{z:Int}{bb:Bool}{m:Value}(h:Cf w (.agg #[.bool bb,m]) z):Arr w m (Af z.natAbs):=by
 obtain⟨m',he,h⟩:=h;injection he with he
 injection he with he
 injection he with _ he
 injection he with he
 subst he;exact h
theorem Cf.sign{z:Int}{bb:Bool}{m:Value}(h:Cf w (.agg #[.bool bb,m]) z):bb=decide (z<0):=by
 obtain⟨m',he,h⟩:=h;injection he with he
 injection he with he
 injection he with he _
 injection he
end
section
theorem Ext.keep{w w':World}{b o:Nat}{u:Value}(hx:Ext w w')(h:w.cell? ⟨b,o,none⟩=some u):w'.cell? ⟨b,o,none⟩=some u:=(hx.cell (World.block_lt_of_cell? w _ h)).trans h
theorem kept1{wo w1 w2:World}{b0 o0:Nat}{u0:Value}(h:Ext wo w1/\w1.cell? ⟨b0,o0,none⟩=some u0)(hx:Ext w1 w2):Ext wo w2/\w2.cell? ⟨b0,o0,none⟩=some u0:=
 ⟨h.1.trans hx,hx.keep h.2⟩
theorem Sw{wo w1 w2:World}{b0 o0 b1 o1:Nat}{u0 u1:Value}(h:Ext wo w1/\w1.cell? ⟨b0,o0,none⟩=some u0/\w1.cell? ⟨b1,o1,none⟩=some u1)(hx:Ext w1 w2):Ext wo w2/\w2.cell? ⟨b0,o0,none⟩=some u0/\w2.cell? ⟨b1,o1,none⟩=some u1:=
 ⟨h.1.trans hx,hx.keep h.2.1,hx.keep h.2.2⟩
theorem Oz{wo:World}{b0 o0 b1 o1:Nat}{u0 u1:Value}(h:wo.cell? ⟨b0,o0,none⟩=some u0/\wo.cell? ⟨b1,o1,none⟩=some u1):Ext wo wo.drew/\wo.drew.cell? ⟨b0,o0,none⟩=some u0/\wo.drew.cell? ⟨b1,o1,none⟩=some u1:=⟨(Ext.refl wo).drew,h⟩
theorem JF{wo w1 w2:World}{b0 o0 b1 o1 b2 o2:Nat}{u0 u1 u2:Value}(h:Ext wo w1/\w1.cell? ⟨b0,o0,none⟩=some u0/\w1.cell? ⟨b1,o1,none⟩=some u1/\w1.cell? ⟨b2,o2,none⟩=some u2)(hx:Ext w1 w2):Ext wo w2/\w2.cell? ⟨b0,o0,none⟩=some u0/\w2.cell? ⟨b1,o1,none⟩=some u1/\w2.cell? ⟨b2,o2,none⟩=some u2:=
 ⟨h.1.trans hx,hx.keep h.2.1,hx.keep h.2.2.1,hx.keep h.2.2.2⟩
theorem Da{wo:World}{b0 o0 b1 o1 b2 o2:Nat}{u0 u1 u2:Value}(h:wo.cell? ⟨b0,o0,none⟩=some u0/\wo.cell? ⟨b1,o1,none⟩=some u1/\wo.cell? ⟨b2,o2,none⟩=some u2):Ext wo wo.drew/\wo.drew.cell? ⟨b0,o0,none⟩=some u0/\wo.drew.cell? ⟨b1,o1,none⟩=some u1/\wo.drew.cell? ⟨b2,o2,none⟩=some u2:=⟨(Ext.refl wo).drew,h⟩
theorem Pk{wo w1 w2:World}{b0 o0 b1 o1 b2 o2 b3 o3 b4 o4 b5 o5:Nat}{u0 u1 u2 u3 u4 u5:Value}(h:Ext wo w1/\w1.cell? ⟨b0,o0,none⟩=some u0/\w1.cell? ⟨b1,o1,none⟩=some u1/\w1.cell? ⟨b2,o2,none⟩=some u2/\w1.cell? ⟨b3,o3,none⟩=some u3/\w1.cell? ⟨b4,o4,none⟩=some u4/\w1.cell? ⟨b5,o5,none⟩=some u5)(hx:Ext w1 w2):Ext wo w2/\w2.cell? ⟨b0,o0,none⟩=some u0/\w2.cell? ⟨b1,o1,none⟩=some u1/\w2.cell? ⟨b2,o2,none⟩=some u2/\w2.cell? ⟨b3,o3,none⟩=some u3/\w2.cell? ⟨b4,o4,none⟩=some u4/\w2.cell? ⟨b5,o5,none⟩=some u5:=
 ⟨h.1.trans hx,hx.keep h.2.1,hx.keep h.2.2.1,hx.keep h.2.2.2.1,hx.keep h.2.2.2.2.1,hx.keep h.2.2.2.2.2.1,hx.keep h.2.2.2.2.2.2⟩
theorem Fg{wo:World}{b0 o0 b1 o1 b2 o2 b3 o3 b4 o4 b5 o5:Nat}{u0 u1 u2 u3 u4 u5:Value}(h:wo.cell? ⟨b0,o0,none⟩=some u0/\wo.cell? ⟨b1,o1,none⟩=some u1/\wo.cell? ⟨b2,o2,none⟩=some u2/\wo.cell? ⟨b3,o3,none⟩=some u3/\wo.cell? ⟨b4,o4,none⟩=some u4/\wo.cell? ⟨b5,o5,none⟩=some u5):Ext wo wo.drew/\wo.drew.cell? ⟨b0,o0,none⟩=some u0/\wo.drew.cell? ⟨b1,o1,none⟩=some u1/\wo.drew.cell? ⟨b2,o2,none⟩=some u2/\wo.drew.cell? ⟨b3,o3,none⟩=some u3/\wo.drew.cell? ⟨b4,o4,none⟩=some u4/\wo.drew.cell? ⟨b5,o5,none⟩=some u5:=⟨(Ext.refl wo).drew,h⟩
end
def di(x:Int):Value:= .int .i64 x
def T9(l:List Int):Prop:=∀x∈l,-9223372036854775808<=x/\x<=9223372036854775807
def D1(w:World)(v:Value)(l:List Int):Prop:=T9 l/\CX w v (l.map di)
structure KB (B g:Nat) (w w':World):Prop where
 os:w'.os=w.os
 tape:w'.tape=w.tape
 output:w'.output=w.output
 size:w.heap.size<=w'.heap.size
 block:∀k,k<B->k≠g->w'.heap[k]? =w.heap[k]?
section
variable {w w' w'':World} {B B' g:Nat} {v:Value} {l:List Int}
theorem KB.refl(B g:Nat)(w:World):KB B g w w:=⟨rfl,rfl,rfl,qad _,fun _ _ _=>rfl⟩
theorem KB.trans(h:KB B g w w')(k:KB B g w' w''):KB B g w w'':=
 ⟨k.os.trans h.os,k.tape.trans h.tape,k.output.trans h.output,qaf h.size k.size,fun i h1 h2=>(k.block i h1 h2).trans (h.block i h1 h2)⟩
theorem KB.mono(h:KB B g w w')(hB:B'<=B):KB B' g w w':=⟨h.os,h.tape,h.output,h.size,fun k h1 h2=>h.block k (by omega) h2⟩
theorem KB.below(h:KB B g w w')(k:Below B w' w''):KB B g w w'':=h.trans ⟨k.os,k.tape,k.output,k.size,fun i h1 _=>k.block i h1⟩
theorem KB.ext(h:KB B g w w')(k:Ext w' w'')(hB:B<=w'.heap.size):KB B g w w'':=h.below (Below.mono k hB)
theorem KB.to_ext{w0:World}(h:KB B g w w')(k:Ext w0 w)(hB:w0.heap.size<=B)(hg:w0.heap.size<=g):Ext w0 w':=
 ⟨h.os.trans k.os,h.tape.trans k.tape,h.output.trans k.output,qaf k.size h.size,fun i hi=>(h.block i (by omega) (by omega)).trans (k.block i hi)⟩
theorem KB.blk{t:TypeId}{cs:Array Value}{b:Nat}(h:KB B g w w')(hb:Blk w b t cs)(h1:b<B)(h2:b≠g):Blk w' b t cs:=(h.block b h1 h2).trans hb
theorem KB.set{p:Addr}(hp:p.block=g)(u:Value):KB B g w (w.setCell p u):=
 ⟨rfl,rfl,rfl,by simp[World.setCell],fun k _ h2=>Below.heap_setCell w p u k (by rw[hp];exact h2)⟩
theorem KB.drewN(h:KB B g w w')(n:Nat):KB B g w (w'.drewN n):=⟨h.os,h.tape,h.output,h.size,h.block⟩
theorem CX.kb{vs:List Value}(h:CX w v vs)(hk:KB B g w w')(hv:∀b,v.ownBlock=some b->b<B/\b≠g):CX w' v vs:=by
 obtain⟨A,c,rfl,h2,h3,h4⟩:=h;refine⟨A,c,rfl,h2,h3,fun hp=> ?_⟩;obtain⟨b,o,rfl,hlt,hc⟩:=h4 hp;obtain⟨h5,h6⟩:=hv b rfl;refine⟨b,o,rfl,qaj hlt hk.size,fun j u hj=> ?_⟩;have h7:=hc j u hj;rw[<-h7];exact World.cell?_of_block (a:=⟨b,o+j,none⟩) (hk.block b h5 h6)
theorem D1.ext(h:D1 w v l)(hb:Ext w w'):D1 w' v l:=⟨h.1,h.2.ext hb⟩
theorem D1.kb(h:D1 w v l)(hk:KB B g w w')(hv:∀b,v.ownBlock=some b->b<B/\b≠g):D1 w' v l:=⟨h.1,h.2.kb hk hv⟩
theorem D1.open(h:D1 w v l):∃A c,v= .slice A l.length c/\l.length<=c/\c<=maxLen/\
  (0<l.length->∃b o,A=some ⟨b,o,none⟩/\b<w.heap.size/\∀j (hj:j<l.length),w.cell? ⟨b,o+j,none⟩=some (.int .i64 l[j])):=by
 obtain⟨A,c,rfl,h2,h3,h4⟩:=h.2;rw[qag]at h2 h4;refine⟨A,c,by rw[qag],h2,h3,fun hp=> ?_⟩;obtain⟨b,o,rfl,hlt,hc⟩:=h4 hp;exact⟨b,o,rfl,hlt,fun j hj=>hc j _ (by rw[qaD,qaa hj];rfl)⟩
theorem D1.lt(h:D1 w v l)(hp:0<l.length):∀b,v.ownBlock=some b->b<w.heap.size:=by
 intro b hb;obtain⟨A,c,rfl,_,_,h4⟩:=h.open;obtain⟨b',o,rfl,hlt,_⟩:=h4 hp;simp only[Value.ownBlock,qaw]at hb;omega
end
def Cm(l:List Int)(a:Nat)(n:Int):Int:=if a<l.length then l.getD a 0 % n else 0
def CP(l:List Int)(a:Nat):Nat:=if a<l.length then a+1 else a
structure BR (B g:Nat) (w:World) (L:Value) (l:List Int) (a:Nat):Prop where
 blk:Blk w g 129 #[L,.int .i64 (a:Int)]
 arr:D1 w L l
 off:0<l.length->∀b,L.ownBlock=some b->b<B/\b≠g
 lt:g<B
 pos:a<=l.length
 few:l.length<=1000000
theorem B5{l:List Int}{a:Nat}{n:Int}(hn:1<=n):0<=Cm l a n/\Cm l a n<n:=by
 unfold Cm;split
 ·exact⟨qcz _ (by omega),qcq _ (by omega)⟩
 ·exact⟨Int.le_refl _,by omega⟩
theorem D1.nil_kb{w w':World}{v:Value}{l:List Int}(h:D1 w v l)(h0:l.length=0)(_hs:w.heap.size<=w'.heap.size):D1 w' v l:=by
 refine⟨h.1,?_⟩;obtain⟨A,c,rfl,h2,h3,_⟩:=h.2;exact⟨A,c,rfl,h2,h3,fun hp=>by rw[qag]at hp;omega⟩
theorem BR.kb{B g:Nat}{w w':World}{L:Value}{l:List Int}{a a':Nat}(h:BR B g w L l a)(hk:KB B g w w')(hb:Blk w' g 129 #[L,.int .i64 (a':Int)])(ha:a'<=l.length):BR B g w' L l a':=by
 refine⟨hb,?_,h.off,h.lt,ha,h.few⟩;rcases qar l.length with h0|h0
 ·exact h.arr.nil_kb h0 hk.size
 ·exact h.arr.kb hk (h.off h0)
theorem BR.below{B g:Nat}{w w':World}{L:Value}{l:List Int}{a:Nat}(h:BR B g w L l a)(hk:Below B w w'):BR B g w' L l a:=
 h.kb ((KB.refl B g w).below hk) ((hk.block g h.lt).trans h.blk) h.pos
theorem BR.mono{B B' g:Nat}{w:World}{L:Value}{l:List Int}{a:Nat}(h:BR B g w L l a)(hB:B<=B'):BR B' g w L l a:=
 ⟨h.blk,h.arr,fun h0 b hb=>⟨qaj (h.off h0 b hb).1 hB,(h.off h0 b hb).2⟩,qaj h.lt hB,h.pos,h.few⟩
theorem Rt(v n:Int)(hn:1<=n):(if v.tmod n<0 then v.tmod n+n else v.tmod n)=v % n:=by
 have h:=Int.tmod_eq_emod (a:=v) (b:=n);have h1:=qcz v (show n≠0 by omega);have h2:=qcq v (show 0<n by omega);rw[h];split<;>split<;>omega
theorem Pi(w:World)(v n:Int)(_h1: -9223372036854775808<=v)(_h2:v<=9223372036854775807)(hn:1<=n)(hn2:n<=4611686018427387904):
  Calls Tryz.prog 14 #[.int .i64 v,.int .i64 n] w fun e w'=>e= .returned (.int .i64 (v % n))/\w=w':=by
 have hT:=Rt v n hn;have hne:(n == 0)=false:=by rw[beq_eq_false_iff_ne];omega
 obtain⟨r,hr⟩:∃r,v.tmod n=r:=⟨_,rfl⟩;rw[hr]at hT;have jP:=qcz v (show n≠0 by omega);have cZ:=qcq v (show 0<n by omega);by_cases h0:r<0
 ·rw[if_pos h0]at hT;have av: -n<=r:=by omega
  have HT:=J hT;clear hT jP cZ;go_enter Tryz.func14,Tryz.ntmps14;go_wp2_with fail;go_ret;exact⟨congrArg (fun z=>Ending.returned (.int .i64 z)) HT.o,rfl⟩
 ·rw[if_neg h0]at hT;have av:r<n:=by omega
  have HT:=J hT;clear hT jP cZ;go_enter Tryz.func14,Tryz.ntmps14;go_wp2_with fail;go_ret;exact⟨congrArg (fun z=>Ending.returned (.int .i64 z)) HT.o,rfl⟩
theorem BW{a b:Nat}(h:a<=b):(Af a).length<=(Af b).length:=
 Bg (qbD h (by have:=Dj (C1 b);rwa [Ah]at this))
theorem O8{xs ys:List Nat}(h:Ok xs)(h':Ok ys)(hs:size xs<size ys):val xs<val ys:=by
 rcases qam (val xs) (val ys) with h1|h1
 ·exact h1
 ·have:=BW h1;rw[<-Lj h,<-Lj h']at this;omega
theorem EH{xs:List Nat}(h:Ok xs):val (xs.drop (size xs))=0:=by
 have h1:=Kt xs (size xs) (size_le xs);rw[Dt h,Ah]at h1;have h2:=Ji (size xs);rcases qar (val (xs.drop (size xs))) with h3|h3
 ·exact h3
 ·have:=Nat.mul_pos h2 h3;omega
theorem LO(w:World)(v u:Value)(xs ys:List Nat)(h:Arr w v xs)(h':Arr w u ys)(hn:xs.length<=1073741824)(cC:ys.length<=1073741824):
  Calls Tryz.prog 280 #[v,u] w fun e w'=>e= .returned (.int .i64 (DN (val xs) (val ys)))/\Ext w w':=by
 have HA:=J h;have HB:=J h';obtain⟨an,A,c,rfl,hc,hm,aa⟩:=h.open;obtain⟨dE,A',c',rfl,hc',qw,bv⟩:=h'.open;have jX:=J (fun W hx=>Ee W _ xs (HA.o.ext hx));have jW:=J (fun W hx=>Ee W _ ys (HB.o.ext hx));have h1:=size_le xs;have h2:=size_le ys;have HL:=J (O8 an dE);have HG:=J (O8 dE an);have HD:=J (show size xs=size ys->val (xs.drop (size xs))=val (ys.drop (size xs)) from fun e=>by rw[EH an,e,EH dE]);have no:=J aa;have HCB:=J bv;clear h h' aa bv hm qw hc hc';go_enter Tryz.func280,Tryz.ntmps280;go_wp2_with fail;refine(jX.o _ (Ext.refl w)).mono ?_
 rintro e w' ⟨rfl,rfl⟩;go_wp2_with fail;refine(jW.o _ (Ext.refl w)).mono ?_
 rintro e w' ⟨rfl,rfl⟩;rcases qca (size xs) (size ys) with hs|hs|hs
 ·have HC:=J (Ge (HL.o hs));have ZH:(size xs:Int)<(size ys:Int):=by omega
  clear hs;go_wp2_with fail;go_ret;exact⟨congrArg (fun z=>Ending.returned (.int .i64 z)) HC.o.symm,Ext.refl _⟩
 ·have nP:=J (HD.o hs);rw[<-hs]at h2 ⊢;clear hs jX jW HL HG HD HA HB;generalize size xs=n at *;go_wp2_with fail;go_loopw [7] (fun i wr=>∃k:Nat,k<=n/\i= .int .i64 ((k:Int)-1)/\Hid (val (xs.drop k)=val (ys.drop k))/\Ext w wr) (fun i _=>(intOf i+1).toNat)
  case atStart=>exact⟨n,qad _,rfl,nP,Ext.refl _⟩
  case round=>
   obtain⟨k,hk,rfl,HV,ai⟩:=hrel;rcases qar k with h0|h0
   ·subst h0;have HE:=J (Py (show val xs=val ys from HV.o));go_wp2_with fail;go_ret;exact⟨congrArg (fun z=>Ending.returned (.int .i64 z)) HE.o.symm,ai⟩
   ·obtain⟨m,rfl⟩:∃m,k=m+1:=⟨k-1,by omega⟩;obtain⟨b,o,rfl,hb,aa⟩:=no.o (by omega);obtain⟨b',o',rfl,gn,bv⟩:=HCB.o (by omega);have hx:=(ai.cell hb).trans (aa m (by omega));have hy:=(ai.cell gn).trans (bv m (by omega));clear aa bv;have HL:=J (G9 an m HV.o);have HG:=J (G9 dE m HV.o.symm);have HE:=J (fun he=>Ng (xs:=xs) (ys:=ys) m HV.o he);obtain⟨x,hxe⟩:∃x,xs.getD m 0=x:=⟨_,rfl⟩;obtain⟨y,j6⟩:∃y,ys.getD m 0=y:=⟨_,rfl⟩;rw[hxe]at hx HL HG HE;rw[j6]at hy HL HG HE;clear hxe j6;simp only[d32]at hx hy;have HX:=J ai;clear ai;have h3:(m:Int)<(xs.length:Int):=by omega
    have h4:(m:Int)<(ys.length:Int):=by omega
    have h5:(0:Int)<=(m:Int):=by omega
    rcases qca x y with kR|rfl|kR
    ·have HC:=J (Ge (HL.o kR));have hd:decide (x<y)=true:=by simpa using kR
     have bE:decide ((x:Int)<(y:Int))=true:=by simpa using kR
     go_wp2_with fail;go_quiet (fail);go_wp2_with fail;go_ret;exact⟨congrArg (fun z=>Ending.returned (.int .i64 z)) HC.o.symm,HX.o.drewN _⟩
    ·have iR:=J (HE.o rfl);go_wp2_with fail;go_quiet (fail);go_wp2_with fail;go_quiet (fail);go_wp2_with fail;go_roundw
     case rel=>exact⟨m,by omega,rfl,iR,HX.o.drewN _⟩
     case measure=>simp[intOf]
    ·have HC:=J (LP (HG.o kR));have hd:decide (x<y)=false:=by simp;omega
     have bE:decide ((x:Int)<(y:Int))=false:=by simp;omega
     have oR:decide (y<x)=true:=by simpa using kR
     have mP:decide ((y:Int)<(x:Int))=true:=by simpa using kR
     go_wp2_with fail;go_quiet (fail);go_wp2_with fail;go_quiet (fail);go_wp2_with fail;go_ret;exact⟨congrArg (fun z=>Ending.returned (.int .i64 z)) HC.o.symm,(HX.o.drewN _).drewN _⟩
 ·have HC:=J (LP (HG.o hs));have ZH:(size ys:Int)<(size xs:Int):=by omega
  have ZG:¬(size xs:Int)<(size ys:Int):=by omega
  clear hs;go_wp2_with fail;go_ret;exact⟨congrArg (fun z=>Ending.returned (.int .i64 z)) HC.o.symm,Ext.refl _⟩
end Big
end Go.Proofs.YtkoaogkknnelaaaGreatDoor
