import Derived.Test.YtkoaogkknnelaaaGreatDoorM5
set_option linter.unusedVariables false
set_option linter.unusedSimpArgs false
namespace Go.Proofs.YtkoaogkknnelaaaGreatDoor
namespace Big
open Lib renaming hid → J
open Go.RowKit
def BE(B:Nat)(w:World)(v:Value)(z:Int):Prop:=∃m,v= .agg #[.bool (decide (z<0)),m]/\Own B w m (Af z.natAbs)
def CG(w:World)(v:Value)(z:Int):Prop:=∃m,v= .agg #[.bool (decide (z<0)),m]/\Arr w m (Af z.natAbs)
section
variable {w w':World} {v:Value} {z:Int} {B B':Nat}
theorem BE.ext(h:BE B w v z)(hb:Ext w w'):BE B w' v z:=by
 obtain⟨m,h1,h2⟩:=h;exact⟨m,h1,h2.ext hb⟩
theorem BE.mono(h:BE B w v z)(hB:B'<=B):BE B' w v z:=by
 obtain⟨m,h1,h2⟩:=h;exact⟨m,h1,h2.mono hB⟩
theorem BE.far(h:BE B w v z){p:Addr}(hp:p.block<B)(u:Value):BE B (w.setCell p u) v z:=by
 obtain⟨m,h1,h2⟩:=h;exact⟨m,h1,h2.far hp u⟩
theorem BE.arr(h:BE B w v z):CG w v z:=by
 obtain⟨m,h1,h2⟩:=h;exact⟨m,h1,h2.arr⟩
theorem CG.ext(h:CG w v z)(hb:Ext w w'):CG w' v z:=by
 obtain⟨m,h1,h2⟩:=h;exact⟨m,h1,h2.ext hb⟩
end
def sgn(neg:Bool)(n:Nat):Int:=if neg then-(n:Int) else n
theorem N5(neg:Bool)(n:Nat):(sgn neg n).natAbs=n:=by unfold sgn;split<;>omega
theorem OR(neg:Bool)(n:Nat):decide (sgn neg n<0)=(neg && decide (0<n)):=by
 unfold sgn;cases neg<;>simp
theorem SQ(n:Nat):decide (0<(Af n).length)=decide (0<n):=by
 rcases Nat.eq_zero_or_pos n with h|h
 ·subst h;rfl
 ·have:0<(Af n).length:=by rw[CJ n (by omega)];simp
  simp[h,this]
theorem Me(n:Nat):decide (0<(Af n).length)=decide (sgn true n<0):=by rw[SQ,OR];rfl
theorem Ky(n:Nat):false=decide (sgn false n<0):=by rw[OR];rfl
theorem BE.laid{w w1:World}{g:Nat}{t:TypeId}{a b m:Value}{bb neg:Bool}{n B:Nat}(ZG:Blk w1 g t #[a,b])(ho:Own B w1 m (Af n))(hg:g<B)(hs:bb=decide (sgn neg n<0))(he:Ext w w1)(hw:w.heap.size<=g):
  BE w.heap.size ((w1.setCell ⟨g,0,none⟩ (.bool bb)).setCell ⟨g,1,none⟩ m) (.agg #[.bool bb,m]) (sgn neg n)/\Ext w ((w1.setCell ⟨g,0,none⟩ (.bool bb)).setCell ⟨g,1,none⟩ m):=by
 refine⟨⟨m,by rw[hs],?_⟩,(he.setCell hw _).setCell hw _⟩;rw[N5];exact((ho.far (p:=⟨g,0,none⟩) hg _).far (p:=⟨g,1,none⟩) hg _).mono (by omega)
theorem BE.stored{w w1:World}{g B:Nat}{t:TypeId}{a b:Value}{bb:Bool}{m:Value}{z:Int}(ZG:Blk w1 g t #[a,b])(hi:BE B w1 (.agg #[.bool bb,m]) z)(hg:g<B)(he:Ext w w1)(hw:w.heap.size<=g):
  BE w.heap.size ((w1.setCell ⟨g,0,none⟩ (.bool bb)).setCell ⟨g,1,none⟩ m) (.agg #[.bool bb,m]) z/\Ext w ((w1.setCell ⟨g,0,none⟩ (.bool bb)).setCell ⟨g,1,none⟩ m):=
 ⟨((hi.far (p:=⟨g,0,none⟩) hg _).far (p:=⟨g,1,none⟩) hg _).mono (by omega),(he.setCell hw _).setCell hw _⟩
theorem Jl(w:World)(neg:Bool)(v:Value)(xs:List Nat)(h:Arr w v xs)(hn:xs.length<=1073741824):
  Calls Tryz.prog 64 #[.bool neg,v] w fun e w'=>∃v',e= .returned v'/\BE w.heap.size w' v' (sgn neg (val xs))/\Ext w w':=by
 have HT:=J (fun W hx=>El W v xs (h.ext hx) hn);have iP:=J (Me (val xs));have iG:=J (Ky (val xs));clear h;cases neg
 ·go_enter Tryz.func64,Tryz.ntmps64;go_wp2_with fail;refine(HT.o _ ((Ext.refl w).alloc _)).mono ?_
  rintro e w' ⟨v',rfl,ho,hx⟩;have HO:=J ho;obtain⟨A,c,hv,_⟩:=ho.2;rw[List.length_map]at hv;subst hv;clear ho;have b9:=(Blk.new w 24 #[.bool false,.slice none 0 0]).ext hx;have hc0:w'.cell? ⟨w.heap.size,0,none⟩=some (.bool false):=b9.cell 0;have hc1:w'.cell? ⟨w.heap.size,1,none⟩=some (.slice none 0 0):=b9.cell 1;have hf0:=b9.frozen 0;have eC:=b9.frozen 1;have hz:=b9.lt;have HX:=J hx;have HB:=J b9;clear hx b9;go_wp2_with fail;obtain⟨e9,cI⟩:=FD HB.o (.bool false) (.slice A (Af (val xs)).length c);refine bodyPost_ret (v:= .agg #[.bool false,.slice A (Af (val xs)).length c]) (by simp[results,Tryz.results64,go_sem,e9,cI]) rfl ?_
  exact⟨_,rfl,BE.laid HB.o HO.o (by simp) iG.o (((Ext.refl w).alloc _).trans HX.o) (Nat.le_refl _)⟩
 ·go_enter Tryz.func64,Tryz.ntmps64;go_wp2_with fail;refine(HT.o _ ((Ext.refl w).alloc _)).mono ?_
  rintro e w' ⟨v',rfl,ho,hx⟩;have HO:=J ho;obtain⟨A,c,hv,_⟩:=ho.2;rw[List.length_map]at hv;subst hv;clear ho;have b9:=(Blk.new w 24 #[.bool false,.slice none 0 0]).ext hx;have hc0:w'.cell? ⟨w.heap.size,0,none⟩=some (.bool false):=b9.cell 0;have hc1:w'.cell? ⟨w.heap.size,1,none⟩=some (.slice none 0 0):=b9.cell 1;have hf0:=b9.frozen 0;have eC:=b9.frozen 1;have hz:=b9.lt;have HX:=J hx;have HB:=J b9;clear hx b9;go_wp2_with fail;obtain⟨e9,cI⟩:=FD HB.o (.bool (decide (0<(Af (val xs)).length))) (.slice A (Af (val xs)).length c);refine bodyPost_ret (v:= .agg #[.bool (decide (0<(Af (val xs)).length)),.slice A (Af (val xs)).length c]) (by simp[results,Tryz.results64,go_sem,e9,cI]) rfl ?_
  exact⟨_,rfl,BE.laid HB.o HO.o (by simp) iP.o (((Ext.refl w).alloc _).trans HX.o) (Nat.le_refl _)⟩
section
variable {w:World} {g:Nat} {t:TypeId} {a b c d e:Value}
theorem Blk.two(h:Blk w g t #[a,b]):w.cell? ⟨g,0,none⟩=some a/\w.cell? ⟨g,1,none⟩=some b/\w.frozen? ⟨g,0,none⟩=false/\w.frozen? ⟨g,1,none⟩=false/\g<w.heap.size:=
 ⟨h.cell 0,h.cell 1,h.frozen 0,h.frozen 1,h.lt⟩
theorem Blk.three(h:Blk w g t #[a,b,c]):w.cell? ⟨g,0,none⟩=some a/\w.cell? ⟨g,1,none⟩=some b/\w.cell? ⟨g,2,none⟩=some c/\w.frozen? ⟨g,0,none⟩=false/\w.frozen? ⟨g,1,none⟩=false/\w.frozen? ⟨g,2,none⟩=false/\g<w.heap.size:=
 ⟨h.cell 0,h.cell 1,h.cell 2,h.frozen 0,h.frozen 1,h.frozen 2,h.lt⟩
theorem BJ.at_{T:TypeId}{B i:Nat}{vs:List Value}(h:BJ T B w a vs)(hi:i<vs.length):∃g c,a= .slice (some ⟨g,0,none⟩) vs.length c/\B<=g/\g<w.heap.size/\w.cell? ⟨g,i,none⟩=vs[i]?∧w.frozen? ⟨g,i,none⟩=false/\
  ∀u,BJ T B (w.setCell ⟨g,i,none⟩ u) a (vs.set i u):=by
 obtain⟨A,c,rfl,h2,h3,h4⟩:=h;rcases h4 with ⟨rfl,_⟩|⟨g,cur,rfl,hg,aw,hs,ht⟩
 ·simp at hi
 ·refine⟨g,c,rfl,hg,aw.lt,?_,aw.frozen i,fun u=>⟨_,c,by rw[List.length_set],by rw[List.length_set];exact h2,h3,.inr ⟨g,_,rfl,hg,aw.set_ i u,by simpa using hs,?_⟩⟩⟩
  ·rw[aw.cell,List.getElem?_eq_getElem hi];exact ON ht (List.getElem?_eq_getElem hi)
  ·rw[List.length_set]
   conv=>rhs;rw[<-ht]
   apply List.ext_getElem?;intro j;simp only[Array.toList_setIfInBounds,List.getElem?_take,List.getElem?_set,List.length_take];have pQ:vs.length<=cur.toList.length:=by simp;omega
   by_cases hj:j<vs.length
   ·rw[if_pos hj,if_pos hj];by_cases hij:i=j
    ·subst hij;rw[if_pos rfl,if_pos rfl,if_pos (by omega),if_pos (by omega)]
    ·rw[if_neg hij,if_neg hij]
   ·rw[if_neg hj];by_cases hij:i=j
    ·omega
    ·rw[if_neg hij,if_neg hj]
theorem BS.shape{vs:List Value}(h:BS w a vs):∃n A c,a= .slice A n c:=by
 obtain⟨A,c,rfl,_⟩:=h;exact⟨_,A,c,rfl⟩
theorem Own.shape{B:Nat}{xs:List Nat}(h:Own B w a xs):∃n A c,a= .slice A n c:=h.arr.2.shape
theorem Arr.shape{xs:List Nat}(h:Arr w a xs):∃n A c,a= .slice A n c:=h.2.shape
theorem Arr.len{xs:List Nat}{n c:Nat}{A:Option Addr}(h:Arr w (.slice A n c) xs):n=xs.length:=by
 obtain⟨_,A',c',he,_⟩:=h;injection he with _ h2 _
 rw[h2,List.length_map]
theorem Own.len{B:Nat}{xs:List Nat}{n c:Nat}{A:Option Addr}(h:Own B w (.slice A n c) xs):n=xs.length:=h.arr.len
theorem BE.shape{B:Nat}{z:Int}(h:BE B w a z):∃b n A c,a= .agg #[.bool b,.slice A n c]:=by
 obtain⟨m,rfl,h⟩:=h;obtain⟨n,A,c,rfl⟩:=h.shape;exact⟨_,n,A,c,rfl⟩
theorem CG.shape{z:Int}(h:CG w a z):∃b n A c,a= .agg #[.bool b,.slice A n c]:=by
 obtain⟨m,rfl,h⟩:=h;obtain⟨n,A,c,rfl⟩:=h.shape;exact⟨_,n,A,c,rfl⟩
theorem BE.mag{B:Nat}{z:Int}{bb:Bool}{m:Value}(h:BE B w (.agg #[.bool bb,m]) z):Own B w m (Af z.natAbs):=by
 obtain⟨m',he,h⟩:=h;injection he with he
 injection he with he
 injection he with _ he
 injection he with he
 subst he;exact h
theorem BE.sign{B:Nat}{z:Int}{bb:Bool}{m:Value}(h:BE B w (.agg #[.bool bb,m]) z):bb=decide (z<0):=by
 obtain⟨m',he,h⟩:=h;injection he with he
 injection he with he
 injection he with he _
 injection he
theorem CG.mag{z:Int}{bb:Bool}{m:Value}(h:CG w (.agg #[.bool bb,m]) z):Arr w m (Af z.natAbs):=by
 obtain⟨m',he,h⟩:=h;injection he with he
 injection he with he
 injection he with _ he
 injection he with he
 subst he;exact h
theorem CG.sign{z:Int}{bb:Bool}{m:Value}(h:CG w (.agg #[.bool bb,m]) z):bb=decide (z<0):=by
 obtain⟨m',he,h⟩:=h;injection he with he
 injection he with he
 injection he with he _
 injection he
end
section
theorem Ext.keep{w w':World}{b o:Nat}{u:Value}(hx:Ext w w')(h:w.cell? ⟨b,o,none⟩=some u):w'.cell? ⟨b,o,none⟩=some u:=(hx.cell (World.block_lt_of_cell? w _ h)).trans h
theorem kept1{wo w1 w2:World}{b0 o0:Nat}{u0:Value}(h:Ext wo w1/\w1.cell? ⟨b0,o0,none⟩=some u0)(hx:Ext w1 w2):Ext wo w2/\w2.cell? ⟨b0,o0,none⟩=some u0:=
 ⟨h.1.trans hx,hx.keep h.2⟩
theorem RI{wo w1 w2:World}{b0 o0 b1 o1:Nat}{u0 u1:Value}(h:Ext wo w1/\w1.cell? ⟨b0,o0,none⟩=some u0/\w1.cell? ⟨b1,o1,none⟩=some u1)(hx:Ext w1 w2):Ext wo w2/\w2.cell? ⟨b0,o0,none⟩=some u0/\w2.cell? ⟨b1,o1,none⟩=some u1:=
 ⟨h.1.trans hx,hx.keep h.2.1,hx.keep h.2.2⟩
theorem Og{wo:World}{b0 o0 b1 o1:Nat}{u0 u1:Value}(h:wo.cell? ⟨b0,o0,none⟩=some u0/\wo.cell? ⟨b1,o1,none⟩=some u1):Ext wo wo.drew/\wo.drew.cell? ⟨b0,o0,none⟩=some u0/\wo.drew.cell? ⟨b1,o1,none⟩=some u1:=⟨(Ext.refl wo).drew,h⟩
end
def di(x:Int):Value:= .int .i64 x
def TA(l:List Int):Prop:=∀x∈l,-9223372036854775808<=x/\x<=9223372036854775807
def De(w:World)(v:Value)(l:List Int):Prop:=TA l/\BS w v (l.map di)
structure KB (B g:Nat) (w w':World):Prop where
 os:w'.os=w.os
 tape:w'.tape=w.tape
 output:w'.output=w.output
 size:w.heap.size<=w'.heap.size
 block:∀k,k<B->k≠g->w'.heap[k]? =w.heap[k]?
section
variable {w w' w'':World} {B B' g:Nat} {v:Value} {l:List Int}
theorem KB.refl(B g:Nat)(w:World):KB B g w w:=⟨rfl,rfl,rfl,Nat.le_refl _,fun _ _ _=>rfl⟩
theorem KB.trans(h:KB B g w w')(k:KB B g w' w''):KB B g w w'':=
 ⟨k.os.trans h.os,k.tape.trans h.tape,k.output.trans h.output,Nat.le_trans h.size k.size,fun i h1 h2=>(k.block i h1 h2).trans (h.block i h1 h2)⟩
theorem KB.mono(h:KB B g w w')(hB:B'<=B):KB B' g w w':=⟨h.os,h.tape,h.output,h.size,fun k h1 h2=>h.block k (by omega) h2⟩
theorem KB.below(h:KB B g w w')(k:Below B w' w''):KB B g w w'':=h.trans ⟨k.os,k.tape,k.output,k.size,fun i h1 _=>k.block i h1⟩
theorem KB.ext(h:KB B g w w')(k:Ext w' w'')(hB:B<=w'.heap.size):KB B g w w'':=h.below (Below.mono k hB)
theorem KB.to_ext{w0:World}(h:KB B g w w')(k:Ext w0 w)(hB:w0.heap.size<=B)(hg:w0.heap.size<=g):Ext w0 w':=
 ⟨h.os.trans k.os,h.tape.trans k.tape,h.output.trans k.output,Nat.le_trans k.size h.size,fun i hi=>(h.block i (by omega) (by omega)).trans (k.block i hi)⟩
theorem KB.blk{t:TypeId}{cs:Array Value}{b:Nat}(h:KB B g w w')(hb:Blk w b t cs)(h1:b<B)(h2:b≠g):Blk w' b t cs:=(h.block b h1 h2).trans hb
theorem KB.set{p:Addr}(hp:p.block=g)(u:Value):KB B g w (w.setCell p u):=
 ⟨rfl,rfl,rfl,by simp[World.setCell],fun k _ h2=>Below.heap_setCell w p u k (by rw[hp];exact h2)⟩
theorem KB.drewN(h:KB B g w w')(n:Nat):KB B g w (w'.drewN n):=⟨h.os,h.tape,h.output,h.size,h.block⟩
theorem BS.kb{vs:List Value}(h:BS w v vs)(hk:KB B g w w')(hv:∀b,v.ownBlock=some b->b<B/\b≠g):BS w' v vs:=by
 obtain⟨A,c,rfl,h2,h3,h4⟩:=h;refine⟨A,c,rfl,h2,h3,fun hp=> ?_⟩;obtain⟨b,o,rfl,hlt,hc⟩:=h4 hp;obtain⟨h5,h6⟩:=hv b rfl;refine⟨b,o,rfl,Nat.lt_of_lt_of_le hlt hk.size,fun j u hj=> ?_⟩;have h7:=hc j u hj;rw[<-h7];exact World.cell?_of_block (a:=⟨b,o+j,none⟩) (hk.block b h5 h6)
theorem De.ext(h:De w v l)(hb:Ext w w'):De w' v l:=⟨h.1,h.2.ext hb⟩
theorem De.kb(h:De w v l)(hk:KB B g w w')(hv:∀b,v.ownBlock=some b->b<B/\b≠g):De w' v l:=⟨h.1,h.2.kb hk hv⟩
theorem De.open(h:De w v l):∃A c,v= .slice A l.length c/\l.length<=c/\c<=maxLen/\
  (0<l.length->∃b o,A=some ⟨b,o,none⟩/\b<w.heap.size/\∀j (hj:j<l.length),w.cell? ⟨b,o+j,none⟩=some (.int .i64 l[j])):=by
 obtain⟨A,c,rfl,h2,h3,h4⟩:=h.2;rw[List.length_map]at h2 h4;refine⟨A,c,by rw[List.length_map],h2,h3,fun hp=> ?_⟩;obtain⟨b,o,rfl,hlt,hc⟩:=h4 hp;exact⟨b,o,rfl,hlt,fun j hj=>hc j _ (by rw[List.getElem?_map,List.getElem?_eq_getElem hj];rfl)⟩
theorem De.lt(h:De w v l)(hp:0<l.length):∀b,v.ownBlock=some b->b<w.heap.size:=by
 intro b hb;obtain⟨A,c,rfl,_,_,h4⟩:=h.open;obtain⟨b',o,rfl,hlt,_⟩:=h4 hp;simp only[Value.ownBlock,Option.some.injEq]at hb;omega
end
def Cd(l:List Int)(a:Nat)(n:Int):Int:=if a<l.length then l.getD a 0 % n else 0
def CT(l:List Int)(a:Nat):Nat:=if a<l.length then a+1 else a
structure BI (B g:Nat) (w:World) (L:Value) (l:List Int) (a:Nat):Prop where
 blk:Blk w g 129 #[L,.int .i64 (a:Int)]
 arr:De w L l
 off:0<l.length->∀b,L.ownBlock=some b->b<B/\b≠g
 lt:g<B
 pos:a<=l.length
 few:l.length<=1000000
theorem BV{l:List Int}{a:Nat}{n:Int}(hn:1<=n):0<=Cd l a n/\Cd l a n<n:=by
 unfold Cd;split
 ·exact⟨Int.emod_nonneg _ (by omega),Int.emod_lt_of_pos _ (by omega)⟩
 ·exact⟨Int.le_refl _,by omega⟩
theorem De.nil_kb{w w':World}{v:Value}{l:List Int}(h:De w v l)(h0:l.length=0)(_hs:w.heap.size<=w'.heap.size):De w' v l:=by
 refine⟨h.1,?_⟩;obtain⟨A,c,rfl,h2,h3,_⟩:=h.2;exact⟨A,c,rfl,h2,h3,fun hp=>by rw[List.length_map]at hp;omega⟩
theorem BI.kb{B g:Nat}{w w':World}{L:Value}{l:List Int}{a a':Nat}(h:BI B g w L l a)(hk:KB B g w w')(hb:Blk w' g 129 #[L,.int .i64 (a':Int)])(ha:a'<=l.length):BI B g w' L l a':=by
 refine⟨hb,?_,h.off,h.lt,ha,h.few⟩;rcases Nat.eq_zero_or_pos l.length with h0|h0
 ·exact h.arr.nil_kb h0 hk.size
 ·exact h.arr.kb hk (h.off h0)
theorem BI.below{B g:Nat}{w w':World}{L:Value}{l:List Int}{a:Nat}(h:BI B g w L l a)(hk:Below B w w'):BI B g w' L l a:=
 h.kb ((KB.refl B g w).below hk) ((hk.block g h.lt).trans h.blk) h.pos
theorem BI.mono{B B' g:Nat}{w:World}{L:Value}{l:List Int}{a:Nat}(h:BI B g w L l a)(hB:B<=B'):BI B' g w L l a:=
 ⟨h.blk,h.arr,fun h0 b hb=>⟨Nat.lt_of_lt_of_le (h.off h0 b hb).1 hB,(h.off h0 b hb).2⟩,Nat.lt_of_lt_of_le h.lt hB,h.pos,h.few⟩
theorem QX(v n:Int)(hn:1<=n):(if v.tmod n<0 then v.tmod n+n else v.tmod n)=v % n:=by
 have h:=Int.tmod_eq_emod (a:=v) (b:=n);have h1:=Int.emod_nonneg v (show n≠0 by omega);have h2:=Int.emod_lt_of_pos v (show 0<n by omega);rw[h];split<;>split<;>omega
theorem Gb(w:World)(v n:Int)(_h1: -9223372036854775808<=v)(_h2:v<=9223372036854775807)(hn:1<=n)(hn2:n<=4611686018427387904):
  Calls Tryz.prog 14 #[.int .i64 v,.int .i64 n] w fun e w'=>e= .returned (.int .i64 (v % n))/\w=w':=by
 have hT:=QX v n hn;have hne:(n == 0)=false:=by rw[beq_eq_false_iff_ne];omega
 obtain⟨r,hr⟩:∃r,v.tmod n=r:=⟨_,rfl⟩;rw[hr]at hT;have kO:=Int.emod_nonneg v (show n≠0 by omega);have lB:=Int.emod_lt_of_pos v (show 0<n by omega);by_cases h0:r<0
 ·rw[if_pos h0]at hT;have aX: -n<=r:=by omega
  have HT:=J hT;clear hT kO lB;go_enter Tryz.func14,Tryz.ntmps14;go_wp2_with fail;go_ret;exact⟨congrArg (fun z=>Ending.returned (.int .i64 z)) HT.o,rfl⟩
 ·rw[if_neg h0]at hT;have aX:r<n:=by omega
  have HT:=J hT;clear hT kO lB;go_enter Tryz.func14,Tryz.ntmps14;go_wp2_with fail;go_ret;exact⟨congrArg (fun z=>Ending.returned (.int .i64 z)) HT.o,rfl⟩
theorem B5{a b:Nat}(h:a<=b):(Af a).length<=(Af b).length:=
 Bg (Nat.lt_of_le_of_lt h (by have:=DC (Eu b);rwa [Ah]at this))
theorem OP{xs ys:List Nat}(h:Ok xs)(h':Ok ys)(hs:size xs<size ys):val xs<val ys:=by
 rcases Nat.lt_or_ge (val xs) (val ys) with h1|h1
 ·exact h1
 ·have:=B5 h1;rw[<-Lm h,<-Lm h']at this;omega
theorem EN{xs:List Nat}(h:Ok xs):val (xs.drop (size xs))=0:=by
 have h1:=Ku xs (size xs) (size_le xs);rw[DD h,Ah]at h1;have h2:=Jq (size xs);rcases Nat.eq_zero_or_pos (val (xs.drop (size xs))) with h3|h3
 ·exact h3
 ·have:=Nat.mul_pos h2 h3;omega
theorem LN(w:World)(v u:Value)(xs ys:List Nat)(h:Arr w v xs)(h':Arr w u ys)(hn:xs.length<=1073741824)(ck:ys.length<=1073741824):
  Calls Tryz.prog 280 #[v,u] w fun e w'=>e= .returned (.int .i64 (DY (val xs) (val ys)))/\Ext w w':=by
 have HA:=J h;have HB:=J h';obtain⟨av,A,c,rfl,hc,hm,ac⟩:=h.open;obtain⟨dq,A',c',rfl,hc',pF,bw⟩:=h'.open;have jx:=J (fun W hx=>Er W _ xs (HA.o.ext hx));have gE:=J (fun W hx=>Er W _ ys (HB.o.ext hx));have h1:=size_le xs;have h2:=size_le ys;have HL:=J (OP av dq);have HG:=J (OP dq av);have HD:=J (show size xs=size ys->val (xs.drop (size xs))=val (ys.drop (size xs)) from fun e=>by rw[EN av,e,EN dq]);have qn:=J ac;have HCB:=J bw;clear h h' ac bw hm pF hc hc';go_enter Tryz.func280,Tryz.ntmps280;go_wp2_with fail;refine(jx.o _ (Ext.refl w)).mono ?_
 rintro e w' ⟨rfl,rfl⟩;go_wp2_with fail;refine(gE.o _ (Ext.refl w)).mono ?_
 rintro e w' ⟨rfl,rfl⟩;rcases Nat.lt_trichotomy (size xs) (size ys) with hs|hs|hs
 ·have HC:=J (Gh (HL.o hs));have X7:(size xs:Int)<(size ys:Int):=by omega
  clear hs;go_wp2_with fail;go_ret;exact⟨congrArg (fun z=>Ending.returned (.int .i64 z)) HC.o.symm,Ext.refl _⟩
 ·have lX:=J (HD.o hs);rw[<-hs]at h2 ⊢;clear hs jx gE HL HG HD HA HB;generalize size xs=n at *;go_wp2_with fail;go_loopw [7] (fun i wr=>∃k:Nat,k<=n/\i= .int .i64 ((k:Int)-1)/\Hid (val (xs.drop k)=val (ys.drop k))/\Ext w wr) (fun i _=>(intOf i+1).toNat)
  case atStart=>exact⟨n,Nat.le_refl _,rfl,lX,Ext.refl _⟩
  case round=>
   obtain⟨k,hk,rfl,HV,an⟩:=hrel;rcases Nat.eq_zero_or_pos k with h0|h0
   ·subst h0;have HE:=J (Pc (show val xs=val ys from HV.o));go_wp2_with fail;go_ret;exact⟨congrArg (fun z=>Ending.returned (.int .i64 z)) HE.o.symm,an⟩
   ·obtain⟨m,rfl⟩:∃m,k=m+1:=⟨k-1,by omega⟩;obtain⟨b,o,rfl,hb,ac⟩:=qn.o (by omega);obtain⟨b',o',rfl,fX,bw⟩:=HCB.o (by omega);have hx:=(an.cell hb).trans (ac m (by omega));have hy:=(an.cell fX).trans (bw m (by omega));clear ac bw;have HL:=J (He av m HV.o);have HG:=J (He dq m HV.o.symm);have HE:=J (fun he=>M5 (xs:=xs) (ys:=ys) m HV.o he);obtain⟨x,hxe⟩:∃x,xs.getD m 0=x:=⟨_,rfl⟩;obtain⟨y,fm⟩:∃y,ys.getD m 0=y:=⟨_,rfl⟩;rw[hxe]at hx HL HG HE;rw[fm]at hy HL HG HE;clear hxe fm;simp only[d32]at hx hy;have HX:=J an;clear an;have h3:(m:Int)<(xs.length:Int):=by omega
    have h4:(m:Int)<(ys.length:Int):=by omega
    have h5:(0:Int)<=(m:Int):=by omega
    rcases Nat.lt_trichotomy x y with kq|rfl|kq
    ·have HC:=J (Gh (HL.o kq));have hd:decide (x<y)=true:=by simpa using kq
     have ba:decide ((x:Int)<(y:Int))=true:=by simpa using kq
     go_wp2_with fail;go_quiet (fail);go_wp2_with fail;go_ret;exact⟨congrArg (fun z=>Ending.returned (.int .i64 z)) HC.o.symm,HX.o.drewN _⟩
    ·have iA:=J (HE.o rfl);go_wp2_with fail;go_quiet (fail);go_wp2_with fail;go_quiet (fail);go_wp2_with fail;go_roundw
     case rel=>exact⟨m,by omega,rfl,iA,HX.o.drewN _⟩
     case measure=>simp[intOf]
    ·have HC:=J (LO (HG.o kq));have hd:decide (x<y)=false:=by simp;omega
     have ba:decide ((x:Int)<(y:Int))=false:=by simp;omega
     have kT:decide (y<x)=true:=by simpa using kq
     have oc:decide ((y:Int)<(x:Int))=true:=by simpa using kq
     go_wp2_with fail;go_quiet (fail);go_wp2_with fail;go_quiet (fail);go_wp2_with fail;go_ret;exact⟨congrArg (fun z=>Ending.returned (.int .i64 z)) HC.o.symm,(HX.o.drewN _).drewN _⟩
 ·have HC:=J (LO (HG.o hs));have X7:(size ys:Int)<(size xs:Int):=by omega
  have X6:¬(size xs:Int)<(size ys:Int):=by omega
  clear hs;go_wp2_with fail;go_ret;exact⟨congrArg (fun z=>Ending.returned (.int .i64 z)) HC.o.symm,Ext.refl _⟩
end Big
end Go.Proofs.YtkoaogkknnelaaaGreatDoor
