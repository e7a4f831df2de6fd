import Derived.Test.YtkoaogkknnelaaaGreatDoorM3
import Derived.WalkKit
import Derived.Lib.Hide
import Derived.Laws.OwnMore
import Derived.Deep.Draws
set_option linter.unusedVariables false
set_option linter.unusedSimpArgs false
namespace Go.Proofs.YtkoaogkknnelaaaGreatDoor
namespace Big
inductive Ex where
 |leaf (k:Nat) (t:List UInt8)
 |un (k:Nat) (n:Int) (x:Ex)
 |bin (k:Nat) (x y:Ex)
structure Nd where
 kind:Int
 a:Int
 b:Int
 n:Int
 text:List UInt8
def Ex.kind:Ex->Nat
 | .leaf k _=>k
 | .un k _ _=>k
 | .bin k _ _=>k
def Ex.size:Ex->Nat
 | .leaf _ _=>1
 | .un _ _ x=>x.size+1
 | .bin _ x y=>x.size+y.size+1
def Ex.depth:Ex->Nat
 | .leaf _ _=>1
 | .un _ _ x=>x.depth+1
 | .bin _ x y=>max x.depth y.depth+1
theorem Ex.size_pos(e:Ex):1<=e.size:=by cases e<;>simp[Ex.size]
def Ak:Nat->Ex->List Nd
 |_,.leaf k t=>[⟨(k:Int),0,0,0,t⟩]
 |off,.un k n x=>Ak off x++[⟨(k:Int),((off+x.size-1:Nat):Int),0,n,[]⟩]
 |off,.bin k x y=>Ak off x++(Ak (off+x.size) y++[⟨(k:Int),((off+x.size-1:Nat):Int),((off+x.size+y.size-1:Nat):Int),0,[]⟩])
theorem AD(e:Ex):∀off,(Ak off e).length=e.size:=by
 induction e with
 |leaf k t=>intro off;rfl
 |un k n x ih=>intro off;rw[Ak,qac,ih];rfl
 |bin k x y ihx ihy=>intro off;rw[Ak,qac,qac,ihx,ihy,qal,Ex.size];omega
def DQ(t:List UInt8):Bool:=C9 t && !([[112,105],[101],[115,113,114,116],[101,120,112],[108,110],[115,105,110],[99,111,115],[97,116,97,110]]:List (List UInt8)).contains t
def Ex.Good:Ex->Prop
 | .leaf k t=>(k=1/\Bh t=0/\t.length<=400)\/(k=2/\DQ t=true)\/((k=3\/k=4)/\t=[])
 | .un k n x=>(k=5\/(10<=k/\k<=16))/\(k≠10->n=0)∧-64<=n/\n<=64/\x.Good
 | .bin k x y=>(6<=k/\k<=9)/\x.Good/\y.Good
def EE(k:Nat):Nat:=if k=6\/k=7 then 1 else if k=8\/k=9 then 2 else if k=5 then 3 else if k=10 then 4 else 5
def U2(k:Nat):List UInt8:=
 if k=11 then [115,113,114,116] else if k=12 then [101,120,112] else if k=13 then [108,110] else if k=14 then [115,105,110] else if k=15 then [99,111,115] else [97,116,97,110]
theorem Gy{t:List UInt8}(h:C9 t=true):t.length<=24:=by
 unfold C9 at h;simp only[qaT,decide_eq_true_eq]at h;exact h.1.1.2
def Gv(l:List Nd)(i:Nat)(e:Ex):Prop:=∃pre post,l=pre++(Ak pre.length e++post)/\i+1=pre.length+e.size
theorem Gv.lt{l:List Nd}{i:Nat}{e:Ex}(h:Gv l i e):i<l.length/\e.size<=i+1:=by
 obtain⟨pre,post,rfl,h⟩:=h;have:=AD e pre.length;rw[qac,qac];omega
theorem JX{α:Type}{pre mid post:List α}{x:α}{i:Nat}(h:i=pre.length+mid.length):(pre++((mid++[x])++post))[i]? =some x:=by
 subst h;rw[qai (by omega),qbu,qat (by simp),qai (qab _),qaR];rfl
theorem Gv.leaf{l:List Nd}{i k:Nat}{t:List UInt8}(h:Gv l i (.leaf k t)):l[i]? =some ⟨(k:Int),0,0,0,t⟩:=by
 obtain⟨pre,post,rfl,h⟩:=h;simp only[Ex.size]at h;exact JX (mid:=[]) (by simp;omega)
theorem Gv.un{l:List Nd}{i k:Nat}{n:Int}{x:Ex}(h:Gv l i (.un k n x)):1<=i/\l[i]? =some ⟨(k:Int),((i-1:Nat):Int),0,n,[]⟩/\Gv l (i-1) x:=by
 obtain⟨pre,post,rfl,h⟩:=h;simp only[Ex.size]at h;have hx:=x.size_pos;have hl:=AD x pre.length;refine⟨by omega,?_,⟨pre,[⟨(k:Int),((pre.length+x.size-1:Nat):Int),0,n,[]⟩]++post,?_,by omega⟩⟩
 ·rw[show i-1=pre.length+x.size-1 by omega];exact JX (mid:=Ak pre.length x) (by omega)
 ·rw[Ak,qao]
theorem Gv.bin{l:List Nd}{i k:Nat}{x y:Ex}(h:Gv l i (.bin k x y)):∃j,j+1+y.size=i/\l[i]? =some ⟨(k:Int),(j:Int),((i-1:Nat):Int),0,[]⟩/\Gv l j x/\Gv l (i-1) y:=by
 obtain⟨pre,post,rfl,h⟩:=h;simp only[Ex.size]at h;have hx:=x.size_pos;have hy:=y.size_pos;have hl:=AD x pre.length;have hl2:=AD y (pre.length+x.size);refine⟨pre.length+x.size-1,by omega,?_,⟨pre,Ak (pre.length+x.size) y++([⟨(k:Int),((pre.length+x.size-1:Nat):Int),((pre.length+x.size+y.size-1:Nat):Int),0,[]⟩]++post),?_,by omega⟩,⟨pre++Ak pre.length x,[⟨(k:Int),((pre.length+x.size-1:Nat):Int),((pre.length+x.size+y.size-1:Nat):Int),0,[]⟩]++post,?_,?_⟩⟩
 ·rw[Ak,<-qao (Ak pre.length x),show i-1=pre.length+x.size+y.size-1 by omega];exact JX (mid:=Ak pre.length x++Ak (pre.length+x.size) y) (by rw[qac];omega)
 ·rw[Ak];simp only[qao]
 ·rw[Ak,qac,hl];simp only[qao]
 ·rw[qac,hl];omega
instance:DecidableEq Nd:=fun x y=>decidable_of_iff (x.kind=y.kind/\x.a=y.a/\x.b=y.b/\x.n=y.n/\x.text=y.text) (by
 obtain⟨a0,a1,a2,a3,a4⟩:=x;obtain⟨b0,b1,b2,b3,b4⟩:=y;simp only[Nd.mk.injEq])
def CE(x:Nd):List Nd->Nat
 |[]=>0
 |y::l=>if y=x then 0 else CE x l+1
theorem Fx(x y:Nd)(l:List Nd):CE x (y::l)=if y=x then 0 else CE x l+1:=rfl
theorem KT{l:List Nd}(hn:l.Nodup){i j:Nat}(hi:i<l.length)(hj:j<l.length)(h:l[i]=l[j]):i=j:=by
 rcases qcg i j with h1|h1|h1
 ·exact absurd h (List.pairwise_iff_getElem.1 hn i j hi hj h1)
 ·exact h1
 ·exact absurd h.symm (List.pairwise_iff_getElem.1 hn j i hj hi h1)
theorem Ds{x:Nd}:∀{l:List Nd},x∈l->CE x l<l.length
 |y::l,h=>by
  unfold CE;split
  ·simp
  ·rename_i hne;rcases qbl.1 h with h|h
   ·exact absurd h.symm hne
   ·have:=Ds h;simp only[qaC];omega
theorem Iw{x:Nd}:∀{l:List Nd},x∈l->l[CE x l]? =some x
 |y::l,h=>by
  by_cases he:y=x
  ·rw[Fx,if_pos he,he];rfl
  ·rw[Fx,if_neg he];rcases qbl.1 h with h|h
   ·exact absurd h.symm he
   ·rw[qcw];exact Iw h
theorem Jz{x:Nd}{l:List Nd}(hm:x∈l):l[CE x l]'(Ds hm)=x:=by
 have:=Iw hm;rw[qad (Ds hm)]at this;injection this
theorem KQ{l:List Nd}(hn:l.Nodup){i:Nat}(h:i<l.length):CE l[i] l=i:=by
 have hm:=Ds (qaw h);exact KT hn hm h (Jz (qaw h))
def Bs(ns:List Nd)(x:Nd):Nat × List Nd:=if x∈ns then (CE x ns,ns) else (ns.length,ns++[x])
theorem OR(ns:List Nd)(x:Nd):(Bs ns x).1<(Bs ns x).2.length:=by
 unfold Bs;split
 ·exact Ds ‹_›
 ·simp
theorem Jv(ns:List Nd)(x:Nd):(Bs ns x).2[(Bs ns x).1]? =some x:=by
 unfold Bs;split
 ·rename_i h;have h1:=Ds h;rw[qad h1,Jz h]
 ·simp
theorem NY{ns:List Nd}(h:ns.Nodup)(x:Nd):(Bs ns x).2.Nodup:=by
 unfold Bs;split
 ·exact h
 ·rename_i hx;rw[List.nodup_append];refine⟨h,by simp,fun a ha b hb=> ?_⟩;rw[qaQ]at hb;subst hb;exact fun e=>hx (e ▸ ha)
theorem Ea(ns:List Nd)(x:Nd):ns <+: (Bs ns x).2:=by
 unfold Bs;split
 ·exact List.prefix_refl _
 ·exact List.prefix_append _ _
theorem GH(ns:List Nd)(x:Nd):(Bs ns x).2.length<=ns.length+1:=by
 unfold Bs;split<;>simp
theorem Mj{ns:List Nd}(hn:ns.Nodup){i:Nat}{x:Nd}(h:ns[i]? =some x):Bs ns x=(i,ns):=by
 obtain⟨hi,he⟩:=qaB.1 h;unfold Bs;have hm:x∈ns:=he ▸ qaw hi;rw[if_pos hm];subst he;rw[KQ hn hi]
def Br:List Nd->Ex->Nat × List Nd
 |ns,.leaf k t=>Bs ns ⟨(k:Int),0,0,0,t⟩
 |ns,.un k n x=>Bs (Br ns x).2 ⟨(k:Int),((Br ns x).1:Int),0,n,[]⟩
 |ns,.bin k x y=>Bs (Br (Br ns x).2 y).2 ⟨(k:Int),((Br ns x).1:Int),((Br (Br ns x).2 y).1:Int),0,[]⟩
def Rep(ns:List Nd):Nat->Ex->Prop
 |i,.leaf k t=>ns[i]? =some ⟨(k:Int),0,0,0,t⟩
 |i,.un k n x=>∃j,Rep ns j x/\ns[i]? =some ⟨(k:Int),(j:Int),0,n,[]⟩
 |i,.bin k x y=>∃j q,Rep ns j x/\Rep ns q y/\ns[i]? =some ⟨(k:Int),(j:Int),(q:Int),0,[]⟩
theorem GZ{ns ms:List Nd}(h:ns <+: ms){i:Nat}{x:Nd}(hx:ns[i]? =some x):ms[i]? =some x:=by
 obtain⟨t,rfl⟩:=h;obtain⟨hi,_⟩:=qaB.1 hx;rw[qat hi,hx]
theorem Rep.pre{ns ms:List Nd}(h:ns <+: ms):∀{e:Ex} {i:Nat},Rep ns i e->Rep ms i e
 | .leaf _ _,_,hr=>GZ h hr
 | .un _ _ _,_,⟨j,hr,hx⟩=>⟨j,hr.pre h,GZ h hx⟩
 | .bin _ _ _,_,⟨j,q,hr,hr2,hx⟩=>⟨j,q,hr.pre h,hr2.pre h,GZ h hx⟩
theorem M9(e:Ex):∀ns,ns <+: (Br ns e).2:=by
 induction e with
 |leaf k t=>intro ns;exact Ea _ _
 |un k n x ih=>intro ns;exact(ih ns).trans (Ea _ _)
 |bin k x y ihx ihy=>intro ns;exact((ihx ns).trans (ihy _)).trans (Ea _ _)
theorem Na(e:Ex):∀ns,(Br ns e).2.length<=ns.length+e.size:=by
 induction e with
 |leaf k t=>intro ns;exact GH _ _
 |un k n x ih=>
  intro ns;have h1:=ih ns;have h2:=GH (Br ns x).2 ⟨(k:Int),((Br ns x).1:Int),0,n,[]⟩;simp only[Br,Ex.size];omega
 |bin k x y ihx ihy=>
  intro ns;have h1:=ihx ns;have h2:=ihy (Br ns x).2;have h3:=GH (Br (Br ns x).2 y).2 ⟨(k:Int),((Br ns x).1:Int),((Br (Br ns x).2 y).1:Int),0,[]⟩;simp only[Br,Ex.size];omega
theorem I7(e:Ex)(ns:List Nd):(Br ns e).1<(Br ns e).2.length:=by
 cases e<;>exact OR _ _
theorem SY(e:Ex):∀ns,Rep (Br ns e).2 (Br ns e).1 e:=by
 induction e with
 |leaf k t=>intro ns;exact Jv _ _
 |un k n x ih=>intro ns;exact⟨_,(ih ns).pre (Ea _ _),Jv _ _⟩
 |bin k x y ihx ihy=>intro ns;exact⟨_,_,((ihx ns).pre (M9 y _)).pre (Ea _ _),(ihy _).pre (Ea _ _),Jv _ _⟩
theorem Rep.one{ns:List Nd}(hn:ns.Nodup):∀{e:Ex} {i j:Nat},Rep ns i e->Rep ns j e->i=j:=by
 have key:∀{i j:Nat} {x:Nd},ns[i]? =some x->ns[j]? =some x->i=j:=by
  intro i j x hi hj;have h1:=Mj hn hi;rw[Mj hn hj]at h1;injection h1 with h1
  exact h1.symm
 intro e
 induction e with
 |leaf k t=>intro i j hi hj;exact key hi hj
 |un k n x ih=>
  rintro i j ⟨p,hp,hi⟩ ⟨q,hq,hj⟩;obtain rfl:=ih hp hq;exact key hi hj
 |bin k x y ihx ihy=>
  rintro i j ⟨p,p',hp,vD,hi⟩ ⟨q,q',hq,hq',hj⟩;obtain rfl:=ihx hp hq;obtain rfl:=ihy vD hq';exact key hi hj
theorem Rep.same{ns:List Nd}:∀{e e':Ex} {i:Nat},e.Good->e'.Good->Rep ns i e->Rep ns i e'->e=e':=by
 intro e
 induction e with
 |leaf k t=>
  intro e' i hg lf h h';have h0:ns[i]? =some ⟨(k:Int),0,0,0,t⟩:=h
  cases e' with
  |leaf k' t'=>
   have h1:ns[i]? =some ⟨(k':Int),0,0,0,t'⟩:=h'
   rw[h0]at h1;simp only[qar,Nd.mk.injEq]at h1;have:k=k':=by omega
   rw[this,h1.2.2.2.2]
  |un k' n' x'=>
   obtain⟨j,_,h1⟩:=h';rw[h0]at h1;simp only[qar,Nd.mk.injEq]at h1;have:=lf.1;rcases hg with ⟨h,_⟩|⟨h,_⟩|⟨h,_⟩<;>omega
  |bin k' x' y'=>
   obtain⟨j,q,_,_,h1⟩:=h';rw[h0]at h1;simp only[qar,Nd.mk.injEq]at h1;have:=lf.1;rcases hg with ⟨h,_⟩|⟨h,_⟩|⟨h,_⟩<;>omega
 |un k n x ih=>
  intro e' i hg lf h h';obtain⟨j,hr,h0⟩:=h;cases e' with
  |leaf k' t'=>
   have h1:ns[i]? =some ⟨(k':Int),0,0,0,t'⟩:=h'
   rw[h0]at h1;simp only[qar,Nd.mk.injEq]at h1;have:=hg.1;rcases lf with ⟨h,_⟩|⟨h,_⟩|⟨h,_⟩<;>omega
  |un k' n' x'=>
   obtain⟨j',zB,h1⟩:=h';rw[h0]at h1;simp only[qar,Nd.mk.injEq]at h1;have hk:k=k':=by omega
   have hj:j=j':=by omega
   subst hj;rw[hk,h1.2.2.2.1,ih hg.2.2.2.2 lf.2.2.2.2 hr zB]
  |bin k' x' y'=>
   obtain⟨j',q,_,_,h1⟩:=h';rw[h0]at h1;simp only[qar,Nd.mk.injEq]at h1;have:=hg.1;have:=lf.1;omega
 |bin k x y ihx ihy=>
  intro e' i hg lf h h';obtain⟨j,q,hr,hr2,h0⟩:=h;cases e' with
  |leaf k' t'=>
   have h1:ns[i]? =some ⟨(k':Int),0,0,0,t'⟩:=h'
   rw[h0]at h1;simp only[qar,Nd.mk.injEq]at h1;have:=hg.1;rcases lf with ⟨h,_⟩|⟨h,_⟩|⟨h,_⟩<;>omega
  |un k' n' x'=>
   obtain⟨j',_,h1⟩:=h';rw[h0]at h1;simp only[qar,Nd.mk.injEq]at h1;have:=hg.1;have:=lf.1;omega
  |bin k' x' y'=>
   obtain⟨j',q',zB,zA,h1⟩:=h';rw[h0]at h1;simp only[qar,Nd.mk.injEq]at h1;have hk:k=k':=by omega
   have hj:j=j':=by omega
   have hq:q=q':=by omega
   subst hj;subst hq;rw[hk,ihx hg.2.1 lf.2.1 hr zB,ihy hg.2.2 lf.2.2 hr2 zA]
def Il(s:List Nat × List Nd)(x:Nd):List Nat × List Nd:=
 (s.1++[(Bs s.2 ⟨x.kind,if 5<=x.kind then ((s.1.getD x.a.toNat 0:Nat):Int) else x.a,if 6<=x.kind/\x.kind<=9 then ((s.1.getD x.b.toNat 0:Nat):Int) else x.b,x.n,x.text⟩).1],
  (Bs s.2 ⟨x.kind,if 5<=x.kind then ((s.1.getD x.a.toNat 0:Nat):Int) else x.a,if 6<=x.kind/\x.kind<=9 then ((s.1.getD x.b.toNat 0:Nat):Int) else x.b,x.n,x.text⟩).2)
def BP(s:List Nat × List Nd)(l:List Nd):List Nat × List Nd:=l.foldl Il s
theorem Dw(l:List Nat)(x:Nat){i:Nat}(h:i=l.length):(l++[x]).getD i 0=x:=by
 subst h;rw[qaa,qai (qab _),qaR];rfl
theorem Ew(l m:List Nat){i:Nat}(h:i<l.length):(l++m).getD i 0=l.getD i 0:=by
 rw[qaa,qaa,qat h]
theorem Oq(e:Ex)(hg:e.Good):∀(bL:List Nat) (ns:List Nd),∃more:List Nat,more.length+1=e.size/\BP (bL,ns) (Ak bL.length e)=((bL++more)++[(Br ns e).1],(Br ns e).2):=by
 induction e with
 |leaf k t=>
  intro bL ns;have hk:k<5:=by rcases hg with ⟨h,_⟩|⟨h,_⟩|⟨h,_⟩<;>omega
  refine⟨[],rfl,?_⟩;simp only[BP,Ak,qbU,List.foldl_nil,Il,qbH];rw[if_neg (by omega),if_neg (by omega)];rfl
 |un k n x ih=>
  intro bL ns;obtain⟨more,hm,hf⟩:=ih hg.2.2.2.2 bL ns;have hx:=x.size_pos;have hk:=hg.1;refine⟨more++[(Br ns x).1],by simp only[qac,qal,Ex.size];omega,?_⟩;rw[Ak,BP,qbx];rw[BP]at hf;rw[hf];have hl:bL.length+x.size-1=(bL++more).length:=by rw[qac];omega
  have h1:((bL++more)++[(Br ns x).1]).getD (((bL.length+x.size-1:Nat):Int)).toNat 0=(Br ns x).1:=Dw _ _ (by rw[qaq];exact hl);simp only[qbU,List.foldl_nil,Il,h1];rw[if_pos (by omega),if_neg (by omega)];simp only[Br,qao]
 |bin k x y ihx ihy=>
  intro bL ns;obtain⟨m1,im,eG⟩:=ihx hg.2.1 bL ns;obtain⟨m2,mN,q7⟩:=ihy hg.2.2 ((bL++m1)++[(Br ns x).1]) (Br ns x).2;have hx:=x.size_pos;have hy:=y.size_pos;have hk:=hg.1;have aH:((bL++m1)++[(Br ns x).1]).length=bL.length+x.size:=by simp only[qac,qal];omega
  rw[aH]at q7;refine⟨m1++[(Br ns x).1]++m2++[(Br (Br ns x).2 y).1],by simp only[qac,qal,Ex.size];omega,?_⟩;rw[Ak,BP,qbx,qbx];rw[BP]at eG q7;rw[eG,q7];have hl:bL.length+x.size-1=(bL++m1).length:=by rw[qac];omega
  have hl2:bL.length+x.size+y.size-1=(((bL++m1)++[(Br ns x).1])++m2).length:=by rw[qac,aH];omega
  have h1:(((((bL++m1)++[(Br ns x).1])++m2)++[(Br (Br ns x).2 y).1])).getD (((bL.length+x.size-1:Nat):Int)).toNat 0=(Br ns x).1:=by
   rw[qaq,Ew _ _ (by rw[<-hl2];omega),Ew _ _ (by rw[aH];omega)];exact Dw _ _ hl
  have h2:(((((bL++m1)++[(Br ns x).1])++m2)++[(Br (Br ns x).2 y).1])).getD (((bL.length+x.size+y.size-1:Nat):Int)).toNat 0=(Br (Br ns x).2 y).1:=Dw _ _ (by rw[qaq];exact hl2);simp only[qbU,List.foldl_nil,Il,h1,h2];rw[if_pos (by omega),if_pos (by omega)];simp only[Br,qao]
def Kc(k:Nat)(t:List UInt8):Prop:=(k=1/\Bh t=0/\t.length<=400)\/(k=2/\DQ t=true)\/((k=3\/k=4)/\t=[])
def U8(k:Nat)(n:Int):Prop:=(k=5\/(10<=k/\k<=16))/\(k≠10->n=0)∧-64<=n/\n<=64
def CF(i:Nat)(x:Nd):Prop:=
 (∃(k:Nat) (t:List UInt8),x=⟨(k:Int),0,0,0,t⟩/\Kc k t)\/(∃(k:Nat) (n:Int) (j:Nat),x=⟨(k:Int),(j:Int),0,n,[]⟩/\U8 k n/\j<i)\/
 (∃k j q:Nat,x=⟨(k:Int),(j:Int),(q:Int),0,[]⟩/\(6<=k/\k<=9)/\j<i/\q<i)
theorem CF.mono{i j:Nat}{x:Nd}(h:CF i x)(hij:i<=j):CF j x:=by
 rcases h with h|⟨k,n,p,he,h1,h2⟩|⟨k,p,q,he,h1,h2,h3⟩
 ·exact .inl h
 ·exact .inr (.inl ⟨k,n,p,he,h1,by omega⟩)
 ·exact .inr (.inr ⟨k,p,q,he,h1,by omega,by omega⟩)
theorem CF.text{i:Nat}{x:Nd}(h:CF i x):x.text.length<=400:=by
 rcases h with ⟨k,t,rfl,h⟩|⟨k,n,p,rfl,h1,h2⟩|⟨k,p,q,rfl,h1,h2,h3⟩
 ·rcases h with ⟨_,_,h⟩|⟨_,h⟩|⟨_,h⟩
  ·exact h
  ·have:=Gy (qbN.1 h).1;simp only;omega
  ·rw[h];simp
 ·simp
 ·simp
def AK(ns:List Nd):Prop:=ns.Nodup/\∀i x,ns[i]? =some x->CF i x
theorem AK.nil:AK []:=⟨List.nodup_nil,fun i x h=>by cases h⟩
theorem AK.put{ns:List Nd}(h:AK ns){x:Nd}(hx:CF ns.length x):AK (Bs ns x).2:=by
 refine⟨NY h.1 x,?_⟩;unfold Bs;split
 ·exact h.2
 ·intro i y hy;rcases qah i ns.length with hi|hi
  ·rw[qat hi]at hy;exact h.2 i y hy
  ·rw[qai hi]at hy;have:i-ns.length=0:=by
    rcases qag (i-ns.length) with h0|h0
    ·exact h0
    ·rw[qav (by simp only[qal];omega)]at hy;cases hy
   rw[this]at hy;injection hy with hy
   subst hy;exact hx.mono hi
theorem AK.add(e:Ex)(hg:e.Good):∀ns,AK ns->AK (Br ns e).2:=by
 induction e with
 |leaf k t=>intro ns h;exact h.put (.inl ⟨k,t,rfl,hg⟩)
 |un k n x ih=>
  intro ns h;obtain⟨h1,h2,h3,h4,hx⟩:=hg;exact(ih hx ns h).put (.inr (.inl ⟨k,n,_,rfl,⟨h1,h2,h3,h4⟩,I7 x ns⟩))
 |bin k x y ihx ihy=>
  intro ns h;obtain⟨h1,hx,hy⟩:=hg;have hl:=(M9 y (Br ns x).2).length_le;have:=I7 x ns;exact(ihy hy _ (ihx hx ns h)).put (.inr (.inr ⟨k,_,_,rfl,h1,by omega,I7 y _⟩))
theorem AK.pre{ns ms:List Nd}(h:AK ms)(hp:ns <+: ms):AK ns:=by
 refine⟨h.1.sublist hp.sublist,fun i x hx=>h.2 i x (GZ hp hx)⟩
section
variable {f:Nat} {g:Nat->Nat} {h:Nat->Nat->Nat}
end
open Go.RowKit
def d32(x:Nat):Value:= .int .u32 (x:Int)
def Ext(w w':World):Prop:=Below w.heap.size w w'
section
variable {w w' w'':World}
theorem Ext.refl(w:World):Ext w w:=Below.refl _ _
theorem Ext.trans(h:Ext w w')(k:Ext w' w''):Ext w w'':=Below.trans h (Below.mono k h.size)
theorem Ext.more(h:Ext w w')(k:Below w.heap.size w' w''):Ext w w'':=Below.trans h k
theorem Ext.size(h:Ext w w'):w.heap.size<=w'.heap.size:=Below.size h
theorem Ext.alloc(h:Ext w w')(o:Obj):Ext w (w'.alloc o):=Below.alloc h h.size o
theorem Ext.drew(h:Ext w w'):Ext w w'.drew:=Below.drew h
theorem Ext.drewN(h:Ext w w')(n:Nat):Ext w (w'.drewN n):=⟨h.os,h.tape,h.output,h.size,h.block⟩
theorem Ext.setCell(h:Ext w w'){p:Addr}(hp:w.heap.size<=p.block)(u:Value):Ext w (w'.setCell p u):=Below.setCell h hp u
theorem Ext.grown{row:Option Nat}(h:Ext w w')(hg:w'.grownBy w'' row)(hr:∀k,row=some k->w.heap.size<=k):Ext w w'':=Below.grown h hg h.size hr
theorem Ext.cell(h:Ext w w'){b o:Nat}(hb:b<w.heap.size):w'.cell? ⟨b,o,none⟩=w.cell? ⟨b,o,none⟩:=Below.cell (p:=⟨b,o,none⟩) h hb
theorem Ext.frozen(h:Ext w w'){b o:Nat}(hb:b<w.heap.size):w'.frozen? ⟨b,o,none⟩=w.frozen? ⟨b,o,none⟩:=Below.frozen (p:=⟨b,o,none⟩) h hb
end
def Blk(w:World)(g:Nat)(t:TypeId)(cs:Array Value):Prop:=w.heap[g]? =some (.cells cs t (0,0))
section
variable {w w':World} {g:Nat} {t:TypeId} {cs:Array Value}
theorem Blk.lt(h:Blk w g t cs):g<w.heap.size:=by
 rcases qah g w.heap.size with hlt|fC
 ·exact hlt
 ·unfold Blk at h;rw[qbg fC]at h;cases h
theorem Blk.cell(h:Blk w g t cs)(i:Nat):w.cell? ⟨g,i,none⟩=cs[i]? :=cell_of_row w g i cs t (0,0) h
theorem Blk.frozen(h:Blk w g t cs)(i:Nat):w.frozen? ⟨g,i,none⟩=false:=by
 unfold Blk at h;simp[World.frozen?,h]
theorem Blk.new(w:World)(t:TypeId)(cs:Array Value):Blk (w.alloc (.cells cs t)) w.heap.size t cs:=heap_alloc_new w _
theorem Blk.drew(h:Blk w g t cs):Blk w.drew g t cs:=h
theorem Blk.drewN(h:Blk w g t cs)(n:Nat):Blk (w.drewN n) g t cs:=h
theorem Blk.alloc(h:Blk w g t cs)(o:Obj):Blk (w.alloc o) g t cs:=(Below.heap_alloc w o g h.lt).trans h
theorem Blk.set_(h:Blk w g t cs)(i:Nat)(u:Value):Blk (w.setCell ⟨g,i,none⟩ u) g t (cs.setIfInBounds i u):=by
 unfold Blk at h ⊢;simp[World.setCell,Array.getElem?_modify,h]
theorem Blk.far(h:Blk w g t cs){p:Addr}(hp:g≠p.block)(u:Value):Blk (w.setCell p u) g t cs:=(Below.heap_setCell w p u g hp).trans h
theorem Blk.ext(h:Blk w g t cs)(hb:Ext w w'):Blk w' g t cs:=(Below.block hb g h.lt).trans h
end
def DX(w:World)(v:Value)(vs:List Value):Prop:=
 ∃A c,v= .slice A vs.length c/\vs.length<=c/\c<=maxLen/\
  (0<vs.length->∃b o,A=some ⟨b,o,none⟩/\b<w.heap.size/\∀j u,vs[j]? =some u->w.cell? ⟨b,o+j,none⟩=some u)
def CY(t:TypeId)(B:Nat)(w:World)(v:Value)(vs:List Value):Prop:=
 ∃A c,v= .slice A vs.length c/\vs.length<=c/\c<=maxLen/\
  ((vs=[]/\c=0)\/∃g cur,A=some ⟨g,0,none⟩/\B<=g/\Blk w g t cur/\cur.size=c/\cur.toList.take vs.length=vs)
section
variable {w w':World} {v:Value} {vs:List Value} {B B':Nat} {t:TypeId}
theorem DX.ext(h:DX w v vs)(hb:Ext w w'):DX w' v vs:=by
 obtain⟨A,c,rfl,h2,h3,h4⟩:=h;refine⟨A,c,rfl,h2,h3,fun hp=> ?_⟩;obtain⟨b,o,rfl,hlt,hc⟩:=h4 hp;exact⟨b,o,rfl,qan hlt hb.size,fun j u hj=>(hb.cell hlt).trans (hc j u hj)⟩
theorem CY.ext(h:CY t B w v vs)(hb:Ext w w'):CY t B w' v vs:=by
 obtain⟨A,c,rfl,h2,h3,h4⟩:=h;refine⟨A,c,rfl,h2,h3,?_⟩;rcases h4 with h4|⟨g,cur,rfl,hg,ax,hs,ht⟩
 ·exact .inl h4
 ·exact .inr ⟨g,cur,rfl,hg,ax.ext hb,hs,ht⟩
theorem CY.mono(h:CY t B w v vs)(hB:B'<=B):CY t B' w v vs:=by
 obtain⟨A,c,rfl,h2,h3,h4⟩:=h;refine⟨A,c,rfl,h2,h3,?_⟩;rcases h4 with h4|⟨g,cur,rfl,hg,rest⟩
 ·exact .inl h4
 ·exact .inr ⟨g,cur,rfl,qae hB hg,rest⟩
theorem OL{cur:Array Value}{n:Nat}(ht:cur.toList.take n=vs){j:Nat}{u:Value}(hj:vs[j]? =some u):cur[j]? =some u:=by
 rw[<-ht,List.getElem?_take]at hj;split at hj
 ·simpa using hj
 ·cases hj
theorem CY.arr(h:CY t B w v vs):DX w v vs:=by
 obtain⟨A,c,rfl,h2,h3,h4⟩:=h;refine⟨A,c,rfl,h2,h3,fun hp=> ?_⟩;rcases h4 with ⟨rfl,rfl⟩|⟨g,cur,rfl,hg,ax,hs,ht⟩
 ·simp at hp
 ·refine⟨g,0,rfl,ax.lt,fun j u hj=> ?_⟩;rw[ax.cell,qaW];exact OL ht hj
theorem CY.none_(t:TypeId)(B:Nat)(w:World):CY t B w (.slice none 0 0) []:=⟨none,0,rfl,qaj _,by unfold maxLen;omega,.inl ⟨rfl,rfl⟩⟩
theorem DX.none_(w:World):DX w (.slice none 0 0) []:=(CY.none_ 0 0 w).arr
theorem CY.empty(t:TypeId)(B:Nat)(w:World)(A:Option Addr):CY t B w (.slice A 0 0) []:=⟨A,0,rfl,qaj _,by unfold maxLen;omega,.inl ⟨rfl,rfl⟩⟩
theorem DX.one{b:Nat}{u:Value}(h:w.cell? ⟨b,0,none⟩=some u):DX w (.slice (some ⟨b,0,none⟩) 1 1) [u]:=
 ⟨some ⟨b,0,none⟩,1,rfl,qab _,by unfold maxLen;omega,fun _=>⟨b,0,rfl,World.block_lt_of_cell? w _ h,fun j x hj=>by
  match j with
  |0=>simp only[List.getElem?_cons_zero,qar]at hj;subst hj;exact h
  |j+1=>simp at hj⟩⟩
theorem CY.take(h:CY t B w v vs)(n:Nat)(hn:n<=vs.length):∃A c,v= .slice A vs.length c/\CY t B w (.slice A n c) (vs.take n):=by
 obtain⟨A,c,rfl,h2,h3,h4⟩:=h;have hl:(vs.take n).length=n:=by rw[qam,qbG hn]
 refine⟨A,c,rfl,A,c,by rw[hl],by rw[hl];omega,h3,?_⟩;rcases h4 with ⟨rfl,rfl⟩|⟨g,cur,rfl,hg,ax,hs,ht⟩
 ·exact .inl ⟨by simp,rfl⟩
 ·exact .inr ⟨g,cur,rfl,hg,ax,hs,by rw[hl];rw[<-ht,List.take_take,qbG hn]⟩
end
section
variable {P:Program} {w:World} {v src:Value} {vs ys:List Value} {B:Nat}
def Mc:Value->Option Nat
 | .slice (some a) _ c=>if c=0 then none else some a.block
 |_=>none
theorem Jk (t ty e:TypeId) (i:TypeInfo) (z:Value) (bytes:Nat) (ht:P.underlying t=some (.slice e)) (hi:P.info? e=some i) (hz:i.zero=some z)
  (iC:i.size=1) (fM:i.bytes=bytes) (nQ:z.cells.size=1)
  (al:CY e B w v vs) (kv:DX w src ys) (h1:∀u∈ys,u.oneCell'=true)
  (rg:vs.length+ys.length<=maxLen) (fZ:(vs.length+ys.length)*bytes<=140737488355328) (fe:B<=w.heap.size):
  ∃v' w',(Builtin.append_ #[t,t] ty #[v,src]).run P w= .ok v' w'/\CY e B w' v' (vs++ys)/\w.grownBy w' (Mc v)/\Below B w w':=by
 obtain⟨A,c,rfl,h2,h3,h4⟩:=al;obtain⟨A',c',rfl,k2,k3,k4⟩:=kv;rcases qag ys.length with hm|hm
 ·have mH:ys=[]:=qap hm;subst mH;refine⟨.slice A vs.length c,w,?_,⟨A,c,by simp,by simpa using h2,h3,by simpa using h4⟩,⟨rfl,rfl,rfl,qab _,fun _ _ _=>rfl⟩,Below.refl _ _⟩;rcases A' with _|a'<;>rcases A with _|a<;>
   simp[Builtin.append_,run_underlying ht,sizeOf,typeInfo,hi,Builtin.lenOf,Builtin.firstCells,loadCells,loadCellsFrom,storeCells,h2]
 ·obtain⟨b',o',rfl,hlt',gH⟩:=k4 hm;have ol:∀j u,ys[j]? =some u->w.cell? ((⟨b',o',none⟩:Addr).add j)=some u:=fun j u hj=>by
   have:=gH j u hj;unfold Addr.add;split
   ·rename_i h0;subst h0;simpa using this
   ·exact this
  have h5:(vs=[]/\c=0)\/(c≠0/\∃g cur,A=some ⟨g,0,none⟩/\B<=g/\Blk w g e cur/\cur.size=c/\cur.toList.take vs.length=vs):=by
   by_cases hc0:c=0
   ·exact .inl ⟨qap (by omega),hc0⟩
   ·rcases h4 with ⟨_,hc⟩|h4
    ·exact absurd hc hc0
    ·exact .inr ⟨hc0,h4⟩
  clear h4;rcases h5 with ⟨rfl,rfl⟩|⟨hc0,g,cur,rfl,hg,ax,hs,mJ⟩
  ·
   have hsm:ys.length<=9223372036854775807:=by unfold maxLen at rg;simp at rg;omega
   have gG:grownCap w ys.length 0 e<=maxLen:=grownCap_le_maxLen w ys.length 0 e (by simpa using rg);have fC:=grownCap_ge w ys.length 0 e;have io:ys.length*i.bytes<=140737488355328:=by rw[fM];simpa using fZ
   have key:∃W,(Builtin.append_ #[t,t] ty #[.slice A 0 0,.slice (some ⟨b',o',none⟩) ys.length c']).run P w= .ok (.slice (some ⟨w.heap.size,0,none⟩) ys.length (grownCap w ys.length 0 e)) W/\
     W=w.drew.alloc (.cells (ys.toArray++Builtin.zeroCells z.cells (grownCap w ys.length 0 e-ys.length)) e):=by
    rcases A with _|a
    ·exact⟨_,run_append_nil (P:=P) w t ty e i z ht hi hz ⟨b',o',none⟩ ys.length c' ys (by rw[iC,qbp]) ol hm (by omega) (by omega),rfl⟩
    ·have hr:=run_append_grow (P:=P) w t ty e i z ht hi hz a 0 0 [] (by simp) (fun j u hu=>by simp at hu) ⟨b',o',none⟩ ys.length c' ys (by rw[iC,qbp]) ol (by omega) (by omega) (growslice_fits (by omega) (by simpa using io));simp only[qaW]at hr;refine⟨_,hr,?_⟩;simp
   obtain⟨W,fG,rfl⟩:=key;refine⟨_,_,fG,⟨_,_,by simp,by simpa using fC,gG,.inr ⟨w.heap.size,_,rfl,fe,heap_alloc_new w.drew _,?_,?_⟩⟩,?_,?_⟩
   ·simp only[Array.size_append,List.size_toArray,size_zeroCells,nQ,qbp];omega
   ·simp
   ·exact⟨rfl,rfl,rfl,by simp,fun k hk _=>Below.heap_alloc w.drew _ k hk⟩
   ·exact((Below.refl B w).drew).alloc fe _
  ·have bc:w.ownsRow B e 1 (.slice (some ⟨g,0,none⟩) vs.length c) vs.length vs:=
    ⟨by rw[qbp],.inr ⟨g,c,cur,rfl,hg,ax,h2,h3,by rw[qbp];exact hs,by rw[qbp];exact mJ⟩⟩
   obtain⟨v',w',fG,dw,aC,hnil⟩:=run_append_own (P:=P) w B t ty e i z 1 bytes ht hi hz iC fM nQ (by omega) _ _ _ bc ⟨b',o',none⟩ ys.length c' ys (by rw[qbp]) ol h1 rg fZ fe;refine⟨v',w',fG,?_,by simpa [Mc,hc0,Value.ownBlock] using aC,(Below.refl B w).grown aC fe (fun k hk=>by simp[Value.ownBlock]at hk;omega)⟩;obtain⟨_,hf⟩:=dw;rcases hf with ⟨rfl,aD⟩|⟨g',cap,ti,rfl,lf,wJ,q1,q2,q3,q4⟩
   ·omega
   ·refine⟨_,cap,by rw[qac],by rw[qac];exact q1,q2,.inr ⟨g',ti,rfl,lf,wJ,by rw[q3,qbp],?_⟩⟩;rw[qac,<-qbp (vs.length+ys.length)];exact q4
theorem Ke {o:Oper} {a:Act} {K:Act->World->Prop} {Q:Exit->Act->World->Prop} (s x:Operand) (t:TypeId)
  (ho:o.op= .call { callee:= .builtin .append,args:= #[s,x],argTypes:= #[t,t] })
  (e:TypeId) (i:TypeInfo) (z:Value) (bytes:Nat) (ht:P.underlying t=some (.slice e)) (hi:P.info? e=some i) (hz:i.zero=some z)
  (iC:i.size=1) (fM:i.bytes=bytes) (nQ:z.cells.size=1)
  (hs:a.eval s=v) (al:CY e B w v vs) (hx:a.eval x=src) (kv:DX w src ys) (h1:∀u∈ys,u.oneCell'=true)
  (rg:vs.length+ys.length<=maxLen) (fZ:(vs.length+ys.length)*bytes<=140737488355328) (fe:B<=w.heap.size)
  (h:∀v' w',CY e B w' v' (vs++ys)->w.grownBy w' (Mc v)->Below B w w'->K (a.put o.dst v') w'):o.wp P a w K Q:=by
 obtain⟨v',w',fG,h2,h3,h4⟩:=Jk (P:=P) t o.type e i z bytes ht hi hz iC fM nQ al kv h1 rg fZ fe;unfold Oper.wp execOp;simp only[ho,resolve,invoke,builtin,Sem.run_bind,Sem.run_pure,Result.andThen_ok,List.map_toArray,List.map_cons,List.map_nil,hs,hx,fG];exact h v' w' h2 h3 h4
theorem Gx {ops:Array Oper} {rest:List Oper} {o:Oper} {a:Act} {Q:Exit->Act->World->Prop} (jg:o.guard=none) (s x:Operand) (t:TypeId)
  (ho:o.op= .call { callee:= .builtin .append,args:= #[s,x],argTypes:= #[t,t] })
  (e:TypeId) (i:TypeInfo) (z:Value) (bytes:Nat) (ht:P.underlying t=some (.slice e)) (hi:P.info? e=some i) (hz:i.zero=some z)
  (iC:i.size=1) (fM:i.bytes=bytes) (nQ:z.cells.size=1)
  (hs:a.eval s=v) (al:CY e B w v vs) (hx:a.eval x=src) (kv:DX w src ys) (h1:∀u∈ys,u.oneCell'=true)
  (rg:vs.length+ys.length<=maxLen) (fZ:(vs.length+ys.length)*bytes<=140737488355328) (fe:B<=w.heap.size)
  (h:∀v' w',CY e B w' v' (vs++ys)->w.grownBy w' (Mc v)->Below B w w'->wpList P ops Q rest (a.put o.dst v') w'):wpList P ops Q (o::rest) a w:=
 wpList_plain jg fun _ hK=>Ke s x t ho e i z bytes ht hi hz iC fM nQ hs al hx kv h1 rg fZ fe fun v' w' h2 h3 h4=>hK _ _ (h v' w' h2 h3 h4)
end
def Arr(w:World)(v:Value)(xs:List Nat):Prop:=Ok xs/\DX w v (xs.map d32)
def Own(B:Nat)(w:World)(v:Value)(xs:List Nat):Prop:=Ok xs/\CY 183 B w v (xs.map d32)
section
variable {w w':World} {v:Value} {xs:List Nat} {B B':Nat}
theorem Arr.ok(h:Arr w v xs):Ok xs:=h.1
theorem Arr.ext(h:Arr w v xs)(hb:Ext w w'):Arr w' v xs:=⟨h.1,h.2.ext hb⟩
theorem Own.ok(h:Own B w v xs):Ok xs:=h.1
theorem Own.ext(h:Own B w v xs)(hb:Ext w w'):Own B w' v xs:=⟨h.1,h.2.ext hb⟩
theorem Own.mono(h:Own B w v xs)(hB:B'<=B):Own B' w v xs:=⟨h.1,h.2.mono hB⟩
theorem Own.arr(h:Own B w v xs):Arr w v xs:=⟨h.1,h.2.arr⟩
theorem Own.none_(B:Nat)(w:World):Own B w (.slice none 0 0) []:=⟨Cq,CY.none_ _ B w⟩
theorem Arr.none_(w:World):Arr w (.slice none 0 0) []:=⟨Cq,DX.none_ w⟩
theorem FC{j:Nat}(hj:j<xs.length):(xs.map d32)[j]? =some (d32 (xs.getD j 0)):=by
 rw[qaP,qaa,qad hj];rfl
theorem Arr.open(h:Arr w v xs):Ok xs/\∃A c,v= .slice A xs.length c/\xs.length<=c/\c<=maxLen/\
  (0<xs.length->∃b o,A=some ⟨b,o,none⟩/\b<w.heap.size/\∀j,j<xs.length->w.cell? ⟨b,o+j,none⟩=some (d32 (xs.getD j 0))):=by
 obtain⟨h1,A,c,rfl,h2,h3,h4⟩:=h;rw[qas]at h2 h4;refine⟨h1,A,c,by rw[qas],h2,h3,fun hp=> ?_⟩;obtain⟨b,o,rfl,hlt,hc⟩:=h4 hp;exact⟨b,o,rfl,hlt,fun j hj=>hc j _ (FC hj)⟩
theorem Arr.mk (aA:Ok xs) {A:Option Addr} {c:Nat} (h2:xs.length<=c) (h3:c<=maxLen)
  (h4:0<xs.length->∃b o,A=some ⟨b,o,none⟩/\b<w.heap.size/\∀j,j<xs.length->w.cell? ⟨b,o+j,none⟩=some (d32 (xs.getD j 0))):Arr w (.slice A xs.length c) xs:=by
 refine⟨aA,A,c,by rw[qas],by rw[qas];exact h2,h3,fun hp=> ?_⟩;rw[qas]at hp;obtain⟨b,o,rfl,hlt,hc⟩:=h4 hp;refine⟨b,o,rfl,hlt,fun j u hj=> ?_⟩;have hl:j<xs.length:=by
  rcases qah j xs.length with h|h
  ·exact h
  ·rw[qav (by simpa using h)]at hj;cases hj
 rw[FC hl]at hj;injection hj with hj
 rw[<-hj];exact hc j hl
theorem Arr.take(h:Arr w v xs)(n:Nat)(hn:n<=xs.length):∃A c,v= .slice A xs.length c/\Arr w (.slice A n c) (xs.take n):=by
 obtain⟨h1,A,c,rfl,h2,h3,h4⟩:=h.open;have hl:(xs.take n).length=n:=by rw[qam,qbG hn]
 have:=Arr.mk (w:=w) (A:=A) (c:=c) (h1.take n) (by omega) h3 (fun hp=>by
  obtain⟨b,o,rfl,hlt,hc⟩:=h4 (by omega);refine⟨b,o,rfl,hlt,fun j hj=> ?_⟩;have e:(xs.take n).getD j 0=xs.getD j 0:=by rw[qaa,qaa,qcv (by omega)]
  rw[e];exact hc j (by omega))
 rw[hl]at this;exact⟨A,c,rfl,this⟩
theorem Own.take(h:Own B w v xs)(n:Nat)(hn:n<=xs.length):∃A c,v= .slice A xs.length c/\Own B w (.slice A n c) (xs.take n):=by
 obtain⟨A,c,hv,h1⟩:=h.2.take n (by simpa using hn);rw[qas]at hv;refine⟨A,c,hv,h.1.take n,?_⟩;rw[List.map_take];exact h1
theorem Sa:∀u∈xs.map d32,u.oneCell'=true:=fun u hu=>by
 obtain⟨x,_,rfl⟩:=qcz.1 hu;rfl
end
theorem JR:(Tryz.prog.info? 183).map (fun i=>(i.zero,i.size,i.bytes))=some (some (.int .u32 0),1,4):=by kernel_rfl
theorem Own.empty(B:Nat)(w:World)(A:Option Addr):Own B w (.slice A 0 0) []:=⟨Cq,CY.empty _ B w A⟩
theorem Pb{n:Nat}(h:n<=2147483648):n<=maxLen/\n*4<=140737488355328:=by unfold maxLen;omega
theorem AW {w:World} {v src:Value} {xs ys:List Nat} {B:Nat} {ops:Array Oper} {rest:List Oper} {o:Oper} {a:Act} {Q:Exit->Act->World->Prop} (jg:o.guard=none) (s x:Operand)
  (ho:o.op= .call { callee:= .builtin .append,args:= #[s,x],argTypes:= #[22,22] })
  (hs:a.eval s=v) (al:Own B w v xs) (hx:a.eval x=src) (kv:Arr w src ys) (hn:xs.length+ys.length<=2147483648) (fe:B<=w.heap.size)
  (h:∀v' w',Own B w' v' (xs++ys)->w.grownBy w' (Mc v)->Below B w w'->wpList Tryz.prog ops Q rest (a.put o.dst v') w'):wpList Tryz.prog ops Q (o::rest) a w:=by
 obtain⟨i0,hi,aD,hz1,bu⟩:=info_parts JR;have hb:=Pb hn;refine Gx jg s x 22 ho 183 i0 _ 4 Tryz.underlying22 hi aD hz1 bu rfl hs al.2 hx kv.2 Sa (by simpa using hb.1) (by simpa using hb.2) fe (fun v' w' h1 h2 h3=>h v' w' ⟨al.1.append kv.1,?_⟩ h2 h3);rw[qbc];exact h1
def zeros(n:Nat):Array Value:=((List.replicate n 0).map d32).toArray
def cells(xs:List Nat):Array Value:=(xs.map d32).toArray
theorem En(n:Nat):zeros n=cells (List.replicate n 0):=rfl
theorem Jg(xs:List Nat):(cells xs).size=xs.length:=by simp[cells]
theorem Bi(xs:List Nat)(i:Nat)(h:i<xs.length):(cells xs)[i]? =some (d32 (xs.getD i 0)):=by
 unfold cells;rw[qbL];exact FC h
theorem BE(xs:List Nat)(i y:Nat):(cells xs).setIfInBounds i (d32 y)=cells (xs.set i y):=by
 apply qck;simp[cells,List.map_set]
theorem Oe(n:Nat):madeCells (Value.cells (.int .u32 0)) (n*1)=zeros n:=by
 apply qck;apply qct;intro i;simp only[madeCells,zeros,Value.cells];rw[Array.getElem?_toList,Array.getElem?_map,qaP,qbQ];rcases qah i n with h|h
 ·rw[qca,if_pos (by omega),if_pos h];simp[d32,Nat.mod_one]
 ·rw[qca,if_neg (by omega),if_neg (by omega)];rfl
theorem Cn(n:Nat)(hn:n<=2147483648)(W:World):(Instr.makeSlice 22 (.int .i64 (n:Int)) (.int .i64 (n:Int))).run Tryz.prog W=
  .ok (.slice (some ⟨W.heap.size,0,none⟩) n n) (W.alloc (.cells (zeros n) 183)):=by
 obtain⟨i0,hi,aD,hz1,bu⟩:=info_parts JR;have hr:=run_make (P:=Tryz.prog) W 22 183 i0 _ Tryz.underlying22 hi aD .i64 .i64 (n:Int) (n:Int) (by omega) (Int.le_refl _) (by rw[bu];omega) (by omega);rw[hz1,qaq,Oe]at hr;exact hr
theorem C4(n:Nat)(hn:n<=1073741824)(W:World):(Instr.makeSlice 22 (.int .i64 ((n:Int)+1)) (.int .i64 ((n:Int)+1))).run Tryz.prog W=
  .ok (.slice (some ⟨W.heap.size,0,none⟩) (n+1) (n+1)) (W.alloc (.cells (zeros (n+1)) 183)):=Cn (n+1) (by omega) W
theorem Own.block{B:Nat}{w:World}{g:Nat}{xs:List Nat}(aA:Ok xs)(h:Blk w g 183 (cells xs))(hg:B<=g)(hm:xs.length<=2147483648):
  Own B w (.slice (some ⟨g,0,none⟩) xs.length xs.length) xs:=
 ⟨aA,some ⟨g,0,none⟩,xs.length,by rw[qas],by rw[qas];omega,(Pb hm).1,.inr ⟨g,cells xs,rfl,hg,h,Jg xs,by rw[qas];show ((xs.map d32).toArray.toList).take xs.length=_;rw[qaf (by simp)]⟩⟩
theorem Do(ys:List Nat)(k y:Nat):(ys++List.replicate (k+1) 0).set ys.length y=(ys++[y])++List.replicate k 0:=by
 rw[qbq _ _ (qab _),qaR,qbI,qce,qao];rfl
theorem Jh(ys:List Nat)(k y:Nat):(List.replicate (k+1) 0++ys).set k y=List.replicate k 0++(y::ys):=by
 rw[List.set_append_left _ _ (by simp),List.replicate_succ',qbq _ _ (by simp),qaX,qaR,qce,qao];rfl
theorem Ok.zeros(n:Nat):Ok (List.replicate n 0):=fun x hx=>by
 have:=List.eq_of_mem_replicate hx;omega
theorem Ok.snoc{xs:List Nat}(h:Ok xs){y:Nat}(hy:y<4294967296):Ok (xs++[y]):=h.append (DA hy Cq)
theorem N7(r x:Nat)(hr:r<4294967296)(hx:x<4294967296):bits .or .u64 ((r:Int)*4294967296) (x:Int)=((r*4294967296+x:Nat):Int):=by
 have h1:((r:Int)*4294967296)=((r*4294967296:Nat):Int):=by omega
 rw[h1,bits_or_u64_nat _ _ (by omega) (by omega)];have h2:=Nat.shiftLeft_add_eq_or_of_lt (i:=32) (b:=x) (by omega) r;rw[Nat.shiftLeft_eq]at h2;exact congrArg Int.ofNat h2.symm
theorem Arr.fresh1(w:World)(y:Nat)(hy:y<4294967296):Arr (w.alloc (.cells #[d32 y] 183)) (.slice (some ⟨w.heap.size,0,none⟩) 1 1) [y]:=
 ⟨DA hy Cq,DX.one (by simp)⟩
theorem Arr.fresh1'(w:World)(t:Int)(y:Nat)(ht:t=(y:Int))(hy:y<4294967296):Arr (w.alloc (.cells #[.int .u32 t] 183)) (.slice (some ⟨w.heap.size,0,none⟩) 1 1) [y]:=by
 subst ht;exact Arr.fresh1 w y hy
theorem Own.fresh1'(w:World)(t:Int)(y:Nat)(ht:t=(y:Int))(hy:y<4294967296):Own w.heap.size (w.alloc (.cells #[.int .u32 t] 183)) (.slice (some ⟨w.heap.size,0,none⟩) 1 1) [y]:=by
 subst ht;exact Own.block (xs:=[y]) (DA hy Cq) (Blk.new w _ _) (qab _) (by simp)
theorem Own.fresh2(w:World)(x y:Nat)(hx:x<4294967296)(hy:y<4294967296):Own w.heap.size (w.alloc (.cells #[d32 x,d32 y] 183)) (.slice (some ⟨w.heap.size,0,none⟩) 2 2) [x,y]:=
 Own.block (xs:=[x,y]) (DA hx (DA hy Cq)) (Blk.new w _ _) (qab _) (by simp)
theorem CY.far{t:TypeId}{B:Nat}{w:World}{v:Value}{vs:List Value}(h:CY t B w v vs){p:Addr}(hp:p.block<B)(u:Value):CY t B (w.setCell p u) v vs:=by
 obtain⟨A,c,rfl,h2,h3,h4⟩:=h;refine⟨A,c,rfl,h2,h3,?_⟩;rcases h4 with h4|⟨g,cur,rfl,hg,ax,hs,ht⟩
 ·exact .inl h4
 ·exact .inr ⟨g,cur,rfl,hg,ax.far (by omega) u,hs,ht⟩
theorem Own.far{B:Nat}{w:World}{v:Value}{xs:List Nat}(h:Own B w v xs){p:Addr}(hp:p.block<B)(u:Value):Own B (w.setCell p u) v xs:=⟨h.1,h.2.far hp u⟩
end Big
end Go.Proofs.YtkoaogkknnelaaaGreatDoor
