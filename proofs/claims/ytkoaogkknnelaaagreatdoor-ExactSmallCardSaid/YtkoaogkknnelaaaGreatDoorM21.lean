import Derived.Test.YtkoaogkknnelaaaGreatDoorM20
set_option linter.unusedVariables false
set_option linter.unusedSimpArgs false
namespace Go.Proofs.YtkoaogkknnelaaaGreatDoor
namespace Big
open Go.RowKit
theorem Ge.of{w:World}{B:Nat}{v:Value}{ts:List Tok}(h:w.ownsRow B 122 3 v ts.length (C7 ts)):Ge w v ts:=⟨B,h⟩
theorem Ph(f:Nat)(l:List UInt8):∀(a:Nat) (ts:List Tok),ts.length<=a->(DH f l a ts).1.length<=a+f*(l.length+1):=by
 induction f with
 |zero=>intro a ts _;simp[DH]
 |succ f ih=>
  intro a ts h;rw[Nat.add_mul,Nat.one_mul];unfold DH;split
  ·simp;omega
  ·split
   ·have:=ih (a+1) ts (by omega);omega
   ·split
    ·simp
    ·rename_i k n ht;have h1:=EG ht;rw[List.length_drop]at h1;have:=ih (a+n) (ts++[⟨k,a,(l.drop a).take n⟩]) (by rw[List.length_append,List.length_singleton];omega);omega
theorem Pg(l:List UInt8):(Bj l).1.length<=1000000:=by
 unfold Bj;split
 ·simp
 ·have:=Ph (l.length+1) l 0 [] (by simp);have h2:(l.length+1)*(l.length+1)<=401*401:=Nat.mul_le_mul (by omega) (by omega);omega
theorem Dr.ext{w w':World}(h:Dr w w'):Ext w w':=h.below w.heap.size
def isS(ts:List Tok)(a:Nat)(c:List UInt8):Bool:=match ts[a]? with
 |some t=>t.kind == 3 && t.text == c
 |none=>false
def Bd(ts:List Tok):Nat->Nat->Nat
 |0,_=>0
 |f+1,a=>if isS ts a [45] then Bd ts f (a+1)+1 else 0
def CW(t:List UInt8):Option Nat:=
 if t.length<=2/\t.all (fun c=>Df c.toNat) then some (t.foldl (fun n c=>10*n+(c.toNat-48)) 0) else none
def EC(ts:List Tok)(a:Nat):Option Nat:=match ts[a]? with
 |some t=>if t.kind=1 then CW t.text else none
 |none=>none
def Lg:Nat->Ex->Ex
 |0,x=>x
 |n+1,x=>Lg n (.un 5 0 x)
def CS(p:Nat->Option Ex × Nat)(ts:List Tok)(a:Nat):Option Ex × Nat:=match ts[a]? with
 |none=>(none,a)
 |some t=>
  if t.kind=3 then
   (if t.text=[40] then (match p (a+1) with
    |(none,b)=>(none,b)
    |(some x,b)=>if isS ts b [41] then (some x,b+1) else (none,b))
   else (none,a))
  else if t.kind=1 then (some (.leaf 1 t.text),a+1)
  else if Bw t.text≠0 then
   (if isS ts (a+1) [40] then (match p (a+2) with
    |(none,b)=>(none,b)
    |(some x,b)=>if isS ts b [41] then (some (.un (Bw t.text) 0 x),b+1) else (none,b))
   else (none,a+1))
  else if t.text=[112,105] then (some (.leaf 3 []),a+1)
  else if t.text=[101] then (some (.leaf 4 []),a+1)
  else (some (.leaf 2 t.text),a+1)
def AX(p:Nat->Option Ex × Nat)(ts:List Tok)(a:Nat):Option Ex × Nat:=match CS p ts a with
 |(none,b)=>(none,b)
 |(some x,b)=>
  if isS ts b [94] then
   (if isS ts (b+1) [45] then
    (match EC ts (b+2) with
     |some n=>(some (.un 10 (-(n:Int)) x),b+3)
     |none=>(none,b+2))
   else (match EC ts (b+1) with
     |some n=>(some (.un 10 (n:Int) x),b+2)
     |none=>(none,b+1)))
  else (some x,b)
def BJ(p:Nat->Option Ex × Nat)(ts:List Tok)(a:Nat):Option Ex × Nat:=
 match AX p ts (a+Bd ts ts.length a) with
 |(none,b)=>(none,b)
 |(some x,b)=>(some (Lg (Bd ts ts.length a) x),b)
def BC(op:Nat->Option Ex × Nat)(ts:List Tok)(c1 c2:List UInt8)(k1 k2:Nat):Nat->Ex->Nat->Option Ex × Nat
 |0,e,a=>(some e,a)
 |f+1,e,a=>
  if isS ts a c1 then (match op (a+1) with
   |(none,b)=>(none,b)
   |(some y,b)=>BC op ts c1 c2 k1 k2 f (.bin k1 e y) b)
  else if isS ts a c2 then (match op (a+1) with
   |(none,b)=>(none,b)
   |(some y,b)=>BC op ts c1 c2 k1 k2 f (.bin k2 e y) b)
  else (some e,a)
def CZ(op:Nat->Option Ex × Nat)(ts:List Tok)(c1 c2:List UInt8)(k1 k2:Nat)(a:Nat):Option Ex × Nat:=match op a with
 |(none,b)=>(none,b)
 |(some x,b)=>BC op ts c1 c2 k1 k2 ts.length x b
def FT(p:Nat->Option Ex × Nat)(ts:List Tok)(a:Nat):Option Ex × Nat:=CZ (BJ p ts) ts [42] [47] 8 9 a
def Bh(ts:List Tok):Nat->Nat->Option Ex × Nat
 |0,a=>(none,a)
 |f+1,a=>CZ (FT (Bh ts f) ts) ts [43] [45] 6 7 a
theorem Cl{ts:List Tok}{a:Nat}{c:List UInt8}(h:isS ts a c=true):a<ts.length:=by
 unfold isS at h;split at h
 ·rename_i t ht;exact(List.getElem?_eq_some_iff.1 ht).1
 ·cases h
def Bc(ts:List Tok)(a:Nat)(r:Option Ex × Nat):Prop:=a<=ts.length->a<=r.2/\r.2<=ts.length/\∀x,r.1=some x->a+x.size<=r.2
theorem Bc.none_{ts:List Tok}{a b:Nat}(h1:a<=ts.length->a<=b/\b<=ts.length):Bc ts a (none,b):=fun h=>⟨(h1 h).1,(h1 h).2,fun x hx=>by cases hx⟩
theorem Bc.some_{ts:List Tok}{a b:Nat}{x:Ex}(h1:a<=ts.length->b<=ts.length/\a+x.size<=b):Bc ts a (some x,b):=fun h=>⟨by have:=h1 h;simp only;omega,(h1 h).1,fun y hy=>by
 have:x=y:=Option.some.inj hy;subst this;exact(h1 h).2⟩
theorem Jl{p:Nat->Option Ex × Nat}{ts:List Tok}(hp:∀a,Bc ts a (p a))(a:Nat):Bc ts a (CS p ts a):=by
 unfold CS;split
 ·exact Bc.none_ (fun h=>⟨Nat.le_refl _,h⟩)
 ·rename_i t ht;have hl:=(List.getElem?_eq_some_iff.1 ht).1;split
  ·split
   ·have h1:=hp (a+1) (by omega);split
    ·rename_i b hb;rw[hb]at h1;exact Bc.none_ (fun _=>⟨by have:=h1.1;simp only at this;omega,h1.2.1⟩)
    ·rename_i x b hb;rw[hb]at h1;have h2:=h1.2.2 x rfl;simp only at h1 h2;split
     ·rename_i hs;have:=Cl hs;exact Bc.some_ (fun _=>⟨by omega,by omega⟩)
     ·exact Bc.none_ (fun _=>⟨by omega,by omega⟩)
   ·exact Bc.none_ (fun h=>⟨Nat.le_refl _,h⟩)
  ·split
   ·exact Bc.some_ (fun _=>⟨by omega,by simp[Ex.size]⟩)
   ·split
    ·split
     ·rename_i hs;have hl2:=Cl hs;have h1:=hp (a+2) (by omega);split
      ·rename_i b hb;rw[hb]at h1;exact Bc.none_ (fun _=>⟨by have:=h1.1;simp only at this;omega,h1.2.1⟩)
      ·rename_i x b hb;rw[hb]at h1;have h2:=h1.2.2 x rfl;simp only at h1 h2;split
       ·rename_i iI;have:=Cl iI;exact Bc.some_ (fun _=>⟨by omega,by rw[Ex.size];omega⟩)
       ·exact Bc.none_ (fun _=>⟨by omega,by omega⟩)
     ·exact Bc.none_ (fun _=>⟨by omega,by omega⟩)
    ·split
     ·exact Bc.some_ (fun _=>⟨by omega,by simp[Ex.size]⟩)
     ·split
      ·exact Bc.some_ (fun _=>⟨by omega,by simp[Ex.size]⟩)
      ·exact Bc.some_ (fun _=>⟨by omega,by simp[Ex.size]⟩)
theorem OK{ts:List Tok}{a n:Nat}(h:EC ts a=some n):a<ts.length:=by
 unfold EC at h;split at h
 ·rename_i t ht;exact(List.getElem?_eq_some_iff.1 ht).1
 ·cases h
theorem Mc{p:Nat->Option Ex × Nat}{ts:List Tok}(hp:∀a,Bc ts a (p a))(a:Nat):Bc ts a (AX p ts a):=by
 intro ha;have h1:=Jl hp a ha
 revert ha
 show Bc ts a (AX p ts a);unfold AX;split
 ·rename_i b hb;rw[hb]at h1;exact Bc.none_ (fun _=>⟨h1.1,h1.2.1⟩)
 ·rename_i x b hb;rw[hb]at h1;have h2:=h1.2.2 x rfl;simp only at h1 h2;split
  ·rename_i hs;have hl:=Cl hs;split
   ·rename_i iI;have hl2:=Cl iI;split
    ·rename_i n hn;have:=OK hn;exact Bc.some_ (fun _=>⟨by omega,by rw[Ex.size];omega⟩)
    ·exact Bc.none_ (fun _=>⟨by omega,by omega⟩)
   ·split
    ·rename_i n hn;have:=OK hn;exact Bc.some_ (fun _=>⟨by omega,by rw[Ex.size];omega⟩)
    ·exact Bc.none_ (fun _=>⟨by omega,by omega⟩)
  ·exact Bc.some_ (fun _=>⟨by omega,by omega⟩)
theorem Mp(ts:List Tok):∀(f a:Nat),a<=ts.length->a+Bd ts f a<=ts.length:=by
 intro f
 induction f with
 |zero=>intro a h;exact h
 |succ f ih=>
  intro a h;unfold Bd;split
  ·rename_i hs;have:=ih (a+1) (Cl hs);omega
  ·omega
theorem PX(n:Nat):∀x:Ex,(Lg n x).size=n+x.size:=by
 induction n with
 |zero=>intro x;simp[Lg]
 |succ n ih=>intro x;rw[Lg,ih,Ex.size];omega
theorem Fi{p:Nat->Option Ex × Nat}{ts:List Tok}(hp:∀a,Bc ts a (p a))(a:Nat):Bc ts a (BJ p ts a):=by
 intro ha;have h0:=Mp ts ts.length a ha;have h1:=Mc hp (a+Bd ts ts.length a) h0
 revert ha
 show Bc ts a (BJ p ts a);unfold BJ;split
 ·rename_i b hb;rw[hb]at h1;exact Bc.none_ (fun _=>⟨by have:=h1.1;simp only at this;omega,h1.2.1⟩)
 ·rename_i x b hb;rw[hb]at h1;have h2:=h1.2.2 x rfl;simp only at h1 h2;exact Bc.some_ (fun _=>⟨by omega,by rw[PX];omega⟩)
theorem Lv{op:Nat->Option Ex × Nat}{ts:List Tok}{c1 c2:List UInt8}{k1 k2:Nat}(ho:∀a,Bc ts a (op a))(a0:Nat):∀(f:Nat) (e:Ex) (a:Nat),a<=ts.length->a0+e.size<=a->Bc ts a0 (BC op ts c1 c2 k1 k2 f e a):=by
 intro f
 induction f with
 |zero=>intro e a h1 h2;exact Bc.some_ (fun _=>⟨h1,h2⟩)
 |succ f ih=>
  intro e a h1 h2;unfold BC;split
  ·rename_i hs;have hl:=Cl hs;have h3:=ho (a+1) hl;split
   ·rename_i b hb;rw[hb]at h3;simp only at h3;exact Bc.none_ (fun _=>⟨by omega,h3.2.1⟩)
   ·rename_i y b hb;rw[hb]at h3;have h4:=h3.2.2 y rfl;simp only at h3 h4;exact ih _ _ h3.2.1 (by rw[Ex.size];omega)
  ·split
   ·rename_i hs;have hl:=Cl hs;have h3:=ho (a+1) hl;split
    ·rename_i b hb;rw[hb]at h3;simp only at h3;exact Bc.none_ (fun _=>⟨by omega,h3.2.1⟩)
    ·rename_i y b hb;rw[hb]at h3;have h4:=h3.2.2 y rfl;simp only at h3 h4;exact ih _ _ h3.2.1 (by rw[Ex.size];omega)
   ·exact Bc.some_ (fun _=>⟨h1,h2⟩)
theorem Iq{op:Nat->Option Ex × Nat}{ts:List Tok}{c1 c2:List UInt8}{k1 k2:Nat}(ho:∀a,Bc ts a (op a))(a:Nat):Bc ts a (CZ op ts c1 c2 k1 k2 a):=by
 intro ha;have h1:=ho a ha
 revert ha
 show Bc ts a (CZ op ts c1 c2 k1 k2 a);unfold CZ;split
 ·rename_i b hb;rw[hb]at h1;exact Bc.none_ (fun _=>⟨h1.1,h1.2.1⟩)
 ·rename_i x b hb;rw[hb]at h1;have h2:=h1.2.2 x rfl;simp only at h1 h2;exact Lv ho a _ _ _ h1.2.1 h2
theorem Jj{p:Nat->Option Ex × Nat}{ts:List Tok}(hp:∀a,Bc ts a (p a))(a:Nat):Bc ts a (FT p ts a):=Iq (Fi hp) a
theorem DQ(ts:List Tok):∀(f a:Nat),Bc ts a (Bh ts f a):=by
 intro f
 induction f with
 |zero=>intro a;exact Bc.none_ (fun h=>⟨Nat.le_refl _,h⟩)
 |succ f ih=>intro a;exact Iq (Jj ih) a
def Iy(g:Nat)(w:World)(v:Value)(ts:List Tok):Prop:=
 ∃A c,v= .slice A ts.length c/\(0<ts.length->∃b,A=some ⟨b,0,none⟩/\b<g/\b<w.heap.size/\∀i (hi:i<ts.length),w.cell? ⟨b,i*3,none⟩=some (.int .i64 (ts[i].kind:Int))/\w.cell? ⟨b,i*3+1,none⟩=some (.int .i64 (ts[i].at_:Int))/\w.cell? ⟨b,i*3+2,none⟩=some (str ts[i].text))
theorem Iy.of{w:World}{v:Value}{ts:List Tok}(h:Ge w v ts):Iy w.heap.size w v ts:=by
 obtain⟨A,c,rfl,h1⟩:=h.cells;refine⟨A,c,rfl,fun hp=> ?_⟩;obtain⟨b,rfl,h2⟩:=h1 hp;have hb:=World.block_lt_of_cell? w _ (h2 0 hp).1;exact⟨b,rfl,hb,hb,h2⟩
theorem Iy.below{g:Nat}{w w':World}{v:Value}{ts:List Tok}(h:Iy g w v ts)(hb:Below g w w'):Iy g w' v ts:=by
 obtain⟨A,c,rfl,h1⟩:=h;refine⟨A,c,rfl,fun hp=> ?_⟩;obtain⟨b,rfl,h2,h3,h4⟩:=h1 hp;refine⟨b,rfl,h2,Nat.lt_of_lt_of_le h3 hb.size,fun i hi=> ?_⟩;have hk:∀o,w'.cell? ⟨b,o,none⟩=w.cell? ⟨b,o,none⟩:=fun o=>World.cell?_of_block (a:=⟨b,o,none⟩) (hb.block b h2)
 rw[hk,hk,hk];exact h4 i hi
structure KR (g:Nat) (nv nv':Value) (w w':World):Prop where
 os:w'.os=w.os
 tape:w'.tape=w.tape
 output:w'.output=w.output
 size:w.heap.size<=w'.heap.size
 block:∀k,k<w.heap.size->k≠g->nv.ownBlock≠some k->w'.heap[k]? =w.heap[k]?
 move:∀j,nv'.ownBlock=some j->nv.ownBlock=some j\/w.heap.size<=j
theorem KR.of_ext{g:Nat}{nv:Value}{w w':World}(h:Ext w w'):KR g nv nv w w':=⟨h.os,h.tape,h.output,h.size,fun k hk _ _=>h.block k hk,fun _ hj=> .inl hj⟩
theorem KR.trans{g:Nat}{n1 n2 n3:Value}{w1 w2 w3:World}(h:KR g n1 n2 w1 w2)(k:KR g n2 n3 w2 w3):KR g n1 n3 w1 w3:=
 ⟨k.os.trans h.os,k.tape.trans h.tape,k.output.trans h.output,Nat.le_trans h.size k.size,fun i h1 h2 h3=>
  (k.block i (Nat.lt_of_lt_of_le h1 h.size) h2 (fun e=>by
   rcases h.move i e with h4|h4
   ·exact h3 h4
   ·omega)).trans (h.block i h1 h2 h3),fun j hj=>by
  rcases k.move j hj with h4|h4
  ·exact h.move j h4
  ·exact .inr (Nat.le_trans h.size h4)⟩
theorem KR.blk{g b:Nat}{n1 n2:Value}{w w':World}{t:TypeId}{cs:Array Value}(h:KR g n1 n2 w w')(hb:Blk w b t cs)(h1:b≠g)(h2:n1.ownBlock≠some b):Blk w' b t cs:=(h.block b hb.lt h1 h2).trans hb
theorem KR.below{g:Nat}{n1 n2:Value}{w w':World}{ns:List Nd}(h:KR g n1 n2 w w')(hr:AU (g+1) w n1 ns)(hg:g<=w.heap.size):Below g w w':=
 ⟨h.os,h.tape,h.output,h.size,fun k hk=>h.block k (by omega) (by omega) (fun e=>by have:=AW hr k e;omega)⟩
theorem Blk.three'{w:World}{g:Nat}{t:TypeId}{a b c:Value}(h:Blk w g t #[a,b,c]):w.cell? ⟨g,0,none⟩=some a/\w.cell? ⟨g,1,none⟩=some b/\w.cell? ⟨g,2,none⟩=some c/\w.frozen? ⟨g,0,none⟩=false/\w.frozen? ⟨g,1,none⟩=false/\w.frozen? ⟨g,2,none⟩=false/\g<w.heap.size:=
 ⟨h.cell 0,h.cell 1,h.cell 2,h.frozen 0,h.frozen 1,h.frozen 2,h.lt⟩
def ktT(t:Tok):Nat × List UInt8:=(t.kind,t.text)
def KP(b:Bool)(l:List (Nat × List UInt8)):List (Nat × List UInt8):=if b then (3,[40])::(l++[(3,[41])]) else l
def Vd(k:Nat):List UInt8:=if k=6 then [43] else if k=7 then [45] else if k=8 then [42] else [47]
def KN(n:Int):List (Nat × List UInt8):=if n<0 then [(3,[45]),(1,dec n.natAbs)] else [(1,dec n.natAbs)]
def KE:Ex->List (Nat × List UInt8)
 | .leaf k t=>if k=3 then [(2,[112,105])] else if k=4 then [(2,[101])] else [(k,t)]
 | .un k n x=>if k=5 then (3,[45])::KP (decide (Es x.kind<3)) (KE x)
   else if k=10 then KP (decide (Es x.kind<5)) (KE x)++((3,[94])::KN n)
   else (2,UX k)::(3,[40])::(KE x++[(3,[41])])
 | .bin k x y=>KP (decide (Es x.kind<Es k)) (KE x)++((3,Vd k)::KP (decide (Es y.kind<Es k+1)) (KE y))
def MT(ts:List Tok):Nat->List (Nat × List UInt8)->Prop
 |_,[]=>True
 |a,x::l=>(ts[a]?).map ktT=some x/\MT ts (a+1) l
theorem MT.is{ts:List Tok}{a:Nat}{k:Nat}{t:List UInt8}{l:List (Nat × List UInt8)}(h:MT ts a ((k,t)::l))(c:List UInt8):isS ts a c=(k == 3 && t == c):=by
 have h1:=h.1;unfold isS;cases ht:ts[a]? with
 |none=>rw[ht]at h1;cases h1
 |some x=>
  rw[ht]at h1;have h2:ktT x=(k,t):=Option.some.inj h1;injection h2 with h3 h4
  simp only[h3,h4]
theorem MT.tok{ts:List Tok}{a:Nat}{k:Nat}{t:List UInt8}{l:List (Nat × List UInt8)}(h:MT ts a ((k,t)::l)):∃x,ts[a]? =some x/\x.kind=k/\x.text=t:=by
 have h1:=h.1;cases ht:ts[a]? with
 |none=>rw[ht]at h1;cases h1
 |some x=>
  rw[ht]at h1;have h2:ktT x=(k,t):=Option.some.inj h1;injection h2 with h3 h4
  exact⟨x,rfl,h3,h4⟩
section
variable {ts:List Tok} {p:Nat->Option Ex × Nat} {a b:Nat} {x:Ex}
theorem TN(h:CS p ts a=(some x,b))(hn:isS ts b [94]=false):AX p ts a=(some x,b):=by
 unfold AX;rw[h];simp only;rw[if_neg (by rw[hn];simp)]
theorem CT(f:Nat)(h:isS ts a [45]=false):Bd ts f a=0:=by
 cases f with
 |zero=>rfl
 |succ f=>unfold Bd;rw[if_neg (by rw[h];simp)]
theorem J5:∀(f g a:Nat),ts.length<=a+f->ts.length<=a+g->Bd ts f a=Bd ts g a:=by
 intro f
 induction f with
 |zero=>
  intro g a h1 h2;have:isS ts a [45]=false:=by
   cases hs:isS ts a [45] with
   |false=>rfl
   |true=>have:=Cl hs;omega
  rw[CT _ this,CT _ this]
 |succ f ih=>
  intro g a h1 h2;cases hs:isS ts a [45] with
  |false=>rw[CT _ hs,CT _ hs]
  |true=>
   have hl:=Cl hs;obtain⟨g',rfl⟩:∃g',g=g'+1:=⟨g-1,by omega⟩;rw[Bd,Bd,if_pos hs,if_pos hs,ih g' (a+1) (by omega) (by omega)]
theorem PV(n:Nat):∀x:Ex,Lg (n+1) x= .un 5 0 (Lg n x):=by
 induction n with
 |zero=>intro x;rfl
 |succ n ih=>intro x;rw[Lg,ih];rfl
theorem GQ{op:Nat->Option Ex × Nat}{c1 c2:List UInt8}{k1 k2:Nat}(f:Nat)(h1:isS ts a c1=false)(h2:isS ts a c2=false):BC op ts c1 c2 k1 k2 f x a=(some x,a):=by
 cases f with
 |zero=>rfl
 |succ f=>unfold BC;rw[if_neg (by rw[h1];simp),if_neg (by rw[h2];simp)]
end
structure RD (ts:List Tok) (e:Ex) (f a:Nat):Prop where
 atom:5<=Es e.kind->CS (Bh ts f) ts a=(some e,a+(KE e).length)
 power:4<=Es e.kind->isS ts (a+(KE e).length) [94]=false->AX (Bh ts f) ts a=(some e,a+(KE e).length)
 minus:3<=Es e.kind->isS ts (a+(KE e).length) [94]=false->BJ (Bh ts f) ts a=(some e,a+(KE e).length)
 prod:2<=Es e.kind->isS ts (a+(KE e).length) [94]=false->∃m,m<=(KE e).length/\CZ (BJ (Bh ts f) ts) ts [42] [47] 8 9 a=BC (BJ (Bh ts f) ts) ts [42] [47] 8 9 (ts.length-m) e (a+(KE e).length)
 sum:isS ts (a+(KE e).length) [94]=false->isS ts (a+(KE e).length) [42]=false->isS ts (a+(KE e).length) [47]=false->
  ∃m,m<=(KE e).length/\CZ (FT (Bh ts f) ts) ts [43] [45] 6 7 a=BC (FT (Bh ts f) ts) ts [43] [45] 6 7 (ts.length-m) e (a+(KE e).length)
end Big
end Go.Proofs.YtkoaogkknnelaaaGreatDoor
