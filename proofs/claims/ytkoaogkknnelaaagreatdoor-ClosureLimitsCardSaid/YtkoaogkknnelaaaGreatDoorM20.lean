import Derived.Test.YtkoaogkknnelaaaGreatDoorM19
set_option linter.unusedVariables false
set_option linter.unusedSimpArgs false
namespace Go.Proofs.YtkoaogkknnelaaaGreatDoor
namespace Big
def isS(ts:List Tok)(a:Nat)(c:List UInt8):Bool:=match ts[a]? with
 |some t=>t.kind == 3 && t.text == c
 |none=>false
def Bc(ts:List Tok):Nat->Nat->Nat
 |0,_=>0
 |f+1,a=>if isS ts a [45] then Bc ts f (a+1)+1 else 0
def C4(t:List UInt8):Option Nat:=
 if t.length<=2/\t.all (fun c=>Dz c.toNat) then some (t.foldl (fun n c=>10*n+(c.toNat-48)) 0) else none
def E5(ts:List Tok)(a:Nat):Option Nat:=match ts[a]? with
 |some t=>if t.kind=1 then C4 t.text else none
 |none=>none
def LD:Nat->Ex->Ex
 |0,x=>x
 |n+1,x=>LD n (.un 5 0 x)
def C1(p:Nat->Option Ex × Nat)(ts:List Tok)(a:Nat):Option Ex × Nat:=match ts[a]? with
 |none=>(none,a)
 |some t=>
  if t.kind=3 then
   (if t.text=[40] then (match p (a+1) with
    |(none,b)=>(none,b)
    |(some x,b)=>if isS ts b [41] then (some x,b+1) else (none,b))
   else (none,a))
  else if t.kind=1 then (some (.leaf 1 t.text),a+1)
  else if Br t.text≠0 then
   (if isS ts (a+1) [40] then (match p (a+2) with
    |(none,b)=>(none,b)
    |(some x,b)=>if isS ts b [41] then (some (.un (Br t.text) 0 x),b+1) else (none,b))
   else (none,a+1))
  else if t.text=[112,105] then (some (.leaf 3 []),a+1)
  else if t.text=[101] then (some (.leaf 4 []),a+1)
  else (some (.leaf 2 t.text),a+1)
def AT(p:Nat->Option Ex × Nat)(ts:List Tok)(a:Nat):Option Ex × Nat:=match C1 p ts a with
 |(none,b)=>(none,b)
 |(some x,b)=>
  if isS ts b [94] then
   (if isS ts (b+1) [45] then
    (match E5 ts (b+2) with
     |some n=>(some (.un 10 (-(n:Int)) x),b+3)
     |none=>(none,b+2))
   else (match E5 ts (b+1) with
     |some n=>(some (.un 10 (n:Int) x),b+2)
     |none=>(none,b+1)))
  else (some x,b)
def BH(p:Nat->Option Ex × Nat)(ts:List Tok)(a:Nat):Option Ex × Nat:=
 match AT p ts (a+Bc ts ts.length a) with
 |(none,b)=>(none,b)
 |(some x,b)=>(some (LD (Bc ts ts.length a) x),b)
def By(op:Nat->Option Ex × Nat)(ts:List Tok)(c1 c2:List UInt8)(k1 k2:Nat):Nat->Ex->Nat->Option Ex × Nat
 |0,e,a=>(some e,a)
 |f+1,e,a=>
  if isS ts a c1 then (match op (a+1) with
   |(none,b)=>(none,b)
   |(some y,b)=>By op ts c1 c2 k1 k2 f (.bin k1 e y) b)
  else if isS ts a c2 then (match op (a+1) with
   |(none,b)=>(none,b)
   |(some y,b)=>By op ts c1 c2 k1 k2 f (.bin k2 e y) b)
  else (some e,a)
def Db(op:Nat->Option Ex × Nat)(ts:List Tok)(c1 c2:List UInt8)(k1 k2:Nat)(a:Nat):Option Ex × Nat:=match op a with
 |(none,b)=>(none,b)
 |(some x,b)=>By op ts c1 c2 k1 k2 ts.length x b
def Gu(p:Nat->Option Ex × Nat)(ts:List Tok)(a:Nat):Option Ex × Nat:=Db (BH p ts) ts [42] [47] 8 9 a
def Be(ts:List Tok):Nat->Nat->Option Ex × Nat
 |0,a=>(none,a)
 |f+1,a=>Db (Gu (Be ts f) ts) ts [43] [45] 6 7 a
theorem Cj{ts:List Tok}{a:Nat}{c:List UInt8}(h:isS ts a c=true):a<ts.length:=by
 unfold isS at h;split at h
 ·rename_i t ht;exact(List.getElem?_eq_some_iff.1 ht).1
 ·cases h
def AZ(ts:List Tok)(a:Nat)(r:Option Ex × Nat):Prop:=a<=ts.length->a<=r.2/\r.2<=ts.length/\∀x,r.1=some x->a+x.size<=r.2
theorem AZ.none_{ts:List Tok}{a b:Nat}(h1:a<=ts.length->a<=b/\b<=ts.length):AZ ts a (none,b):=fun h=>⟨(h1 h).1,(h1 h).2,fun x hx=>by cases hx⟩
theorem AZ.some_{ts:List Tok}{a b:Nat}{x:Ex}(h1:a<=ts.length->b<=ts.length/\a+x.size<=b):AZ ts a (some x,b):=fun h=>⟨by have:=h1 h;simp only;omega,(h1 h).1,fun y hy=>by
 have:x=y:=Option.some.inj hy;subst this;exact(h1 h).2⟩
theorem Jy{p:Nat->Option Ex × Nat}{ts:List Tok}(hp:∀a,AZ ts a (p a))(a:Nat):AZ ts a (C1 p ts a):=by
 unfold C1;split
 ·exact AZ.none_ (fun h=>⟨Nat.le_refl _,h⟩)
 ·rename_i t ht;have hl:=(List.getElem?_eq_some_iff.1 ht).1;split
  ·split
   ·have h1:=hp (a+1) (by omega);split
    ·rename_i b hb;rw[hb]at h1;exact AZ.none_ (fun _=>⟨by have:=h1.1;simp only at this;omega,h1.2.1⟩)
    ·rename_i x b hb;rw[hb]at h1;have h2:=h1.2.2 x rfl;simp only at h1 h2;split
     ·rename_i hs;have:=Cj hs;exact AZ.some_ (fun _=>⟨by omega,by omega⟩)
     ·exact AZ.none_ (fun _=>⟨by omega,by omega⟩)
   ·exact AZ.none_ (fun h=>⟨Nat.le_refl _,h⟩)
  ·split
   ·exact AZ.some_ (fun _=>⟨by omega,by simp[Ex.size]⟩)
   ·split
    ·split
     ·rename_i hs;have hl2:=Cj hs;have h1:=hp (a+2) (by omega);split
      ·rename_i b hb;rw[hb]at h1;exact AZ.none_ (fun _=>⟨by have:=h1.1;simp only at this;omega,h1.2.1⟩)
      ·rename_i x b hb;rw[hb]at h1;have h2:=h1.2.2 x rfl;simp only at h1 h2;split
       ·rename_i gk;have:=Cj gk;exact AZ.some_ (fun _=>⟨by omega,by rw[Ex.size];omega⟩)
       ·exact AZ.none_ (fun _=>⟨by omega,by omega⟩)
     ·exact AZ.none_ (fun _=>⟨by omega,by omega⟩)
    ·split
     ·exact AZ.some_ (fun _=>⟨by omega,by simp[Ex.size]⟩)
     ·split
      ·exact AZ.some_ (fun _=>⟨by omega,by simp[Ex.size]⟩)
      ·exact AZ.some_ (fun _=>⟨by omega,by simp[Ex.size]⟩)
theorem O5{ts:List Tok}{a n:Nat}(h:E5 ts a=some n):a<ts.length:=by
 unfold E5 at h;split at h
 ·rename_i t ht;exact(List.getElem?_eq_some_iff.1 ht).1
 ·cases h
theorem Ms{p:Nat->Option Ex × Nat}{ts:List Tok}(hp:∀a,AZ ts a (p a))(a:Nat):AZ ts a (AT p ts a):=by
 intro ha;have h1:=Jy hp a ha
 revert ha
 show AZ ts a (AT p ts a);unfold AT;split
 ·rename_i b hb;rw[hb]at h1;exact AZ.none_ (fun _=>⟨h1.1,h1.2.1⟩)
 ·rename_i x b hb;rw[hb]at h1;have h2:=h1.2.2 x rfl;simp only at h1 h2;split
  ·rename_i hs;have hl:=Cj hs;split
   ·rename_i gk;have hl2:=Cj gk;split
    ·rename_i n hn;have:=O5 hn;exact AZ.some_ (fun _=>⟨by omega,by rw[Ex.size];omega⟩)
    ·exact AZ.none_ (fun _=>⟨by omega,by omega⟩)
   ·split
    ·rename_i n hn;have:=O5 hn;exact AZ.some_ (fun _=>⟨by omega,by rw[Ex.size];omega⟩)
    ·exact AZ.none_ (fun _=>⟨by omega,by omega⟩)
  ·exact AZ.some_ (fun _=>⟨by omega,by omega⟩)
theorem MF(ts:List Tok):∀(f a:Nat),a<=ts.length->a+Bc ts f a<=ts.length:=by
 intro f
 induction f with
 |zero=>intro a h;exact h
 |succ f ih=>
  intro a h;unfold Bc;split
  ·rename_i hs;have:=ih (a+1) (Cj hs);omega
  ·omega
theorem PZ(n:Nat):∀x:Ex,(LD n x).size=n+x.size:=by
 induction n with
 |zero=>intro x;simp[LD]
 |succ n ih=>intro x;rw[LD,ih,Ex.size];omega
theorem FN{p:Nat->Option Ex × Nat}{ts:List Tok}(hp:∀a,AZ ts a (p a))(a:Nat):AZ ts a (BH p ts a):=by
 intro ha;have h0:=MF ts ts.length a ha;have h1:=Ms hp (a+Bc ts ts.length a) h0
 revert ha
 show AZ ts a (BH p ts a);unfold BH;split
 ·rename_i b hb;rw[hb]at h1;exact AZ.none_ (fun _=>⟨by have:=h1.1;simp only at this;omega,h1.2.1⟩)
 ·rename_i x b hb;rw[hb]at h1;have h2:=h1.2.2 x rfl;simp only at h1 h2;exact AZ.some_ (fun _=>⟨by omega,by rw[PZ];omega⟩)
theorem LQ{op:Nat->Option Ex × Nat}{ts:List Tok}{c1 c2:List UInt8}{k1 k2:Nat}(ho:∀a,AZ ts a (op a))(a0:Nat):∀(f:Nat) (e:Ex) (a:Nat),a<=ts.length->a0+e.size<=a->AZ ts a0 (By op ts c1 c2 k1 k2 f e a):=by
 intro f
 induction f with
 |zero=>intro e a h1 h2;exact AZ.some_ (fun _=>⟨h1,h2⟩)
 |succ f ih=>
  intro e a h1 h2;unfold By;split
  ·rename_i hs;have hl:=Cj hs;have h3:=ho (a+1) hl;split
   ·rename_i b hb;rw[hb]at h3;simp only at h3;exact AZ.none_ (fun _=>⟨by omega,h3.2.1⟩)
   ·rename_i y b hb;rw[hb]at h3;have h4:=h3.2.2 y rfl;simp only at h3 h4;exact ih _ _ h3.2.1 (by rw[Ex.size];omega)
  ·split
   ·rename_i hs;have hl:=Cj hs;have h3:=ho (a+1) hl;split
    ·rename_i b hb;rw[hb]at h3;simp only at h3;exact AZ.none_ (fun _=>⟨by omega,h3.2.1⟩)
    ·rename_i y b hb;rw[hb]at h3;have h4:=h3.2.2 y rfl;simp only at h3 h4;exact ih _ _ h3.2.1 (by rw[Ex.size];omega)
   ·exact AZ.some_ (fun _=>⟨h1,h2⟩)
theorem IG{op:Nat->Option Ex × Nat}{ts:List Tok}{c1 c2:List UInt8}{k1 k2:Nat}(ho:∀a,AZ ts a (op a))(a:Nat):AZ ts a (Db op ts c1 c2 k1 k2 a):=by
 intro ha;have h1:=ho a ha
 revert ha
 show AZ ts a (Db op ts c1 c2 k1 k2 a);unfold Db;split
 ·rename_i b hb;rw[hb]at h1;exact AZ.none_ (fun _=>⟨h1.1,h1.2.1⟩)
 ·rename_i x b hb;rw[hb]at h1;have h2:=h1.2.2 x rfl;simp only at h1 h2;exact LQ ho a _ _ _ h1.2.1 h2
theorem Jw{p:Nat->Option Ex × Nat}{ts:List Tok}(hp:∀a,AZ ts a (p a))(a:Nat):AZ ts a (Gu p ts a):=IG (FN hp) a
theorem Em(ts:List Tok):∀(f a:Nat),AZ ts a (Be ts f a):=by
 intro f
 induction f with
 |zero=>intro a;exact AZ.none_ (fun h=>⟨Nat.le_refl _,h⟩)
 |succ f ih=>intro a;exact IG (Jw ih) a
open Go.RowKit
def IP(g:Nat)(w:World)(v:Value)(ts:List Tok):Prop:=
 ∃A c,v= .slice A ts.length c/\(0<ts.length->∃b,A=some ⟨b,0,none⟩/\b<g/\b<w.heap.size/\∀i (hi:i<ts.length),w.cell? ⟨b,i*3,none⟩=some (.int .i64 (ts[i].kind:Int))/\w.cell? ⟨b,i*3+1,none⟩=some (.int .i64 (ts[i].at_:Int))/\w.cell? ⟨b,i*3+2,none⟩=some (str ts[i].text))
theorem IP.of{w:World}{v:Value}{ts:List Tok}(h:ER w v ts):IP w.heap.size w v ts:=by
 obtain⟨A,c,rfl,h1⟩:=h.cells;refine⟨A,c,rfl,fun hp=> ?_⟩;obtain⟨b,rfl,h2⟩:=h1 hp;have hb:=World.block_lt_of_cell? w _ (h2 0 hp).1;exact⟨b,rfl,hb,hb,h2⟩
theorem IP.below{g:Nat}{w w':World}{v:Value}{ts:List Tok}(h:IP g w v ts)(hb:Below g w w'):IP g w' v ts:=by
 obtain⟨A,c,rfl,h1⟩:=h;refine⟨A,c,rfl,fun hp=> ?_⟩;obtain⟨b,rfl,h2,h3,h4⟩:=h1 hp;refine⟨b,rfl,h2,Nat.lt_of_lt_of_le h3 hb.size,fun i hi=> ?_⟩;have hk:∀o,w'.cell? ⟨b,o,none⟩=w.cell? ⟨b,o,none⟩:=fun o=>World.cell?_of_block (a:=⟨b,o,none⟩) (hb.block b h2)
 rw[hk,hk,hk];exact h4 i hi
structure KR (g:Nat) (nv nv':Value) (w w':World):Prop where
 os:w'.os=w.os
 tape:w'.tape=w.tape
 output:w'.output=w.output
 size:w.heap.size<=w'.heap.size
 block:∀k,k<w.heap.size->k≠g->nv.ownBlock≠some k->w'.heap[k]? =w.heap[k]?
 move:∀j,nv'.ownBlock=some j->nv.ownBlock=some j\/w.heap.size<=j
theorem KR.of_ext{g:Nat}{nv:Value}{w w':World}(h:Ext w w'):KR g nv nv w w':=⟨h.os,h.tape,h.output,h.size,fun k hk _ _=>h.block k hk,fun _ hj=> .inl hj⟩
theorem KR.trans{g:Nat}{n1 n2 n3:Value}{w1 w2 w3:World}(h:KR g n1 n2 w1 w2)(k:KR g n2 n3 w2 w3):KR g n1 n3 w1 w3:=
 ⟨k.os.trans h.os,k.tape.trans h.tape,k.output.trans h.output,Nat.le_trans h.size k.size,fun i h1 h2 h3=>
  (k.block i (Nat.lt_of_lt_of_le h1 h.size) h2 (fun e=>by
   rcases h.move i e with h4|h4
   ·exact h3 h4
   ·omega)).trans (h.block i h1 h2 h3),fun j hj=>by
  rcases k.move j hj with h4|h4
  ·exact h.move j h4
  ·exact .inr (Nat.le_trans h.size h4)⟩
theorem KR.blk{g b:Nat}{n1 n2:Value}{w w':World}{t:TypeId}{cs:Array Value}(h:KR g n1 n2 w w')(hb:Blk w b t cs)(h1:b≠g)(h2:n1.ownBlock≠some b):Blk w' b t cs:=(h.block b hb.lt h1 h2).trans hb
theorem KR.below{g:Nat}{n1 n2:Value}{w w':World}{ns:List Nd}(h:KR g n1 n2 w w')(hr:Ak (g+1) w n1 ns)(hg:g<=w.heap.size):Below g w w':=
 ⟨h.os,h.tape,h.output,h.size,fun k hk=>h.block k (by omega) (by omega) (fun e=>by have:=AC hr k e;omega)⟩
theorem Blk.three'{w:World}{g:Nat}{t:TypeId}{a b c:Value}(h:Blk w g t #[a,b,c]):w.cell? ⟨g,0,none⟩=some a/\w.cell? ⟨g,1,none⟩=some b/\w.cell? ⟨g,2,none⟩=some c/\w.frozen? ⟨g,0,none⟩=false/\w.frozen? ⟨g,1,none⟩=false/\w.frozen? ⟨g,2,none⟩=false/\g<w.heap.size:=
 ⟨h.cell 0,h.cell 1,h.cell 2,h.frozen 0,h.frozen 1,h.frozen 2,h.lt⟩
def ktT(t:Tok):Nat × List UInt8:=(t.kind,t.text)
def KP(b:Bool)(l:List (Nat × List UInt8)):List (Nat × List UInt8):=if b then (3,[40])::(l++[(3,[41])]) else l
def TH(k:Nat):List UInt8:=if k=6 then [43] else if k=7 then [45] else if k=8 then [42] else [47]
def KN(n:Int):List (Nat × List UInt8):=if n<0 then [(3,[45]),(1,dec n.natAbs)] else [(1,dec n.natAbs)]
def KE:Ex->List (Nat × List UInt8)
 | .leaf k t=>if k=3 then [(2,[112,105])] else if k=4 then [(2,[101])] else [(k,t)]
 | .un k n x=>if k=5 then (3,[45])::KP (decide (BR x.kind<3)) (KE x)
   else if k=10 then KP (decide (BR x.kind<5)) (KE x)++((3,[94])::KN n)
   else (2,RN k)::(3,[40])::(KE x++[(3,[41])])
 | .bin k x y=>KP (decide (BR x.kind<BR k)) (KE x)++((3,TH k)::KP (decide (BR y.kind<BR k+1)) (KE y))
def MT(ts:List Tok):Nat->List (Nat × List UInt8)->Prop
 |_,[]=>True
 |a,x::l=>(ts[a]?).map ktT=some x/\MT ts (a+1) l
theorem MT.is{ts:List Tok}{a:Nat}{k:Nat}{t:List UInt8}{l:List (Nat × List UInt8)}(h:MT ts a ((k,t)::l))(c:List UInt8):isS ts a c=(k == 3 && t == c):=by
 have h1:=h.1;unfold isS;cases ht:ts[a]? with
 |none=>rw[ht]at h1;cases h1
 |some x=>
  rw[ht]at h1;have h2:ktT x=(k,t):=Option.some.inj h1;injection h2 with h3 h4
  simp only[h3,h4]
theorem MT.tok{ts:List Tok}{a:Nat}{k:Nat}{t:List UInt8}{l:List (Nat × List UInt8)}(h:MT ts a ((k,t)::l)):∃x,ts[a]? =some x/\x.kind=k/\x.text=t:=by
 have h1:=h.1;cases ht:ts[a]? with
 |none=>rw[ht]at h1;cases h1
 |some x=>
  rw[ht]at h1;have h2:ktT x=(k,t):=Option.some.inj h1;injection h2 with h3 h4
  exact⟨x,rfl,h3,h4⟩
section
variable {ts:List Tok} {p:Nat->Option Ex × Nat} {a b:Nat} {x:Ex}
theorem S2(h:C1 p ts a=(some x,b))(hn:isS ts b [94]=false):AT p ts a=(some x,b):=by
 unfold AT;rw[h];simp only;rw[if_neg (by rw[hn];simp)]
theorem C3(f:Nat)(h:isS ts a [45]=false):Bc ts f a=0:=by
 cases f with
 |zero=>rfl
 |succ f=>unfold Bc;rw[if_neg (by rw[h];simp)]
theorem Kl:∀(f g a:Nat),ts.length<=a+f->ts.length<=a+g->Bc ts f a=Bc ts g a:=by
 intro f
 induction f with
 |zero=>
  intro g a h1 h2;have:isS ts a [45]=false:=by
   cases hs:isS ts a [45] with
   |false=>rfl
   |true=>have:=Cj hs;omega
  rw[C3 _ this,C3 _ this]
 |succ f ih=>
  intro g a h1 h2;cases hs:isS ts a [45] with
  |false=>rw[C3 _ hs,C3 _ hs]
  |true=>
   have hl:=Cj hs;obtain⟨g',rfl⟩:∃g',g=g'+1:=⟨g-1,by omega⟩;rw[Bc,Bc,if_pos hs,if_pos hs,ih g' (a+1) (by omega) (by omega)]
theorem PY(n:Nat):∀x:Ex,LD (n+1) x= .un 5 0 (LD n x):=by
 induction n with
 |zero=>intro x;rfl
 |succ n ih=>intro x;rw[LD,ih];rfl
theorem Fp{op:Nat->Option Ex × Nat}{c1 c2:List UInt8}{k1 k2:Nat}(f:Nat)(h1:isS ts a c1=false)(h2:isS ts a c2=false):By op ts c1 c2 k1 k2 f x a=(some x,a):=by
 cases f with
 |zero=>rfl
 |succ f=>unfold By;rw[if_neg (by rw[h1];simp),if_neg (by rw[h2];simp)]
end
structure RD (ts:List Tok) (e:Ex) (f a:Nat):Prop where
 atom:5<=BR e.kind->C1 (Be ts f) ts a=(some e,a+(KE e).length)
 power:4<=BR e.kind->isS ts (a+(KE e).length) [94]=false->AT (Be ts f) ts a=(some e,a+(KE e).length)
 minus:3<=BR e.kind->isS ts (a+(KE e).length) [94]=false->BH (Be ts f) ts a=(some e,a+(KE e).length)
 prod:2<=BR e.kind->isS ts (a+(KE e).length) [94]=false->∃m,m<=(KE e).length/\Db (BH (Be ts f) ts) ts [42] [47] 8 9 a=By (BH (Be ts f) ts) ts [42] [47] 8 9 (ts.length-m) e (a+(KE e).length)
 sum:isS ts (a+(KE e).length) [94]=false->isS ts (a+(KE e).length) [42]=false->isS ts (a+(KE e).length) [47]=false->
  ∃m,m<=(KE e).length/\Db (Gu (Be ts f) ts) ts [43] [45] 6 7 a=By (Gu (Be ts f) ts) ts [43] [45] 6 7 (ts.length-m) e (a+(KE e).length)
theorem RD.whole {ts:List Tok} {e:Ex} {f a:Nat} (h:RD ts e f a) (h1:isS ts (a+(KE e).length) [94]=false) (h2:isS ts (a+(KE e).length) [42]=false) (h3:isS ts (a+(KE e).length) [47]=false)
  (h4:isS ts (a+(KE e).length) [43]=false) (h5:isS ts (a+(KE e).length) [45]=false):Be ts (f+1) a=(some e,a+(KE e).length):=by
 obtain⟨m,_,h6⟩:=h.sum h1 h2 h3;rw[Be,h6,Fp _ h4 h5]
theorem RP(off k:Nat)(x y:Ex):Ag off (.bin k x y)=(Ag off x++Ag (off+x.size) y)++[⟨(k:Int),((off+x.size-1:Nat):Int),((off+x.size+y.size-1:Nat):Int),0,[]⟩]:=by
 rw[Ag,List.append_assoc]
theorem Bp{ns:List Nd}{x:Ex}:(ns++Ag ns.length x).length=ns.length+x.size:=by rw[List.length_append,AF]
theorem Blk.two'{w:World}{g:Nat}{t:TypeId}{a b:Value}(h:Blk w g t #[a,b]):w.cell? ⟨g,0,none⟩=some a/\w.cell? ⟨g,1,none⟩=some b:=⟨h.cell 0,h.cell 1⟩
def Ic(op:Nat->Option Ex × Nat)(ts:List Tok)(s1 s2:List UInt8)(k1 k2 f k:Nat)(x:Ex):Option Ex × Nat->Option Ex × Nat
 |(none,b)=>(none,b)
 |(some y,b)=>By op ts s1 s2 k1 k2 f (.bin k x y) b
theorem IJ{op:Nat->Option Ex × Nat}{ts:List Tok}{s1 s2:List UInt8}{k1 k2 f b:Nat}{x:Ex}(hf:1<=f)(h:isS ts b s1=true):By op ts s1 s2 k1 k2 f x b=Ic op ts s1 s2 k1 k2 (f-1) k1 x (op (b+1)):=by
 obtain⟨f',rfl⟩:∃f',f=f'+1:=⟨f-1,by omega⟩;rw[By,if_pos h,Nat.add_sub_cancel];rcases op (b+1) with ⟨_|y,b'⟩<;>rfl
theorem II{op:Nat->Option Ex × Nat}{ts:List Tok}{s1 s2:List UInt8}{k1 k2 f b:Nat}{x:Ex}(hf:1<=f)(h1:isS ts b s1=false)(h:isS ts b s2=true):By op ts s1 s2 k1 k2 f x b=Ic op ts s1 s2 k1 k2 (f-1) k2 x (op (b+1)):=by
 obtain⟨f',rfl⟩:∃f',f=f'+1:=⟨f-1,by omega⟩;rw[By,if_neg (by rw[h1];simp),if_pos h,Nat.add_sub_cancel];rcases op (b+1) with ⟨_|y,b'⟩<;>rfl
theorem BS.set{w:World}{g o n c i:Nat}{vs:List Value}{u:Value}(h:BS w (.slice (some ⟨g,o,none⟩) n c) vs)(hi:i<vs.length):
  BS (w.setCell ⟨g,o+i,none⟩ u) (.slice (some ⟨g,o,none⟩) n c) (vs.set i u):=by
 obtain⟨A,c',he,h2,h3,h4⟩:=h;injection he with he1 he2 he3
 subst he1;subst he3;subst he2;refine⟨_,c,by rw[List.length_set],by rw[List.length_set];exact h2,h3,fun hp=> ?_⟩;obtain⟨b,o',ha,hlt,hc⟩:=h4 (by omega);injection ha with ha
 injection ha with ha1 ha2 _
 subst ha1;subst ha2;refine⟨g,o,rfl,by simpa [World.setCell] using hlt,fun j v hj=> ?_⟩;rw[List.getElem?_set]at hj;by_cases hij:i=j
 ·subst hij;rw[if_pos rfl,if_pos hi]at hj;injection hj with hj
  subst hj;exact World.cell?_setCell_same _ _ _ (hc i _ (List.getElem?_eq_getElem hi))
 ·rw[if_neg hij]at hj;rw[World.cell?_setCell_other _ _ _ _ (fun e=>hij (by injection e with _ e _;omega))];exact hc j v hj
theorem F4.set{w:World}{g n c i:Nat}{l:List UInt8}{b:UInt8}(h:F4 w (.slice (some ⟨g,0,none⟩) n c) l)(hi:i<l.length):
  F4 (w.setCell ⟨g,i,none⟩ (d8 b)) (.slice (some ⟨g,0,none⟩) n c) (l.set i b):=by
 have h1:=BS.set (u:=d8 b) h (i:=i) (by simpa using hi);rw[Nat.zero_add]at h1;unfold F4;rw[List.map_set];exact h1
theorem F4.kept{w w' wa:World}{g n c B:Nat}{l:List UInt8}{t:TypeId}{u:Value}{us:List Value}(h:F4 w (.slice (some ⟨g,0,none⟩) n c) l)(k:BJ t B wa u us)(hg:wa.heap.size<=g)(al:w.grownBy w' (Ea u)):
  F4 w' (.slice (some ⟨g,0,none⟩) n c) l:=by
 obtain⟨A,c',he,h2,h3,h4⟩:=h;injection he with he1 he2 he3
 subst he1;subst he3;subst he2;refine⟨_,c,rfl,h2,h3,fun hp=> ?_⟩;obtain⟨b,o,pc,hlt,hc⟩:=h4 hp;injection pc with pc
 injection pc with hb ho _
 subst hb;subst ho;have hne:some g≠Ea u:=by
  obtain⟨A',c',rfl,k2,k3,k4⟩:=k;rcases k4 with ⟨_,rfl⟩|⟨g',pX,rfl,_,kJ,_,_⟩
  ·rcases A' with _|a<;>simp[Ea]
  ·simp only[Ea];split
   ·simp
   ·intro he;injection he with he
    have:=kJ.lt;omega
 exact⟨g,0,rfl,Nat.lt_of_lt_of_le hlt al.size,fun j v hj=>(World.cell?_of_block (w:=w) (a:=⟨g,0+j,none⟩) (al.block g hlt hne)).trans (hc j v hj)⟩
end Big
end Go.Proofs.YtkoaogkknnelaaaGreatDoor
