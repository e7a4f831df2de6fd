import Derived.Test.YtkoaogkknnelaaaGreatDoorM19
set_option linter.unusedVariables false
set_option linter.unusedSimpArgs false
namespace Go.Proofs.YtkoaogkknnelaaaGreatDoor
namespace Big
def isS(ts:List Tok)(a:Nat)(c:List UInt8):Bool:=match ts[a]? with
 |some t=>t.kind == 3 && t.text == c
 |none=>false
def Ba(ts:List Tok):Nat->Nat->Nat
 |0,_=>0
 |f+1,a=>if isS ts a [45] then Ba ts f (a+1)+1 else 0
def C5(t:List UInt8):Option Nat:=
 if t.length<=2/\t.all (fun c=>Dp c.toNat) then some (t.foldl (fun n c=>10*n+(c.toNat-48)) 0) else none
def EX(ts:List Tok)(a:Nat):Option Nat:=match ts[a]? with
 |some t=>if t.kind=1 then C5 t.text else none
 |none=>none
def LC:Nat->Ex->Ex
 |0,x=>x
 |n+1,x=>LC n (.un 5 0 x)
def CZ(p:Nat->Option Ex × Nat)(ts:List Tok)(a:Nat):Option Ex × Nat:=match ts[a]? with
 |none=>(none,a)
 |some t=>
  if t.kind=3 then
   (if t.text=[40] then (match p (a+1) with
    |(none,b)=>(none,b)
    |(some x,b)=>if isS ts b [41] then (some x,b+1) else (none,b))
   else (none,a))
  else if t.kind=1 then (some (.leaf 1 t.text),a+1)
  else if By t.text≠0 then
   (if isS ts (a+1) [40] then (match p (a+2) with
    |(none,b)=>(none,b)
    |(some x,b)=>if isS ts b [41] then (some (.un (By t.text) 0 x),b+1) else (none,b))
   else (none,a+1))
  else if t.text=[112,105] then (some (.leaf 3 []),a+1)
  else if t.text=[101] then (some (.leaf 4 []),a+1)
  else (some (.leaf 2 t.text),a+1)
def AQ(p:Nat->Option Ex × Nat)(ts:List Tok)(a:Nat):Option Ex × Nat:=match CZ p ts a with
 |(none,b)=>(none,b)
 |(some x,b)=>
  if isS ts b [94] then
   (if isS ts (b+1) [45] then
    (match EX ts (b+2) with
     |some n=>(some (.un 10 (-(n:Int)) x),b+3)
     |none=>(none,b+2))
   else (match EX ts (b+1) with
     |some n=>(some (.un 10 (n:Int) x),b+2)
     |none=>(none,b+1)))
  else (some x,b)
def BL(p:Nat->Option Ex × Nat)(ts:List Tok)(a:Nat):Option Ex × Nat:=
 match AQ p ts (a+Ba ts ts.length a) with
 |(none,b)=>(none,b)
 |(some x,b)=>(some (LC (Ba ts ts.length a) x),b)
def BE(op:Nat->Option Ex × Nat)(ts:List Tok)(c1 c2:List UInt8)(k1 k2:Nat):Nat->Ex->Nat->Option Ex × Nat
 |0,e,a=>(some e,a)
 |f+1,e,a=>
  if isS ts a c1 then (match op (a+1) with
   |(none,b)=>(none,b)
   |(some y,b)=>BE op ts c1 c2 k1 k2 f (.bin k1 e y) b)
  else if isS ts a c2 then (match op (a+1) with
   |(none,b)=>(none,b)
   |(some y,b)=>BE op ts c1 c2 k1 k2 f (.bin k2 e y) b)
  else (some e,a)
def Db(op:Nat->Option Ex × Nat)(ts:List Tok)(c1 c2:List UInt8)(k1 k2:Nat)(a:Nat):Option Ex × Nat:=match op a with
 |(none,b)=>(none,b)
 |(some x,b)=>BE op ts c1 c2 k1 k2 ts.length x b
def Gr(p:Nat->Option Ex × Nat)(ts:List Tok)(a:Nat):Option Ex × Nat:=Db (BL p ts) ts [42] [47] 8 9 a
def Bh(ts:List Tok):Nat->Nat->Option Ex × Nat
 |0,a=>(none,a)
 |f+1,a=>Db (Gr (Bh ts f) ts) ts [43] [45] 6 7 a
theorem Ct{ts:List Tok}{a:Nat}{c:List UInt8}(h:isS ts a c=true):a<ts.length:=by
 unfold isS at h;split at h
 ·rename_i t ht;exact(qai.1 ht).1
 ·cases h
def AW(ts:List Tok)(a:Nat)(r:Option Ex × Nat):Prop:=a<=ts.length->a<=r.2/\r.2<=ts.length/\∀x,r.1=some x->a+x.size<=r.2
theorem AW.none_{ts:List Tok}{a b:Nat}(h1:a<=ts.length->a<=b/\b<=ts.length):AW ts a (none,b):=fun h=>⟨(h1 h).1,(h1 h).2,fun x hx=>by cases hx⟩
theorem AW.some_{ts:List Tok}{a b:Nat}{x:Ex}(h1:a<=ts.length->b<=ts.length/\a+x.size<=b):AW ts a (some x,b):=fun h=>⟨by have:=h1 h;simp only;omega,(h1 h).1,fun y hy=>by
 have:x=y:=qaA hy;subst this;exact(h1 h).2⟩
theorem Jq{p:Nat->Option Ex × Nat}{ts:List Tok}(hp:∀a,AW ts a (p a))(a:Nat):AW ts a (CZ p ts a):=by
 unfold CZ;split
 ·exact AW.none_ (fun h=>⟨qad _,h⟩)
 ·rename_i t ht;have hl:=(qai.1 ht).1;split
  ·split
   ·have h1:=hp (a+1) (by omega);split
    ·rename_i b hb;rw[hb]at h1;exact AW.none_ (fun _=>⟨by have:=h1.1;simp only at this;omega,h1.2.1⟩)
    ·rename_i x b hb;rw[hb]at h1;have h2:=h1.2.2 x rfl;simp only at h1 h2;split
     ·rename_i hs;have:=Ct hs;exact AW.some_ (fun _=>⟨by omega,by omega⟩)
     ·exact AW.none_ (fun _=>⟨by omega,by omega⟩)
   ·exact AW.none_ (fun h=>⟨qad _,h⟩)
  ·split
   ·exact AW.some_ (fun _=>⟨by omega,by simp[Ex.size]⟩)
   ·split
    ·split
     ·rename_i hs;have hl2:=Ct hs;have h1:=hp (a+2) (by omega);split
      ·rename_i b hb;rw[hb]at h1;exact AW.none_ (fun _=>⟨by have:=h1.1;simp only at this;omega,h1.2.1⟩)
      ·rename_i x b hb;rw[hb]at h1;have h2:=h1.2.2 x rfl;simp only at h1 h2;split
       ·rename_i cn;have:=Ct cn;exact AW.some_ (fun _=>⟨by omega,by rw[Ex.size];omega⟩)
       ·exact AW.none_ (fun _=>⟨by omega,by omega⟩)
     ·exact AW.none_ (fun _=>⟨by omega,by omega⟩)
    ·split
     ·exact AW.some_ (fun _=>⟨by omega,by simp[Ex.size]⟩)
     ·split
      ·exact AW.some_ (fun _=>⟨by omega,by simp[Ex.size]⟩)
      ·exact AW.some_ (fun _=>⟨by omega,by simp[Ex.size]⟩)
theorem Pr{ts:List Tok}{a n:Nat}(h:EX ts a=some n):a<ts.length:=by
 unfold EX at h;split at h
 ·rename_i t ht;exact(qai.1 ht).1
 ·cases h
theorem MA{p:Nat->Option Ex × Nat}{ts:List Tok}(hp:∀a,AW ts a (p a))(a:Nat):AW ts a (AQ p ts a):=by
 intro ha;have h1:=Jq hp a ha
 revert ha
 show AW ts a (AQ p ts a);unfold AQ;split
 ·rename_i b hb;rw[hb]at h1;exact AW.none_ (fun _=>⟨h1.1,h1.2.1⟩)
 ·rename_i x b hb;rw[hb]at h1;have h2:=h1.2.2 x rfl;simp only at h1 h2;split
  ·rename_i hs;have hl:=Ct hs;split
   ·rename_i cn;have hl2:=Ct cn;split
    ·rename_i n hn;have:=Pr hn;exact AW.some_ (fun _=>⟨by omega,by rw[Ex.size];omega⟩)
    ·exact AW.none_ (fun _=>⟨by omega,by omega⟩)
   ·split
    ·rename_i n hn;have:=Pr hn;exact AW.some_ (fun _=>⟨by omega,by rw[Ex.size];omega⟩)
    ·exact AW.none_ (fun _=>⟨by omega,by omega⟩)
  ·exact AW.some_ (fun _=>⟨by omega,by omega⟩)
theorem MM(ts:List Tok):∀(f a:Nat),a<=ts.length->a+Ba ts f a<=ts.length:=by
 intro f
 induction f with
 |zero=>intro a h;exact h
 |succ f ih=>
  intro a h;unfold Ba;split
  ·rename_i hs;have:=ih (a+1) (Ct hs);omega
  ·omega
theorem Qs(n:Nat):∀x:Ex,(LC n x).size=n+x.size:=by
 induction n with
 |zero=>intro x;simp[LC]
 |succ n ih=>intro x;rw[LC,ih,Ex.size];omega
theorem FN{p:Nat->Option Ex × Nat}{ts:List Tok}(hp:∀a,AW ts a (p a))(a:Nat):AW ts a (BL p ts a):=by
 intro ha;have h0:=MM ts ts.length a ha;have h1:=MA hp (a+Ba ts ts.length a) h0
 revert ha
 show AW ts a (BL p ts a);unfold BL;split
 ·rename_i b hb;rw[hb]at h1;exact AW.none_ (fun _=>⟨by have:=h1.1;simp only at this;omega,h1.2.1⟩)
 ·rename_i x b hb;rw[hb]at h1;have h2:=h1.2.2 x rfl;simp only at h1 h2;exact AW.some_ (fun _=>⟨by omega,by rw[Qs];omega⟩)
theorem LR{op:Nat->Option Ex × Nat}{ts:List Tok}{c1 c2:List UInt8}{k1 k2:Nat}(ho:∀a,AW ts a (op a))(a0:Nat):∀(f:Nat) (e:Ex) (a:Nat),a<=ts.length->a0+e.size<=a->AW ts a0 (BE op ts c1 c2 k1 k2 f e a):=by
 intro f
 induction f with
 |zero=>intro e a h1 h2;exact AW.some_ (fun _=>⟨h1,h2⟩)
 |succ f ih=>
  intro e a h1 h2;unfold BE;split
  ·rename_i hs;have hl:=Ct hs;have h3:=ho (a+1) hl;split
   ·rename_i b hb;rw[hb]at h3;simp only at h3;exact AW.none_ (fun _=>⟨by omega,h3.2.1⟩)
   ·rename_i y b hb;rw[hb]at h3;have h4:=h3.2.2 y rfl;simp only at h3 h4;exact ih _ _ h3.2.1 (by rw[Ex.size];omega)
  ·split
   ·rename_i hs;have hl:=Ct hs;have h3:=ho (a+1) hl;split
    ·rename_i b hb;rw[hb]at h3;simp only at h3;exact AW.none_ (fun _=>⟨by omega,h3.2.1⟩)
    ·rename_i y b hb;rw[hb]at h3;have h4:=h3.2.2 y rfl;simp only at h3 h4;exact ih _ _ h3.2.1 (by rw[Ex.size];omega)
   ·exact AW.some_ (fun _=>⟨h1,h2⟩)
theorem IB{op:Nat->Option Ex × Nat}{ts:List Tok}{c1 c2:List UInt8}{k1 k2:Nat}(ho:∀a,AW ts a (op a))(a:Nat):AW ts a (Db op ts c1 c2 k1 k2 a):=by
 intro ha;have h1:=ho a ha
 revert ha
 show AW ts a (Db op ts c1 c2 k1 k2 a);unfold Db;split
 ·rename_i b hb;rw[hb]at h1;exact AW.none_ (fun _=>⟨h1.1,h1.2.1⟩)
 ·rename_i x b hb;rw[hb]at h1;have h2:=h1.2.2 x rfl;simp only at h1 h2;exact LR ho a _ _ _ h1.2.1 h2
theorem Jo{p:Nat->Option Ex × Nat}{ts:List Tok}(hp:∀a,AW ts a (p a))(a:Nat):AW ts a (Gr p ts a):=IB (FN hp) a
theorem D5(ts:List Tok):∀(f a:Nat),AW ts a (Bh ts f a):=by
 intro f
 induction f with
 |zero=>intro a;exact AW.none_ (fun h=>⟨qad _,h⟩)
 |succ f ih=>intro a;exact IB (Jo ih) a
open Go.RowKit
def IJ(g:Nat)(w:World)(v:Value)(ts:List Tok):Prop:=
 ∃A c,v= .slice A ts.length c/\(0<ts.length->∃b,A=some ⟨b,0,none⟩/\b<g/\b<w.heap.size/\∀i (hi:i<ts.length),w.cell? ⟨b,i*3,none⟩=some (.int .i64 (ts[i].kind:Int))/\w.cell? ⟨b,i*3+1,none⟩=some (.int .i64 (ts[i].at_:Int))/\w.cell? ⟨b,i*3+2,none⟩=some (str ts[i].text))
theorem IJ.of{w:World}{v:Value}{ts:List Tok}(h:GJ w v ts):IJ w.heap.size w v ts:=by
 obtain⟨A,c,rfl,h1⟩:=h.cells;refine⟨A,c,rfl,fun hp=> ?_⟩;obtain⟨b,rfl,h2⟩:=h1 hp;have hb:=World.block_lt_of_cell? w _ (h2 0 hp).1;exact⟨b,rfl,hb,hb,h2⟩
theorem IJ.below{g:Nat}{w w':World}{v:Value}{ts:List Tok}(h:IJ g w v ts)(hb:Below g w w'):IJ g w' v ts:=by
 obtain⟨A,c,rfl,h1⟩:=h;refine⟨A,c,rfl,fun hp=> ?_⟩;obtain⟨b,rfl,h2,h3,h4⟩:=h1 hp;refine⟨b,rfl,h2,qaj h3 hb.size,fun i hi=> ?_⟩;have hk:∀o,w'.cell? ⟨b,o,none⟩=w.cell? ⟨b,o,none⟩:=fun o=>World.cell?_of_block (a:=⟨b,o,none⟩) (hb.block b h2)
 rw[hk,hk,hk];exact h4 i hi
structure KR (g:Nat) (nv nv':Value) (w w':World):Prop where
 os:w'.os=w.os
 tape:w'.tape=w.tape
 output:w'.output=w.output
 size:w.heap.size<=w'.heap.size
 block:∀k,k<w.heap.size->k≠g->nv.ownBlock≠some k->w'.heap[k]? =w.heap[k]?
 move:∀j,nv'.ownBlock=some j->nv.ownBlock=some j\/w.heap.size<=j
theorem KR.of_ext{g:Nat}{nv:Value}{w w':World}(h:Ext w w'):KR g nv nv w w':=⟨h.os,h.tape,h.output,h.size,fun k hk _ _=>h.block k hk,fun _ hj=> .inl hj⟩
theorem KR.trans{g:Nat}{n1 n2 n3:Value}{w1 w2 w3:World}(h:KR g n1 n2 w1 w2)(k:KR g n2 n3 w2 w3):KR g n1 n3 w1 w3:=
 ⟨k.os.trans h.os,k.tape.trans h.tape,k.output.trans h.output,qaf h.size k.size,fun i h1 h2 h3=>
  (k.block i (qaj h1 h.size) h2 (fun e=>by
   rcases h.move i e with h4|h4
   ·exact h3 h4
   ·omega)).trans (h.block i h1 h2 h3),fun j hj=>by
  rcases k.move j hj with h4|h4
  ·exact h.move j h4
  ·exact .inr (qaf h.size h4)⟩
theorem KR.blk{g b:Nat}{n1 n2:Value}{w w':World}{t:TypeId}{cs:Array Value}(h:KR g n1 n2 w w')(hb:Blk w b t cs)(h1:b≠g)(h2:n1.ownBlock≠some b):Blk w' b t cs:=(h.block b hb.lt h1 h2).trans hb
theorem KR.below{g:Nat}{n1 n2:Value}{w w':World}{ns:List Nd}(h:KR g n1 n2 w w')(hr:Ai (g+1) w n1 ns)(hg:g<=w.heap.size):Below g w w':=
 ⟨h.os,h.tape,h.output,h.size,fun k hk=>h.block k (by omega) (by omega) (fun e=>by have:=Ay hr k e;omega)⟩
theorem Blk.three'{w:World}{g:Nat}{t:TypeId}{a b c:Value}(h:Blk w g t #[a,b,c]):w.cell? ⟨g,0,none⟩=some a/\w.cell? ⟨g,1,none⟩=some b/\w.cell? ⟨g,2,none⟩=some c/\w.frozen? ⟨g,0,none⟩=false/\w.frozen? ⟨g,1,none⟩=false/\w.frozen? ⟨g,2,none⟩=false/\g<w.heap.size:=
 ⟨h.cell 0,h.cell 1,h.cell 2,h.frozen 0,h.frozen 1,h.frozen 2,h.lt⟩
def ktT(t:Tok):Nat × List UInt8:=(t.kind,t.text)
def KP(b:Bool)(l:List (Nat × List UInt8)):List (Nat × List UInt8):=if b then (3,[40])::(l++[(3,[41])]) else l
def Ul(k:Nat):List UInt8:=if k=6 then [43] else if k=7 then [45] else if k=8 then [42] else [47]
def KN(n:Int):List (Nat × List UInt8):=if n<0 then [(3,[45]),(1,dec n.natAbs)] else [(1,dec n.natAbs)]
def KE:Ex->List (Nat × List UInt8)
 | .leaf k t=>if k=3 then [(2,[112,105])] else if k=4 then [(2,[101])] else [(k,t)]
 | .un k n x=>if k=5 then (3,[45])::KP (decide (Aw x.kind<3)) (KE x)
   else if k=10 then KP (decide (Aw x.kind<5)) (KE x)++((3,[94])::KN n)
   else (2,Pq k)::(3,[40])::(KE x++[(3,[41])])
 | .bin k x y=>KP (decide (Aw x.kind<Aw k)) (KE x)++((3,Ul k)::KP (decide (Aw y.kind<Aw k+1)) (KE y))
def MT(ts:List Tok):Nat->List (Nat × List UInt8)->Prop
 |_,[]=>True
 |a,x::l=>(ts[a]?).map ktT=some x/\MT ts (a+1) l
theorem MT.is{ts:List Tok}{a:Nat}{k:Nat}{t:List UInt8}{l:List (Nat × List UInt8)}(h:MT ts a ((k,t)::l))(c:List UInt8):isS ts a c=(k == 3 && t == c):=by
 have h1:=h.1;unfold isS;cases ht:ts[a]? with
 |none=>rw[ht]at h1;cases h1
 |some x=>
  rw[ht]at h1;have h2:ktT x=(k,t):=qaA h1;injection h2 with h3 h4
  simp only[h3,h4]
theorem MT.tok{ts:List Tok}{a:Nat}{k:Nat}{t:List UInt8}{l:List (Nat × List UInt8)}(h:MT ts a ((k,t)::l)):∃x,ts[a]? =some x/\x.kind=k/\x.text=t:=by
 have h1:=h.1;cases ht:ts[a]? with
 |none=>rw[ht]at h1;cases h1
 |some x=>
  rw[ht]at h1;have h2:ktT x=(k,t):=qaA h1;injection h2 with h3 h4
  exact⟨x,rfl,h3,h4⟩
section
variable {ts:List Tok} {p:Nat->Option Ex × Nat} {a b:Nat} {x:Ex}
theorem TJ(h:CZ p ts a=(some x,b))(hn:isS ts b [94]=false):AQ p ts a=(some x,b):=by
 unfold AQ;rw[h];simp only;rw[if_neg (by rw[hn];simp)]
theorem C2(f:Nat)(h:isS ts a [45]=false):Ba ts f a=0:=by
 cases f with
 |zero=>rfl
 |succ f=>unfold Ba;rw[if_neg (by rw[h];simp)]
theorem Kl:∀(f g a:Nat),ts.length<=a+f->ts.length<=a+g->Ba ts f a=Ba ts g a:=by
 intro f
 induction f with
 |zero=>
  intro g a h1 h2;have:isS ts a [45]=false:=by
   cases hs:isS ts a [45] with
   |false=>rfl
   |true=>have:=Ct hs;omega
  rw[C2 _ this,C2 _ this]
 |succ f ih=>
  intro g a h1 h2;cases hs:isS ts a [45] with
  |false=>rw[C2 _ hs,C2 _ hs]
  |true=>
   have hl:=Ct hs;obtain⟨g',rfl⟩:∃g',g=g'+1:=⟨g-1,by omega⟩;rw[Ba,Ba,if_pos hs,if_pos hs,ih g' (a+1) (by omega) (by omega)]
theorem Qr(n:Nat):∀x:Ex,LC (n+1) x= .un 5 0 (LC n x):=by
 induction n with
 |zero=>intro x;rfl
 |succ n ih=>intro x;rw[LC,ih];rfl
theorem Hb{op:Nat->Option Ex × Nat}{c1 c2:List UInt8}{k1 k2:Nat}(f:Nat)(h1:isS ts a c1=false)(h2:isS ts a c2=false):BE op ts c1 c2 k1 k2 f x a=(some x,a):=by
 cases f with
 |zero=>rfl
 |succ f=>unfold BE;rw[if_neg (by rw[h1];simp),if_neg (by rw[h2];simp)]
end
structure RD (ts:List Tok) (e:Ex) (f a:Nat):Prop where
 atom:5<=Aw e.kind->CZ (Bh ts f) ts a=(some e,a+(KE e).length)
 power:4<=Aw e.kind->isS ts (a+(KE e).length) [94]=false->AQ (Bh ts f) ts a=(some e,a+(KE e).length)
 minus:3<=Aw e.kind->isS ts (a+(KE e).length) [94]=false->BL (Bh ts f) ts a=(some e,a+(KE e).length)
 prod:2<=Aw e.kind->isS ts (a+(KE e).length) [94]=false->∃m,m<=(KE e).length/\Db (BL (Bh ts f) ts) ts [42] [47] 8 9 a=BE (BL (Bh ts f) ts) ts [42] [47] 8 9 (ts.length-m) e (a+(KE e).length)
 sum:isS ts (a+(KE e).length) [94]=false->isS ts (a+(KE e).length) [42]=false->isS ts (a+(KE e).length) [47]=false->
  ∃m,m<=(KE e).length/\Db (Gr (Bh ts f) ts) ts [43] [45] 6 7 a=BE (Gr (Bh ts f) ts) ts [43] [45] 6 7 (ts.length-m) e (a+(KE e).length)
theorem SB(off k:Nat)(x y:Ex):Ag off (.bin k x y)=(Ag off x++Ag (off+x.size) y)++[⟨(k:Int),((off+x.size-1:Nat):Int),((off+x.size+y.size-1:Nat):Int),0,[]⟩]:=by
 rw[Ag,qan]
theorem Bu{ns:List Nd}{x:Ex}:(ns++Ag ns.length x).length=ns.length+x.size:=by rw[qab,Ak]
theorem Blk.two'{w:World}{g:Nat}{t:TypeId}{a b:Value}(h:Blk w g t #[a,b]):w.cell? ⟨g,0,none⟩=some a/\w.cell? ⟨g,1,none⟩=some b:=⟨h.cell 0,h.cell 1⟩
def H7(op:Nat->Option Ex × Nat)(ts:List Tok)(s1 s2:List UInt8)(k1 k2 f k:Nat)(x:Ex):Option Ex × Nat->Option Ex × Nat
 |(none,b)=>(none,b)
 |(some y,b)=>BE op ts s1 s2 k1 k2 f (.bin k x y) b
theorem ID{op:Nat->Option Ex × Nat}{ts:List Tok}{s1 s2:List UInt8}{k1 k2 f b:Nat}{x:Ex}(hf:1<=f)(h:isS ts b s1=true):BE op ts s1 s2 k1 k2 f x b=H7 op ts s1 s2 k1 k2 (f-1) k1 x (op (b+1)):=by
 obtain⟨f',rfl⟩:∃f',f=f'+1:=⟨f-1,by omega⟩;rw[BE,if_pos h,qbE];rcases op (b+1) with ⟨_|y,b'⟩<;>rfl
theorem IC{op:Nat->Option Ex × Nat}{ts:List Tok}{s1 s2:List UInt8}{k1 k2 f b:Nat}{x:Ex}(hf:1<=f)(h1:isS ts b s1=false)(h:isS ts b s2=true):BE op ts s1 s2 k1 k2 f x b=H7 op ts s1 s2 k1 k2 (f-1) k2 x (op (b+1)):=by
 obtain⟨f',rfl⟩:∃f',f=f'+1:=⟨f-1,by omega⟩;rw[BE,if_neg (by rw[h1];simp),if_pos h,qbE];rcases op (b+1) with ⟨_|y,b'⟩<;>rfl
end Big
end Go.Proofs.YtkoaogkknnelaaaGreatDoor
