import Derived.Test.YtkoaogkknnelaaaGreatDoorM20
set_option linter.unusedVariables false
set_option linter.unusedSimpArgs false
namespace Go.Proofs.YtkoaogkknnelaaaGreatDoor
namespace Big
open Go.RowKit
theorem Gt.of{w:World}{B:Nat}{v:Value}{ts:List Tok}(h:w.ownsRow B 122 3 v ts.length (De ts)):Gt w v ts:=⟨B,h⟩
theorem Py(f:Nat)(l:List UInt8):∀(a:Nat) (ts:List Tok),ts.length<=a->(DP f l a ts).1.length<=a+f*(l.length+1):=by
 induction f with
 |zero=>intro a ts _;simp[DP]
 |succ f ih=>
  intro a ts h;rw[qaY,qbo];unfold DP;split
  ·simp;omega
  ·split
   ·have:=ih (a+1) ts (by omega);omega
   ·split
    ·simp
    ·rename_i k n ht;have h1:=EW ht;rw[qbn]at h1;have:=ih (a+n) (ts++[⟨k,a,(l.drop a).take n⟩]) (by rw[qac,qal];omega);omega
theorem Px(l:List UInt8):(Bm l).1.length<=1000000:=by
 unfold Bm;split
 ·simp
 ·have:=Py (l.length+1) l 0 [] (by simp);have h2:(l.length+1)*(l.length+1)<=401*401:=qcf (by omega) (by omega);omega
theorem Dr.ext{w w':World}(h:Dr w w'):Ext w w':=h.below w.heap.size
def isS(ts:List Tok)(a:Nat)(c:List UInt8):Bool:=match ts[a]? with
 |some t=>t.kind == 3 && t.text == c
 |none=>false
def Bg(ts:List Tok):Nat->Nat->Nat
 |0,_=>0
 |f+1,a=>if isS ts a [45] then Bg ts f (a+1)+1 else 0
def C5(t:List UInt8):Option Nat:=
 if t.length<=2/\t.all (fun c=>Dl c.toNat) then some (t.foldl (fun n c=>10*n+(c.toNat-48)) 0) else none
def ER(ts:List Tok)(a:Nat):Option Nat:=match ts[a]? with
 |some t=>if t.kind=1 then C5 t.text else none
 |none=>none
def Lz:Nat->Ex->Ex
 |0,x=>x
 |n+1,x=>Lz n (.un 5 0 x)
def C1(p:Nat->Option Ex × Nat)(ts:List Tok)(a:Nat):Option Ex × Nat:=match ts[a]? with
 |none=>(none,a)
 |some t=>
  if t.kind=3 then
   (if t.text=[40] then (match p (a+1) with
    |(none,b)=>(none,b)
    |(some x,b)=>if isS ts b [41] then (some x,b+1) else (none,b))
   else (none,a))
  else if t.kind=1 then (some (.leaf 1 t.text),a+1)
  else if BD t.text≠0 then
   (if isS ts (a+1) [40] then (match p (a+2) with
    |(none,b)=>(none,b)
    |(some x,b)=>if isS ts b [41] then (some (.un (BD t.text) 0 x),b+1) else (none,b))
   else (none,a+1))
  else if t.text=[112,105] then (some (.leaf 3 []),a+1)
  else if t.text=[101] then (some (.leaf 4 []),a+1)
  else (some (.leaf 2 t.text),a+1)
def Ba(p:Nat->Option Ex × Nat)(ts:List Tok)(a:Nat):Option Ex × Nat:=match C1 p ts a with
 |(none,b)=>(none,b)
 |(some x,b)=>
  if isS ts b [94] then
   (if isS ts (b+1) [45] then
    (match ER ts (b+2) with
     |some n=>(some (.un 10 (-(n:Int)) x),b+3)
     |none=>(none,b+2))
   else (match ER ts (b+1) with
     |some n=>(some (.un 10 (n:Int) x),b+2)
     |none=>(none,b+1)))
  else (some x,b)
def BQ(p:Nat->Option Ex × Nat)(ts:List Tok)(a:Nat):Option Ex × Nat:=
 match Ba p ts (a+Bg ts ts.length a) with
 |(none,b)=>(none,b)
 |(some x,b)=>(some (Lz (Bg ts ts.length a) x),b)
def BK(op:Nat->Option Ex × Nat)(ts:List Tok)(c1 c2:List UInt8)(k1 k2:Nat):Nat->Ex->Nat->Option Ex × Nat
 |0,e,a=>(some e,a)
 |f+1,e,a=>
  if isS ts a c1 then (match op (a+1) with
   |(none,b)=>(none,b)
   |(some y,b)=>BK op ts c1 c2 k1 k2 f (.bin k1 e y) b)
  else if isS ts a c2 then (match op (a+1) with
   |(none,b)=>(none,b)
   |(some y,b)=>BK op ts c1 c2 k1 k2 f (.bin k2 e y) b)
  else (some e,a)
def C8(op:Nat->Option Ex × Nat)(ts:List Tok)(c1 c2:List UInt8)(k1 k2:Nat)(a:Nat):Option Ex × Nat:=match op a with
 |(none,b)=>(none,b)
 |(some x,b)=>BK op ts c1 c2 k1 k2 ts.length x b
def F6(p:Nat->Option Ex × Nat)(ts:List Tok)(a:Nat):Option Ex × Nat:=C8 (BQ p ts) ts [42] [47] 8 9 a
def Bk(ts:List Tok):Nat->Nat->Option Ex × Nat
 |0,a=>(none,a)
 |f+1,a=>C8 (F6 (Bk ts f) ts) ts [43] [45] 6 7 a
theorem Cs{ts:List Tok}{a:Nat}{c:List UInt8}(h:isS ts a c=true):a<ts.length:=by
 unfold isS at h;split at h
 ·rename_i t ht;exact(qaB.1 ht).1
 ·cases h
def Bf(ts:List Tok)(a:Nat)(r:Option Ex × Nat):Prop:=a<=ts.length->a<=r.2/\r.2<=ts.length/\∀x,r.1=some x->a+x.size<=r.2
theorem Bf.none_{ts:List Tok}{a b:Nat}(h1:a<=ts.length->a<=b/\b<=ts.length):Bf ts a (none,b):=fun h=>⟨(h1 h).1,(h1 h).2,fun x hx=>by cases hx⟩
theorem Bf.some_{ts:List Tok}{a b:Nat}{x:Ex}(h1:a<=ts.length->b<=ts.length/\a+x.size<=b):Bf ts a (some x,b):=fun h=>⟨by have:=h1 h;simp only;omega,(h1 h).1,fun y hy=>by
 have:x=y:=qbh hy;subst this;exact(h1 h).2⟩
theorem JD{p:Nat->Option Ex × Nat}{ts:List Tok}(hp:∀a,Bf ts a (p a))(a:Nat):Bf ts a (C1 p ts a):=by
 unfold C1;split
 ·exact Bf.none_ (fun h=>⟨qab _,h⟩)
 ·rename_i t ht;have hl:=(qaB.1 ht).1;split
  ·split
   ·have h1:=hp (a+1) (by omega);split
    ·rename_i b hb;rw[hb]at h1;exact Bf.none_ (fun _=>⟨by have:=h1.1;simp only at this;omega,h1.2.1⟩)
    ·rename_i x b hb;rw[hb]at h1;have h2:=h1.2.2 x rfl;simp only at h1 h2;split
     ·rename_i hs;have:=Cs hs;exact Bf.some_ (fun _=>⟨by omega,by omega⟩)
     ·exact Bf.none_ (fun _=>⟨by omega,by omega⟩)
   ·exact Bf.none_ (fun h=>⟨qab _,h⟩)
  ·split
   ·exact Bf.some_ (fun _=>⟨by omega,by simp[Ex.size]⟩)
   ·split
    ·split
     ·rename_i hs;have hl2:=Cs hs;have h1:=hp (a+2) (by omega);split
      ·rename_i b hb;rw[hb]at h1;exact Bf.none_ (fun _=>⟨by have:=h1.1;simp only at this;omega,h1.2.1⟩)
      ·rename_i x b hb;rw[hb]at h1;have h2:=h1.2.2 x rfl;simp only at h1 h2;split
       ·rename_i jI;have:=Cs jI;exact Bf.some_ (fun _=>⟨by omega,by rw[Ex.size];omega⟩)
       ·exact Bf.none_ (fun _=>⟨by omega,by omega⟩)
     ·exact Bf.none_ (fun _=>⟨by omega,by omega⟩)
    ·split
     ·exact Bf.some_ (fun _=>⟨by omega,by simp[Ex.size]⟩)
     ·split
      ·exact Bf.some_ (fun _=>⟨by omega,by simp[Ex.size]⟩)
      ·exact Bf.some_ (fun _=>⟨by omega,by simp[Ex.size]⟩)
theorem O5{ts:List Tok}{a n:Nat}(h:ER ts a=some n):a<ts.length:=by
 unfold ER at h;split at h
 ·rename_i t ht;exact(qaB.1 ht).1
 ·cases h
theorem Mp{p:Nat->Option Ex × Nat}{ts:List Tok}(hp:∀a,Bf ts a (p a))(a:Nat):Bf ts a (Ba p ts a):=by
 intro ha;have h1:=JD hp a ha
 revert ha
 show Bf ts a (Ba p ts a);unfold Ba;split
 ·rename_i b hb;rw[hb]at h1;exact Bf.none_ (fun _=>⟨h1.1,h1.2.1⟩)
 ·rename_i x b hb;rw[hb]at h1;have h2:=h1.2.2 x rfl;simp only at h1 h2;split
  ·rename_i hs;have hl:=Cs hs;split
   ·rename_i jI;have hl2:=Cs jI;split
    ·rename_i n hn;have:=O5 hn;exact Bf.some_ (fun _=>⟨by omega,by rw[Ex.size];omega⟩)
    ·exact Bf.none_ (fun _=>⟨by omega,by omega⟩)
   ·split
    ·rename_i n hn;have:=O5 hn;exact Bf.some_ (fun _=>⟨by omega,by rw[Ex.size];omega⟩)
    ·exact Bf.none_ (fun _=>⟨by omega,by omega⟩)
  ·exact Bf.some_ (fun _=>⟨by omega,by omega⟩)
theorem MB(ts:List Tok):∀(f a:Nat),a<=ts.length->a+Bg ts f a<=ts.length:=by
 intro f
 induction f with
 |zero=>intro a h;exact h
 |succ f ih=>
  intro a h;unfold Bg;split
  ·rename_i hs;have:=ih (a+1) (Cs hs);omega
  ·omega
theorem Qf(n:Nat):∀x:Ex,(Lz n x).size=n+x.size:=by
 induction n with
 |zero=>intro x;simp[Lz]
 |succ n ih=>intro x;rw[Lz,ih,Ex.size];omega
theorem Fy{p:Nat->Option Ex × Nat}{ts:List Tok}(hp:∀a,Bf ts a (p a))(a:Nat):Bf ts a (BQ p ts a):=by
 intro ha;have h0:=MB ts ts.length a ha;have h1:=Mp hp (a+Bg ts ts.length a) h0
 revert ha
 show Bf ts a (BQ p ts a);unfold BQ;split
 ·rename_i b hb;rw[hb]at h1;exact Bf.none_ (fun _=>⟨by have:=h1.1;simp only at this;omega,h1.2.1⟩)
 ·rename_i x b hb;rw[hb]at h1;have h2:=h1.2.2 x rfl;simp only at h1 h2;exact Bf.some_ (fun _=>⟨by omega,by rw[Qf];omega⟩)
theorem LN{op:Nat->Option Ex × Nat}{ts:List Tok}{c1 c2:List UInt8}{k1 k2:Nat}(ho:∀a,Bf ts a (op a))(a0:Nat):∀(f:Nat) (e:Ex) (a:Nat),a<=ts.length->a0+e.size<=a->Bf ts a0 (BK op ts c1 c2 k1 k2 f e a):=by
 intro f
 induction f with
 |zero=>intro e a h1 h2;exact Bf.some_ (fun _=>⟨h1,h2⟩)
 |succ f ih=>
  intro e a h1 h2;unfold BK;split
  ·rename_i hs;have hl:=Cs hs;have h3:=ho (a+1) hl;split
   ·rename_i b hb;rw[hb]at h3;simp only at h3;exact Bf.none_ (fun _=>⟨by omega,h3.2.1⟩)
   ·rename_i y b hb;rw[hb]at h3;have h4:=h3.2.2 y rfl;simp only at h3 h4;exact ih _ _ h3.2.1 (by rw[Ex.size];omega)
  ·split
   ·rename_i hs;have hl:=Cs hs;have h3:=ho (a+1) hl;split
    ·rename_i b hb;rw[hb]at h3;simp only at h3;exact Bf.none_ (fun _=>⟨by omega,h3.2.1⟩)
    ·rename_i y b hb;rw[hb]at h3;have h4:=h3.2.2 y rfl;simp only at h3 h4;exact ih _ _ h3.2.1 (by rw[Ex.size];omega)
   ·exact Bf.some_ (fun _=>⟨h1,h2⟩)
theorem IJ{op:Nat->Option Ex × Nat}{ts:List Tok}{c1 c2:List UInt8}{k1 k2:Nat}(ho:∀a,Bf ts a (op a))(a:Nat):Bf ts a (C8 op ts c1 c2 k1 k2 a):=by
 intro ha;have h1:=ho a ha
 revert ha
 show Bf ts a (C8 op ts c1 c2 k1 k2 a);unfold C8;split
 ·rename_i b hb;rw[hb]at h1;exact Bf.none_ (fun _=>⟨h1.1,h1.2.1⟩)
 ·rename_i x b hb;rw[hb]at h1;have h2:=h1.2.2 x rfl;simp only at h1 h2;exact LN ho a _ _ _ h1.2.1 h2
theorem JB{p:Nat->Option Ex × Nat}{ts:List Tok}(hp:∀a,Bf ts a (p a))(a:Nat):Bf ts a (F6 p ts a):=IJ (Fy hp) a
theorem D4(ts:List Tok):∀(f a:Nat),Bf ts a (Bk ts f a):=by
 intro f
 induction f with
 |zero=>intro a;exact Bf.none_ (fun h=>⟨qab _,h⟩)
 |succ f ih=>intro a;exact IJ (JB ih) a
def IQ(g:Nat)(w:World)(v:Value)(ts:List Tok):Prop:=
 ∃A c,v= .slice A ts.length c/\(0<ts.length->∃b,A=some ⟨b,0,none⟩/\b<g/\b<w.heap.size/\∀i (hi:i<ts.length),w.cell? ⟨b,i*3,none⟩=some (.int .i64 (ts[i].kind:Int))/\w.cell? ⟨b,i*3+1,none⟩=some (.int .i64 (ts[i].at_:Int))/\w.cell? ⟨b,i*3+2,none⟩=some (str ts[i].text))
theorem IQ.of{w:World}{v:Value}{ts:List Tok}(h:Gt w v ts):IQ w.heap.size w v ts:=by
 obtain⟨A,c,rfl,h1⟩:=h.cells;refine⟨A,c,rfl,fun hp=> ?_⟩;obtain⟨b,rfl,h2⟩:=h1 hp;have hb:=World.block_lt_of_cell? w _ (h2 0 hp).1;exact⟨b,rfl,hb,hb,h2⟩
theorem IQ.below{g:Nat}{w w':World}{v:Value}{ts:List Tok}(h:IQ g w v ts)(hb:Below g w w'):IQ g w' v ts:=by
 obtain⟨A,c,rfl,h1⟩:=h;refine⟨A,c,rfl,fun hp=> ?_⟩;obtain⟨b,rfl,h2,h3,h4⟩:=h1 hp;refine⟨b,rfl,h2,qan h3 hb.size,fun i hi=> ?_⟩;have hk:∀o,w'.cell? ⟨b,o,none⟩=w.cell? ⟨b,o,none⟩:=fun o=>World.cell?_of_block (a:=⟨b,o,none⟩) (hb.block b h2)
 rw[hk,hk,hk];exact h4 i hi
structure KR (g:Nat) (nv nv':Value) (w w':World):Prop where
 os:w'.os=w.os
 tape:w'.tape=w.tape
 output:w'.output=w.output
 size:w.heap.size<=w'.heap.size
 block:∀k,k<w.heap.size->k≠g->nv.ownBlock≠some k->w'.heap[k]? =w.heap[k]?
 move:∀j,nv'.ownBlock=some j->nv.ownBlock=some j\/w.heap.size<=j
theorem KR.of_ext{g:Nat}{nv:Value}{w w':World}(h:Ext w w'):KR g nv nv w w':=⟨h.os,h.tape,h.output,h.size,fun k hk _ _=>h.block k hk,fun _ hj=> .inl hj⟩
theorem KR.trans{g:Nat}{n1 n2 n3:Value}{w1 w2 w3:World}(h:KR g n1 n2 w1 w2)(k:KR g n2 n3 w2 w3):KR g n1 n3 w1 w3:=
 ⟨k.os.trans h.os,k.tape.trans h.tape,k.output.trans h.output,qae h.size k.size,fun i h1 h2 h3=>
  (k.block i (qan h1 h.size) h2 (fun e=>by
   rcases h.move i e with h4|h4
   ·exact h3 h4
   ·omega)).trans (h.block i h1 h2 h3),fun j hj=>by
  rcases k.move j hj with h4|h4
  ·exact h.move j h4
  ·exact .inr (qae h.size h4)⟩
theorem KR.blk{g b:Nat}{n1 n2:Value}{w w':World}{t:TypeId}{cs:Array Value}(h:KR g n1 n2 w w')(hb:Blk w b t cs)(h1:b≠g)(h2:n1.ownBlock≠some b):Blk w' b t cs:=(h.block b hb.lt h1 h2).trans hb
theorem KR.below{g:Nat}{n1 n2:Value}{w w':World}{ns:List Nd}(h:KR g n1 n2 w w')(hr:AB (g+1) w n1 ns)(hg:g<=w.heap.size):Below g w w':=
 ⟨h.os,h.tape,h.output,h.size,fun k hk=>h.block k (by omega) (by omega) (fun e=>by have:=AQ hr k e;omega)⟩
theorem Blk.three'{w:World}{g:Nat}{t:TypeId}{a b c:Value}(h:Blk w g t #[a,b,c]):w.cell? ⟨g,0,none⟩=some a/\w.cell? ⟨g,1,none⟩=some b/\w.cell? ⟨g,2,none⟩=some c/\w.frozen? ⟨g,0,none⟩=false/\w.frozen? ⟨g,1,none⟩=false/\w.frozen? ⟨g,2,none⟩=false/\g<w.heap.size:=
 ⟨h.cell 0,h.cell 1,h.cell 2,h.frozen 0,h.frozen 1,h.frozen 2,h.lt⟩
end Big
end Go.Proofs.YtkoaogkknnelaaaGreatDoor
