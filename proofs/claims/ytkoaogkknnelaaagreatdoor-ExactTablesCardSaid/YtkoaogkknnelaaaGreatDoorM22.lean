import Derived.Test.YtkoaogkknnelaaaGreatDoorM21
set_option linter.unusedVariables false
set_option linter.unusedSimpArgs false
namespace Go.Proofs.YtkoaogkknnelaaaGreatDoor
namespace Big
def ktT(t:Tok):Nat × List UInt8:=(t.kind,t.text)
def KP(b:Bool)(l:List (Nat × List UInt8)):List (Nat × List UInt8):=if b then (3,[40])::(l++[(3,[41])]) else l
def Vi(k:Nat):List UInt8:=if k=6 then [43] else if k=7 then [45] else if k=8 then [42] else [47]
def KN(n:Int):List (Nat × List UInt8):=if n<0 then [(3,[45]),(1,dec n.natAbs)] else [(1,dec n.natAbs)]
def KE:Ex->List (Nat × List UInt8)
 | .leaf k t=>if k=3 then [(2,[112,105])] else if k=4 then [(2,[101])] else [(k,t)]
 | .un k n x=>if k=5 then (3,[45])::KP (decide (EE x.kind<3)) (KE x)
   else if k=10 then KP (decide (EE x.kind<5)) (KE x)++((3,[94])::KN n)
   else (2,U2 k)::(3,[40])::(KE x++[(3,[41])])
 | .bin k x y=>KP (decide (EE x.kind<EE k)) (KE x)++((3,Vi k)::KP (decide (EE y.kind<EE k+1)) (KE y))
def MT(ts:List Tok):Nat->List (Nat × List UInt8)->Prop
 |_,[]=>True
 |a,x::l=>(ts[a]?).map ktT=some x/\MT ts (a+1) l
theorem MT.is{ts:List Tok}{a:Nat}{k:Nat}{t:List UInt8}{l:List (Nat × List UInt8)}(h:MT ts a ((k,t)::l))(c:List UInt8):isS ts a c=(k == 3 && t == c):=by
 have h1:=h.1;unfold isS;cases ht:ts[a]? with
 |none=>rw[ht]at h1;cases h1
 |some x=>
  rw[ht]at h1;have h2:ktT x=(k,t):=qbh h1;injection h2 with h3 h4
  simp only[h3,h4]
theorem MT.tok{ts:List Tok}{a:Nat}{k:Nat}{t:List UInt8}{l:List (Nat × List UInt8)}(h:MT ts a ((k,t)::l)):∃x,ts[a]? =some x/\x.kind=k/\x.text=t:=by
 have h1:=h.1;cases ht:ts[a]? with
 |none=>rw[ht]at h1;cases h1
 |some x=>
  rw[ht]at h1;have h2:ktT x=(k,t):=qbh h1;injection h2 with h3 h4
  exact⟨x,rfl,h3,h4⟩
section
variable {ts:List Tok} {p:Nat->Option Ex × Nat} {a b:Nat} {x:Ex}
theorem T5(h:C1 p ts a=(some x,b))(hn:isS ts b [94]=false):Ba p ts a=(some x,b):=by
 unfold Ba;rw[h];simp only;rw[if_neg (by rw[hn];simp)]
theorem C2(f:Nat)(h:isS ts a [45]=false):Bg ts f a=0:=by
 cases f with
 |zero=>rfl
 |succ f=>unfold Bg;rw[if_neg (by rw[h];simp)]
theorem Kl:∀(f g a:Nat),ts.length<=a+f->ts.length<=a+g->Bg ts f a=Bg ts g a:=by
 intro f
 induction f with
 |zero=>
  intro g a h1 h2;have:isS ts a [45]=false:=by
   cases hs:isS ts a [45] with
   |false=>rfl
   |true=>have:=Cs hs;omega
  rw[C2 _ this,C2 _ this]
 |succ f ih=>
  intro g a h1 h2;cases hs:isS ts a [45] with
  |false=>rw[C2 _ hs,C2 _ hs]
  |true=>
   have hl:=Cs hs;obtain⟨g',rfl⟩:∃g',g=g'+1:=⟨g-1,by omega⟩;rw[Bg,Bg,if_pos hs,if_pos hs,ih g' (a+1) (by omega) (by omega)]
theorem Qe(n:Nat):∀x:Ex,Lz (n+1) x= .un 5 0 (Lz n x):=by
 induction n with
 |zero=>intro x;rfl
 |succ n ih=>intro x;rw[Lz,ih];rfl
theorem Hf{op:Nat->Option Ex × Nat}{c1 c2:List UInt8}{k1 k2:Nat}(f:Nat)(h1:isS ts a c1=false)(h2:isS ts a c2=false):BK op ts c1 c2 k1 k2 f x a=(some x,a):=by
 cases f with
 |zero=>rfl
 |succ f=>unfold BK;rw[if_neg (by rw[h1];simp),if_neg (by rw[h2];simp)]
end
structure RD (ts:List Tok) (e:Ex) (f a:Nat):Prop where
 atom:5<=EE e.kind->C1 (Bk ts f) ts a=(some e,a+(KE e).length)
 power:4<=EE e.kind->isS ts (a+(KE e).length) [94]=false->Ba (Bk ts f) ts a=(some e,a+(KE e).length)
 minus:3<=EE e.kind->isS ts (a+(KE e).length) [94]=false->BQ (Bk ts f) ts a=(some e,a+(KE e).length)
 prod:2<=EE e.kind->isS ts (a+(KE e).length) [94]=false->∃m,m<=(KE e).length/\C8 (BQ (Bk ts f) ts) ts [42] [47] 8 9 a=BK (BQ (Bk ts f) ts) ts [42] [47] 8 9 (ts.length-m) e (a+(KE e).length)
 sum:isS ts (a+(KE e).length) [94]=false->isS ts (a+(KE e).length) [42]=false->isS ts (a+(KE e).length) [47]=false->
  ∃m,m<=(KE e).length/\C8 (F6 (Bk ts f) ts) ts [43] [45] 6 7 a=BK (F6 (Bk ts f) ts) ts [43] [45] 6 7 (ts.length-m) e (a+(KE e).length)
open Go.RowKit
theorem SA(off k:Nat)(x y:Ex):Ak off (.bin k x y)=(Ak off x++Ak (off+x.size) y)++[⟨(k:Int),((off+x.size-1:Nat):Int),((off+x.size+y.size-1:Nat):Int),0,[]⟩]:=by
 rw[Ak,qao]
theorem BC{ns:List Nd}{x:Ex}:(ns++Ak ns.length x).length=ns.length+x.size:=by rw[qac,AD]
theorem Blk.two'{w:World}{g:Nat}{t:TypeId}{a b:Value}(h:Blk w g t #[a,b]):w.cell? ⟨g,0,none⟩=some a/\w.cell? ⟨g,1,none⟩=some b:=⟨h.cell 0,h.cell 1⟩
def Ib(op:Nat->Option Ex × Nat)(ts:List Tok)(s1 s2:List UInt8)(k1 k2 f k:Nat)(x:Ex):Option Ex × Nat->Option Ex × Nat
 |(none,b)=>(none,b)
 |(some y,b)=>BK op ts s1 s2 k1 k2 f (.bin k x y) b
theorem IL{op:Nat->Option Ex × Nat}{ts:List Tok}{s1 s2:List UInt8}{k1 k2 f b:Nat}{x:Ex}(hf:1<=f)(h:isS ts b s1=true):BK op ts s1 s2 k1 k2 f x b=Ib op ts s1 s2 k1 k2 (f-1) k1 x (op (b+1)):=by
 obtain⟨f',rfl⟩:∃f',f=f'+1:=⟨f-1,by omega⟩;rw[BK,if_pos h,qbC];rcases op (b+1) with ⟨_|y,b'⟩<;>rfl
theorem IK{op:Nat->Option Ex × Nat}{ts:List Tok}{s1 s2:List UInt8}{k1 k2 f b:Nat}{x:Ex}(hf:1<=f)(h1:isS ts b s1=false)(h:isS ts b s2=true):BK op ts s1 s2 k1 k2 f x b=Ib op ts s1 s2 k1 k2 (f-1) k2 x (op (b+1)):=by
 obtain⟨f',rfl⟩:∃f',f=f'+1:=⟨f-1,by omega⟩;rw[BK,if_neg (by rw[h1];simp),if_pos h,qbC];rcases op (b+1) with ⟨_|y,b'⟩<;>rfl
def Cov(x:List UInt8):Nat->List Tok->Prop
 |a,[]=>a<=x.length/\∀i,a<=i->i<x.length->x[i]? =some 32
 |a,t::ts=>a<=t.at_/\t.text≠[]/\t.at_+t.text.length<=x.length/\(x.drop t.at_).take t.text.length=t.text/\(∀i,a<=i->i<t.at_->x[i]? =some 32)/\Cov x (t.at_+t.text.length) ts
theorem PF(p:Nat->Bool)(m:List UInt8)(rest:List UInt8)(hr:∀c r,rest=c::r->p c.toNat=false):Ao p (m.take (Ao p m)++rest)=Ao p m:=by
 have h0:Ao p rest=0:=by
  cases rest with
  |nil=>rfl
  |cons c r=>rw[Ao,if_neg (by rw[hr c r rfl];simp)]
 induction m with
 |nil=>exact h0
 |cons c t ih=>
  rw[Ao];by_cases hc:p c.toNat=true
  ·rw[if_pos hc,qcb,qbD,Ao,if_pos hc,ih]
  ·rw[if_neg hc];exact h0
def CH(t:Tok):Prop:=
 (t.kind=1/\Bh t.text=0/\Ao Cx t.text=t.text.length/\Dl (t.text.getD 0 0).toNat=true/\1<=t.text.length)\/
 (t.kind=2/\Ao BX t.text=t.text.length/\Ee (t.text.getD 0 0).toNat=true/\1<=t.text.length/\t.text.length<=24)\/
 (t.kind=3/\∃c:UInt8,t.text=[c]/\F4 c.toNat=true)
theorem L0(p:Nat->Bool)(m:List UInt8):Ao p (m.take (Ao p m))=(m.take (Ao p m)).length:=by
 have h1:=PF p m [] (fun c r h=>by cases h);rw[qbH]at h1;have:=Dq p m;rw[h1,qam];omega
theorem LZ{m:List UInt8}{k n:Nat}(h:Df m=some (k,n))(a:Nat):CH ⟨k,a,m.take n⟩:=by
 have hn:=EW h;unfold Df at h;split at h
 ·cases h
 ·rename_i c t;split at h
  ·rename_i hc;split at h
   ·rename_i h24;injection h with h
    injection h with h1 h2
    subst h1;subst h2;refine .inr (.inl ⟨rfl,L0 _ _,?_,?_,?_⟩)
    ·obtain⟨n',bA⟩:∃n',Ao BX (c::t)=n'+1:=⟨Ao BX (c::t)-1,by omega⟩;simp only;rw[bA,qcb];exact hc
    ·simp only;rw[qam];omega
    ·simp only;rw[qam];omega
   ·cases h
  ·split at h
   ·rename_i hd;split at h
    ·rename_i h7;injection h with h
     injection h with h1 h2
     subst h1;subst h2;refine .inl ⟨rfl,h7,L0 _ _,?_,?_⟩
     ·obtain⟨n',bA⟩:∃n',Ao Cx (c::t)=n'+1:=⟨Ao Cx (c::t)-1,by omega⟩;simp only;rw[bA,qcb];exact hd
     ·simp only;rw[qam];omega
    ·cases h
   ·split at h
    ·rename_i hs;injection h with h
     injection h with h1 h2
     subst h1;subst h2;exact .inr (.inr ⟨rfl,c,rfl,hs⟩)
    ·cases h
theorem NA(f:Nat)(l:List UInt8):∀(a:Nat) (ts:List Tok),(∀t∈ts,CH t)->∀t∈(DP f l a ts).1,CH t:=by
 induction f with
 |zero=>intro a ts _ t h;cases h
 |succ f ih=>
  intro a ts qO t h;unfold DP at h;split at h
  ·exact qO t h
  ·split at h
   ·exact ih _ _ qO t h
   ·split at h
    ·cases h
    ·rename_i k n ht;refine ih _ _ (fun x hx=> ?_) t h;rcases qbt.1 hx with hx|hx
     ·exact qO x hx
     ·rw[qaQ]at hx;subst hx;exact LZ ht a
theorem Ny(l:List UInt8):∀t∈(Bm l).1,CH t:=by
 unfold Bm;split
 ·intro t h;cases h
 ·exact NA _ l 0 [] (fun t h=>by cases h)
end Big
end Go.Proofs.YtkoaogkknnelaaaGreatDoor
