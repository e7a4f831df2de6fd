import Derived.Test.YtkoaogkknnelaaaGreatDoorM21
set_option linter.unusedVariables false
set_option linter.unusedSimpArgs false
namespace Go.Proofs.YtkoaogkknnelaaaGreatDoor
namespace Big
open Go.RowKit
theorem RF(off k:Nat)(x y:Ex):Ah off (.bin k x y)=(Ah off x++Ah (off+x.size) y)++[⟨(k:Int),((off+x.size-1:Nat):Int),((off+x.size+y.size-1:Nat):Int),0,[]⟩]:=by
 rw[Ah,List.append_assoc]
theorem Bl{ns:List Nd}{x:Ex}:(ns++Ah ns.length x).length=ns.length+x.size:=by rw[List.length_append,AE]
theorem Blk.two'{w:World}{g:Nat}{t:TypeId}{a b:Value}(h:Blk w g t #[a,b]):w.cell? ⟨g,0,none⟩=some a/\w.cell? ⟨g,1,none⟩=some b:=⟨h.cell 0,h.cell 1⟩
def GW(op:Nat->Option Ex × Nat)(ts:List Tok)(s1 s2:List UInt8)(k1 k2 f k:Nat)(x:Ex):Option Ex × Nat->Option Ex × Nat
 |(none,b)=>(none,b)
 |(some y,b)=>Bt op ts s1 s2 k1 k2 f (.bin k x y) b
theorem H6{op:Nat->Option Ex × Nat}{ts:List Tok}{s1 s2:List UInt8}{k1 k2 f b:Nat}{x:Ex}(hf:1<=f)(h:isS ts b s1=true):Bt op ts s1 s2 k1 k2 f x b=GW op ts s1 s2 k1 k2 (f-1) k1 x (op (b+1)):=by
 obtain⟨f',rfl⟩:∃f',f=f'+1:=⟨f-1,by omega⟩;rw[Bt,if_pos h,Nat.add_sub_cancel];rcases op (b+1) with ⟨_|y,b'⟩<;>rfl
theorem H5{op:Nat->Option Ex × Nat}{ts:List Tok}{s1 s2:List UInt8}{k1 k2 f b:Nat}{x:Ex}(hf:1<=f)(h1:isS ts b s1=false)(h:isS ts b s2=true):Bt op ts s1 s2 k1 k2 f x b=GW op ts s1 s2 k1 k2 (f-1) k2 x (op (b+1)):=by
 obtain⟨f',rfl⟩:∃f',f=f'+1:=⟨f-1,by omega⟩;rw[Bt,if_neg (by rw[h1];simp),if_pos h,Nat.add_sub_cancel];rcases op (b+1) with ⟨_|y,b'⟩<;>rfl
theorem Ch.set{w:World}{g o n c i:Nat}{vs:List Value}{u:Value}(h:Ch w (.slice (some ⟨g,o,none⟩) n c) vs)(hi:i<vs.length):
  Ch (w.setCell ⟨g,o+i,none⟩ u) (.slice (some ⟨g,o,none⟩) n c) (vs.set i u):=by
 obtain⟨A,c',he,h2,h3,h4⟩:=h;injection he with he1 he2 he3
 subst he1;subst he3;subst he2;refine⟨_,c,by rw[List.length_set],by rw[List.length_set];exact h2,h3,fun hp=> ?_⟩;obtain⟨b,o',ha,hlt,hc⟩:=h4 (by omega);injection ha with ha
 injection ha with ha1 ha2 _
 subst ha1;subst ha2;refine⟨g,o,rfl,by simpa [World.setCell] using hlt,fun j v hj=> ?_⟩;rw[List.getElem?_set]at hj;by_cases hij:i=j
 ·subst hij;rw[if_pos rfl,if_pos hi]at hj;injection hj with hj
  subst hj;exact World.cell?_setCell_same _ _ _ (hc i _ (List.getElem?_eq_getElem hi))
 ·rw[if_neg hij]at hj;rw[World.cell?_setCell_other _ _ _ _ (fun e=>hij (by injection e with _ e _;omega))];exact hc j v hj
theorem Fq.set{w:World}{g n c i:Nat}{l:List UInt8}{b:UInt8}(h:Fq w (.slice (some ⟨g,0,none⟩) n c) l)(hi:i<l.length):
  Fq (w.setCell ⟨g,i,none⟩ (d8 b)) (.slice (some ⟨g,0,none⟩) n c) (l.set i b):=by
 have h1:=Ch.set (u:=d8 b) h (i:=i) (by simpa using hi);rw[Nat.zero_add]at h1;unfold Fq;rw[List.map_set];exact h1
theorem Fq.kept{w w' wa:World}{g n c B:Nat}{l:List UInt8}{t:TypeId}{u:Value}{us:List Value}(h:Fq w (.slice (some ⟨g,0,none⟩) n c) l)(k:BA t B wa u us)(hg:wa.heap.size<=g)(au:w.grownBy w' (Ei u)):
  Fq w' (.slice (some ⟨g,0,none⟩) n c) l:=by
 obtain⟨A,c',he,h2,h3,h4⟩:=h;injection he with he1 he2 he3
 subst he1;subst he3;subst he2;refine⟨_,c,rfl,h2,h3,fun hp=> ?_⟩;obtain⟨b,o,nJ,hlt,hc⟩:=h4 hp;injection nJ with nJ
 injection nJ with hb ho _
 subst hb;subst ho;have hne:some g≠Ei u:=by
  obtain⟨A',c',rfl,k2,k3,k4⟩:=k;rcases k4 with ⟨_,rfl⟩|⟨g',mK,rfl,_,jI,_,_⟩
  ·rcases A' with _|a<;>simp[Ei]
  ·simp only[Ei];split
   ·simp
   ·intro he;injection he with he
    have:=jI.lt;omega
 exact⟨g,0,rfl,Nat.lt_of_lt_of_le hlt au.size,fun j v hj=>(World.cell?_of_block (w:=w) (a:=⟨g,0+j,none⟩) (au.block g hlt hne)).trans (hc j v hj)⟩
def Cov(x:List UInt8):Nat->List Tok->Prop
 |a,[]=>a<=x.length/\∀i,a<=i->i<x.length->x[i]? =some 32
 |a,t::ts=>a<=t.at_/\t.text≠[]/\t.at_+t.text.length<=x.length/\(x.drop t.at_).take t.text.length=t.text/\(∀i,a<=i->i<t.at_->x[i]? =some 32)/\Cov x (t.at_+t.text.length) ts
theorem Cov.space{x:List UInt8}{a:Nat}{ts:List Tok}(hc:x[a]? =some 32)(h:Cov x (a+1) ts):Cov x a ts:=by
 cases ts with
 |nil=>
  refine⟨by have:=h.1;omega,fun i h1 h2=> ?_⟩;rcases Nat.eq_or_lt_of_le h1 with h3|h3
  ·rw[<-h3];exact hc
  ·exact h.2 i h3 h2
 |cons t ts=>
  obtain⟨h1,h2,h3,h4,h5,h6⟩:=h;refine⟨by omega,h2,h3,h4,fun i q1 q2=> ?_,h6⟩;rcases Nat.eq_or_lt_of_le q1 with q3|q3
  ·rw[<-q3];exact hc
  ·exact h5 i q3 q2
def Sf(t:Tok):Prop:=∀rest:List UInt8,(rest=[]\/∃r,rest=32::r)->CQ (t.text++rest)=some (t.kind,t.text.length)
theorem Sf.at{t:Tok}{a:Nat}(h:Sf t):Sf ⟨t.kind,a,t.text⟩:=h
def T9(g:List UInt8):List Tok->List UInt8
 |[]=>[]
 |t::ts=>g++(t.text++T9 g ts)
def UG(c:UInt8):Bool:= !(BD c.toNat) && !(Ca c.toNat)
theorem O8(p:Nat->Bool)(m:List UInt8)(rest:List UInt8)(hr:∀c r,rest=c::r->p c.toNat=false):An p (m.take (An p m)++rest)=An p m:=by
 have h0:An p rest=0:=by
  cases rest with
  |nil=>rfl
  |cons c r=>rw[An,if_neg (by rw[hr c r rfl];simp)]
 induction m with
 |nil=>exact h0
 |cons c t ih=>
  rw[An];by_cases hc:p c.toNat=true
  ·rw[if_pos hc,List.take_succ_cons,List.cons_append,An,if_pos hc,ih]
  ·rw[if_neg hc];exact h0
def BS(t:Tok):Prop:=
 (t.kind=1/\AX t.text=0/\An Ca t.text=t.text.length/\C5 (t.text.getD 0 0).toNat=true/\1<=t.text.length)\/
 (t.kind=2/\An BD t.text=t.text.length/\DN (t.text.getD 0 0).toNat=true/\1<=t.text.length/\t.text.length<=24)\/
 (t.kind=3/\∃c:UInt8,t.text=[c]/\FF c.toNat=true)
theorem Lm(p:Nat->Bool)(m:List UInt8):An p (m.take (An p m))=(m.take (An p m)).length:=by
 have h1:=O8 p m [] (fun c r h=>by cases h);rw[List.append_nil]at h1;have:=C9 p m;rw[h1,List.length_take];omega
theorem Ll{m:List UInt8}{k n:Nat}(h:CQ m=some (k,n))(a:Nat):BS ⟨k,a,m.take n⟩:=by
 have hn:=Ev h;unfold CQ at h;split at h
 ·cases h
 ·rename_i c t;split at h
  ·rename_i hc;split at h
   ·rename_i h24;injection h with h
    injection h with h1 h2
    subst h1;subst h2;refine .inr (.inl ⟨rfl,Lm _ _,?_,?_,?_⟩)
    ·obtain⟨n',bh⟩:∃n',An BD (c::t)=n'+1:=⟨An BD (c::t)-1,by omega⟩;simp only;rw[bh,List.take_succ_cons];exact hc
    ·simp only;rw[List.length_take];omega
    ·simp only;rw[List.length_take];omega
   ·cases h
  ·split at h
   ·rename_i hd;split at h
    ·rename_i h7;injection h with h
     injection h with h1 h2
     subst h1;subst h2;refine .inl ⟨rfl,h7,Lm _ _,?_,?_⟩
     ·obtain⟨n',bh⟩:∃n',An Ca (c::t)=n'+1:=⟨An Ca (c::t)-1,by omega⟩;simp only;rw[bh,List.take_succ_cons];exact hd
     ·simp only;rw[List.length_take];omega
    ·cases h
   ·split at h
    ·rename_i hs;injection h with h
     injection h with h1 h2
     subst h1;subst h2;exact .inr (.inr ⟨rfl,c,rfl,hs⟩)
    ·cases h
theorem MX(f:Nat)(l:List UInt8):∀(a:Nat) (ts:List Tok),(∀t∈ts,BS t)->∀t∈(Du f l a ts).1,BS t:=by
 induction f with
 |zero=>intro a ts _ t h;cases h
 |succ f ih=>
  intro a ts o6 t h;unfold Du at h;split at h
  ·exact o6 t h
  ·split at h
   ·exact ih _ _ o6 t h
   ·split at h
    ·cases h
    ·rename_i k n ht;refine ih _ _ (fun x hx=> ?_) t h;rcases List.mem_append.1 hx with hx|hx
     ·exact o6 x hx
     ·rw[List.mem_singleton]at hx;subst hx;exact Ll ht a
theorem MV(l:List UInt8):∀t∈(Bb l).1,BS t:=by
 unfold Bb;split
 ·intro t h;cases h
 ·exact MX _ l 0 [] (fun t h=>by cases h)
def Us(e:Nat):List (Nat × Tok)->List UInt8
 |[]=>List.replicate e 32
 |(g,t)::l=>List.replicate g 32++(t.text++Us e l)
def Ld:List (Nat × Tok)->Prop
 |[]=>True
 |[(_,t)]=>BS t
 |(_,t)::(g,u)::l=>BS t/\(1<=g\/t.kind=3\/u.kind=3)/\Ld ((g,u)::l)
theorem Ld.head{g:Nat}{t:Tok}{l:List (Nat × Tok)}(h:Ld ((g,t)::l)):BS t/\Ld l:=by
 cases l with
 |nil=>exact⟨h,trivial⟩
 |cons p l=>exact⟨h.1,h.2.2⟩
def tkS(t:List UInt8):Tok:=⟨3,0,t⟩
def SH(b:Bool)(g:Nat)(q:Nat->List (Nat × Tok)):List (Nat × Tok):=if b then (g,tkS [40])::(q 0++[(0,tkS [41])]) else q g
def pcN(n:Int):List (Nat × Tok):=if n<0 then [(0,tkS [45]),(0,⟨1,0,dec n.natAbs⟩)] else [(0,⟨1,0,dec n.natAbs⟩)]
def pcs:Ex->Nat->List (Nat × Tok)
 | .leaf k t,g=>if k=3 then [(g,⟨2,0,[112,105]⟩)] else if k=4 then [(g,⟨2,0,[101]⟩)] else [(g,⟨k,0,t⟩)]
 | .un k n x,g=>if k=5 then (g,tkS [45])::SH (decide (BK x.kind<3)) 0 (pcs x)
   else if k=10 then SH (decide (BK x.kind<5)) g (pcs x)++((0,tkS [94])::pcN n)
   else (g,⟨2,0,RC k⟩)::(0,tkS [40])::(pcs x 0++[(0,tkS [41])])
 | .bin k x y,g=>SH (decide (BK x.kind<BK k)) g (pcs x)++((1,tkS (T6 k))::SH (decide (BK y.kind<BK k+1)) 1 (pcs y))
end Big
end Go.Proofs.YtkoaogkknnelaaaGreatDoor
