import Derived.Test.YtkoaogkknnelaaaGreatDoorM21
set_option linter.unusedVariables false
set_option linter.unusedSimpArgs false
namespace Go.Proofs.YtkoaogkknnelaaaGreatDoor
namespace Big
open Go.RowKit
theorem Si(off k:Nat)(x y:Ex):Ak off (.bin k x y)=(Ak off x++Ak (off+x.size) y)++[⟨(k:Int),((off+x.size-1:Nat):Int),((off+x.size+y.size-1:Nat):Int),0,[]⟩]:=by
 rw[Ak,List.append_assoc]
theorem Bv{ns:List Nd}{x:Ex}:(ns++Ak ns.length x).length=ns.length+x.size:=by rw[List.length_append,AO]
theorem Blk.two'{w:World}{g:Nat}{t:TypeId}{a b:Value}(h:Blk w g t #[a,b]):w.cell? ⟨g,0,none⟩=some a/\w.cell? ⟨g,1,none⟩=some b:=⟨h.cell 0,h.cell 1⟩
def Hr(op:Nat->Option Ex × Nat)(ts:List Tok)(s1 s2:List UInt8)(k1 k2 f k:Nat)(x:Ex):Option Ex × Nat->Option Ex × Nat
 |(none,b)=>(none,b)
 |(some y,b)=>BC op ts s1 s2 k1 k2 f (.bin k x y) b
theorem It{op:Nat->Option Ex × Nat}{ts:List Tok}{s1 s2:List UInt8}{k1 k2 f b:Nat}{x:Ex}(hf:1<=f)(h:isS ts b s1=true):BC op ts s1 s2 k1 k2 f x b=Hr op ts s1 s2 k1 k2 (f-1) k1 x (op (b+1)):=by
 obtain⟨f',rfl⟩:∃f',f=f'+1:=⟨f-1,by omega⟩;rw[BC,if_pos h,Nat.add_sub_cancel];rcases op (b+1) with ⟨_|y,b'⟩<;>rfl
theorem Ir{op:Nat->Option Ex × Nat}{ts:List Tok}{s1 s2:List UInt8}{k1 k2 f b:Nat}{x:Ex}(hf:1<=f)(h1:isS ts b s1=false)(h:isS ts b s2=true):BC op ts s1 s2 k1 k2 f x b=Hr op ts s1 s2 k1 k2 (f-1) k2 x (op (b+1)):=by
 obtain⟨f',rfl⟩:∃f',f=f'+1:=⟨f-1,by omega⟩;rw[BC,if_neg (by rw[h1];simp),if_pos h,Nat.add_sub_cancel];rcases op (b+1) with ⟨_|y,b'⟩<;>rfl
def Cov(x:List UInt8):Nat->List Tok->Prop
 |a,[]=>a<=x.length/\∀i,a<=i->i<x.length->x[i]? =some 32
 |a,t::ts=>a<=t.at_/\t.text≠[]/\t.at_+t.text.length<=x.length/\(x.drop t.at_).take t.text.length=t.text/\(∀i,a<=i->i<t.at_->x[i]? =some 32)/\Cov x (t.at_+t.text.length) ts
theorem Po(p:Nat->Bool)(m:List UInt8)(rest:List UInt8)(hr:∀c r,rest=c::r->p c.toNat=false):Aq p (m.take (Aq p m)++rest)=Aq p m:=by
 have h0:Aq p rest=0:=by
  cases rest with
  |nil=>rfl
  |cons c r=>rw[Aq,if_neg (by rw[hr c r rfl];simp)]
 induction m with
 |nil=>exact h0
 |cons c t ih=>
  rw[Aq];by_cases hc:p c.toNat=true
  ·rw[if_pos hc,List.take_succ_cons,List.cons_append,Aq,if_pos hc,ih]
  ·rw[if_neg hc];exact h0
def Cz(t:Tok):Prop:=
 (t.kind=1/\Bm t.text=0/\Aq Cq t.text=t.text.length/\Df (t.text.getD 0 0).toNat=true/\1<=t.text.length)\/
 (t.kind=2/\Aq BQ t.text=t.text.length/\D2 (t.text.getD 0 0).toNat=true/\1<=t.text.length/\t.text.length<=24)\/
 (t.kind=3/\∃c:UInt8,t.text=[c]/\FR c.toNat=true)
theorem LM(p:Nat->Bool)(m:List UInt8):Aq p (m.take (Aq p m))=(m.take (Aq p m)).length:=by
 have h1:=Po p m [] (fun c r h=>by cases h);rw[List.append_nil]at h1;have:=Di p m;rw[h1,List.length_take];omega
theorem LL{m:List UInt8}{k n:Nat}(h:C8 m=some (k,n))(a:Nat):Cz ⟨k,a,m.take n⟩:=by
 have hn:=EG h;unfold C8 at h;split at h
 ·cases h
 ·rename_i c t;split at h
  ·rename_i hc;split at h
   ·rename_i h24;injection h with h
    injection h with h1 h2
    subst h1;subst h2;refine .inr (.inl ⟨rfl,LM _ _,?_,?_,?_⟩)
    ·obtain⟨n',bu⟩:∃n',Aq BQ (c::t)=n'+1:=⟨Aq BQ (c::t)-1,by omega⟩;simp only;rw[bu,List.take_succ_cons];exact hc
    ·simp only;rw[List.length_take];omega
    ·simp only;rw[List.length_take];omega
   ·cases h
  ·split at h
   ·rename_i hd;split at h
    ·rename_i h7;injection h with h
     injection h with h1 h2
     subst h1;subst h2;refine .inl ⟨rfl,h7,LM _ _,?_,?_⟩
     ·obtain⟨n',bu⟩:∃n',Aq Cq (c::t)=n'+1:=⟨Aq Cq (c::t)-1,by omega⟩;simp only;rw[bu,List.take_succ_cons];exact hd
     ·simp only;rw[List.length_take];omega
    ·cases h
   ·split at h
    ·rename_i hs;injection h with h
     injection h with h1 h2
     subst h1;subst h2;exact .inr (.inr ⟨rfl,c,rfl,hs⟩)
    ·cases h
theorem Nh(f:Nat)(l:List UInt8):∀(a:Nat) (ts:List Tok),(∀t∈ts,Cz t)->∀t∈(DH f l a ts).1,Cz t:=by
 induction f with
 |zero=>intro a ts _ t h;cases h
 |succ f ih=>
  intro a ts qc t h;unfold DH at h;split at h
  ·exact qc t h
  ·split at h
   ·exact ih _ _ qc t h
   ·split at h
    ·cases h
    ·rename_i k n ht;refine ih _ _ (fun x hx=> ?_) t h;rcases List.mem_append.1 hx with hx|hx
     ·exact qc x hx
     ·rw[List.mem_singleton]at hx;subst hx;exact LL ht a
theorem Nf(l:List UInt8):∀t∈(Bj l).1,Cz t:=by
 unfold Bj;split
 ·intro t h;cases h
 ·exact Nh _ l 0 [] (fun t h=>by cases h)
end Big
end Go.Proofs.YtkoaogkknnelaaaGreatDoor
