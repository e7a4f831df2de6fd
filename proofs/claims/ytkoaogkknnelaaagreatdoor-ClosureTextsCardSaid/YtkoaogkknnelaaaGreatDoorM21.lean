import Derived.Test.YtkoaogkknnelaaaGreatDoorM20
set_option linter.unusedVariables false
set_option linter.unusedSimpArgs false
namespace Go.Proofs.YtkoaogkknnelaaaGreatDoor
namespace Big
def Cov(x:List UInt8):Nat->List Tok->Prop
 |a,[]=>a<=x.length/\∀i,a<=i->i<x.length->x[i]? =some 32
 |a,t::ts=>a<=t.at_/\t.text≠[]/\t.at_+t.text.length<=x.length/\(x.drop t.at_).take t.text.length=t.text/\(∀i,a<=i->i<t.at_->x[i]? =some 32)/\Cov x (t.at_+t.text.length) ts
theorem P3(p:Nat->Bool)(m:List UInt8)(rest:List UInt8)(hr:∀c r,rest=c::r->p c.toNat=false):An p (m.take (An p m)++rest)=An p m:=by
 have h0:An p rest=0:=by
  cases rest with
  |nil=>rfl
  |cons c r=>rw[An,if_neg (by rw[hr c r rfl];simp)]
 induction m with
 |nil=>exact h0
 |cons c t ih=>
  rw[An];by_cases hc:p c.toNat=true
  ·rw[if_pos hc,qbR,qbt,An,if_pos hc,ih]
  ·rw[if_neg hc];exact h0
def CB(t:Tok):Prop:=
 (t.kind=1/\Bz t.text=0/\An Cw t.text=t.text.length/\Dp (t.text.getD 0 0).toNat=true/\1<=t.text.length)\/
 (t.kind=2/\An BU t.text=t.text.length/\Ej (t.text.getD 0 0).toNat=true/\1<=t.text.length/\t.text.length<=24)\/
 (t.kind=3/\∃c:UInt8,t.text=[c]/\Gp c.toNat=true)
theorem L9(p:Nat->Bool)(m:List UInt8):An p (m.take (An p m))=(m.take (An p m)).length:=by
 have h1:=P3 p m [] (fun c r h=>by cases h);rw[qaW]at h1;have:=Dx p m;rw[h1,qas];omega
theorem L7{m:List UInt8}{k n:Nat}(h:Dl m=some (k,n))(a:Nat):CB ⟨k,a,m.take n⟩:=by
 have hn:=E6 h;unfold Dl at h;split at h
 ·cases h
 ·rename_i c t;split at h
  ·rename_i hc;split at h
   ·rename_i h24;injection h with h
    injection h with h1 h2
    subst h1;subst h2;refine .inr (.inl ⟨rfl,L9 _ _,?_,?_,?_⟩)
    ·obtain⟨n',cC⟩:∃n',An BU (c::t)=n'+1:=⟨An BU (c::t)-1,by omega⟩;simp only;rw[cC,qbR];exact hc
    ·simp only;rw[qas];omega
    ·simp only;rw[qas];omega
   ·cases h
  ·split at h
   ·rename_i hd;split at h
    ·rename_i h7;injection h with h
     injection h with h1 h2
     subst h1;subst h2;refine .inl ⟨rfl,h7,L9 _ _,?_,?_⟩
     ·obtain⟨n',cC⟩:∃n',An Cw (c::t)=n'+1:=⟨An Cw (c::t)-1,by omega⟩;simp only;rw[cC,qbR];exact hd
     ·simp only;rw[qas];omega
    ·cases h
   ·split at h
    ·rename_i hs;injection h with h
     injection h with h1 h2
     subst h1;subst h2;exact .inr (.inr ⟨rfl,c,rfl,hs⟩)
    ·cases h
theorem NS(f:Nat)(l:List UInt8):∀(a:Nat) (ts:List Tok),(∀t∈ts,CB t)->∀t∈(DS f l a ts).1,CB t:=by
 induction f with
 |zero=>intro a ts _ t h;cases h
 |succ f ih=>
  intro a ts rq t h;unfold DS at h;split at h
  ·exact rq t h
  ·split at h
   ·exact ih _ _ rq t h
   ·split at h
    ·cases h
    ·rename_i k n ht;refine ih _ _ (fun x hx=> ?_) t h;rcases qax.1 hx with hx|hx
     ·exact rq x hx
     ·rw[qav]at hx;subst hx;exact L7 ht a
theorem NQ(l:List UInt8):∀t∈(Bj l).1,CB t:=by
 unfold Bj;split
 ·intro t h;cases h
 ·exact NS _ l 0 [] (fun t h=>by cases h)
def Ex.Well:Ex->Prop
 | .leaf k t=>(k=1/\Bz t=0)\/(k=2/\CQ t=true)\/((k=3\/k=4)/\t=[])
 | .un k n x=>(k=5\/(10<=k/\k<=16))/\(k≠10->n=0)∧-99<=n/\n<=99/\x.Well
 | .bin k x y=>(6<=k/\k<=9)/\x.Well/\y.Well
def Ex.big:Ex->Bool
 | .leaf _ _=>false
 | .un k n x=>(k == 10 && !(decide (-64<=n/\n<=64))) || x.big
 | .bin _ x y=>x.big || y.big
theorem Ni{t:List UInt8}(h:Bz t=0):t.length<=400:=by
 unfold Bz at h;split at h
 ·cases h
 ·omega
theorem Ex.Well.good{e:Ex}(h:e.Well)(hb:e.big=false):e.Good:=by
 induction e with
 |leaf k t=>
  rcases h with ⟨h1,h2⟩|h|h
  ·exact .inl ⟨h1,h2,Ni h2⟩
  ·exact .inr (.inl h)
  ·exact .inr (.inr h)
 |un k n x ih=>
  obtain⟨h1,h2,h3,h4,h5⟩:=h;unfold Ex.big at hb;rw[qch]at hb;have h6: -64<=n/\n<=64:=by
   by_cases hk:k=10
   ·subst hk;have:=hb.1
    simpa using this
   ·rw[h2 hk];omega
  exact⟨h1,h2,h6.1,h6.2,ih h5 hb.2⟩
 |bin k x y ihx ihy=>
  obtain⟨h1,h2,h3⟩:=h;unfold Ex.big at hb;rw[qch]at hb;exact⟨h1,ihx h2 hb.1,ihy h3 hb.2⟩
theorem Ex.Good.well{e:Ex}(h:e.Good):e.Well/\e.big=false:=by
 induction e with
 |leaf k t=>
  refine⟨?_,rfl⟩;rcases h with ⟨h1,h2,_⟩|h|h
  ·exact .inl ⟨h1,h2⟩
  ·exact .inr (.inl h)
  ·exact .inr (.inr h)
 |un k n x ih=>
  obtain⟨h1,h2,h3,h4,h5⟩:=h;refine⟨⟨h1,h2,by omega,by omega,(ih h5).1⟩,?_⟩;unfold Ex.big;rw[(ih h5).2,decide_eq_true (And.intro h3 h4)];simp
 |bin k x y ihx ihy=>
  obtain⟨h1,h2,h3⟩:=h;refine⟨⟨h1,(ihx h2).1,(ihy h3).1⟩,?_⟩;unfold Ex.big;rw[(ihx h2).2,(ihy h3).2];rfl
theorem Iz(t:List UInt8)(h:By t≠0):11<=By t/\By t<=16:=by
 unfold By at h ⊢
 (repeat' split)<;>first|omega|(exfalso;revert h;simp_all)
theorem JQ{t:List UInt8}{n:Nat}(h:C5 t=some n):n<=99:=by
 unfold C5 at h;split at h
 ·rename_i hc;injection h with h
  obtain⟨h1,h2⟩:=hc;have hd:∀c:UInt8,Dp c.toNat=true->c.toNat-48<=9:=fun c hc=>by
   unfold Dp at hc;simp only[qaM,decide_eq_true_eq]at hc;omega
  match t,h1,h2,h with
  |[],_,_,h=>simp at h;omega
  |[c],_,h2,h=>
   simp only[qbV,List.all_nil,Bool.and_true]at h2;have:=hd c h2;simp at h;omega
  |[c,d],_,h2,h=>
   simp only[qbV,List.all_nil,Bool.and_true,qaM]at h2;have:=hd c h2.1;have:=hd d h2.2;simp at h;omega
  |c::d::e::r,h1,_,_=>simp at h1
 ·cases h
theorem IR{ts:List Tok}{a n:Nat}(h:EX ts a=some n):n<=99:=by
 unfold EX at h;split at h
 ·split at h
  ·exact JQ h
  ·cases h
 ·cases h
theorem NC{t:Tok}(h:CB t)(eS:t.kind≠1)(dq:t.kind≠3)(hf:By t.text=0)(h1:t.text≠[112,105])(h2:t.text≠[101]):CQ t.text=true:=by
 rcases h with ⟨hk,_⟩|⟨hk,q1,q2,q3,q4⟩|⟨hk,_⟩
 ·omega
 ·have hr:AY t.text=false:=by
   unfold AY;simp[h1,h2,hf]
  have hw:CO t.text=true:=by
   rw[Ks];have hne:(t.text == [])=false:=by
    rw[beq_eq_false_iff_ne];intro he;rw[he]at q3;simp at q3
   have UR:Bm t.text=t.text.length:=by
    unfold Bm;have:Ej (Ad t.text 0)=true:=q2;rw[this,if_pos rfl];exact q1
   rw[hne,UR];simp[q4]
  unfold CQ;rw[hw];rw[Ca]at hr;have:([[112,105],[101],[115,113,114,116],[101,120,112],[108,110],[115,105,110],[99,111,115],[97,116,97,110]]:List (List UInt8)).contains t.text=false:=hr;rw[this];rfl
 ·omega
def PW(p:Nat->Option Ex × Nat):Prop:=∀a x b,p a=(some x,b)->x.Well
section
variable {ts:List Tok} {p:Nat->Option Ex × Nat}
theorem Oc(ht:∀t∈ts,CB t)(hp:PW p):PW (CZ p ts):=by
 intro a x b h;unfold CZ at h;split at h
 ·cases h
 ·rename_i t mF;have hf:=ht t (List.mem_of_getElem? mF);split at h
  ·split at h
   ·split at h
    ·cases h
    ·rename_i y c hy;split at h
     ·injection h with h1 _
      injection h1 with h1
      subst h1;exact hp _ _ _ hy
     ·cases h
   ·cases h
  ·rename_i h3;split at h
   ·rename_i h1;injection h with h4 _
    injection h4 with h4
    subst h4;rcases hf with ⟨_,hc,_⟩|⟨hk,_⟩|⟨hk,_⟩
    ·exact .inl ⟨rfl,hc⟩
    ·omega
    ·omega
   ·rename_i h1;split at h
    ·rename_i hfk;split at h
     ·split at h
      ·cases h
      ·rename_i y c hy;split at h
       ·injection h with h4 _
        injection h4 with h4
        subst h4;have:=Iz _ hfk;exact⟨.inr ⟨by omega,this.2⟩,fun _=>rfl,by omega,by omega,hp _ _ _ hy⟩
       ·cases h
     ·cases h
    ·rename_i hfk;split at h
     ·injection h with h4 _
      injection h4 with h4
      subst h4;exact .inr (.inr ⟨.inl rfl,rfl⟩)
     ·rename_i kT;split at h
      ·injection h with h4 _
       injection h4 with h4
       subst h4;exact .inr (.inr ⟨.inr rfl,rfl⟩)
      ·rename_i he;injection h with h4 _
       injection h4 with h4
       subst h4;exact .inr (.inl ⟨rfl,NC hf h1 h3 (by omega) kT he⟩)
theorem My(ht:∀t∈ts,CB t)(hp:PW p):PW (AQ p ts):=by
 intro a x b h;unfold AQ at h;split at h
 ·cases h
 ·rename_i y c hy;have hw:=Oc ht hp _ _ _ hy;split at h
  ·split at h
   ·split at h
    ·rename_i n hn;have:=IR hn;injection h with h4 _
     injection h4 with h4
     subst h4;exact⟨.inr ⟨by omega,by omega⟩,fun h=>absurd rfl h,by omega,by omega,hw⟩
    ·cases h
   ·split at h
    ·rename_i n hn;have:=IR hn;injection h with h4 _
     injection h4 with h4
     subst h4;exact⟨.inr ⟨by omega,by omega⟩,fun h=>absurd rfl h,by omega,by omega,hw⟩
    ·cases h
  ·injection h with h4 _
   injection h4 with h4
   subst h4;exact hw
theorem Qq(n:Nat):∀x:Ex,x.Well->(LC n x).Well:=by
 induction n with
 |zero=>intro x h;exact h
 |succ n ih=>intro x h;exact ih _ ⟨.inl rfl,fun _=>rfl,by omega,by omega,h⟩
theorem MD(ht:∀t∈ts,CB t)(hp:PW p):PW (BL p ts):=by
 intro a x b h;unfold BL at h;split at h
 ·cases h
 ·rename_i y c hy;injection h with h4 _
  injection h4 with h4
  subst h4;exact Qq _ _ (My ht hp _ _ _ hy)
theorem LQ{op:Nat->Option Ex × Nat}{c1 c2:List UInt8}{k1 k2:Nat}(h1:6<=k1/\k1<=9)(h2:6<=k2/\k2<=9)(ho:PW op):∀(f:Nat) (e:Ex) (a:Nat),e.Well->∀x b,BE op ts c1 c2 k1 k2 f e a=(some x,b)->x.Well:=by
 intro f
 induction f with
 |zero=>
  intro e a he x b h;unfold BE at h;injection h with h4 _
  injection h4 with h4
  subst h4;exact he
 |succ f ih=>
  intro e a he x b h;unfold BE at h;split at h
  ·split at h
   ·cases h
   ·rename_i y c hy;exact ih _ _ (show (Ex.bin k1 e y).Well from ⟨h1,he,ho _ _ _ hy⟩) _ _ h
  ·split at h
   ·split at h
    ·cases h
    ·rename_i y c hy;exact ih _ _ (show (Ex.bin k2 e y).Well from ⟨h2,he,ho _ _ _ hy⟩) _ _ h
   ·injection h with h4 _
    injection h4 with h4
    subst h4;exact he
theorem IA{op:Nat->Option Ex × Nat}{c1 c2:List UInt8}{k1 k2:Nat}(h1:6<=k1/\k1<=9)(h2:6<=k2/\k2<=9)(ho:PW op):PW (Db op ts c1 c2 k1 k2):=by
 intro a x b h;unfold Db at h;split at h
 ·cases h
 ·rename_i y c hy;exact LQ h1 h2 ho _ _ _ (ho _ _ _ hy) _ _ h
theorem Qk(ht:∀t∈ts,CB t):∀f,PW (Bh ts f):=by
 intro f
 induction f with
 |zero=>intro a x b h;cases h
 |succ f ih=>exact IA (by omega) (by omega) (IA (by omega) (by omega) (MD ht ih))
end
def AM(i:Nat)(st:List (Nat × Nat))(x:Nd):Option ((Nat × Nat) × List (Nat × Nat)):=
 if Al x.kind<0\/(st.length:Int)<Al x.kind\/AA x=false then none
 else if Al x.kind=0 then (if x.a=0/\x.b=0 then some ((i,1),st++[(i,1)]) else none)
 else if Al x.kind=1 then
  (if x.a=(i:Int)-1/\x.b=0 then some (((st.getD (st.length-1) (0,0)).1,(st.getD (st.length-1) (0,0)).2+1),st.take (st.length-1)++[((st.getD (st.length-1) (0,0)).1,(st.getD (st.length-1) (0,0)).2+1)]) else none)
 else (if x.a=((st.getD (st.length-1) (0,0)).1:Int)-1/\x.b=(i:Int)-1 then
   some (((st.getD (st.length-2) (0,0)).1,max ((st.getD (st.length-1) (0,0)).2+1) ((st.getD (st.length-2) (0,0)).2+1)),st.take (st.length-2)++[((st.getD (st.length-2) (0,0)).1,max ((st.getD (st.length-1) (0,0)).2+1) ((st.getD (st.length-2) (0,0)).2+1))]) else none)
def GB:Nat->List (Nat × Nat)->List (Nat × Nat)->List Nd->List (Nat × Nat) × Nat
 |_,all,st,[]=>(all,st.length)
 |i,all,st,x::t=>match AM i st x with
  |none=>(all,0)
  |some (p,st')=>GB (i+1) (all++[p]) st' t
def DG(l:List Nd):List (Nat × Nat) × Nat:=GB 0 [] [] l
def ptE:Nat->Ex->List (Nat × Nat)
 |off,.leaf _ _=>[(off,1)]
 |off,.un _ _ x=>ptE off x++[(off,x.depth+1)]
 |off,.bin _ x y=>ptE off x++(ptE (off+x.size) y++[(off,max x.depth y.depth+1)])
theorem Lw(e:Ex):∀off,(ptE off e).length=e.size:=by
 induction e with
 |leaf k t=>intro off;rfl
 |un k n x ih=>intro off;rw[ptE,qab,ih];rfl
 |bin k x y ihx ihy=>intro off;rw[ptE,qab,qab,ihx,ihy,qae,Ex.size];omega
theorem Ly{k:Nat}{n:Int}{x:Ex}(h:(Ex.un k n x).Well)(a b:Int):AA ⟨(k:Int),a,b,n,[]⟩= !(k == 10 && !(decide (-64<=n/\n<=64))):=by
 obtain⟨h1,h2,h3,h4,_⟩:=h;unfold AA Cr Cb;rw[if_neg (by simp only;omega),if_neg (by simp only;omega)];by_cases hk:k=10
 ·subst hk;simp
 ·rw[if_neg (by simp only;omega)];simp[h2 hk]
theorem G4{L:List (Nat × Nat)}{x:Nat × Nat}{i:Nat}(h:i=L.length):(L++[x]).getD i (0,0)=x:=by
 subst h;rw[qac,qao (qad _),qaX];rfl
theorem Qg(e:Ex)(hw:e.Well):∀(off:Nat) (all st:List (Nat × Nat)) (t:List Nd),GB off all st (Ag off e++t)=if e.big then ((GB off all st (Ag off e++t)).1,0) else GB (off+e.size) (all++ptE off e) (st++[(off,e.depth)]) t:=by
 induction e with
 |leaf k t'=>
  intro off all st t;have hk:1<=k/\k<=4:=by unfold Ex.Well at hw;omega
  have ho:Al (k:Int)=0:=by unfold Al;rw[if_neg (by omega),if_pos (by omega)]
  have hp:AA ⟨(k:Int),0,0,0,t'⟩=true:=by
   unfold AA Cr Cb;rw[if_neg (c:=(k:Int)=10) (by omega)];rcases hw with ⟨rfl,h⟩|⟨rfl,h⟩|⟨h,rfl⟩
   ·simp[h]
   ·simp[h]
   ·rw[if_neg (by simp only;omega),if_neg (by simp only;omega)];rfl
  have hs:AM off st ⟨(k:Int),0,0,0,t'⟩=some ((off,1),st++[(off,1)]):=by
   unfold AM;simp only[ho,hp];rw[if_neg (by first|(simp;done)|(simp;omega))];simp
  rw[Ex.big,if_neg (by simp),Ag,List.singleton_append,GB,hs];rfl
 |un k n x ih=>
  intro off all st t;have hx:=hw.2.2.2.2;have hz:=x.size_pos;have hk:=hw.1;have ho:Al (k:Int)=1:=by unfold Al;rw[if_neg (by omega),if_neg (by omega),if_neg (by omega)]
  have h1:=ih hx off all st ([⟨(k:Int),((off+x.size-1:Nat):Int),0,n,[]⟩]++t);have lq:Ag off (.un k n x)++t=Ag off x++([⟨(k:Int),((off+x.size-1:Nat):Int),0,n,[]⟩]++t):=by rw[Ag,qan]
  rw[lq];cases hb:x.big
  ·rw[hb,if_neg (by simp)]at h1;rw[h1,List.singleton_append,GB];have hpl:=Ly hw ((off+x.size-1:Nat):Int) 0;cases hb2:(k == 10 && !(decide (-64<=n/\n<=64)))
   ·rw[hb2]at hpl;have hs:AM (off+x.size) (st++[(off,x.depth)]) ⟨(k:Int),((off+x.size-1:Nat):Int),0,n,[]⟩=some ((off,x.depth+1),st++[(off,x.depth+1)]):=by
     unfold AM;simp only[ho,hpl];rw[if_neg (by first|(simp;done)|(simp;omega)),if_neg (by decide),if_pos trivial,if_pos (by first|omega|(refine⟨?_,trivial⟩;omega))];rw[G4 (by simp),List.take_left' (by simp)]
    rw[hs];have fA:(Ex.un k n x).big=false:=by rw[Ex.big,hb2,hb];rfl
    rw[fA,if_neg (by simp)];simp only[ptE,Ex.size,Ex.depth,qan];rfl
   ·rw[hb2]at hpl;have hs:AM (off+x.size) (st++[(off,x.depth)]) ⟨(k:Int),((off+x.size-1:Nat):Int),0,n,[]⟩=none:=by
     unfold AM;rw[if_pos (.inr (.inr hpl))]
    rw[hs];have fA:(Ex.un k n x).big=true:=by rw[Ex.big,hb2];rfl
    rw[fA,if_pos rfl]
  ·rw[hb,if_pos rfl]at h1;have fA:(Ex.un k n x).big=true:=by rw[Ex.big,hb];simp
   rw[fA,if_pos rfl];exact h1
 |bin k x y ihx ihy=>
  intro off all st t;have hx:=hw.2.1;have hy:=hw.2.2;have hz:=x.size_pos;have aU:=y.size_pos;have hk:=hw.1;have ho:Al (k:Int)=2:=by unfold Al;rw[if_neg (by omega),if_neg (by omega),if_pos (by omega)]
  have lq:Ag off (.bin k x y)++t=Ag off x++(Ag (off+x.size) y++([⟨(k:Int),((off+x.size-1:Nat):Int),((off+x.size+y.size-1:Nat):Int),0,[]⟩]++t)):=by rw[Ag];simp only[qan]
  rw[lq];have h1:=ihx hx off all st (Ag (off+x.size) y++([⟨(k:Int),((off+x.size-1:Nat):Int),((off+x.size+y.size-1:Nat):Int),0,[]⟩]++t));cases hb:x.big
  ·rw[hb,if_neg (by simp)]at h1;rw[h1];have h2:=ihy hy (off+x.size) (all++ptE off x) (st++[(off,x.depth)]) ([⟨(k:Int),((off+x.size-1:Nat):Int),((off+x.size+y.size-1:Nat):Int),0,[]⟩]++t);cases hb2:y.big
   ·rw[hb2,if_neg (by simp)]at h2;rw[h2,List.singleton_append,GB];have hp:AA ⟨(k:Int),((off+x.size-1:Nat):Int),((off+x.size+y.size-1:Nat):Int),0,[]⟩=true:=by
     unfold AA Cr Cb;rw[if_neg (by simp only;omega),if_neg (by simp only;omega),if_neg (by simp only;omega)];rfl
    have hs:AM (off+x.size+y.size) (st++[(off,x.depth)]++[(off+x.size,y.depth)]) ⟨(k:Int),((off+x.size-1:Nat):Int),((off+x.size+y.size-1:Nat):Int),0,[]⟩=some ((off,max x.depth y.depth+1),st++[(off,max x.depth y.depth+1)]):=by
     unfold AM;simp only[ho,hp];have e1:(st++[(off,x.depth)]++[(off+x.size,y.depth)]).getD ((st++[(off,x.depth)]++[(off+x.size,y.depth)]).length-1) (0,0)=(off+x.size,y.depth):=G4 (by simp);have e2:(st++[(off,x.depth)]++[(off+x.size,y.depth)]).getD ((st++[(off,x.depth)]++[(off+x.size,y.depth)]).length-2) (0,0)=(off,x.depth):=by
      rw[qac,qan,qao (by simp)];simp
     have e3:(st++[(off,x.depth)]++[(off+x.size,y.depth)]).take ((st++[(off,x.depth)]++[(off+x.size,y.depth)]).length-2)=st:=by
      rw[qan,List.take_left' (by simp)]
     rw[if_neg (by first|(simp;done)|(simp;omega)),if_neg (by decide),if_neg (by decide),e1,e2,e3,if_pos (by simp only;omega)];have e4:max (y.depth+1) (x.depth+1)=max x.depth y.depth+1:=by omega
     rw[e4]
    rw[hs];have fA:(Ex.bin k x y).big=false:=by rw[Ex.big,hb,hb2];rfl
    rw[fA,if_neg (by simp)];simp only[ptE,Ex.size,Ex.depth,qan];rw[show off+(x.size+y.size+1)=off+x.size+y.size+1 by omega]
   ·rw[hb2,if_pos rfl]at h2;have fA:(Ex.bin k x y).big=true:=by rw[Ex.big,hb2];simp
    rw[fA,if_pos rfl];exact h2
  ·rw[hb,if_pos rfl]at h1;have fA:(Ex.bin k x y).big=true:=by rw[Ex.big,hb];simp
   rw[fA,if_pos rfl];exact h1
def Hn(l:List Nd):Bool:=decide (1<=l.length/\l.length<=200) && (decide ((DG l).2=1) && decide (((DG l).1.getD (l.length-1) (0,0)).2<=40))
theorem R2(e:Ex)(off:Nat):(ptE off e).getD (e.size-1) (0,0)=(off,e.depth):=by
 cases e with
 |leaf k t=>rfl
 |un k n x=>rw[ptE];exact G4 (by rw[Lw];rfl)
 |bin k x y=>rw[ptE,<-qan];exact G4 (by rw[qab,Lw,Lw];rfl)
theorem L3(e:Ex)(hw:e.Well):Hn (Ag 0 e)=(!e.big && decide (e.size<=200/\e.depth<=40)):=by
 have h:=Qg e hw 0 [] [] [];have hz:=e.size_pos;rw[qaW]at h;cases hb:e.big
 ·rw[hb,if_neg (by simp)]at h;have hp:DG (Ag 0 e)=(ptE 0 e,1):=h;have hl:=R2 e 0;unfold Hn;rw[hp,Ak];simp only[hl];simp only[decide_true,qaQ,qaH];rw[<-Bool.decide_and,decide_eq_decide];omega
 ·rw[hb,if_pos rfl]at h;have hp:(DG (Ag 0 e)).2=0:=by
   unfold DG;rw[h]
  unfold Hn;rw[hp];simp
open Go.RowKit
def Gk(p:Nat->Option Ex × Nat)(ts:List Tok)(a:Nat):Option Ex × Nat:=
 if isS ts a [40] then (match p (a+1) with
  |(none,b)=>(none,b)
  |(some x,b)=>if isS ts b [41] then (some x,b+1) else (none,b))
 else (none,a)
theorem Pn{p:Nat->Option Ex × Nat}{ts:List Tok}{a:Nat}(h:isS ts a [40]=false):Gk p ts a=(none,a):=by unfold Gk;rw[if_neg (by rw[h];simp)]
theorem K0{p:Nat->Option Ex × Nat}{ts:List Tok}{a b:Nat}(h:isS ts a [40]=true)(hp:p (a+1)=(none,b)):Gk p ts a=(none,b):=by unfold Gk;rw[if_pos h,hp]
theorem M4{p:Nat->Option Ex × Nat}{ts:List Tok}{a b:Nat}{x:Ex}(h:isS ts a [40]=true)(hp:p (a+1)=(some x,b))(h2:isS ts b [41]=false):Gk p ts a=(none,b):=by
 unfold Gk;rw[if_pos h,hp];simp only;rw[if_neg (by rw[h2];simp)]
theorem Pm{p:Nat->Option Ex × Nat}{ts:List Tok}{a b:Nat}{x:Ex}(h:isS ts a [40]=true)(hp:p (a+1)=(some x,b))(h2:isS ts b [41]=true):Gk p ts a=(some x,b+1):=by
 unfold Gk;rw[if_pos h,hp];simp only;rw[if_pos h2]
def Em(t:List UInt8):Nat:=t.foldl (fun n c=>10*n+(c.toNat-48)) 0
theorem K5(t:List UInt8)(i:Nat)(hi:i<t.length):Em (t.take (i+1))=10*Em (t.take i)+(t[i].toNat-48):=by
 unfold Em;rw[qah hi,qaO];rfl
theorem Pt{t:List UInt8}(i:Nat)(h:(t.take i).all (fun c=>Dp c.toNat)=true)(hl:t.length<=2):Em (t.take i)<=99:=by
 refine JQ (t:=t.take i) ?_
 unfold C5 Em;rw[if_pos ⟨by rw[qas];omega,h⟩]
end Big
end Go.Proofs.YtkoaogkknnelaaaGreatDoor
