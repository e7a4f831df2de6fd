import Derived.Test.YtkoaogkknnelaaaGreatDoorM20
set_option linter.unusedVariables false
set_option linter.unusedSimpArgs false
namespace Go.Proofs.YtkoaogkknnelaaaGreatDoor
namespace Big
def Cov(x:List UInt8):Nat->List Tok->Prop
 |a,[]=>a<=x.length/\∀i,a<=i->i<x.length->x[i]? =some 32
 |a,t::ts=>a<=t.at_/\t.text≠[]/\t.at_+t.text.length<=x.length/\(x.drop t.at_).take t.text.length=t.text/\(∀i,a<=i->i<t.at_->x[i]? =some 32)/\Cov x (t.at_+t.text.length) ts
theorem Cov.space{x:List UInt8}{a:Nat}{ts:List Tok}(hc:x[a]? =some 32)(h:Cov x (a+1) ts):Cov x a ts:=by
 cases ts with
 |nil=>
  refine⟨by have:=h.1;omega,fun i h1 h2=> ?_⟩;rcases Nat.eq_or_lt_of_le h1 with h3|h3
  ·rw[<-h3];exact hc
  ·exact h.2 i h3 h2
 |cons t ts=>
  obtain⟨h1,h2,h3,h4,h5,h6⟩:=h;refine⟨by omega,h2,h3,h4,fun i q1 q2=> ?_,h6⟩;rcases Nat.eq_or_lt_of_le q1 with q3|q3
  ·rw[<-q3];exact hc
  ·exact h5 i q3 q2
def Sd(t:Tok):Prop:=∀rest:List UInt8,(rest=[]\/∃r,rest=32::r)->C6 (t.text++rest)=some (t.kind,t.text.length)
theorem Sd.at{t:Tok}{a:Nat}(h:Sd t):Sd ⟨t.kind,a,t.text⟩:=h
def TJ(g:List UInt8):List Tok->List UInt8
 |[]=>[]
 |t::ts=>g++(t.text++TJ g ts)
def T9(c:UInt8):Bool:= !(BN c.toNat) && !(Ci c.toNat)
theorem PE(p:Nat->Bool)(m:List UInt8)(rest:List UInt8)(hr:∀c r,rest=c::r->p c.toNat=false):Aj p (m.take (Aj p m)++rest)=Aj p m:=by
 have h0:Aj p rest=0:=by
  cases rest with
  |nil=>rfl
  |cons c r=>rw[Aj,if_neg (by rw[hr c r rfl];simp)]
 induction m with
 |nil=>exact h0
 |cons c t ih=>
  rw[Aj];by_cases hc:p c.toNat=true
  ·rw[if_pos hc,List.take_succ_cons,List.cons_append,Aj,if_pos hc,ih]
  ·rw[if_neg hc];exact h0
def B1(t:Tok):Prop:=
 (t.kind=1/\Bs t.text=0/\Aj Ci t.text=t.text.length/\Dz (t.text.getD 0 0).toNat=true/\1<=t.text.length)\/
 (t.kind=2/\Aj BN t.text=t.text.length/\Ev (t.text.getD 0 0).toNat=true/\1<=t.text.length/\t.text.length<=24)\/
 (t.kind=3/\∃c:UInt8,t.text=[c]/\Gs c.toNat=true)
theorem L5(p:Nat->Bool)(m:List UInt8):Aj p (m.take (Aj p m))=(m.take (Aj p m)).length:=by
 have h1:=PE p m [] (fun c r h=>by cases h);rw[List.append_nil]at h1;have:=DH p m;rw[h1,List.length_take];omega
theorem L4{m:List UInt8}{k n:Nat}(h:C6 m=some (k,n))(a:Nat):B1 ⟨k,a,m.take n⟩:=by
 have hn:=E9 h;unfold C6 at h;split at h
 ·cases h
 ·rename_i c t;split at h
  ·rename_i hc;split at h
   ·rename_i h24;injection h with h
    injection h with h1 h2
    subst h1;subst h2;refine .inr (.inl ⟨rfl,L5 _ _,?_,?_,?_⟩)
    ·obtain⟨n',ck⟩:∃n',Aj BN (c::t)=n'+1:=⟨Aj BN (c::t)-1,by omega⟩;simp only;rw[ck,List.take_succ_cons];exact hc
    ·simp only;rw[List.length_take];omega
    ·simp only;rw[List.length_take];omega
   ·cases h
  ·split at h
   ·rename_i hd;split at h
    ·rename_i h7;injection h with h
     injection h with h1 h2
     subst h1;subst h2;refine .inl ⟨rfl,h7,L5 _ _,?_,?_⟩
     ·obtain⟨n',ck⟩:∃n',Aj Ci (c::t)=n'+1:=⟨Aj Ci (c::t)-1,by omega⟩;simp only;rw[ck,List.take_succ_cons];exact hd
     ·simp only;rw[List.length_take];omega
    ·cases h
   ·split at h
    ·rename_i hs;injection h with h
     injection h with h1 h2
     subst h1;subst h2;exact .inr (.inr ⟨rfl,c,rfl,hs⟩)
    ·cases h
theorem NA(f:Nat)(l:List UInt8):∀(a:Nat) (ts:List Tok),(∀t∈ts,B1 t)->∀t∈(D9 f l a ts).1,B1 t:=by
 induction f with
 |zero=>intro a ts _ t h;cases h
 |succ f ih=>
  intro a ts qw t h;unfold D9 at h;split at h
  ·exact qw t h
  ·split at h
   ·exact ih _ _ qw t h
   ·split at h
    ·cases h
    ·rename_i k n ht;refine ih _ _ (fun x hx=> ?_) t h;rcases List.mem_append.1 hx with hx|hx
     ·exact qw x hx
     ·rw[List.mem_singleton]at hx;subst hx;exact L4 ht a
theorem Ny(l:List UInt8):∀t∈(Bh l).1,B1 t:=by
 unfold Bh;split
 ·intro t h;cases h
 ·exact NA _ l 0 [] (fun t h=>by cases h)
def TX(e:Nat):List (Nat × Tok)->List UInt8
 |[]=>List.replicate e 32
 |(g,t)::l=>List.replicate g 32++(t.text++TX e l)
def LU:List (Nat × Tok)->Prop
 |[]=>True
 |[(_,t)]=>B1 t
 |(_,t)::(g,u)::l=>B1 t/\(1<=g\/t.kind=3\/u.kind=3)/\LU ((g,u)::l)
theorem LU.head{g:Nat}{t:Tok}{l:List (Nat × Tok)}(h:LU ((g,t)::l)):B1 t/\LU l:=by
 cases l with
 |nil=>exact⟨h,trivial⟩
 |cons p l=>exact⟨h.1,h.2.2⟩
def tkS(t:List UInt8):Tok:=⟨3,0,t⟩
def SK(b:Bool)(g:Nat)(q:Nat->List (Nat × Tok)):List (Nat × Tok):=if b then (g,tkS [40])::(q 0++[(0,tkS [41])]) else q g
def pcN(n:Int):List (Nat × Tok):=if n<0 then [(0,tkS [45]),(0,⟨1,0,dec n.natAbs⟩)] else [(0,⟨1,0,dec n.natAbs⟩)]
def pcs:Ex->Nat->List (Nat × Tok)
 | .leaf k t,g=>if k=3 then [(g,⟨2,0,[112,105]⟩)] else if k=4 then [(g,⟨2,0,[101]⟩)] else [(g,⟨k,0,t⟩)]
 | .un k n x,g=>if k=5 then (g,tkS [45])::SK (decide (BR x.kind<3)) 0 (pcs x)
   else if k=10 then SK (decide (BR x.kind<5)) g (pcs x)++((0,tkS [94])::pcN n)
   else (g,⟨2,0,RN k⟩)::(0,tkS [40])::(pcs x 0++[(0,tkS [41])])
 | .bin k x y,g=>SK (decide (BR x.kind<BR k)) g (pcs x)++((1,tkS (TH k))::SK (decide (BR y.kind<BR k+1)) 1 (pcs y))
def Ex.Well:Ex->Prop
 | .leaf k t=>(k=1/\Bs t=0)\/(k=2/\Cs t=true)\/((k=3\/k=4)/\t=[])
 | .un k n x=>(k=5\/(10<=k/\k<=16))/\(k≠10->n=0)∧-99<=n/\n<=99/\x.Well
 | .bin k x y=>(6<=k/\k<=9)/\x.Well/\y.Well
def Ex.big:Ex->Bool
 | .leaf _ _=>false
 | .un k n x=>(k == 10 && !(decide (-64<=n/\n<=64))) || x.big
 | .bin _ x y=>x.big || y.big
theorem M6{t:List UInt8}(h:Bs t=0):t.length<=400:=by
 unfold Bs at h;split at h
 ·cases h
 ·omega
theorem Ex.Well.good{e:Ex}(h:e.Well)(hb:e.big=false):e.Good:=by
 induction e with
 |leaf k t=>
  rcases h with ⟨h1,h2⟩|h|h
  ·exact .inl ⟨h1,h2,M6 h2⟩
  ·exact .inr (.inl h)
  ·exact .inr (.inr h)
 |un k n x ih=>
  obtain⟨h1,h2,h3,h4,h5⟩:=h;unfold Ex.big at hb;rw[Bool.or_eq_false_iff]at hb;have h6: -64<=n/\n<=64:=by
   by_cases hk:k=10
   ·subst hk;have:=hb.1
    simpa using this
   ·rw[h2 hk];omega
  exact⟨h1,h2,h6.1,h6.2,ih h5 hb.2⟩
 |bin k x y ihx ihy=>
  obtain⟨h1,h2,h3⟩:=h;unfold Ex.big at hb;rw[Bool.or_eq_false_iff]at hb;exact⟨h1,ihx h2 hb.1,ihy h3 hb.2⟩
theorem Ex.Good.well{e:Ex}(h:e.Good):e.Well/\e.big=false:=by
 induction e with
 |leaf k t=>
  refine⟨?_,rfl⟩;rcases h with ⟨h1,h2,_⟩|h|h
  ·exact .inl ⟨h1,h2⟩
  ·exact .inr (.inl h)
  ·exact .inr (.inr h)
 |un k n x ih=>
  obtain⟨h1,h2,h3,h4,h5⟩:=h;refine⟨⟨h1,h2,by omega,by omega,(ih h5).1⟩,?_⟩;unfold Ex.big;rw[(ih h5).2,decide_eq_true (And.intro h3 h4)];simp
 |bin k x y ihx ihy=>
  obtain⟨h1,h2,h3⟩:=h;refine⟨⟨h1,(ihx h2).1,(ihy h3).1⟩,?_⟩;unfold Ex.big;rw[(ihx h2).2,(ihy h3).2];rfl
theorem ID(t:List UInt8)(h:Br t≠0):11<=Br t/\Br t<=16:=by
 unfold Br at h ⊢
 (repeat' split)<;>first|omega|(exfalso;revert h;simp_all)
theorem JX{t:List UInt8}{n:Nat}(h:C4 t=some n):n<=99:=by
 unfold C4 at h;split at h
 ·rename_i hc;injection h with h
  obtain⟨h1,h2⟩:=hc;have hd:∀c:UInt8,Dz c.toNat=true->c.toNat-48<=9:=fun c hc=>by
   unfold Dz at hc;simp only[Bool.and_eq_true,decide_eq_true_eq]at hc;omega
  match t,h1,h2,h with
  |[],_,_,h=>simp at h;omega
  |[c],_,h2,h=>
   simp only[List.all_cons,List.all_nil,Bool.and_true]at h2;have:=hd c h2;simp at h;omega
  |[c,d],_,h2,h=>
   simp only[List.all_cons,List.all_nil,Bool.and_true,Bool.and_eq_true]at h2;have:=hd c h2.1;have:=hd d h2.2;simp at h;omega
  |c::d::e::r,h1,_,_=>simp at h1
 ·cases h
theorem IX{ts:List Tok}{a n:Nat}(h:E5 ts a=some n):n<=99:=by
 unfold E5 at h;split at h
 ·split at h
  ·exact JX h
  ·cases h
 ·cases h
theorem Nn{t:Tok}(h:B1 t)(fg:t.kind≠1)(dG:t.kind≠3)(hf:Br t.text=0)(h1:t.text≠[112,105])(h2:t.text≠[101]):Cs t.text=true:=by
 rcases h with ⟨hk,_⟩|⟨hk,q1,q2,q3,q4⟩|⟨hk,_⟩
 ·omega
 ·have hr:Bb t.text=false:=by
   unfold Bb;simp[h1,h2,hf]
  have hw:CS t.text=true:=by
   rw[Ks];have hne:(t.text == [])=false:=by
    rw[beq_eq_false_iff_ne];intro he;rw[he]at q3;simp at q3
   have y8:Bk t.text=t.text.length:=by
    unfold Bk;have:Ev (Ac t.text 0)=true:=q2;rw[this,if_pos rfl];exact q1
   rw[hne,y8];simp[q4]
  unfold Cs;rw[hw];rw[B3]at hr;have:([[112,105],[101],[115,113,114,116],[101,120,112],[108,110],[115,105,110],[99,111,115],[97,116,97,110]]:List (List UInt8)).contains t.text=false:=hr;rw[this];rfl
 ·omega
def PW(p:Nat->Option Ex × Nat):Prop:=∀a x b,p a=(some x,b)->x.Well
section
variable {ts:List Tok} {p:Nat->Option Ex × Nat}
theorem NY(ht:∀t∈ts,B1 t)(hp:PW p):PW (C1 p ts):=by
 intro a x b h;unfold C1 at h;split at h
 ·cases h
 ·rename_i t kL;have hf:=ht t (List.mem_of_getElem? kL);split at h
  ·split at h
   ·split at h
    ·cases h
    ·rename_i y c hy;split at h
     ·injection h with h1 _
      injection h1 with h1
      subst h1;exact hp _ _ _ hy
     ·cases h
   ·cases h
  ·rename_i h3;split at h
   ·rename_i h1;injection h with h4 _
    injection h4 with h4
    subst h4;rcases hf with ⟨_,hc,_⟩|⟨hk,_⟩|⟨hk,_⟩
    ·exact .inl ⟨rfl,hc⟩
    ·omega
    ·omega
   ·rename_i h1;split at h
    ·rename_i hfk;split at h
     ·split at h
      ·cases h
      ·rename_i y c hy;split at h
       ·injection h with h4 _
        injection h4 with h4
        subst h4;have:=ID _ hfk;exact⟨.inr ⟨by omega,this.2⟩,fun _=>rfl,by omega,by omega,hp _ _ _ hy⟩
       ·cases h
     ·cases h
    ·rename_i hfk;split at h
     ·injection h with h4 _
      injection h4 with h4
      subst h4;exact .inr (.inr ⟨.inl rfl,rfl⟩)
     ·rename_i ku;split at h
      ·injection h with h4 _
       injection h4 with h4
       subst h4;exact .inr (.inr ⟨.inr rfl,rfl⟩)
      ·rename_i he;injection h with h4 _
       injection h4 with h4
       subst h4;exact .inr (.inl ⟨rfl,Nn hf h1 h3 (by omega) ku he⟩)
theorem Mq(ht:∀t∈ts,B1 t)(hp:PW p):PW (AT p ts):=by
 intro a x b h;unfold AT at h;split at h
 ·cases h
 ·rename_i y c hy;have hw:=NY ht hp _ _ _ hy;split at h
  ·split at h
   ·split at h
    ·rename_i n hn;have:=IX hn;injection h with h4 _
     injection h4 with h4
     subst h4;exact⟨.inr ⟨by omega,by omega⟩,fun h=>absurd rfl h,by omega,by omega,hw⟩
    ·cases h
   ·split at h
    ·rename_i n hn;have:=IX hn;injection h with h4 _
     injection h4 with h4
     subst h4;exact⟨.inr ⟨by omega,by omega⟩,fun h=>absurd rfl h,by omega,by omega,hw⟩
    ·cases h
  ·injection h with h4 _
   injection h4 with h4
   subst h4;exact hw
theorem PX(n:Nat):∀x:Ex,x.Well->(LD n x).Well:=by
 induction n with
 |zero=>intro x h;exact h
 |succ n ih=>intro x h;exact ih _ ⟨.inl rfl,fun _=>rfl,by omega,by omega,h⟩
theorem Mv(ht:∀t∈ts,B1 t)(hp:PW p):PW (BH p ts):=by
 intro a x b h;unfold BH at h;split at h
 ·cases h
 ·rename_i y c hy;injection h with h4 _
  injection h4 with h4
  subst h4;exact PX _ _ (Mq ht hp _ _ _ hy)
theorem LP{op:Nat->Option Ex × Nat}{c1 c2:List UInt8}{k1 k2:Nat}(h1:6<=k1/\k1<=9)(h2:6<=k2/\k2<=9)(ho:PW op):∀(f:Nat) (e:Ex) (a:Nat),e.Well->∀x b,By op ts c1 c2 k1 k2 f e a=(some x,b)->x.Well:=by
 intro f
 induction f with
 |zero=>
  intro e a he x b h;unfold By at h;injection h with h4 _
  injection h4 with h4
  subst h4;exact he
 |succ f ih=>
  intro e a he x b h;unfold By at h;split at h
  ·split at h
   ·cases h
   ·rename_i y c hy;exact ih _ _ (show (Ex.bin k1 e y).Well from ⟨h1,he,ho _ _ _ hy⟩) _ _ h
  ·split at h
   ·split at h
    ·cases h
    ·rename_i y c hy;exact ih _ _ (show (Ex.bin k2 e y).Well from ⟨h2,he,ho _ _ _ hy⟩) _ _ h
   ·injection h with h4 _
    injection h4 with h4
    subst h4;exact he
theorem IF{op:Nat->Option Ex × Nat}{c1 c2:List UInt8}{k1 k2:Nat}(h1:6<=k1/\k1<=9)(h2:6<=k2/\k2<=9)(ho:PW op):PW (Db op ts c1 c2 k1 k2):=by
 intro a x b h;unfold Db at h;split at h
 ·cases h
 ·rename_i y c hy;exact LP h1 h2 ho _ _ _ (ho _ _ _ hy) _ _ h
theorem PT(ht:∀t∈ts,B1 t):∀f,PW (Be ts f):=by
 intro f
 induction f with
 |zero=>intro a x b h;cases h
 |succ f ih=>exact IF (by omega) (by omega) (IF (by omega) (by omega) (Mv ht ih))
end
def AP(i:Nat)(st:List (Nat × Nat))(x:Nd):Option ((Nat × Nat) × List (Nat × Nat)):=
 if Ap x.kind<0\/(st.length:Int)<Ap x.kind\/Ay x=false then none
 else if Ap x.kind=0 then (if x.a=0/\x.b=0 then some ((i,1),st++[(i,1)]) else none)
 else if Ap x.kind=1 then
  (if x.a=(i:Int)-1/\x.b=0 then some (((st.getD (st.length-1) (0,0)).1,(st.getD (st.length-1) (0,0)).2+1),st.take (st.length-1)++[((st.getD (st.length-1) (0,0)).1,(st.getD (st.length-1) (0,0)).2+1)]) else none)
 else (if x.a=((st.getD (st.length-1) (0,0)).1:Int)-1/\x.b=(i:Int)-1 then
   some (((st.getD (st.length-2) (0,0)).1,max ((st.getD (st.length-1) (0,0)).2+1) ((st.getD (st.length-2) (0,0)).2+1)),st.take (st.length-2)++[((st.getD (st.length-2) (0,0)).1,max ((st.getD (st.length-1) (0,0)).2+1) ((st.getD (st.length-2) (0,0)).2+1))]) else none)
def GJ:Nat->List (Nat × Nat)->List (Nat × Nat)->List Nd->List (Nat × Nat) × Nat
 |_,all,st,[]=>(all,st.length)
 |i,all,st,x::t=>match AP i st x with
  |none=>(all,0)
  |some (p,st')=>GJ (i+1) (all++[p]) st' t
def DT(l:List Nd):List (Nat × Nat) × Nat:=GJ 0 [] [] l
def ptE:Nat->Ex->List (Nat × Nat)
 |off,.leaf _ _=>[(off,1)]
 |off,.un _ _ x=>ptE off x++[(off,x.depth+1)]
 |off,.bin _ x y=>ptE off x++(ptE (off+x.size) y++[(off,max x.depth y.depth+1)])
theorem Lx(e:Ex):∀off,(ptE off e).length=e.size:=by
 induction e with
 |leaf k t=>intro off;rfl
 |un k n x ih=>intro off;rw[ptE,List.length_append,ih];rfl
 |bin k x y ihx ihy=>intro off;rw[ptE,List.length_append,List.length_append,ihx,ihy,List.length_singleton,Ex.size];omega
theorem Ly{k:Nat}{n:Int}{x:Ex}(h:(Ex.un k n x).Well)(a b:Int):Ay ⟨(k:Int),a,b,n,[]⟩= !(k == 10 && !(decide (-64<=n/\n<=64))):=by
 obtain⟨h1,h2,h3,h4,_⟩:=h;unfold Ay Ch B4;rw[if_neg (by simp only;omega),if_neg (by simp only;omega)];by_cases hk:k=10
 ·subst hk;simp
 ·rw[if_neg (by simp only;omega)];simp[h2 hk]
theorem Ha{L:List (Nat × Nat)}{x:Nat × Nat}{i:Nat}(h:i=L.length):(L++[x]).getD i (0,0)=x:=by
 subst h;rw[List.getD_eq_getElem?_getD,List.getElem?_append_right (Nat.le_refl _),Nat.sub_self];rfl
theorem PQ(e:Ex)(hw:e.Well):∀(off:Nat) (all st:List (Nat × Nat)) (t:List Nd),GJ off all st (Ag off e++t)=if e.big then ((GJ off all st (Ag off e++t)).1,0) else GJ (off+e.size) (all++ptE off e) (st++[(off,e.depth)]) t:=by
 induction e with
 |leaf k t'=>
  intro off all st t;have hk:1<=k/\k<=4:=by unfold Ex.Well at hw;omega
  have ho:Ap (k:Int)=0:=by unfold Ap;rw[if_neg (by omega),if_pos (by omega)]
  have hp:Ay ⟨(k:Int),0,0,0,t'⟩=true:=by
   unfold Ay Ch B4;rw[if_neg (c:=(k:Int)=10) (by omega)];rcases hw with ⟨rfl,h⟩|⟨rfl,h⟩|⟨h,rfl⟩
   ·simp[h]
   ·simp[h]
   ·rw[if_neg (by simp only;omega),if_neg (by simp only;omega)];rfl
  have hs:AP off st ⟨(k:Int),0,0,0,t'⟩=some ((off,1),st++[(off,1)]):=by
   unfold AP;simp only[ho,hp];rw[if_neg (by first|(simp;done)|(simp;omega))];simp
  rw[Ex.big,if_neg (by simp),Ag,List.singleton_append,GJ,hs];rfl
 |un k n x ih=>
  intro off all st t;have hx:=hw.2.2.2.2;have hz:=x.size_pos;have hk:=hw.1;have ho:Ap (k:Int)=1:=by unfold Ap;rw[if_neg (by omega),if_neg (by omega),if_neg (by omega)]
  have h1:=ih hx off all st ([⟨(k:Int),((off+x.size-1:Nat):Int),0,n,[]⟩]++t);have kS:Ag off (.un k n x)++t=Ag off x++([⟨(k:Int),((off+x.size-1:Nat):Int),0,n,[]⟩]++t):=by rw[Ag,List.append_assoc]
  rw[kS];cases hb:x.big
  ·rw[hb,if_neg (by simp)]at h1;rw[h1,List.singleton_append,GJ];have hpl:=Ly hw ((off+x.size-1:Nat):Int) 0;cases hb2:(k == 10 && !(decide (-64<=n/\n<=64)))
   ·rw[hb2]at hpl;have hs:AP (off+x.size) (st++[(off,x.depth)]) ⟨(k:Int),((off+x.size-1:Nat):Int),0,n,[]⟩=some ((off,x.depth+1),st++[(off,x.depth+1)]):=by
     unfold AP;simp only[ho,hpl];rw[if_neg (by first|(simp;done)|(simp;omega)),if_neg (by decide),if_pos trivial,if_pos (by first|omega|(refine⟨?_,trivial⟩;omega))];rw[Ha (by simp),List.take_left' (by simp)]
    rw[hs];have fW:(Ex.un k n x).big=false:=by rw[Ex.big,hb2,hb];rfl
    rw[fW,if_neg (by simp)];simp only[ptE,Ex.size,Ex.depth,List.append_assoc];rfl
   ·rw[hb2]at hpl;have hs:AP (off+x.size) (st++[(off,x.depth)]) ⟨(k:Int),((off+x.size-1:Nat):Int),0,n,[]⟩=none:=by
     unfold AP;rw[if_pos (.inr (.inr hpl))]
    rw[hs];have fW:(Ex.un k n x).big=true:=by rw[Ex.big,hb2];rfl
    rw[fW,if_pos rfl]
  ·rw[hb,if_pos rfl]at h1;have fW:(Ex.un k n x).big=true:=by rw[Ex.big,hb];simp
   rw[fW,if_pos rfl];exact h1
 |bin k x y ihx ihy=>
  intro off all st t;have hx:=hw.2.1;have hy:=hw.2.2;have hz:=x.size_pos;have a9:=y.size_pos;have hk:=hw.1;have ho:Ap (k:Int)=2:=by unfold Ap;rw[if_neg (by omega),if_neg (by omega),if_pos (by omega)]
  have kS:Ag off (.bin k x y)++t=Ag off x++(Ag (off+x.size) y++([⟨(k:Int),((off+x.size-1:Nat):Int),((off+x.size+y.size-1:Nat):Int),0,[]⟩]++t)):=by rw[Ag];simp only[List.append_assoc]
  rw[kS];have h1:=ihx hx off all st (Ag (off+x.size) y++([⟨(k:Int),((off+x.size-1:Nat):Int),((off+x.size+y.size-1:Nat):Int),0,[]⟩]++t));cases hb:x.big
  ·rw[hb,if_neg (by simp)]at h1;rw[h1];have h2:=ihy hy (off+x.size) (all++ptE off x) (st++[(off,x.depth)]) ([⟨(k:Int),((off+x.size-1:Nat):Int),((off+x.size+y.size-1:Nat):Int),0,[]⟩]++t);cases hb2:y.big
   ·rw[hb2,if_neg (by simp)]at h2;rw[h2,List.singleton_append,GJ];have hp:Ay ⟨(k:Int),((off+x.size-1:Nat):Int),((off+x.size+y.size-1:Nat):Int),0,[]⟩=true:=by
     unfold Ay Ch B4;rw[if_neg (by simp only;omega),if_neg (by simp only;omega),if_neg (by simp only;omega)];rfl
    have hs:AP (off+x.size+y.size) (st++[(off,x.depth)]++[(off+x.size,y.depth)]) ⟨(k:Int),((off+x.size-1:Nat):Int),((off+x.size+y.size-1:Nat):Int),0,[]⟩=some ((off,max x.depth y.depth+1),st++[(off,max x.depth y.depth+1)]):=by
     unfold AP;simp only[ho,hp];have e1:(st++[(off,x.depth)]++[(off+x.size,y.depth)]).getD ((st++[(off,x.depth)]++[(off+x.size,y.depth)]).length-1) (0,0)=(off+x.size,y.depth):=Ha (by simp);have e2:(st++[(off,x.depth)]++[(off+x.size,y.depth)]).getD ((st++[(off,x.depth)]++[(off+x.size,y.depth)]).length-2) (0,0)=(off,x.depth):=by
      rw[List.getD_eq_getElem?_getD,List.append_assoc,List.getElem?_append_right (by simp)];simp
     have e3:(st++[(off,x.depth)]++[(off+x.size,y.depth)]).take ((st++[(off,x.depth)]++[(off+x.size,y.depth)]).length-2)=st:=by
      rw[List.append_assoc,List.take_left' (by simp)]
     rw[if_neg (by first|(simp;done)|(simp;omega)),if_neg (by decide),if_neg (by decide),e1,e2,e3,if_pos (by simp only;omega)];have e4:max (y.depth+1) (x.depth+1)=max x.depth y.depth+1:=by omega
     rw[e4]
    rw[hs];have fW:(Ex.bin k x y).big=false:=by rw[Ex.big,hb,hb2];rfl
    rw[fW,if_neg (by simp)];simp only[ptE,Ex.size,Ex.depth,List.append_assoc];rw[show off+(x.size+y.size+1)=off+x.size+y.size+1 by omega]
   ·rw[hb2,if_pos rfl]at h2;have fW:(Ex.bin k x y).big=true:=by rw[Ex.big,hb2];simp
    rw[fW,if_pos rfl];exact h2
  ·rw[hb,if_pos rfl]at h1;have fW:(Ex.bin k x y).big=true:=by rw[Ex.big,hb];simp
   rw[fW,if_pos rfl];exact h1
def Hq(l:List Nd):Bool:=decide (1<=l.length/\l.length<=200) && (decide ((DT l).2=1) && decide (((DT l).1.getD (l.length-1) (0,0)).2<=40))
theorem Rm(e:Ex)(off:Nat):(ptE off e).getD (e.size-1) (0,0)=(off,e.depth):=by
 cases e with
 |leaf k t=>rfl
 |un k n x=>rw[ptE];exact Ha (by rw[Lx];rfl)
 |bin k x y=>rw[ptE,<-List.append_assoc];exact Ha (by rw[List.length_append,Lx,Lx];rfl)
theorem L0(e:Ex)(hw:e.Well):Hq (Ag 0 e)=(!e.big && decide (e.size<=200/\e.depth<=40)):=by
 have h:=PQ e hw 0 [] [] [];have hz:=e.size_pos;rw[List.append_nil]at h;cases hb:e.big
 ·rw[hb,if_neg (by simp)]at h;have hp:DT (Ag 0 e)=(ptE 0 e,1):=h;have hl:=Rm e 0;unfold Hq;rw[hp,AF];simp only[hl];simp only[decide_true,Bool.true_and,Bool.not_false];rw[<-Bool.decide_and,decide_eq_decide];omega
 ·rw[hb,if_pos rfl]at h;have hp:(DT (Ag 0 e)).2=0:=by
   unfold DT;rw[h]
  unfold Hq;rw[hp];simp
open Go.RowKit
def Gm(p:Nat->Option Ex × Nat)(ts:List Tok)(a:Nat):Option Ex × Nat:=
 if isS ts a [40] then (match p (a+1) with
  |(none,b)=>(none,b)
  |(some x,b)=>if isS ts b [41] then (some x,b+1) else (none,b))
 else (none,a)
theorem O2{p:Nat->Option Ex × Nat}{ts:List Tok}{a:Nat}(h:isS ts a [40]=false):Gm p ts a=(none,a):=by unfold Gm;rw[if_neg (by rw[h];simp)]
theorem K1{p:Nat->Option Ex × Nat}{ts:List Tok}{a b:Nat}(h:isS ts a [40]=true)(hp:p (a+1)=(none,b)):Gm p ts a=(none,b):=by unfold Gm;rw[if_pos h,hp]
theorem MW{p:Nat->Option Ex × Nat}{ts:List Tok}{a b:Nat}{x:Ex}(h:isS ts a [40]=true)(hp:p (a+1)=(some x,b))(h2:isS ts b [41]=false):Gm p ts a=(none,b):=by
 unfold Gm;rw[if_pos h,hp];simp only;rw[if_neg (by rw[h2];simp)]
theorem O1{p:Nat->Option Ex × Nat}{ts:List Tok}{a b:Nat}{x:Ex}(h:isS ts a [40]=true)(hp:p (a+1)=(some x,b))(h2:isS ts b [41]=true):Gm p ts a=(some x,b+1):=by
 unfold Gm;rw[if_pos h,hp];simp only;rw[if_pos h2]
def Ez(t:List UInt8):Nat:=t.foldl (fun n c=>10*n+(c.toNat-48)) 0
theorem K9(t:List UInt8)(i:Nat)(hi:i<t.length):Ez (t.take (i+1))=10*Ez (t.take i)+(t[i].toNat-48):=by
 unfold Ez;rw[List.take_succ_eq_append_getElem hi,List.foldl_append];rfl
theorem O8{t:List UInt8}(i:Nat)(h:(t.take i).all (fun c=>Dz c.toNat)=true)(hl:t.length<=2):Ez (t.take i)<=99:=by
 refine JX (t:=t.take i) ?_
 unfold C4 Ez;rw[if_pos ⟨by rw[List.length_take];omega,h⟩]
def I3(w:World)(r:Option Nat)(e:Ending)(w':World):Prop:=Ext w w'/\match r with
 |some n=>e= .returned (.tuple #[.int .i64 (n:Int),.bool true])
 |none=>e= .returned (.tuple #[.int .i64 0,.bool false])
end Big
end Go.Proofs.YtkoaogkknnelaaaGreatDoor
