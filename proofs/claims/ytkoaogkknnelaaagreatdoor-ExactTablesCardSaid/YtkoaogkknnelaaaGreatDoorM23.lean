import Derived.Test.YtkoaogkknnelaaaGreatDoorM22
set_option linter.unusedVariables false
set_option linter.unusedSimpArgs false
namespace Go.Proofs.YtkoaogkknnelaaaGreatDoor
namespace Big
def Ex.Well:Ex->Prop
 | .leaf k t=>(k=1/\Bh t=0)\/(k=2/\DQ t=true)\/((k=3\/k=4)/\t=[])
 | .un k n x=>(k=5\/(10<=k/\k<=16))/\(k≠10->n=0)∧-99<=n/\n<=99/\x.Well
 | .bin k x y=>(6<=k/\k<=9)/\x.Well/\y.Well
def Ex.big:Ex->Bool
 | .leaf _ _=>false
 | .un k n x=>(k == 10 && !(decide (-64<=n/\n<=64))) || x.big
 | .bin _ x y=>x.big || y.big
theorem MX{t:List UInt8}(h:Bh t=0):t.length<=400:=by
 unfold Bh at h;split at h
 ·cases h
 ·omega
theorem Ex.Well.good{e:Ex}(h:e.Well)(hb:e.big=false):e.Good:=by
 induction e with
 |leaf k t=>
  rcases h with ⟨h1,h2⟩|h|h
  ·exact .inl ⟨h1,h2,MX h2⟩
  ·exact .inr (.inl h)
  ·exact .inr (.inr h)
 |un k n x ih=>
  obtain⟨h1,h2,h3,h4,h5⟩:=h;unfold Ex.big at hb;rw[qcl]at hb;have h6: -64<=n/\n<=64:=by
   by_cases hk:k=10
   ·subst hk;have:=hb.1
    simpa using this
   ·rw[h2 hk];omega
  exact⟨h1,h2,h6.1,h6.2,ih h5 hb.2⟩
 |bin k x y ihx ihy=>
  obtain⟨h1,h2,h3⟩:=h;unfold Ex.big at hb;rw[qcl]at hb;exact⟨h1,ihx h2 hb.1,ihy h3 hb.2⟩
theorem Ex.Good.well{e:Ex}(h:e.Good):e.Well/\e.big=false:=by
 induction e with
 |leaf k t=>
  refine⟨?_,rfl⟩;rcases h with ⟨h1,h2,_⟩|h|h
  ·exact .inl ⟨h1,h2⟩
  ·exact .inr (.inl h)
  ·exact .inr (.inr h)
 |un k n x ih=>
  obtain⟨h1,h2,h3,h4,h5⟩:=h;refine⟨⟨h1,h2,by omega,by omega,(ih h5).1⟩,?_⟩;unfold Ex.big;rw[(ih h5).2,decide_eq_true (And.intro h3 h4)];simp
 |bin k x y ihx ihy=>
  obtain⟨h1,h2,h3⟩:=h;refine⟨⟨h1,(ihx h2).1,(ihy h3).1⟩,?_⟩;unfold Ex.big;rw[(ihx h2).2,(ihy h3).2];rfl
theorem IG(t:List UInt8)(h:BD t≠0):11<=BD t/\BD t<=16:=by
 unfold BD at h ⊢
 (repeat' split)<;>first|omega|(exfalso;revert h;simp_all)
theorem JZ{t:List UInt8}{n:Nat}(h:C5 t=some n):n<=99:=by
 unfold C5 at h;split at h
 ·rename_i hc;injection h with h
  obtain⟨h1,h2⟩:=hc;have hd:∀c:UInt8,Dl c.toNat=true->c.toNat-48<=9:=fun c hc=>by
   unfold Dl at hc;simp only[qaT,decide_eq_true_eq]at hc;omega
  match t,h1,h2,h with
  |[],_,_,h=>simp at h;omega
  |[c],_,h2,h=>
   simp only[qcc,List.all_nil,Bool.and_true]at h2;have:=hd c h2;simp at h;omega
  |[c,d],_,h2,h=>
   simp only[qcc,List.all_nil,Bool.and_true,qaT]at h2;have:=hd c h2.1;have:=hd d h2.2;simp at h;omega
  |c::d::e::r,h1,_,_=>simp at h1
 ·cases h
theorem I5{ts:List Tok}{a n:Nat}(h:ER ts a=some n):n<=99:=by
 unfold ER at h;split at h
 ·split at h
  ·exact JZ h
  ·cases h
 ·cases h
theorem No{t:Tok}(h:CH t)(fJ:t.kind≠1)(d9:t.kind≠3)(hf:BD t.text=0)(h1:t.text≠[112,105])(h2:t.text≠[101]):DQ t.text=true:=by
 rcases h with ⟨hk,_⟩|⟨hk,q1,q2,q3,q4⟩|⟨hk,_⟩
 ·omega
 ·have hr:Bn t.text=false:=by
   unfold Bn;simp[h1,h2,hf]
  have hw:C9 t.text=true:=by
   rw[Kq];have hne:(t.text == [])=false:=by
    rw[beq_eq_false_iff_ne];intro he;rw[he]at q3;simp at q3
   have zy:Bq t.text=t.text.length:=by
    unfold Bq;have:Ee (Af t.text 0)=true:=q2;rw[this,if_pos rfl];exact q1
   rw[hne,zy];simp[q4]
  unfold DQ;rw[hw];rw[CB]at hr;have:([[112,105],[101],[115,113,114,116],[101,120,112],[108,110],[115,105,110],[99,111,115],[97,116,97,110]]:List (List UInt8)).contains t.text=false:=hr;rw[this];rfl
 ·omega
def PW(p:Nat->Option Ex × Nat):Prop:=∀a x b,p a=(some x,b)->x.Well
section
variable {ts:List Tok} {p:Nat->Option Ex × Nat}
theorem N5(ht:∀t∈ts,CH t)(hp:PW p):PW (C1 p ts):=by
 intro a x b h;unfold C1 at h;split at h
 ·cases h
 ·rename_i t mJ;have hf:=ht t (qbf mJ);split at h
  ·split at h
   ·split at h
    ·cases h
    ·rename_i y c hy;split at h
     ·injection h with h1 _
      injection h1 with h1
      subst h1;exact hp _ _ _ hy
     ·cases h
   ·cases h
  ·rename_i h3;split at h
   ·rename_i h1;injection h with h4 _
    injection h4 with h4
    subst h4;rcases hf with ⟨_,hc,_⟩|⟨hk,_⟩|⟨hk,_⟩
    ·exact .inl ⟨rfl,hc⟩
    ·omega
    ·omega
   ·rename_i h1;split at h
    ·rename_i hfk;split at h
     ·split at h
      ·cases h
      ·rename_i y c hy;split at h
       ·injection h with h4 _
        injection h4 with h4
        subst h4;have:=IG _ hfk;exact⟨.inr ⟨by omega,this.2⟩,fun _=>rfl,by omega,by omega,hp _ _ _ hy⟩
       ·cases h
     ·cases h
    ·rename_i hfk;split at h
     ·injection h with h4 _
      injection h4 with h4
      subst h4;exact .inr (.inr ⟨.inl rfl,rfl⟩)
     ·rename_i kf;split at h
      ·injection h with h4 _
       injection h4 with h4
       subst h4;exact .inr (.inr ⟨.inr rfl,rfl⟩)
      ·rename_i he;injection h with h4 _
       injection h4 with h4
       subst h4;exact .inr (.inl ⟨rfl,No hf h1 h3 (by omega) kf he⟩)
theorem Mn(ht:∀t∈ts,CH t)(hp:PW p):PW (Ba p ts):=by
 intro a x b h;unfold Ba at h;split at h
 ·cases h
 ·rename_i y c hy;have hw:=N5 ht hp _ _ _ hy;split at h
  ·split at h
   ·split at h
    ·rename_i n hn;have:=I5 hn;injection h with h4 _
     injection h4 with h4
     subst h4;exact⟨.inr ⟨by omega,by omega⟩,fun h=>absurd rfl h,by omega,by omega,hw⟩
    ·cases h
   ·split at h
    ·rename_i n hn;have:=I5 hn;injection h with h4 _
     injection h4 with h4
     subst h4;exact⟨.inr ⟨by omega,by omega⟩,fun h=>absurd rfl h,by omega,by omega,hw⟩
    ·cases h
  ·injection h with h4 _
   injection h4 with h4
   subst h4;exact hw
theorem Qd(n:Nat):∀x:Ex,x.Well->(Lz n x).Well:=by
 induction n with
 |zero=>intro x h;exact h
 |succ n ih=>intro x h;exact ih _ ⟨.inl rfl,fun _=>rfl,by omega,by omega,h⟩
theorem Ms(ht:∀t∈ts,CH t)(hp:PW p):PW (BQ p ts):=by
 intro a x b h;unfold BQ at h;split at h
 ·cases h
 ·rename_i y c hy;injection h with h4 _
  injection h4 with h4
  subst h4;exact Qd _ _ (Mn ht hp _ _ _ hy)
theorem LM{op:Nat->Option Ex × Nat}{c1 c2:List UInt8}{k1 k2:Nat}(h1:6<=k1/\k1<=9)(h2:6<=k2/\k2<=9)(ho:PW op):∀(f:Nat) (e:Ex) (a:Nat),e.Well->∀x b,BK op ts c1 c2 k1 k2 f e a=(some x,b)->x.Well:=by
 intro f
 induction f with
 |zero=>
  intro e a he x b h;unfold BK at h;injection h with h4 _
  injection h4 with h4
  subst h4;exact he
 |succ f ih=>
  intro e a he x b h;unfold BK at h;split at h
  ·split at h
   ·cases h
   ·rename_i y c hy;exact ih _ _ (show (Ex.bin k1 e y).Well from ⟨h1,he,ho _ _ _ hy⟩) _ _ h
  ·split at h
   ·split at h
    ·cases h
    ·rename_i y c hy;exact ih _ _ (show (Ex.bin k2 e y).Well from ⟨h2,he,ho _ _ _ hy⟩) _ _ h
   ·injection h with h4 _
    injection h4 with h4
    subst h4;exact he
theorem II{op:Nat->Option Ex × Nat}{c1 c2:List UInt8}{k1 k2:Nat}(h1:6<=k1/\k1<=9)(h2:6<=k2/\k2<=9)(ho:PW op):PW (C8 op ts c1 c2 k1 k2):=by
 intro a x b h;unfold C8 at h;split at h
 ·cases h
 ·rename_i y c hy;exact LM h1 h2 ho _ _ _ (ho _ _ _ hy) _ _ h
theorem P8(ht:∀t∈ts,CH t):∀f,PW (Bk ts f):=by
 intro f
 induction f with
 |zero=>intro a x b h;cases h
 |succ f ih=>exact II (by omega) (by omega) (II (by omega) (by omega) (Ms ht ih))
end
def AZ(i:Nat)(st:List (Nat × Nat))(x:Nd):Option ((Nat × Nat) × List (Nat × Nat)):=
 if Az x.kind<0\/(st.length:Int)<Az x.kind\/AA x=false then none
 else if Az x.kind=0 then (if x.a=0/\x.b=0 then some ((i,1),st++[(i,1)]) else none)
 else if Az x.kind=1 then
  (if x.a=(i:Int)-1/\x.b=0 then some (((st.getD (st.length-1) (0,0)).1,(st.getD (st.length-1) (0,0)).2+1),st.take (st.length-1)++[((st.getD (st.length-1) (0,0)).1,(st.getD (st.length-1) (0,0)).2+1)]) else none)
 else (if x.a=((st.getD (st.length-1) (0,0)).1:Int)-1/\x.b=(i:Int)-1 then
   some (((st.getD (st.length-2) (0,0)).1,max ((st.getD (st.length-1) (0,0)).2+1) ((st.getD (st.length-2) (0,0)).2+1)),st.take (st.length-2)++[((st.getD (st.length-2) (0,0)).1,max ((st.getD (st.length-1) (0,0)).2+1) ((st.getD (st.length-2) (0,0)).2+1))]) else none)
def Gg:Nat->List (Nat × Nat)->List (Nat × Nat)->List Nd->List (Nat × Nat) × Nat
 |_,all,st,[]=>(all,st.length)
 |i,all,st,x::t=>match AZ i st x with
  |none=>(all,0)
  |some (p,st')=>Gg (i+1) (all++[p]) st' t
def DE(l:List Nd):List (Nat × Nat) × Nat:=Gg 0 [] [] l
def ptE:Nat->Ex->List (Nat × Nat)
 |off,.leaf _ _=>[(off,1)]
 |off,.un _ _ x=>ptE off x++[(off,x.depth+1)]
 |off,.bin _ x y=>ptE off x++(ptE (off+x.size) y++[(off,max x.depth y.depth+1)])
theorem Lq(e:Ex):∀off,(ptE off e).length=e.size:=by
 induction e with
 |leaf k t=>intro off;rfl
 |un k n x ih=>intro off;rw[ptE,qac,ih];rfl
 |bin k x y ihx ihy=>intro off;rw[ptE,qac,qac,ihx,ihy,qal,Ex.size];omega
theorem Ls{k:Nat}{n:Int}{x:Ex}(h:(Ex.un k n x).Well)(a b:Int):AA ⟨(k:Int),a,b,n,[]⟩= !(k == 10 && !(decide (-64<=n/\n<=64))):=by
 obtain⟨h1,h2,h3,h4,_⟩:=h;unfold AA Co Cc;rw[if_neg (by simp only;omega),if_neg (by simp only;omega)];by_cases hk:k=10
 ·subst hk;simp
 ·rw[if_neg (by simp only;omega)];simp[h2 hk]
theorem Ha{L:List (Nat × Nat)}{x:Nat × Nat}{i:Nat}(h:i=L.length):(L++[x]).getD i (0,0)=x:=by
 subst h;rw[qaa,qai (qab _),qaR];rfl
theorem P2(e:Ex)(hw:e.Well):∀(off:Nat) (all st:List (Nat × Nat)) (t:List Nd),Gg off all st (Ak off e++t)=if e.big then ((Gg off all st (Ak off e++t)).1,0) else Gg (off+e.size) (all++ptE off e) (st++[(off,e.depth)]) t:=by
 induction e with
 |leaf k t'=>
  intro off all st t;have hk:1<=k/\k<=4:=by unfold Ex.Well at hw;omega
  have ho:Az (k:Int)=0:=by unfold Az;rw[if_neg (by omega),if_pos (by omega)]
  have hp:AA ⟨(k:Int),0,0,0,t'⟩=true:=by
   unfold AA Co Cc;rw[if_neg (c:=(k:Int)=10) (by omega)];rcases hw with ⟨rfl,h⟩|⟨rfl,h⟩|⟨h,rfl⟩
   ·simp[h]
   ·simp[h]
   ·rw[if_neg (by simp only;omega),if_neg (by simp only;omega)];rfl
  have hs:AZ off st ⟨(k:Int),0,0,0,t'⟩=some ((off,1),st++[(off,1)]):=by
   unfold AZ;simp only[ho,hp];rw[if_neg (by first|(simp;done)|(simp;omega))];simp
  rw[Ex.big,if_neg (by simp),Ak,List.singleton_append,Gg,hs];rfl
 |un k n x ih=>
  intro off all st t;have hx:=hw.2.2.2.2;have hz:=x.size_pos;have hk:=hw.1;have ho:Az (k:Int)=1:=by unfold Az;rw[if_neg (by omega),if_neg (by omega),if_neg (by omega)]
  have h1:=ih hx off all st ([⟨(k:Int),((off+x.size-1:Nat):Int),0,n,[]⟩]++t);have mo:Ak off (.un k n x)++t=Ak off x++([⟨(k:Int),((off+x.size-1:Nat):Int),0,n,[]⟩]++t):=by rw[Ak,qao]
  rw[mo];cases hb:x.big
  ·rw[hb,if_neg (by simp)]at h1;rw[h1,List.singleton_append,Gg];have hpl:=Ls hw ((off+x.size-1:Nat):Int) 0;cases hb2:(k == 10 && !(decide (-64<=n/\n<=64)))
   ·rw[hb2]at hpl;have hs:AZ (off+x.size) (st++[(off,x.depth)]) ⟨(k:Int),((off+x.size-1:Nat):Int),0,n,[]⟩=some ((off,x.depth+1),st++[(off,x.depth+1)]):=by
     unfold AZ;simp only[ho,hpl];rw[if_neg (by first|(simp;done)|(simp;omega)),if_neg (by decide),if_pos trivial,if_pos (by first|omega|(refine⟨?_,trivial⟩;omega))];rw[Ha (by simp),List.take_left' (by simp)]
    rw[hs];have dR:(Ex.un k n x).big=false:=by rw[Ex.big,hb2,hb];rfl
    rw[dR,if_neg (by simp)];simp only[ptE,Ex.size,Ex.depth,qao];rfl
   ·rw[hb2]at hpl;have hs:AZ (off+x.size) (st++[(off,x.depth)]) ⟨(k:Int),((off+x.size-1:Nat):Int),0,n,[]⟩=none:=by
     unfold AZ;rw[if_pos (.inr (.inr hpl))]
    rw[hs];have dR:(Ex.un k n x).big=true:=by rw[Ex.big,hb2];rfl
    rw[dR,if_pos rfl]
  ·rw[hb,if_pos rfl]at h1;have dR:(Ex.un k n x).big=true:=by rw[Ex.big,hb];simp
   rw[dR,if_pos rfl];exact h1
 |bin k x y ihx ihy=>
  intro off all st t;have hx:=hw.2.1;have hy:=hw.2.2;have hz:=x.size_pos;have bu:=y.size_pos;have hk:=hw.1;have ho:Az (k:Int)=2:=by unfold Az;rw[if_neg (by omega),if_neg (by omega),if_pos (by omega)]
  have mo:Ak off (.bin k x y)++t=Ak off x++(Ak (off+x.size) y++([⟨(k:Int),((off+x.size-1:Nat):Int),((off+x.size+y.size-1:Nat):Int),0,[]⟩]++t)):=by rw[Ak];simp only[qao]
  rw[mo];have h1:=ihx hx off all st (Ak (off+x.size) y++([⟨(k:Int),((off+x.size-1:Nat):Int),((off+x.size+y.size-1:Nat):Int),0,[]⟩]++t));cases hb:x.big
  ·rw[hb,if_neg (by simp)]at h1;rw[h1];have h2:=ihy hy (off+x.size) (all++ptE off x) (st++[(off,x.depth)]) ([⟨(k:Int),((off+x.size-1:Nat):Int),((off+x.size+y.size-1:Nat):Int),0,[]⟩]++t);cases hb2:y.big
   ·rw[hb2,if_neg (by simp)]at h2;rw[h2,List.singleton_append,Gg];have hp:AA ⟨(k:Int),((off+x.size-1:Nat):Int),((off+x.size+y.size-1:Nat):Int),0,[]⟩=true:=by
     unfold AA Co Cc;rw[if_neg (by simp only;omega),if_neg (by simp only;omega),if_neg (by simp only;omega)];rfl
    have hs:AZ (off+x.size+y.size) (st++[(off,x.depth)]++[(off+x.size,y.depth)]) ⟨(k:Int),((off+x.size-1:Nat):Int),((off+x.size+y.size-1:Nat):Int),0,[]⟩=some ((off,max x.depth y.depth+1),st++[(off,max x.depth y.depth+1)]):=by
     unfold AZ;simp only[ho,hp];have e1:(st++[(off,x.depth)]++[(off+x.size,y.depth)]).getD ((st++[(off,x.depth)]++[(off+x.size,y.depth)]).length-1) (0,0)=(off+x.size,y.depth):=Ha (by simp);have e2:(st++[(off,x.depth)]++[(off+x.size,y.depth)]).getD ((st++[(off,x.depth)]++[(off+x.size,y.depth)]).length-2) (0,0)=(off,x.depth):=by
      rw[qaa,qao,qai (by simp)];simp
     have e3:(st++[(off,x.depth)]++[(off+x.size,y.depth)]).take ((st++[(off,x.depth)]++[(off+x.size,y.depth)]).length-2)=st:=by
      rw[qao,List.take_left' (by simp)]
     rw[if_neg (by first|(simp;done)|(simp;omega)),if_neg (by decide),if_neg (by decide),e1,e2,e3,if_pos (by simp only;omega)];have e4:max (y.depth+1) (x.depth+1)=max x.depth y.depth+1:=by omega
     rw[e4]
    rw[hs];have dR:(Ex.bin k x y).big=false:=by rw[Ex.big,hb,hb2];rfl
    rw[dR,if_neg (by simp)];simp only[ptE,Ex.size,Ex.depth,qao];rw[show off+(x.size+y.size+1)=off+x.size+y.size+1 by omega]
   ·rw[hb2,if_pos rfl]at h2;have dR:(Ex.bin k x y).big=true:=by rw[Ex.big,hb2];simp
    rw[dR,if_pos rfl];exact h2
  ·rw[hb,if_pos rfl]at h1;have dR:(Ex.bin k x y).big=true:=by rw[Ex.big,hb];simp
   rw[dR,if_pos rfl];exact h1
def Ho(l:List Nd):Bool:=decide (1<=l.length/\l.length<=200) && (decide ((DE l).2=1) && decide (((DE l).1.getD (l.length-1) (0,0)).2<=40))
theorem RS(e:Ex)(off:Nat):(ptE off e).getD (e.size-1) (0,0)=(off,e.depth):=by
 cases e with
 |leaf k t=>rfl
 |un k n x=>rw[ptE];exact Ha (by rw[Lq];rfl)
 |bin k x y=>rw[ptE,<-qao];exact Ha (by rw[qac,Lq,Lq];rfl)
theorem Ig(e:Ex)(hw:e.Well):Ho (Ak 0 e)=(!e.big && decide (e.size<=200/\e.depth<=40)):=by
 have h:=P2 e hw 0 [] [] [];have hz:=e.size_pos;rw[qbH]at h;cases hb:e.big
 ·rw[hb,if_neg (by simp)]at h;have hp:DE (Ak 0 e)=(ptE 0 e,1):=h;have hl:=RS e 0;unfold Ho;rw[hp,AD];simp only[hl];simp only[decide_true,qaE,qaG];rw[<-Bool.decide_and,decide_eq_decide];omega
 ·rw[hb,if_pos rfl]at h;have hp:(DE (Ak 0 e)).2=0:=by
   unfold DE;rw[h]
  unfold Ho;rw[hp];simp
open Go.RowKit
def F1(p:Nat->Option Ex × Nat)(ts:List Tok)(a:Nat):Option Ex × Nat:=
 if isS ts a [40] then (match p (a+1) with
  |(none,b)=>(none,b)
  |(some x,b)=>if isS ts b [41] then (some x,b+1) else (none,b))
 else (none,a)
theorem O3{p:Nat->Option Ex × Nat}{ts:List Tok}{a:Nat}(h:isS ts a [40]=false):F1 p ts a=(none,a):=by unfold F1;rw[if_neg (by rw[h];simp)]
theorem KY{p:Nat->Option Ex × Nat}{ts:List Tok}{a b:Nat}(h:isS ts a [40]=true)(hp:p (a+1)=(none,b)):F1 p ts a=(none,b):=by unfold F1;rw[if_pos h,hp]
theorem ML{p:Nat->Option Ex × Nat}{ts:List Tok}{a b:Nat}{x:Ex}(h:isS ts a [40]=true)(hp:p (a+1)=(some x,b))(h2:isS ts b [41]=false):F1 p ts a=(none,b):=by
 unfold F1;rw[if_pos h,hp];simp only;rw[if_neg (by rw[h2];simp)]
theorem O2{p:Nat->Option Ex × Nat}{ts:List Tok}{a b:Nat}{x:Ex}(h:isS ts a [40]=true)(hp:p (a+1)=(some x,b))(h2:isS ts b [41]=true):F1 p ts a=(some x,b+1):=by
 unfold F1;rw[if_pos h,hp];simp only;rw[if_pos h2]
def Eh(t:List UInt8):Nat:=t.foldl (fun n c=>10*n+(c.toNat-48)) 0
theorem K4(t:List UInt8)(i:Nat)(hi:i<t.length):Eh (t.take (i+1))=10*Eh (t.take i)+(t[i].toNat-48):=by
 unfold Eh;rw[qaz hi,qbx];rfl
theorem O9{t:List UInt8}(i:Nat)(h:(t.take i).all (fun c=>Dl c.toNat)=true)(hl:t.length<=2):Eh (t.take i)<=99:=by
 refine JZ (t:=t.take i) ?_
 unfold C5 Eh;rw[if_pos ⟨by rw[qam];omega,h⟩]
section
variable {p:Nat->Option Ex × Nat} {ts:List Tok} {a b n:Nat} {x:Ex}
theorem Mo(h:C1 p ts a=(none,b)):Ba p ts a=(none,b):=by unfold Ba;rw[h]
theorem Lv(h:C1 p ts a=(some x,b))(h1:isS ts b [94]=false):Ba p ts a=(some x,b):=T5 h h1
theorem N4(h:C1 p ts a=(some x,b))(h1:isS ts b [94]=true)(h2:isS ts (b+1) [45]=true)(h3:ER ts (b+2)=some n):Ba p ts a=(some (.un 10 (-(n:Int)) x),b+3):=by
 unfold Ba;rw[h];simp only;rw[if_pos h1,if_pos h2,h3]
theorem Kj(h:C1 p ts a=(some x,b))(h1:isS ts b [94]=true)(h2:isS ts (b+1) [45]=true)(h3:ER ts (b+2)=none):Ba p ts a=(none,b+2):=by
 unfold Ba;rw[h];simp only;rw[if_pos h1,if_pos h2,h3]
theorem N3(h:C1 p ts a=(some x,b))(h1:isS ts b [94]=true)(h2:isS ts (b+1) [45]=false)(h3:ER ts (b+1)=some n):Ba p ts a=(some (.un 10 (n:Int) x),b+2):=by
 unfold Ba;rw[h];simp only;rw[if_pos h1,if_neg (by rw[h2];simp),h3]
theorem Ki(h:C1 p ts a=(some x,b))(h1:isS ts b [94]=true)(h2:isS ts (b+1) [45]=false)(h3:ER ts (b+1)=none):Ba p ts a=(none,b+1):=by
 unfold Ba;rw[h];simp only;rw[if_pos h1,if_neg (by rw[h2];simp),h3]
theorem Ca(off k:Nat)(z:Int):Ak off (.un k z x)=Ak off x++[⟨(k:Int),((off+x.size-1:Nat):Int),0,z,[]⟩]:=rfl
end
end Big
end Go.Proofs.YtkoaogkknnelaaaGreatDoor
