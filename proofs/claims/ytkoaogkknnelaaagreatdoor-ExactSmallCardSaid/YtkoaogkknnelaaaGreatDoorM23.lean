import Derived.Test.YtkoaogkknnelaaaGreatDoorM22
set_option linter.unusedVariables false
set_option linter.unusedSimpArgs false
namespace Go.Proofs.YtkoaogkknnelaaaGreatDoor
namespace Big
def Ex.Well:Ex->Prop
 | .leaf k t=>(k=1/\Bm t=0)\/(k=2/\Ej t=true)\/((k=3\/k=4)/\t=[])
 | .un k n x=>(k=5\/(10<=k/\k<=16))/\(k≠10->n=0)∧-99<=n/\n<=99/\x.Well
 | .bin k x y=>(6<=k/\k<=9)/\x.Well/\y.Well
def Ex.big:Ex->Bool
 | .leaf _ _=>false
 | .un k n x=>(k == 10 && !(decide (-64<=n/\n<=64))) || x.big
 | .bin _ x y=>x.big || y.big
theorem MH{t:List UInt8}(h:Bm t=0):t.length<=400:=by
 unfold Bm at h;split at h
 ·cases h
 ·omega
theorem Ex.Well.good{e:Ex}(h:e.Well)(hb:e.big=false):e.Good:=by
 induction e with
 |leaf k t=>
  rcases h with ⟨h1,h2⟩|h|h
  ·exact .inl ⟨h1,h2,MH h2⟩
  ·exact .inr (.inl h)
  ·exact .inr (.inr h)
 |un k n x ih=>
  obtain⟨h1,h2,h3,h4,h5⟩:=h;unfold Ex.big at hb;rw[Bool.or_eq_false_iff]at hb;have h6: -64<=n/\n<=64:=by
   by_cases hk:k=10
   ·subst hk;have:=hb.1
    simpa using this
   ·rw[h2 hk];omega
  exact⟨h1,h2,h6.1,h6.2,ih h5 hb.2⟩
 |bin k x y ihx ihy=>
  obtain⟨h1,h2,h3⟩:=h;unfold Ex.big at hb;rw[Bool.or_eq_false_iff]at hb;exact⟨h1,ihx h2 hb.1,ihy h3 hb.2⟩
theorem Ex.Good.well{e:Ex}(h:e.Good):e.Well/\e.big=false:=by
 induction e with
 |leaf k t=>
  refine⟨?_,rfl⟩;rcases h with ⟨h1,h2,_⟩|h|h
  ·exact .inl ⟨h1,h2⟩
  ·exact .inr (.inl h)
  ·exact .inr (.inr h)
 |un k n x ih=>
  obtain⟨h1,h2,h3,h4,h5⟩:=h;refine⟨⟨h1,h2,by omega,by omega,(ih h5).1⟩,?_⟩;unfold Ex.big;rw[(ih h5).2,decide_eq_true (And.intro h3 h4)];simp
 |bin k x y ihx ihy=>
  obtain⟨h1,h2,h3⟩:=h;refine⟨⟨h1,(ihx h2).1,(ihy h3).1⟩,?_⟩;unfold Ex.big;rw[(ihx h2).2,(ihy h3).2];rfl
theorem Io(t:List UInt8)(h:Bw t≠0):11<=Bw t/\Bw t<=16:=by
 unfold Bw at h ⊢
 (repeat' split)<;>first|omega|(exfalso;revert h;simp_all)
theorem JL{t:List UInt8}{n:Nat}(h:CW t=some n):n<=99:=by
 unfold CW at h;split at h
 ·rename_i hc;injection h with h
  obtain⟨h1,h2⟩:=hc;have hd:∀c:UInt8,Df c.toNat=true->c.toNat-48<=9:=fun c hc=>by
   unfold Df at hc;simp only[Bool.and_eq_true,decide_eq_true_eq]at hc;omega
  match t,h1,h2,h with
  |[],_,_,h=>simp at h;omega
  |[c],_,h2,h=>
   simp only[List.all_cons,List.all_nil,Bool.and_true]at h2;have:=hd c h2;simp at h;omega
  |[c,d],_,h2,h=>
   simp only[List.all_cons,List.all_nil,Bool.and_true,Bool.and_eq_true]at h2;have:=hd c h2.1;have:=hd d h2.2;simp at h;omega
  |c::d::e::r,h1,_,_=>simp at h1
 ·cases h
theorem IP{ts:List Tok}{a n:Nat}(h:EC ts a=some n):n<=99:=by
 unfold EC at h;split at h
 ·split at h
  ·exact JL h
  ·cases h
 ·cases h
theorem M3{t:Tok}(h:Cz t)(fu:t.kind≠1)(jY:t.kind≠3)(hf:Bw t.text=0)(h1:t.text≠[112,105])(h2:t.text≠[101]):Ej t.text=true:=by
 rcases h with ⟨hk,_⟩|⟨hk,q1,q2,q3,q4⟩|⟨hk,_⟩
 ·omega
 ·have hr:Bk t.text=false:=by
   unfold Bk;simp[h1,h2,hf]
  have hw:C0 t.text=true:=by
   rw[Ka];have hne:(t.text == [])=false:=by
    rw[beq_eq_false_iff_ne];intro he;rw[he]at q3;simp at q3
   have yG:Bn t.text=t.text.length:=by
    unfold Bn;have:D2 (Af t.text 0)=true:=q2;rw[this,if_pos rfl];exact q1
   rw[hne,yG];simp[q4]
  unfold Ej;rw[hw];rw[Ct]at hr;have:([[112,105],[101],[115,113,114,116],[101,120,112],[108,110],[115,105,110],[99,111,115],[97,116,97,110]]:List (List UInt8)).contains t.text=false:=hr;rw[this];rfl
 ·omega
def PW(p:Nat->Option Ex × Nat):Prop:=∀a x b,p a=(some x,b)->x.Well
section
variable {ts:List Tok} {p:Nat->Option Ex × Nat}
theorem NK(ht:∀t∈ts,Cz t)(hp:PW p):PW (CS p ts):=by
 intro a x b h;unfold CS at h;split at h
 ·cases h
 ·rename_i t lY;have hf:=ht t (List.mem_of_getElem? lY);split at h
  ·split at h
   ·split at h
    ·cases h
    ·rename_i y c hy;split at h
     ·injection h with h1 _
      injection h1 with h1
      subst h1;exact hp _ _ _ hy
     ·cases h
   ·cases h
  ·rename_i h3;split at h
   ·rename_i h1;injection h with h4 _
    injection h4 with h4
    subst h4;rcases hf with ⟨_,hc,_⟩|⟨hk,_⟩|⟨hk,_⟩
    ·exact .inl ⟨rfl,hc⟩
    ·omega
    ·omega
   ·rename_i h1;split at h
    ·rename_i hfk;split at h
     ·split at h
      ·cases h
      ·rename_i y c hy;split at h
       ·injection h with h4 _
        injection h4 with h4
        subst h4;have:=Io _ hfk;exact⟨.inr ⟨by omega,this.2⟩,fun _=>rfl,by omega,by omega,hp _ _ _ hy⟩
       ·cases h
     ·cases h
    ·rename_i hfk;split at h
     ·injection h with h4 _
      injection h4 with h4
      subst h4;exact .inr (.inr ⟨.inl rfl,rfl⟩)
     ·rename_i jE;split at h
      ·injection h with h4 _
       injection h4 with h4
       subst h4;exact .inr (.inr ⟨.inr rfl,rfl⟩)
      ·rename_i he;injection h with h4 _
       injection h4 with h4
       subst h4;exact .inr (.inl ⟨rfl,M3 hf h1 h3 (by omega) jE he⟩)
theorem Ma(ht:∀t∈ts,Cz t)(hp:PW p):PW (AX p ts):=by
 intro a x b h;unfold AX at h;split at h
 ·cases h
 ·rename_i y c hy;have hw:=NK ht hp _ _ _ hy;split at h
  ·split at h
   ·split at h
    ·rename_i n hn;have:=IP hn;injection h with h4 _
     injection h4 with h4
     subst h4;exact⟨.inr ⟨by omega,by omega⟩,fun h=>absurd rfl h,by omega,by omega,hw⟩
    ·cases h
   ·split at h
    ·rename_i n hn;have:=IP hn;injection h with h4 _
     injection h4 with h4
     subst h4;exact⟨.inr ⟨by omega,by omega⟩,fun h=>absurd rfl h,by omega,by omega,hw⟩
    ·cases h
  ·injection h with h4 _
   injection h4 with h4
   subst h4;exact hw
theorem PU(n:Nat):∀x:Ex,x.Well->(Lg n x).Well:=by
 induction n with
 |zero=>intro x h;exact h
 |succ n ih=>intro x h;exact ih _ ⟨.inl rfl,fun _=>rfl,by omega,by omega,h⟩
theorem Mf(ht:∀t∈ts,Cz t)(hp:PW p):PW (BJ p ts):=by
 intro a x b h;unfold BJ at h;split at h
 ·cases h
 ·rename_i y c hy;injection h with h4 _
  injection h4 with h4
  subst h4;exact PU _ _ (Ma ht hp _ _ _ hy)
theorem Lt{op:Nat->Option Ex × Nat}{c1 c2:List UInt8}{k1 k2:Nat}(h1:6<=k1/\k1<=9)(h2:6<=k2/\k2<=9)(ho:PW op):∀(f:Nat) (e:Ex) (a:Nat),e.Well->∀x b,BC op ts c1 c2 k1 k2 f e a=(some x,b)->x.Well:=by
 intro f
 induction f with
 |zero=>
  intro e a he x b h;unfold BC at h;injection h with h4 _
  injection h4 with h4
  subst h4;exact he
 |succ f ih=>
  intro e a he x b h;unfold BC at h;split at h
  ·split at h
   ·cases h
   ·rename_i y c hy;exact ih _ _ (show (Ex.bin k1 e y).Well from ⟨h1,he,ho _ _ _ hy⟩) _ _ h
  ·split at h
   ·split at h
    ·cases h
    ·rename_i y c hy;exact ih _ _ (show (Ex.bin k2 e y).Well from ⟨h2,he,ho _ _ _ hy⟩) _ _ h
   ·injection h with h4 _
    injection h4 with h4
    subst h4;exact he
theorem Ip{op:Nat->Option Ex × Nat}{c1 c2:List UInt8}{k1 k2:Nat}(h1:6<=k1/\k1<=9)(h2:6<=k2/\k2<=9)(ho:PW op):PW (CZ op ts c1 c2 k1 k2):=by
 intro a x b h;unfold CZ at h;split at h
 ·cases h
 ·rename_i y c hy;exact Lt h1 h2 ho _ _ _ (ho _ _ _ hy) _ _ h
theorem PQ(ht:∀t∈ts,Cz t):∀f,PW (Bh ts f):=by
 intro f
 induction f with
 |zero=>intro a x b h;cases h
 |succ f ih=>exact Ip (by omega) (by omega) (Ip (by omega) (by omega) (Mf ht ih))
end
def AT(i:Nat)(st:List (Nat × Nat))(x:Nd):Option ((Nat × Nat) × List (Nat × Nat)):=
 if Ay x.kind<0\/(st.length:Int)<Ay x.kind\/Az x=false then none
 else if Ay x.kind=0 then (if x.a=0/\x.b=0 then some ((i,1),st++[(i,1)]) else none)
 else if Ay x.kind=1 then
  (if x.a=(i:Int)-1/\x.b=0 then some (((st.getD (st.length-1) (0,0)).1,(st.getD (st.length-1) (0,0)).2+1),st.take (st.length-1)++[((st.getD (st.length-1) (0,0)).1,(st.getD (st.length-1) (0,0)).2+1)]) else none)
 else (if x.a=((st.getD (st.length-1) (0,0)).1:Int)-1/\x.b=(i:Int)-1 then
   some (((st.getD (st.length-2) (0,0)).1,max ((st.getD (st.length-1) (0,0)).2+1) ((st.getD (st.length-2) (0,0)).2+1)),st.take (st.length-2)++[((st.getD (st.length-2) (0,0)).1,max ((st.getD (st.length-1) (0,0)).2+1) ((st.getD (st.length-2) (0,0)).2+1))]) else none)
def F4:Nat->List (Nat × Nat)->List (Nat × Nat)->List Nd->List (Nat × Nat) × Nat
 |_,all,st,[]=>(all,st.length)
 |i,all,st,x::t=>match AT i st x with
  |none=>(all,0)
  |some (p,st')=>F4 (i+1) (all++[p]) st' t
def Dw(l:List Nd):List (Nat × Nat) × Nat:=F4 0 [] [] l
def ptE:Nat->Ex->List (Nat × Nat)
 |off,.leaf _ _=>[(off,1)]
 |off,.un _ _ x=>ptE off x++[(off,x.depth+1)]
 |off,.bin _ x y=>ptE off x++(ptE (off+x.size) y++[(off,max x.depth y.depth+1)])
theorem K9(e:Ex):∀off,(ptE off e).length=e.size:=by
 induction e with
 |leaf k t=>intro off;rfl
 |un k n x ih=>intro off;rw[ptE,List.length_append,ih];rfl
 |bin k x y ihx ihy=>intro off;rw[ptE,List.length_append,List.length_append,ihx,ihy,List.length_singleton,Ex.size];omega
theorem Lb{k:Nat}{n:Int}{x:Ex}(h:(Ex.un k n x).Well)(a b:Int):Az ⟨(k:Int),a,b,n,[]⟩= !(k == 10 && !(decide (-64<=n/\n<=64))):=by
 obtain⟨h1,h2,h3,h4,_⟩:=h;unfold Az Ch B5;rw[if_neg (by simp only;omega),if_neg (by simp only;omega)];by_cases hk:k=10
 ·subst hk;simp
 ·rw[if_neg (by simp only;omega)];simp[h2 hk]
theorem GL{L:List (Nat × Nat)}{x:Nat × Nat}{i:Nat}(h:i=L.length):(L++[x]).getD i (0,0)=x:=by
 subst h;rw[List.getD_eq_getElem?_getD,List.getElem?_append_right (Nat.le_refl _),Nat.sub_self];rfl
theorem PL(e:Ex)(hw:e.Well):∀(off:Nat) (all st:List (Nat × Nat)) (t:List Nd),F4 off all st (Ak off e++t)=if e.big then ((F4 off all st (Ak off e++t)).1,0) else F4 (off+e.size) (all++ptE off e) (st++[(off,e.depth)]) t:=by
 induction e with
 |leaf k t'=>
  intro off all st t;have hk:1<=k/\k<=4:=by unfold Ex.Well at hw;omega
  have ho:Ay (k:Int)=0:=by unfold Ay;rw[if_neg (by omega),if_pos (by omega)]
  have hp:Az ⟨(k:Int),0,0,0,t'⟩=true:=by
   unfold Az Ch B5;rw[if_neg (c:=(k:Int)=10) (by omega)];rcases hw with ⟨rfl,h⟩|⟨rfl,h⟩|⟨h,rfl⟩
   ·simp[h]
   ·simp[h]
   ·rw[if_neg (by simp only;omega),if_neg (by simp only;omega)];rfl
  have hs:AT off st ⟨(k:Int),0,0,0,t'⟩=some ((off,1),st++[(off,1)]):=by
   unfold AT;simp only[ho,hp];rw[if_neg (by first|(simp;done)|(simp;omega))];simp
  rw[Ex.big,if_neg (by simp),Ak,List.singleton_append,F4,hs];rfl
 |un k n x ih=>
  intro off all st t;have hx:=hw.2.2.2.2;have hz:=x.size_pos;have hk:=hw.1;have ho:Ay (k:Int)=1:=by unfold Ay;rw[if_neg (by omega),if_neg (by omega),if_neg (by omega)]
  have h1:=ih hx off all st ([⟨(k:Int),((off+x.size-1:Nat):Int),0,n,[]⟩]++t);have lF:Ak off (.un k n x)++t=Ak off x++([⟨(k:Int),((off+x.size-1:Nat):Int),0,n,[]⟩]++t):=by rw[Ak,List.append_assoc]
  rw[lF];cases hb:x.big
  ·rw[hb,if_neg (by simp)]at h1;rw[h1,List.singleton_append,F4];have hpl:=Lb hw ((off+x.size-1:Nat):Int) 0;cases hb2:(k == 10 && !(decide (-64<=n/\n<=64)))
   ·rw[hb2]at hpl;have hs:AT (off+x.size) (st++[(off,x.depth)]) ⟨(k:Int),((off+x.size-1:Nat):Int),0,n,[]⟩=some ((off,x.depth+1),st++[(off,x.depth+1)]):=by
     unfold AT;simp only[ho,hpl];rw[if_neg (by first|(simp;done)|(simp;omega)),if_neg (by decide),if_pos trivial,if_pos (by first|omega|(refine⟨?_,trivial⟩;omega))];rw[GL (by simp),List.take_left' (by simp)]
    rw[hs];have dK:(Ex.un k n x).big=false:=by rw[Ex.big,hb2,hb];rfl
    rw[dK,if_neg (by simp)];simp only[ptE,Ex.size,Ex.depth,List.append_assoc];rfl
   ·rw[hb2]at hpl;have hs:AT (off+x.size) (st++[(off,x.depth)]) ⟨(k:Int),((off+x.size-1:Nat):Int),0,n,[]⟩=none:=by
     unfold AT;rw[if_pos (.inr (.inr hpl))]
    rw[hs];have dK:(Ex.un k n x).big=true:=by rw[Ex.big,hb2];rfl
    rw[dK,if_pos rfl]
  ·rw[hb,if_pos rfl]at h1;have dK:(Ex.un k n x).big=true:=by rw[Ex.big,hb];simp
   rw[dK,if_pos rfl];exact h1
 |bin k x y ihx ihy=>
  intro off all st t;have hx:=hw.2.1;have hy:=hw.2.2;have hz:=x.size_pos;have ba:=y.size_pos;have hk:=hw.1;have ho:Ay (k:Int)=2:=by unfold Ay;rw[if_neg (by omega),if_neg (by omega),if_pos (by omega)]
  have lF:Ak off (.bin k x y)++t=Ak off x++(Ak (off+x.size) y++([⟨(k:Int),((off+x.size-1:Nat):Int),((off+x.size+y.size-1:Nat):Int),0,[]⟩]++t)):=by rw[Ak];simp only[List.append_assoc]
  rw[lF];have h1:=ihx hx off all st (Ak (off+x.size) y++([⟨(k:Int),((off+x.size-1:Nat):Int),((off+x.size+y.size-1:Nat):Int),0,[]⟩]++t));cases hb:x.big
  ·rw[hb,if_neg (by simp)]at h1;rw[h1];have h2:=ihy hy (off+x.size) (all++ptE off x) (st++[(off,x.depth)]) ([⟨(k:Int),((off+x.size-1:Nat):Int),((off+x.size+y.size-1:Nat):Int),0,[]⟩]++t);cases hb2:y.big
   ·rw[hb2,if_neg (by simp)]at h2;rw[h2,List.singleton_append,F4];have hp:Az ⟨(k:Int),((off+x.size-1:Nat):Int),((off+x.size+y.size-1:Nat):Int),0,[]⟩=true:=by
     unfold Az Ch B5;rw[if_neg (by simp only;omega),if_neg (by simp only;omega),if_neg (by simp only;omega)];rfl
    have hs:AT (off+x.size+y.size) (st++[(off,x.depth)]++[(off+x.size,y.depth)]) ⟨(k:Int),((off+x.size-1:Nat):Int),((off+x.size+y.size-1:Nat):Int),0,[]⟩=some ((off,max x.depth y.depth+1),st++[(off,max x.depth y.depth+1)]):=by
     unfold AT;simp only[ho,hp];have e1:(st++[(off,x.depth)]++[(off+x.size,y.depth)]).getD ((st++[(off,x.depth)]++[(off+x.size,y.depth)]).length-1) (0,0)=(off+x.size,y.depth):=GL (by simp);have e2:(st++[(off,x.depth)]++[(off+x.size,y.depth)]).getD ((st++[(off,x.depth)]++[(off+x.size,y.depth)]).length-2) (0,0)=(off,x.depth):=by
      rw[List.getD_eq_getElem?_getD,List.append_assoc,List.getElem?_append_right (by simp)];simp
     have e3:(st++[(off,x.depth)]++[(off+x.size,y.depth)]).take ((st++[(off,x.depth)]++[(off+x.size,y.depth)]).length-2)=st:=by
      rw[List.append_assoc,List.take_left' (by simp)]
     rw[if_neg (by first|(simp;done)|(simp;omega)),if_neg (by decide),if_neg (by decide),e1,e2,e3,if_pos (by simp only;omega)];have e4:max (y.depth+1) (x.depth+1)=max x.depth y.depth+1:=by omega
     rw[e4]
    rw[hs];have dK:(Ex.bin k x y).big=false:=by rw[Ex.big,hb,hb2];rfl
    rw[dK,if_neg (by simp)];simp only[ptE,Ex.size,Ex.depth,List.append_assoc];rw[show off+(x.size+y.size+1)=off+x.size+y.size+1 by omega]
   ·rw[hb2,if_pos rfl]at h2;have dK:(Ex.bin k x y).big=true:=by rw[Ex.big,hb2];simp
    rw[dK,if_pos rfl];exact h2
  ·rw[hb,if_pos rfl]at h1;have dK:(Ex.bin k x y).big=true:=by rw[Ex.big,hb];simp
   rw[dK,if_pos rfl];exact h1
def GZ(l:List Nd):Bool:=decide (1<=l.length/\l.length<=200) && (decide ((Dw l).2=1) && decide (((Dw l).1.getD (l.length-1) (0,0)).2<=40))
theorem Rs(e:Ex)(off:Nat):(ptE off e).getD (e.size-1) (0,0)=(off,e.depth):=by
 cases e with
 |leaf k t=>rfl
 |un k n x=>rw[ptE];exact GL (by rw[K9];rfl)
 |bin k x y=>rw[ptE,<-List.append_assoc];exact GL (by rw[List.length_append,K9,K9];rfl)
theorem Hw(e:Ex)(hw:e.Well):GZ (Ak 0 e)=(!e.big && decide (e.size<=200/\e.depth<=40)):=by
 have h:=PL e hw 0 [] [] [];have hz:=e.size_pos;rw[List.append_nil]at h;cases hb:e.big
 ·rw[hb,if_neg (by simp)]at h;have hp:Dw (Ak 0 e)=(ptE 0 e,1):=h;have hl:=Rs e 0;unfold GZ;rw[hp,AO];simp only[hl];simp only[decide_true,Bool.true_and,Bool.not_false];rw[<-Bool.decide_and,decide_eq_decide];omega
 ·rw[hb,if_pos rfl]at h;have hp:(Dw (Ak 0 e)).2=0:=by
   unfold Dw;rw[h]
  unfold GZ;rw[hp];simp
open Go.RowKit
def FO(p:Nat->Option Ex × Nat)(ts:List Tok)(a:Nat):Option Ex × Nat:=
 if isS ts a [40] then (match p (a+1) with
  |(none,b)=>(none,b)
  |(some x,b)=>if isS ts b [41] then (some x,b+1) else (none,b))
 else (none,a)
theorem OH{p:Nat->Option Ex × Nat}{ts:List Tok}{a:Nat}(h:isS ts a [40]=false):FO p ts a=(none,a):=by unfold FO;rw[if_neg (by rw[h];simp)]
theorem KD{p:Nat->Option Ex × Nat}{ts:List Tok}{a b:Nat}(h:isS ts a [40]=true)(hp:p (a+1)=(none,b)):FO p ts a=(none,b):=by unfold FO;rw[if_pos h,hp]
theorem MA{p:Nat->Option Ex × Nat}{ts:List Tok}{a b:Nat}{x:Ex}(h:isS ts a [40]=true)(hp:p (a+1)=(some x,b))(h2:isS ts b [41]=false):FO p ts a=(none,b):=by
 unfold FO;rw[if_pos h,hp];simp only;rw[if_neg (by rw[h2];simp)]
theorem OG{p:Nat->Option Ex × Nat}{ts:List Tok}{a b:Nat}{x:Ex}(h:isS ts a [40]=true)(hp:p (a+1)=(some x,b))(h2:isS ts b [41]=true):FO p ts a=(some x,b+1):=by
 unfold FO;rw[if_pos h,hp];simp only;rw[if_pos h2]
def D5(t:List UInt8):Nat:=t.foldl (fun n c=>10*n+(c.toNat-48)) 0
theorem KK(t:List UInt8)(i:Nat)(hi:i<t.length):D5 (t.take (i+1))=10*D5 (t.take i)+(t[i].toNat-48):=by
 unfold D5;rw[List.take_succ_eq_append_getElem hi,List.foldl_append];rfl
theorem OO{t:List UInt8}(i:Nat)(h:(t.take i).all (fun c=>Df c.toNat)=true)(hl:t.length<=2):D5 (t.take i)<=99:=by
 refine JL (t:=t.take i) ?_
 unfold CW D5;rw[if_pos ⟨by rw[List.length_take];omega,h⟩]
section
variable {p:Nat->Option Ex × Nat} {ts:List Tok} {a b n:Nat} {x:Ex}
theorem Mb(h:CS p ts a=(none,b)):AX p ts a=(none,b):=by unfold AX;rw[h]
theorem Ld(h:CS p ts a=(some x,b))(h1:isS ts b [94]=false):AX p ts a=(some x,b):=TN h h1
theorem NJ(h:CS p ts a=(some x,b))(h1:isS ts b [94]=true)(h2:isS ts (b+1) [45]=true)(h3:EC ts (b+2)=some n):AX p ts a=(some (.un 10 (-(n:Int)) x),b+3):=by
 unfold AX;rw[h];simp only;rw[if_pos h1,if_pos h2,h3]
theorem J3(h:CS p ts a=(some x,b))(h1:isS ts b [94]=true)(h2:isS ts (b+1) [45]=true)(h3:EC ts (b+2)=none):AX p ts a=(none,b+2):=by
 unfold AX;rw[h];simp only;rw[if_pos h1,if_pos h2,h3]
theorem NI(h:CS p ts a=(some x,b))(h1:isS ts b [94]=true)(h2:isS ts (b+1) [45]=false)(h3:EC ts (b+1)=some n):AX p ts a=(some (.un 10 (n:Int) x),b+2):=by
 unfold AX;rw[h];simp only;rw[if_pos h1,if_neg (by rw[h2];simp),h3]
theorem J2(h:CS p ts a=(some x,b))(h1:isS ts b [94]=true)(h2:isS ts (b+1) [45]=false)(h3:EC ts (b+1)=none):AX p ts a=(none,b+1):=by
 unfold AX;rw[h];simp only;rw[if_pos h1,if_neg (by rw[h2];simp),h3]
theorem BZ(off k:Nat)(z:Int):Ak off (.un k z x)=Ak off x++[⟨(k:Int),((off+x.size-1:Nat):Int),0,z,[]⟩]:=rfl
end
section
variable {p:Nat->Option Ex × Nat} {ts:List Tok} {a b:Nat} {x:Ex}
theorem Vi(h:isS ts a [45]=false):Bd ts ts.length a=0:=CT _ h
theorem T7(h:isS ts a [45]=true):Bd ts ts.length a=Bd ts ts.length (a+1)+1:=by
 have hl:=Cl h;obtain⟨n,hn⟩:∃n,ts.length=n+1:=⟨ts.length-1,by omega⟩;rw[hn,Bd,if_pos h,<-J5 (n+1) n (a+1) (by omega) (by omega)]
end
end Big
end Go.Proofs.YtkoaogkknnelaaaGreatDoor
