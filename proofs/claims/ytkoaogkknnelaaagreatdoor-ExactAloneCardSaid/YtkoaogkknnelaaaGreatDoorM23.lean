import Derived.Test.YtkoaogkknnelaaaGreatDoorM22
set_option linter.unusedVariables false
set_option linter.unusedSimpArgs false
namespace Go.Proofs.YtkoaogkknnelaaaGreatDoor
namespace Big
def Ex.Well:Ex->Prop
 | .leaf k t=>(k=1/\AX t=0)\/(k=2/\Dv t=true)\/((k=3\/k=4)/\t=[])
 | .un k n x=>(k=5\/(10<=k/\k<=16))/\(k≠10->n=0)∧-99<=n/\n<=99/\x.Well
 | .bin k x y=>(6<=k/\k<=9)/\x.Well/\y.Well
def Ex.big:Ex->Bool
 | .leaf _ _=>false
 | .un k n x=>(k == 10 && !(decide (-64<=n/\n<=64))) || x.big
 | .bin _ x y=>x.big || y.big
theorem Mp{t:List UInt8}(h:AX t=0):t.length<=400:=by
 unfold AX at h;split at h
 ·cases h
 ·omega
theorem Ex.Well.good{e:Ex}(h:e.Well)(hb:e.big=false):e.Good:=by
 induction e with
 |leaf k t=>
  rcases h with ⟨h1,h2⟩|h|h
  ·exact .inl ⟨h1,h2,Mp h2⟩
  ·exact .inr (.inl h)
  ·exact .inr (.inr h)
 |un k n x ih=>
  obtain⟨h1,h2,h3,h4,h5⟩:=h;unfold Ex.big at hb;rw[Bool.or_eq_false_iff]at hb;have h6: -64<=n/\n<=64:=by
   by_cases hk:k=10
   ·subst hk;have:=hb.1
    simpa using this
   ·rw[h2 hk];omega
  exact⟨h1,h2,h6.1,h6.2,ih h5 hb.2⟩
 |bin k x y ihx ihy=>
  obtain⟨h1,h2,h3⟩:=h;unfold Ex.big at hb;rw[Bool.or_eq_false_iff]at hb;exact⟨h1,ihx h2 hb.1,ihy h3 hb.2⟩
theorem Ex.Good.well{e:Ex}(h:e.Good):e.Well/\e.big=false:=by
 induction e with
 |leaf k t=>
  refine⟨?_,rfl⟩;rcases h with ⟨h1,h2,_⟩|h|h
  ·exact .inl ⟨h1,h2⟩
  ·exact .inr (.inl h)
  ·exact .inr (.inr h)
 |un k n x ih=>
  obtain⟨h1,h2,h3,h4,h5⟩:=h;refine⟨⟨h1,h2,by omega,by omega,(ih h5).1⟩,?_⟩;unfold Ex.big;rw[(ih h5).2,decide_eq_true (And.intro h3 h4)];simp
 |bin k x y ihx ihy=>
  obtain⟨h1,h2,h3⟩:=h;refine⟨⟨h1,(ihx h2).1,(ihy h3).1⟩,?_⟩;unfold Ex.big;rw[(ihx h2).2,(ihy h3).2];rfl
theorem HH(t:List UInt8)(h:Bm t≠0):11<=Bm t/\Bm t<=16:=by
 unfold Bm at h ⊢
 (repeat' split)<;>first|omega|(exfalso;revert h;simp_all)
theorem Jk{t:List UInt8}{n:Nat}(h:CO t=some n):n<=99:=by
 unfold CO at h;split at h
 ·rename_i hc;injection h with h
  obtain⟨h1,h2⟩:=hc;have hd:∀c:UInt8,C5 c.toNat=true->c.toNat-48<=9:=fun c hc=>by
   unfold C5 at hc;simp only[Bool.and_eq_true,decide_eq_true_eq]at hc;omega
  match t,h1,h2,h with
  |[],_,_,h=>simp at h;omega
  |[c],_,h2,h=>
   simp only[List.all_cons,List.all_nil,Bool.and_true]at h2;have:=hd c h2;simp at h;omega
  |[c,d],_,h2,h=>
   simp only[List.all_cons,List.all_nil,Bool.and_true,Bool.and_eq_true]at h2;have:=hd c h2.1;have:=hd d h2.2;simp at h;omega
  |c::d::e::r,h1,_,_=>simp at h1
 ·cases h
theorem Io{ts:List Tok}{a n:Nat}(h:Er ts a=some n):n<=99:=by
 unfold Er at h;split at h
 ·split at h
  ·exact Jk h
  ·cases h
 ·cases h
theorem MK{t:Tok}(h:BS t)(eQ:t.kind≠1)(dx:t.kind≠3)(hf:Bm t.text=0)(h1:t.text≠[112,105])(h2:t.text≠[101]):Dv t.text=true:=by
 rcases h with ⟨hk,_⟩|⟨hk,q1,q2,q3,q4⟩|⟨hk,_⟩
 ·omega
 ·have hr:Bc t.text=false:=by
   unfold Bc;simp[h1,h2,hf]
  have hw:CT t.text=true:=by
   rw[JM];have hne:(t.text == [])=false:=by
    rw[beq_eq_false_iff_ne];intro he;rw[he]at q3;simp at q3
   have xe:Bf t.text=t.text.length:=by
    unfold Bf;have:DN (Ae t.text 0)=true:=q2;rw[this,if_pos rfl];exact q1
   rw[hne,xe];simp[q4]
  unfold Dv;rw[hw];rw[Ci]at hr;have:([[112,105],[101],[115,113,114,116],[101,120,112],[108,110],[115,105,110],[99,111,115],[97,116,97,110]]:List (List UInt8)).contains t.text=false:=hr;rw[this];rfl
 ·omega
def PW(p:Nat->Option Ex × Nat):Prop:=∀a x b,p a=(some x,b)->x.Well
section
variable {ts:List Tok} {p:Nat->Option Ex × Nat}
theorem Np(ht:∀t∈ts,BS t)(hp:PW p):PW (CJ p ts):=by
 intro a x b h;unfold CJ at h;split at h
 ·cases h
 ·rename_i t jK;have hf:=ht t (List.mem_of_getElem? jK);split at h
  ·split at h
   ·split at h
    ·cases h
    ·rename_i y c hy;split at h
     ·injection h with h1 _
      injection h1 with h1
      subst h1;exact hp _ _ _ hy
     ·cases h
   ·cases h
  ·rename_i h3;split at h
   ·rename_i h1;injection h with h4 _
    injection h4 with h4
    subst h4;rcases hf with ⟨_,hc,_⟩|⟨hk,_⟩|⟨hk,_⟩
    ·exact .inl ⟨rfl,hc⟩
    ·omega
    ·omega
   ·rename_i h1;split at h
    ·rename_i hfk;split at h
     ·split at h
      ·cases h
      ·rename_i y c hy;split at h
       ·injection h with h4 _
        injection h4 with h4
        subst h4;have:=HH _ hfk;exact⟨.inr ⟨by omega,this.2⟩,fun _=>rfl,by omega,by omega,hp _ _ _ hy⟩
       ·cases h
     ·cases h
    ·rename_i hfk;split at h
     ·injection h with h4 _
      injection h4 with h4
      subst h4;exact .inr (.inr ⟨.inl rfl,rfl⟩)
     ·rename_i ju;split at h
      ·injection h with h4 _
       injection h4 with h4
       subst h4;exact .inr (.inr ⟨.inr rfl,rfl⟩)
      ·rename_i he;injection h with h4 _
       injection h4 with h4
       subst h4;exact .inr (.inl ⟨rfl,MK hf h1 h3 (by omega) ju he⟩)
theorem LO(ht:∀t∈ts,BS t)(hp:PW p):PW (AQ p ts):=by
 intro a x b h;unfold AQ at h;split at h
 ·cases h
 ·rename_i y c hy;have hw:=Np ht hp _ _ _ hy;split at h
  ·split at h
   ·split at h
    ·rename_i n hn;have:=Io hn;injection h with h4 _
     injection h4 with h4
     subst h4;exact⟨.inr ⟨by omega,by omega⟩,fun h=>absurd rfl h,by omega,by omega,hw⟩
    ·cases h
   ·split at h
    ·rename_i n hn;have:=Io hn;injection h with h4 _
     injection h4 with h4
     subst h4;exact⟨.inr ⟨by omega,by omega⟩,fun h=>absurd rfl h,by omega,by omega,hw⟩
    ·cases h
  ·injection h with h4 _
   injection h4 with h4
   subst h4;exact hw
theorem PD(n:Nat):∀x:Ex,x.Well->(KT n x).Well:=by
 induction n with
 |zero=>intro x h;exact h
 |succ n ih=>intro x h;exact ih _ ⟨.inl rfl,fun _=>rfl,by omega,by omega,h⟩
theorem LT(ht:∀t∈ts,BS t)(hp:PW p):PW (By p ts):=by
 intro a x b h;unfold By at h;split at h
 ·cases h
 ·rename_i y c hy;injection h with h4 _
  injection h4 with h4
  subst h4;exact PD _ _ (LO ht hp _ _ _ hy)
theorem K5{op:Nat->Option Ex × Nat}{c1 c2:List UInt8}{k1 k2:Nat}(h1:6<=k1/\k1<=9)(h2:6<=k2/\k2<=9)(ho:PW op):∀(f:Nat) (e:Ex) (a:Nat),e.Well->∀x b,Bt op ts c1 c2 k1 k2 f e a=(some x,b)->x.Well:=by
 intro f
 induction f with
 |zero=>
  intro e a he x b h;unfold Bt at h;injection h with h4 _
  injection h4 with h4
  subst h4;exact he
 |succ f ih=>
  intro e a he x b h;unfold Bt at h;split at h
  ·split at h
   ·cases h
   ·rename_i y c hy;exact ih _ _ (show (Ex.bin k1 e y).Well from ⟨h1,he,ho _ _ _ hy⟩) _ _ h
  ·split at h
   ·split at h
    ·cases h
    ·rename_i y c hy;exact ih _ _ (show (Ex.bin k2 e y).Well from ⟨h2,he,ho _ _ _ hy⟩) _ _ h
   ·injection h with h4 _
    injection h4 with h4
    subst h4;exact he
theorem HJ{op:Nat->Option Ex × Nat}{c1 c2:List UInt8}{k1 k2:Nat}(h1:6<=k1/\k1<=9)(h2:6<=k2/\k2<=9)(ho:PW op):PW (CS op ts c1 c2 k1 k2):=by
 intro a x b h;unfold CS at h;split at h
 ·cases h
 ·rename_i y c hy;exact K5 h1 h2 ho _ _ _ (ho _ _ _ hy) _ _ h
theorem Pz(ht:∀t∈ts,BS t):∀f,PW (AZ ts f):=by
 intro f
 induction f with
 |zero=>intro a x b h;cases h
 |succ f ih=>exact HJ (by omega) (by omega) (HJ (by omega) (by omega) (LT ht ih))
end
def AP(i:Nat)(st:List (Nat × Nat))(x:Nd):Option ((Nat × Nat) × List (Nat × Nat)):=
 if Aq x.kind<0\/(st.length:Int)<Aq x.kind\/Ax x=false then none
 else if Aq x.kind=0 then (if x.a=0/\x.b=0 then some ((i,1),st++[(i,1)]) else none)
 else if Aq x.kind=1 then
  (if x.a=(i:Int)-1/\x.b=0 then some (((st.getD (st.length-1) (0,0)).1,(st.getD (st.length-1) (0,0)).2+1),st.take (st.length-1)++[((st.getD (st.length-1) (0,0)).1,(st.getD (st.length-1) (0,0)).2+1)]) else none)
 else (if x.a=((st.getD (st.length-1) (0,0)).1:Int)-1/\x.b=(i:Int)-1 then
   some (((st.getD (st.length-2) (0,0)).1,max ((st.getD (st.length-1) (0,0)).2+1) ((st.getD (st.length-2) (0,0)).2+1)),st.take (st.length-2)++[((st.getD (st.length-2) (0,0)).1,max ((st.getD (st.length-1) (0,0)).2+1) ((st.getD (st.length-2) (0,0)).2+1))]) else none)
def FR:Nat->List (Nat × Nat)->List (Nat × Nat)->List Nd->List (Nat × Nat) × Nat
 |_,all,st,[]=>(all,st.length)
 |i,all,st,x::t=>match AP i st x with
  |none=>(all,0)
  |some (p,st')=>FR (i+1) (all++[p]) st' t
def Dl(l:List Nd):List (Nat × Nat) × Nat:=FR 0 [] [] l
def ptE:Nat->Ex->List (Nat × Nat)
 |off,.leaf _ _=>[(off,1)]
 |off,.un _ _ x=>ptE off x++[(off,x.depth+1)]
 |off,.bin _ x y=>ptE off x++(ptE (off+x.size) y++[(off,max x.depth y.depth+1)])
theorem KH(e:Ex):∀off,(ptE off e).length=e.size:=by
 induction e with
 |leaf k t=>intro off;rfl
 |un k n x ih=>intro off;rw[ptE,List.length_append,ih];rfl
 |bin k x y ihx ihy=>intro off;rw[ptE,List.length_append,List.length_append,ihx,ihy,List.length_singleton,Ex.size];omega
theorem KI{k:Nat}{n:Int}{x:Ex}(h:(Ex.un k n x).Well)(a b:Int):Ax ⟨(k:Int),a,b,n,[]⟩= !(k == 10 && !(decide (-64<=n/\n<=64))):=by
 obtain⟨h1,h2,h3,h4,_⟩:=h;unfold Ax B8 BT;rw[if_neg (by simp only;omega),if_neg (by simp only;omega)];by_cases hk:k=10
 ·subst hk;simp
 ·rw[if_neg (by simp only;omega)];simp[h2 hk]
theorem Gq{L:List (Nat × Nat)}{x:Nat × Nat}{i:Nat}(h:i=L.length):(L++[x]).getD i (0,0)=x:=by
 subst h;rw[List.getD_eq_getElem?_getD,List.getElem?_append_right (Nat.le_refl _),Nat.sub_self];rfl
theorem Pt(e:Ex)(hw:e.Well):∀(off:Nat) (all st:List (Nat × Nat)) (t:List Nd),FR off all st (Ah off e++t)=if e.big then ((FR off all st (Ah off e++t)).1,0) else FR (off+e.size) (all++ptE off e) (st++[(off,e.depth)]) t:=by
 induction e with
 |leaf k t'=>
  intro off all st t;have hk:1<=k/\k<=4:=by unfold Ex.Well at hw;omega
  have ho:Aq (k:Int)=0:=by unfold Aq;rw[if_neg (by omega),if_pos (by omega)]
  have hp:Ax ⟨(k:Int),0,0,0,t'⟩=true:=by
   unfold Ax B8 BT;rw[if_neg (c:=(k:Int)=10) (by omega)];rcases hw with ⟨rfl,h⟩|⟨rfl,h⟩|⟨h,rfl⟩
   ·simp[h]
   ·simp[h]
   ·rw[if_neg (by simp only;omega),if_neg (by simp only;omega)];rfl
  have hs:AP off st ⟨(k:Int),0,0,0,t'⟩=some ((off,1),st++[(off,1)]):=by
   unfold AP;simp only[ho,hp];rw[if_neg (by first|(simp;done)|(simp;omega))];simp
  rw[Ex.big,if_neg (by simp),Ah,List.singleton_append,FR,hs];rfl
 |un k n x ih=>
  intro off all st t;have hx:=hw.2.2.2.2;have hz:=x.size_pos;have hk:=hw.1;have ho:Aq (k:Int)=1:=by unfold Aq;rw[if_neg (by omega),if_neg (by omega),if_neg (by omega)]
  have h1:=ih hx off all st ([⟨(k:Int),((off+x.size-1:Nat):Int),0,n,[]⟩]++t);have kD:Ah off (.un k n x)++t=Ah off x++([⟨(k:Int),((off+x.size-1:Nat):Int),0,n,[]⟩]++t):=by rw[Ah,List.append_assoc]
  rw[kD];cases hb:x.big
  ·rw[hb,if_neg (by simp)]at h1;rw[h1,List.singleton_append,FR];have hpl:=KI hw ((off+x.size-1:Nat):Int) 0;cases hb2:(k == 10 && !(decide (-64<=n/\n<=64)))
   ·rw[hb2]at hpl;have hs:AP (off+x.size) (st++[(off,x.depth)]) ⟨(k:Int),((off+x.size-1:Nat):Int),0,n,[]⟩=some ((off,x.depth+1),st++[(off,x.depth+1)]):=by
     unfold AP;simp only[ho,hpl];rw[if_neg (by first|(simp;done)|(simp;omega)),if_neg (by decide),if_pos trivial,if_pos (by first|omega|(refine⟨?_,trivial⟩;omega))];rw[Gq (by simp),List.take_left' (by simp)]
    rw[hs];have dZ:(Ex.un k n x).big=false:=by rw[Ex.big,hb2,hb];rfl
    rw[dZ,if_neg (by simp)];simp only[ptE,Ex.size,Ex.depth,List.append_assoc];rfl
   ·rw[hb2]at hpl;have hs:AP (off+x.size) (st++[(off,x.depth)]) ⟨(k:Int),((off+x.size-1:Nat):Int),0,n,[]⟩=none:=by
     unfold AP;rw[if_pos (.inr (.inr hpl))]
    rw[hs];have dZ:(Ex.un k n x).big=true:=by rw[Ex.big,hb2];rfl
    rw[dZ,if_pos rfl]
  ·rw[hb,if_pos rfl]at h1;have dZ:(Ex.un k n x).big=true:=by rw[Ex.big,hb];simp
   rw[dZ,if_pos rfl];exact h1
 |bin k x y ihx ihy=>
  intro off all st t;have hx:=hw.2.1;have hy:=hw.2.2;have hz:=x.size_pos;have bx:=y.size_pos;have hk:=hw.1;have ho:Aq (k:Int)=2:=by unfold Aq;rw[if_neg (by omega),if_neg (by omega),if_pos (by omega)]
  have kD:Ah off (.bin k x y)++t=Ah off x++(Ah (off+x.size) y++([⟨(k:Int),((off+x.size-1:Nat):Int),((off+x.size+y.size-1:Nat):Int),0,[]⟩]++t)):=by rw[Ah];simp only[List.append_assoc]
  rw[kD];have h1:=ihx hx off all st (Ah (off+x.size) y++([⟨(k:Int),((off+x.size-1:Nat):Int),((off+x.size+y.size-1:Nat):Int),0,[]⟩]++t));cases hb:x.big
  ·rw[hb,if_neg (by simp)]at h1;rw[h1];have h2:=ihy hy (off+x.size) (all++ptE off x) (st++[(off,x.depth)]) ([⟨(k:Int),((off+x.size-1:Nat):Int),((off+x.size+y.size-1:Nat):Int),0,[]⟩]++t);cases hb2:y.big
   ·rw[hb2,if_neg (by simp)]at h2;rw[h2,List.singleton_append,FR];have hp:Ax ⟨(k:Int),((off+x.size-1:Nat):Int),((off+x.size+y.size-1:Nat):Int),0,[]⟩=true:=by
     unfold Ax B8 BT;rw[if_neg (by simp only;omega),if_neg (by simp only;omega),if_neg (by simp only;omega)];rfl
    have hs:AP (off+x.size+y.size) (st++[(off,x.depth)]++[(off+x.size,y.depth)]) ⟨(k:Int),((off+x.size-1:Nat):Int),((off+x.size+y.size-1:Nat):Int),0,[]⟩=some ((off,max x.depth y.depth+1),st++[(off,max x.depth y.depth+1)]):=by
     unfold AP;simp only[ho,hp];have e1:(st++[(off,x.depth)]++[(off+x.size,y.depth)]).getD ((st++[(off,x.depth)]++[(off+x.size,y.depth)]).length-1) (0,0)=(off+x.size,y.depth):=Gq (by simp);have e2:(st++[(off,x.depth)]++[(off+x.size,y.depth)]).getD ((st++[(off,x.depth)]++[(off+x.size,y.depth)]).length-2) (0,0)=(off,x.depth):=by
      rw[List.getD_eq_getElem?_getD,List.append_assoc,List.getElem?_append_right (by simp)];simp
     have e3:(st++[(off,x.depth)]++[(off+x.size,y.depth)]).take ((st++[(off,x.depth)]++[(off+x.size,y.depth)]).length-2)=st:=by
      rw[List.append_assoc,List.take_left' (by simp)]
     rw[if_neg (by first|(simp;done)|(simp;omega)),if_neg (by decide),if_neg (by decide),e1,e2,e3,if_pos (by simp only;omega)];have e4:max (y.depth+1) (x.depth+1)=max x.depth y.depth+1:=by omega
     rw[e4]
    rw[hs];have dZ:(Ex.bin k x y).big=false:=by rw[Ex.big,hb,hb2];rfl
    rw[dZ,if_neg (by simp)];simp only[ptE,Ex.size,Ex.depth,List.append_assoc];rw[show off+(x.size+y.size+1)=off+x.size+y.size+1 by omega]
   ·rw[hb2,if_pos rfl]at h2;have dZ:(Ex.bin k x y).big=true:=by rw[Ex.big,hb2];simp
    rw[dZ,if_pos rfl];exact h2
  ·rw[hb,if_pos rfl]at h1;have dZ:(Ex.bin k x y).big=true:=by rw[Ex.big,hb];simp
   rw[dZ,if_pos rfl];exact h1
def GG(l:List Nd):Bool:=decide (1<=l.length/\l.length<=200) && (decide ((Dl l).2=1) && decide (((Dl l).1.getD (l.length-1) (0,0)).2<=40))
theorem Q6(e:Ex)(off:Nat):(ptE off e).getD (e.size-1) (0,0)=(off,e.depth):=by
 cases e with
 |leaf k t=>rfl
 |un k n x=>rw[ptE];exact Gq (by rw[KH];rfl)
 |bin k x y=>rw[ptE,<-List.append_assoc];exact Gq (by rw[List.length_append,KH,KH];rfl)
theorem Hc(e:Ex)(hw:e.Well):GG (Ah 0 e)=(!e.big && decide (e.size<=200/\e.depth<=40)):=by
 have h:=Pt e hw 0 [] [] [];have hz:=e.size_pos;rw[List.append_nil]at h;cases hb:e.big
 ·rw[hb,if_neg (by simp)]at h;have hp:Dl (Ah 0 e)=(ptE 0 e,1):=h;have hl:=Q6 e 0;unfold GG;rw[hp,AE];simp only[hl];simp only[decide_true,Bool.true_and,Bool.not_false];rw[<-Bool.decide_and,decide_eq_decide];omega
 ·rw[hb,if_pos rfl]at h;have hp:(Dl (Ah 0 e)).2=0:=by
   unfold Dl;rw[h]
  unfold GG;rw[hp];simp
open Go.RowKit
def FB(p:Nat->Option Ex × Nat)(ts:List Tok)(a:Nat):Option Ex × Nat:=
 if isS ts a [40] then (match p (a+1) with
  |(none,b)=>(none,b)
  |(some x,b)=>if isS ts b [41] then (some x,b+1) else (none,b))
 else (none,a)
theorem Ow{p:Nat->Option Ex × Nat}{ts:List Tok}{a:Nat}(h:isS ts a [40]=false):FB p ts a=(none,a):=by unfold FB;rw[if_neg (by rw[h];simp)]
theorem Ke{p:Nat->Option Ex × Nat}{ts:List Tok}{a b:Nat}(h:isS ts a [40]=true)(hp:p (a+1)=(none,b)):FB p ts a=(none,b):=by unfold FB;rw[if_pos h,hp]
theorem Mg{p:Nat->Option Ex × Nat}{ts:List Tok}{a b:Nat}{x:Ex}(h:isS ts a [40]=true)(hp:p (a+1)=(some x,b))(h2:isS ts b [41]=false):FB p ts a=(none,b):=by
 unfold FB;rw[if_pos h,hp];simp only;rw[if_neg (by rw[h2];simp)]
theorem Ov{p:Nat->Option Ex × Nat}{ts:List Tok}{a b:Nat}{x:Ex}(h:isS ts a [40]=true)(hp:p (a+1)=(some x,b))(h2:isS ts b [41]=true):FB p ts a=(some x,b+1):=by
 unfold FB;rw[if_pos h,hp];simp only;rw[if_pos h2]
def DP(t:List UInt8):Nat:=t.foldl (fun n c=>10*n+(c.toNat-48)) 0
theorem Kk(t:List UInt8)(i:Nat)(hi:i<t.length):DP (t.take (i+1))=10*DP (t.take i)+(t[i].toNat-48):=by
 unfold DP;rw[List.take_succ_eq_append_getElem hi,List.foldl_append];rfl
theorem OC{t:List UInt8}(i:Nat)(h:(t.take i).all (fun c=>C5 c.toNat)=true)(hl:t.length<=2):DP (t.take i)<=99:=by
 refine Jk (t:=t.take i) ?_
 unfold CO DP;rw[if_pos ⟨by rw[List.length_take];omega,h⟩]
def Iu(w:World)(r:Option Nat)(e:Ending)(w':World):Prop:=Ext w w'/\match r with
 |some n=>e= .returned (.tuple #[.int .i64 (n:Int),.bool true])
 |none=>e= .returned (.tuple #[.int .i64 0,.bool false])
section
variable {p:Nat->Option Ex × Nat} {ts:List Tok} {a b n:Nat} {x:Ex}
theorem LP(h:CJ p ts a=(none,b)):AQ p ts a=(none,b):=by unfold AQ;rw[h]
theorem KL(h:CJ p ts a=(some x,b))(h1:isS ts b [94]=false):AQ p ts a=(some x,b):=Ti h h1
theorem No(h:CJ p ts a=(some x,b))(h1:isS ts b [94]=true)(h2:isS ts (b+1) [45]=true)(h3:Er ts (b+2)=some n):AQ p ts a=(some (.un 10 (-(n:Int)) x),b+3):=by
 unfold AQ;rw[h];simp only;rw[if_pos h1,if_pos h2,h3]
theorem JD(h:CJ p ts a=(some x,b))(h1:isS ts b [94]=true)(h2:isS ts (b+1) [45]=true)(h3:Er ts (b+2)=none):AQ p ts a=(none,b+2):=by
 unfold AQ;rw[h];simp only;rw[if_pos h1,if_pos h2,h3]
theorem Nn(h:CJ p ts a=(some x,b))(h1:isS ts b [94]=true)(h2:isS ts (b+1) [45]=false)(h3:Er ts (b+1)=some n):AQ p ts a=(some (.un 10 (n:Int) x),b+2):=by
 unfold AQ;rw[h];simp only;rw[if_pos h1,if_neg (by rw[h2];simp),h3]
theorem JC(h:CJ p ts a=(some x,b))(h1:isS ts b [94]=true)(h2:isS ts (b+1) [45]=false)(h3:Er ts (b+1)=none):AQ p ts a=(none,b+1):=by
 unfold AQ;rw[h];simp only;rw[if_pos h1,if_neg (by rw[h2];simp),h3]
theorem Iu.some_{w w':World}{e:Ending}{r:Option Nat}(h:Iu w r e w')(hr:r=some n):e= .returned (.tuple #[.int .i64 (n:Int),.bool true])/\Ext w w':=by subst hr;exact⟨h.2,h.1⟩
theorem Iu.none_{w w':World}{e:Ending}{r:Option Nat}(h:Iu w r e w')(hr:r=none):e= .returned (.tuple #[.int .i64 0,.bool false])/\Ext w w':=by subst hr;exact⟨h.2,h.1⟩
theorem BP(off k:Nat)(z:Int):Ah off (.un k z x)=Ah off x++[⟨(k:Int),((off+x.size-1:Nat):Int),0,z,[]⟩]:=rfl
end
section
variable {p:Nat->Option Ex × Nat} {ts:List Tok} {a b:Nat} {x:Ex}
theorem Ux(h:isS ts a [45]=false):AV ts ts.length a=0:=CK _ h
theorem Tu(h:isS ts a [45]=true):AV ts ts.length a=AV ts ts.length (a+1)+1:=by
 have hl:=Cb h;obtain⟨n,hn⟩:∃n,ts.length=n+1:=⟨ts.length-1,by omega⟩;rw[hn,AV,if_pos h,<-JF (n+1) n (a+1) (by omega) (by omega)]
end
end Big
end Go.Proofs.YtkoaogkknnelaaaGreatDoor
