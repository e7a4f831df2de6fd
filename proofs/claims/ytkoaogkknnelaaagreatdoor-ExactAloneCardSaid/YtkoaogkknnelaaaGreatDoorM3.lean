import Derived.Test.YtkoaogkknnelaaaGreatDoorChecked
import Derived.Lib.Split
import Derived.Test.YtkoaogkknnelaaaGreatDoorM1
import Derived.Lib.IndexMore
import Derived.Lib.TrimByte
import Derived.Lib.SlTrimSet
set_option linter.unusedVariables false
set_option linter.unusedSimpArgs false
namespace Go.Proofs.YtkoaogkknnelaaaGreatDoor
namespace Big
def N8(c:UInt8):List UInt8->List (List UInt8)
 |[]=>[[]]
 |b::t=>if b=c then []::N8 c t else
  match N8 c t with
  |[]=>[[b]]
  |h::r=>(b::h)::r
theorem P0(c b:UInt8)(t:List UInt8):Lib.index (b::t) [c]=if b=c then 0 else if Lib.index t [c]= -1 then-1 else Lib.index t [c]+1:=by
 rw[Lib.index];by_cases h:b=c
 ·subst h;simp[List.isPrefixOf]
 ·have h1:(List.isPrefixOf [c] (b::t))=false:=by
   have:c≠b:=fun e=>h e.symm
   simp[List.isPrefixOf,this]
  rw[if_neg (by rw[h1];simp),if_neg h];by_cases h2:Lib.index t [c]= -1
  ·rw[if_pos h2,if_pos (by rw[h2];rfl)]
  ·rw[if_neg h2,if_neg (by rw[beq_iff_eq];exact h2)]
def Rv(c:UInt8):List (List UInt8)->List UInt8
 |[]=>[]
 |[x]=>x
 |x::y::r=>x++c::Rv c (y::r)
def whole(l:List UInt8):List UInt8:=l.takeWhile (fun c=>c != 46)
def AS(l:List UInt8):List UInt8:=(l.dropWhile (fun c=>c != 46)).drop 1
def AF(l:List UInt8):Bool:=decide ((whole l).length<l.length)
theorem DD(t:List UInt8):whole (46::t)=[]:=by simp[whole]
theorem LM(t:List UInt8):AS (46::t)=t:=by simp[AS]
theorem CP{c:UInt8}(t:List UInt8)(h:c≠46):whole (c::t)=c::whole t:=by simp[whole,h]
theorem J3{c:UInt8}(t:List UInt8)(h:c≠46):AS (c::t)=AS t:=by simp[AS,h]
theorem F5(l:List UInt8):(whole l).length<=l.length:=by
 unfold whole;exact(List.takeWhile_sublist _).length_le
theorem B5(l:List UInt8):(AF l=true/\l=whole l++46::AS l)\/(AF l=false/\l=whole l/\AS l=[]):=by
 induction l with
 |nil=>exact .inr ⟨rfl,rfl,rfl⟩
 |cons c t ih=>
  by_cases h:c=46
  ·subst h;refine .inl ⟨by unfold AF;rw[DD];simp,by rw[DD,LM];rfl⟩
  ·have hd:AF (c::t)=AF t:=by unfold AF;rw[CP t h];simp
   rw[hd,CP t h,J3 t h];rcases ih with ⟨h1,h2⟩|⟨h1,h2,h3⟩
   ·exact .inl ⟨h1,by rw[List.cons_append,<-h2]⟩
   ·exact .inr ⟨h1,by rw[<-h2],h3⟩
theorem P1(l:List UInt8):Lib.index l [46]=if AF l then ((whole l).length:Int) else-1:=by
 induction l with
 |nil=>rfl
 |cons c t ih=>
  rw[P0];by_cases h:c=46
  ·subst h;rw[if_pos rfl,DD];rfl
  ·have hd:AF (c::t)=AF t:=by unfold AF;rw[CP t h];simp
   rw[if_neg h,hd,ih,CP t h];cases AF t
   ·simp
   ·simp only[if_true];rw[if_neg (by omega),List.length_cons];omega
theorem Tf(l:List UInt8):Lib.cut l [46]=(whole l,AS l,AF l):=by
 unfold Lib.cut;rw[P1];rcases B5 l with ⟨h1,h2⟩|⟨h1,h2,h3⟩
 ·rw[h1];simp only[if_true];rw[if_pos (by omega),Int.toNat_natCast];generalize whole l=a at *;generalize AS l=b at *;subst h2;simp[List.drop_append]
 ·rw[h1];simp only[Bool.false_eq_true,if_false];rw[if_neg (by omega),h3,<-h2]
def GX(l:List UInt8):Bool:=(AF l && ((AS l == []) || ((AS l).getLast? == some 48))) || (whole l == []) || ((whole l)[0]? == some 48 && decide (1<(whole l).length))
def Cu(l:List UInt8):Bool:= !GX l && (whole l++AS l).all Bk
def AX(l:List UInt8):Nat:=if 400<l.length then 7 else if Cu l then 0 else 6
theorem Qe(l:List UInt8):(l.dropWhile (· == 48)).all Bk=l.all Bk:=by
 induction l with
 |nil=>rfl
 |cons c t ih=>
  by_cases h:c=48
  ·subst h;simp only[List.dropWhile_cons,beq_self_eq_true,if_true,List.all_cons];rw[ih];rfl
  ·simp[h]
theorem LW(t:List UInt8):Bd (48::t)=Bd t:=rfl
theorem Qd(l:List UInt8):Bd (l.dropWhile (· == 48))=Bd l:=by
 induction l with
 |nil=>rfl
 |cons c t ih=>
  by_cases h:c=48
  ·subst h;simp only[List.dropWhile_cons,beq_self_eq_true,if_true];rw[ih,LW]
  ·simp[h]
theorem NQ(l:List UInt8)(h:l.dropWhile (· == 48)≠[]):(l.dropWhile (· == 48))[0]?≠some 48:=by
 induction l with
 |nil=>simp at h
 |cons c t ih=>
  by_cases hc:c=48
  ·subst hc;simp only[List.dropWhile_cons,beq_self_eq_true,if_true]at h ⊢;exact ih h
  ·simp[hc]
def Km(l:List UInt8):List UInt8:=if l.dropWhile (· == 48)=[] then [48] else l.dropWhile (· == 48)
theorem JI(l:List UInt8)(hl:l.length<=800):In (Km l)=if l.all Bk then (Bd l,0) else (0,6):=by
 unfold Km;have h1:=Qe l;have h2:=Qd l;have h4:(l.dropWhile (· == 48)).length<=l.length:=(List.dropWhile_sublist _).length_le;by_cases h:l.dropWhile (· == 48)=[]
 ·rw[if_pos h];rw[h]at h1 h2;rw[<-h1,<-h2];rfl
 ·rw[if_neg h];have h3:=NQ l h;unfold In;rw[if_neg (by omega),if_neg h,if_neg (fun e=>h3 e.1),h1,h2]
theorem DF{n k:Nat}{m:Nat}(h:n<10 ^ k)(hk:k<=m):(Ac n).length<=m:=by
 refine AG (Nat.lt_of_lt_of_le h (Nat.le_trans (Nat.pow_le_pow_left (show 10<=4294967296 by decide) k) (DL hk)))
theorem OK(l:List UInt8)(h:l.all Bk=true):Lib.trimS l [48,49,50,51,52,53,54,55,56,57]=[]:=by
 have key:∀l:List UInt8,l.all Bk=true->l.dropWhile (([48,49,50,51,52,53,54,55,56,57]:List UInt8).contains ·)=[]:=by
  intro l h
  induction l with
  |nil=>rfl
  |cons c t ih=>
   rw[List.all_cons,Bool.and_eq_true]at h;have hc:([48,49,50,51,52,53,54,55,56,57]:List UInt8).contains c=true:=by
    have h1:=h.1;unfold Bk at h1;simp only[Bool.and_eq_true,decide_eq_true_eq]at h1;have:c.toNat=48\/c.toNat=49\/c.toNat=50\/c.toNat=51\/c.toNat=52\/c.toNat=53\/c.toNat=54\/c.toNat=55\/c.toNat=56\/c.toNat=57:=by omega
    rcases this with e|e|e|e|e|e|e|e|e|e<;>(rw[show c=UInt8.ofNat c.toNat by simp,e];rfl)
   rw[List.dropWhile_cons,hc];exact ih h.2
 unfold Lib.trimS Lib.trimLeftS Lib.trimRightS;rw[key l.reverse (by rw[List.all_reverse];exact h)];rfl
def Dq(l:List UInt8):Bool:=(whole l++AS l).all Bk
theorem Sd:Dq []=true:=rfl
theorem Mv(t:List UInt8):Dq (46::t)=t.all Bk:=by unfold Dq;rw[DD,LM];rfl
theorem GY{c:UInt8}(t:List UInt8)(h:c≠46):Dq (c::t)=(Bk c && Dq t):=by
 unfold Dq;rw[CP t h,J3 t h];rfl
theorem Jf:AF []=false:=rfl
theorem EI(t:List UInt8):AF (46::t)=true:=by unfold AF;rw[DD];simp
theorem Dn{c:UInt8}(t:List UInt8)(h:c≠46):AF (c::t)=AF t:=by unfold AF;rw[CP t h];simp
theorem Hy(t:List UInt8)(c:UInt8):AF (t++[c])=(AF t || c == 46):=by
 induction t with
 |nil=>
  by_cases h:c=46
  ·subst h;rfl
  ·rw[List.nil_append,Dn _ h,Jf];simp[h]
 |cons a t ih=>
  by_cases h:a=46
  ·subst h;rw[List.cons_append,EI,EI];rfl
  ·rw[List.cons_append,Dn _ h,Dn _ h,ih]
theorem Ko(t:List UInt8)(c:UInt8):Dq (t++[c])=(Dq t && ((!AF t && c == 46) || Bk c)):=by
 induction t with
 |nil=>
  by_cases h:c=46
  ·subst h;rfl
  ·rw[List.nil_append,GY _ h,Sd,Jf];have:(c == 46)=false:=by rw[beq_eq_false_iff_ne];exact h
   simp[this]
 |cons a t ih=>
  by_cases h:a=46
  ·subst h;rw[List.cons_append,Mv,Mv,EI,List.all_append];simp
  ·rw[List.cons_append,GY _ h,GY _ h,Dn _ h,ih,Bool.and_assoc]
theorem Qm(a b:List UInt8)(h:Dq (a++b)=true):Dq a=true:=by
 induction b generalizing a with
 |nil=>simpa using h
 |cons c b ih=>
  have:=ih (a++[c]) (by simpa using h);rw[Ko,Bool.and_eq_true]at this;exact this.1
theorem Mf(a b:List UInt8)(h:AF a=true):AF (a++b)=true:=by
 induction b generalizing a with
 |nil=>simpa using h
 |cons c b ih=>
  have:=ih (a++[c]) (by rw[Hy,h];rfl)
  simpa using this
theorem P8(l:List UInt8)(i:Nat)(hi:i<l.length)(h:AF (l.take i)=false)(hc:l[i]=46):(whole l).length=i:=by
 induction l generalizing i with
 |nil=>simp at hi
 |cons a t ih=>
  cases i with
  |zero=>
   simp only[List.getElem_cons_zero]at hc;subst hc;rw[DD];rfl
  |succ i=>
   by_cases ha:a=46
   ·subst ha;rw[List.take_succ_cons,EI]at h;cases h
   ·rw[List.take_succ_cons,Dn _ ha]at h;rw[CP _ ha,List.length_cons,ih i (by simpa using hi) h (by simpa using hc)]
theorem Pj{l:List UInt8}{i:Nat}(hi:i<l.length)(h:Dq (l.take i)=true):
  Dq (l.take (i+1))=((!AF (l.take i) && l[i] == 46) || Bk l[i])/\AF (l.take (i+1))=(AF (l.take i) || l[i] == 46):=by
 rw[List.take_succ_eq_append_getElem hi,Ko,Hy,h];exact⟨rfl,rfl⟩
theorem Q0{l:List UInt8}{j:Nat}(h:Dq (l.take j)=false):Dq l=false:=by
 cases h1:Dq l
 ·rfl
 ·rw[<-List.take_append_drop j l]at h1;rw[Qm _ _ h1]at h;cases h
theorem Mn{l:List UInt8}{j:Nat}(h:AF (l.take j)=true):(whole l).length<l.length:=by
 have h1:=Mf (l.take j) (l.drop j) h;rw[List.take_append_drop]at h1;exact of_decide_eq_true h1
theorem Fc{l:List UInt8}(h:AF l=false):(whole l).length=l.length:=by
 rcases B5 l with ⟨h1,_⟩|⟨_,h2,_⟩
 ·rw[h]at h1;cases h1
 ·exact congrArg List.length h2.symm
theorem FN(l:List UInt8):l.take (whole l).length=whole l:=by
 rcases B5 l with ⟨_,h2⟩|⟨_,h2,_⟩
 ·generalize whole l=a at *;generalize AS l=b at *;subst h2;simp
 ·rw[<-h2,List.take_of_length_le (Nat.le_refl _)]
theorem Kl{l:List UInt8}(h:AF l=true):l.drop ((whole l).length+1)=AS l:=by
 rcases B5 l with ⟨_,h2⟩|⟨h1,_⟩
 ·generalize whole l=a at *;generalize AS l=b at *;subst h2;simp[List.drop_append]
 ·rw[h]at h1;cases h1
theorem Cf(l:List UInt8):Cu l=(!GX l && Dq l):=rfl
def C5(n:Nat):Bool:=decide (48<=n) && decide (n<=57)
def DN(n:Nat):Bool:=(decide (97<=n) && decide (n<=122)) || (decide (65<=n) && decide (n<=90))
def BD(n:Nat):Bool:=DN n || C5 n || n == 95
def Ca(n:Nat):Bool:=C5 n || n == 46
def FF(n:Nat):Bool:=n == 43 || n == 45 || n == 42 || n == 47 || n == 94 || n == 40 || n == 41
structure Tok where
 kind:Nat
 at_:Nat
 text:List UInt8
deriving DecidableEq
def An(p:Nat->Bool):List UInt8->Nat
 |[]=>0
 |c::t=>if p c.toNat then An p t+1 else 0
theorem C9(p:Nat->Bool)(l:List UInt8):An p l<=l.length:=by
 induction l with
 |nil=>exact Nat.le_refl _
 |cons c t ih=>
  unfold An;split
  ·simp;exact ih
  ·exact Nat.zero_le _
theorem GL(p:Nat->Bool)(l:List UInt8)(i:Nat)(h:i<An p l):∃hi:i<l.length,p l[i].toNat=true:=by
 induction l generalizing i with
 |nil=>simp[An]at h
 |cons c t ih=>
  unfold An at h;split at h
  ·rename_i hc;cases i with
   |zero=>exact⟨by simp,by simpa using hc⟩
   |succ i=>
    obtain⟨h1,h2⟩:=ih i (by omega);exact⟨by simpa using h1,by simpa using h2⟩
  ·omega
theorem MZ(p:Nat->Bool)(l:List UInt8)(h:An p l<l.length):p l[An p l].toNat=false:=by
 induction l with
 |nil=>simp at h
 |cons c t ih=>
  by_cases hc:p c.toNat=true
  ·have e:An p (c::t)=An p t+1:=by rw[An,if_pos hc]
   simp only[e]at h ⊢
   simpa using ih (by simpa using h)
  ·have e:An p (c::t)=0:=by rw[An,if_neg hc]
   simp only[e]
   simpa using hc
def CQ(l:List UInt8):Option (Nat × Nat):=
 match l with
 |[]=>none
 |c::_=>
  if DN c.toNat then (if An BD l<=24 then some (2,An BD l) else none)
  else if C5 c.toNat then (if AX (l.take (An Ca l))=0 then some (1,An Ca l) else none)
  else if FF c.toNat then some (3,1) else none
def Du:Nat->List UInt8->Nat->List Tok->List Tok × Nat × Nat
 |0,_,at_,_=>([],at_,6)
 |f+1,l,at_,ts=>
  if l.length<=at_ then (ts,l.length,0)
  else if l[at_]? =some 32 then Du f l (at_+1) ts
  else match CQ (l.drop at_) with
   |none=>([],at_,6)
   |some (k,n)=>Du f l (at_+n) (ts++[⟨k,at_,(l.drop at_).take n⟩])
theorem Ev{l:List UInt8}{k n:Nat}(h:CQ l=some (k,n)):1<=n/\n<=l.length:=by
 unfold CQ at h;split at h
 ·cases h
 ·rename_i c t;split at h
  ·rename_i hc;split at h
   ·injection h with h
    injection h with h1 h2
    rw[<-h2];refine⟨?_,C9 _ _⟩;rw[An,if_pos (by unfold BD;rw[hc];rfl)];omega
   ·cases h
  ·split at h
   ·rename_i hc;split at h
    ·injection h with h
     injection h with h1 h2
     rw[<-h2];refine⟨?_,C9 _ _⟩;rw[An,if_pos (by unfold Ca;rw[hc];rfl)];omega
    ·cases h
   ·split at h
    ·injection h with h
     injection h with h1 h2
     rw[<-h2];simp
    ·cases h
theorem IE(f:Nat):∀(g:Nat) (l:List UInt8) (at_:Nat) (ts:List Tok),l.length+1<=at_+f->l.length+1<=at_+g->1<=f->1<=g->Du f l at_ ts=Du g l at_ ts:=by
 induction f with
 |zero=>intro g l at_ ts _ _ h;omega
 |succ f ih=>
  intro g l at_ ts hf hg _ vF;obtain⟨g',rfl⟩:∃g',g=g'+1:=⟨g-1,by omega⟩;unfold Du;by_cases h0:l.length<=at_
  ·rw[if_pos h0,if_pos h0]
  ·rw[if_neg h0,if_neg h0];split
   ·exact ih g' l _ ts (by omega) (by omega) (by omega) (by omega)
   ·cases ht:CQ (l.drop at_) with
    |none=>rfl
    |some kn=>
     obtain⟨k,n⟩:=kn;have hn:=Ev ht;exact ih g' l _ _ (by omega) (by omega) (by omega) (by omega)
def Bb(l:List UInt8):List Tok × Nat × Nat:=if 400<l.length then ([],0,7) else Du (l.length+1) l 0 []
def C8(l:List UInt8)(at_:Nat)(ts:List Tok):List Tok × Nat × Nat:=Du (l.length+1) l at_ ts
theorem MW{l:List UInt8}{at_:Nat}{ts:List Tok}(h:l.length<=at_):C8 l at_ ts=(ts,l.length,0):=by
 unfold C8 Du;rw[if_pos h]
theorem Kw{l:List UInt8}{at_:Nat}{ts:List Tok}(h:at_<l.length)(hc:l[at_]? =some 32):C8 l at_ ts=C8 l (at_+1) ts:=by
 unfold C8;rw[Du,if_neg (by omega),if_pos hc];exact IE _ _ l _ ts (by omega) (by omega) (by omega) (by omega)
theorem E4{l:List UInt8}{at_:Nat}{ts:List Tok}(h:at_<l.length)(hc:l[at_]?≠some 32)(ht:CQ (l.drop at_)=none):C8 l at_ ts=([],at_,6):=by
 unfold C8;rw[Du,if_neg (by omega),if_neg hc,ht]
theorem E3{l:List UInt8}{at_ k n:Nat}{ts:List Tok}(h:at_<l.length)(hc:l[at_]?≠some 32)(ht:CQ (l.drop at_)=some (k,n)):C8 l at_ ts=C8 l (at_+n) (ts++[⟨k,at_,(l.drop at_).take n⟩]):=by
 unfold C8;have hn:=Ev ht;rw[Du,if_neg (by omega),if_neg hc,ht];exact IE _ _ l _ _ (by omega) (by omega) (by omega) (by omega)
def CT(l:List UInt8):Bool:= !(l == []) && decide (l.length<=24) && DN (l.getD 0 0).toNat && l.all (fun c=>BD c.toNat)
inductive Ex where
 |leaf (k:Nat) (t:List UInt8)
 |un (k:Nat) (n:Int) (x:Ex)
 |bin (k:Nat) (x y:Ex)
structure Nd where
 kind:Int
 a:Int
 b:Int
 n:Int
 text:List UInt8
def Ex.kind:Ex->Nat
 | .leaf k _=>k
 | .un k _ _=>k
 | .bin k _ _=>k
def Ex.size:Ex->Nat
 | .leaf _ _=>1
 | .un _ _ x=>x.size+1
 | .bin _ x y=>x.size+y.size+1
def Ex.depth:Ex->Nat
 | .leaf _ _=>1
 | .un _ _ x=>x.depth+1
 | .bin _ x y=>max x.depth y.depth+1
theorem Ex.size_pos(e:Ex):1<=e.size:=by cases e<;>simp[Ex.size]
def Ah:Nat->Ex->List Nd
 |_,.leaf k t=>[⟨(k:Int),0,0,0,t⟩]
 |off,.un k n x=>Ah off x++[⟨(k:Int),((off+x.size-1:Nat):Int),0,n,[]⟩]
 |off,.bin k x y=>Ah off x++(Ah (off+x.size) y++[⟨(k:Int),((off+x.size-1:Nat):Int),((off+x.size+y.size-1:Nat):Int),0,[]⟩])
theorem AE(e:Ex):∀off,(Ah off e).length=e.size:=by
 induction e with
 |leaf k t=>intro off;rfl
 |un k n x ih=>intro off;rw[Ah,List.length_append,ih];rfl
 |bin k x y ihx ihy=>intro off;rw[Ah,List.length_append,List.length_append,ihx,ihy,List.length_singleton,Ex.size];omega
def Dv(t:List UInt8):Bool:=CT t && !([[112,105],[101],[115,113,114,116],[101,120,112],[108,110],[115,105,110],[99,111,115],[97,116,97,110]]:List (List UInt8)).contains t
def Ex.Good:Ex->Prop
 | .leaf k t=>(k=1/\AX t=0/\t.length<=400)\/(k=2/\Dv t=true)\/((k=3\/k=4)/\t=[])
 | .un k n x=>(k=5\/(10<=k/\k<=16))/\(k≠10->n=0)∧-64<=n/\n<=64/\x.Good
 | .bin k x y=>(6<=k/\k<=9)/\x.Good/\y.Good
def BK(k:Nat):Nat:=if k=6\/k=7 then 1 else if k=8\/k=9 then 2 else if k=5 then 3 else if k=10 then 4 else 5
def T5(k:Nat):List UInt8:=if k=6 then [32,43,32] else if k=7 then [32,45,32] else if k=8 then [32,42,32] else [32,47,32]
def RC(k:Nat):List UInt8:=
 if k=11 then [115,113,114,116] else if k=12 then [101,120,112] else if k=13 then [108,110] else if k=14 then [115,105,110] else if k=15 then [99,111,115] else [97,116,97,110]
def KK(b:Bool)(s:List UInt8):List UInt8:=if b then 40::(s++[41]) else s
def J6(sy:Int->List UInt8):Ex->List UInt8
 | .leaf k t=>if k=3 then [112,105] else if k=4 then [101] else t
 | .un k n x=>if k=5 then 45::KK (decide (BK x.kind<3)) (J6 sy x)
   else if k=10 then KK (decide (BK x.kind<5)) (J6 sy x)++(94::sy n)
   else RC k++(40::(J6 sy x++[41]))
 | .bin k x y=>KK (decide (BK x.kind<BK k)) (J6 sy x)++(T5 k++KK (decide (BK y.kind<BK k+1)) (J6 sy y))
theorem F4{t:List UInt8}(h:CT t=true):t.length<=24:=by
 unfold CT at h;simp only[Bool.and_eq_true,decide_eq_true_eq]at h;exact h.1.1.2
def FC(l:List Nd)(i:Nat)(e:Ex):Prop:=∃pre post,l=pre++(Ah pre.length e++post)/\i+1=pre.length+e.size
theorem FC.lt{l:List Nd}{i:Nat}{e:Ex}(h:FC l i e):i<l.length/\e.size<=i+1:=by
 obtain⟨pre,post,rfl,h⟩:=h;have:=AE e pre.length;rw[List.length_append,List.length_append];omega
theorem Jg{α:Type}{pre mid post:List α}{x:α}{i:Nat}(h:i=pre.length+mid.length):(pre++((mid++[x])++post))[i]? =some x:=by
 subst h;rw[List.getElem?_append_right (by omega),Nat.add_sub_cancel_left,List.getElem?_append_left (by simp),List.getElem?_append_right (Nat.le_refl _),Nat.sub_self];rfl
theorem FC.leaf{l:List Nd}{i k:Nat}{t:List UInt8}(h:FC l i (.leaf k t)):l[i]? =some ⟨(k:Int),0,0,0,t⟩:=by
 obtain⟨pre,post,rfl,h⟩:=h;simp only[Ex.size]at h;exact Jg (mid:=[]) (by simp;omega)
theorem FC.un{l:List Nd}{i k:Nat}{n:Int}{x:Ex}(h:FC l i (.un k n x)):1<=i/\l[i]? =some ⟨(k:Int),((i-1:Nat):Int),0,n,[]⟩/\FC l (i-1) x:=by
 obtain⟨pre,post,rfl,h⟩:=h;simp only[Ex.size]at h;have hx:=x.size_pos;have hl:=AE x pre.length;refine⟨by omega,?_,⟨pre,[⟨(k:Int),((pre.length+x.size-1:Nat):Int),0,n,[]⟩]++post,?_,by omega⟩⟩
 ·rw[show i-1=pre.length+x.size-1 by omega];exact Jg (mid:=Ah pre.length x) (by omega)
 ·rw[Ah,List.append_assoc]
theorem FC.bin{l:List Nd}{i k:Nat}{x y:Ex}(h:FC l i (.bin k x y)):∃j,j+1+y.size=i/\l[i]? =some ⟨(k:Int),(j:Int),((i-1:Nat):Int),0,[]⟩/\FC l j x/\FC l (i-1) y:=by
 obtain⟨pre,post,rfl,h⟩:=h;simp only[Ex.size]at h;have hx:=x.size_pos;have hy:=y.size_pos;have hl:=AE x pre.length;have hl2:=AE y (pre.length+x.size);refine⟨pre.length+x.size-1,by omega,?_,⟨pre,Ah (pre.length+x.size) y++([⟨(k:Int),((pre.length+x.size-1:Nat):Int),((pre.length+x.size+y.size-1:Nat):Int),0,[]⟩]++post),?_,by omega⟩,⟨pre++Ah pre.length x,[⟨(k:Int),((pre.length+x.size-1:Nat):Int),((pre.length+x.size+y.size-1:Nat):Int),0,[]⟩]++post,?_,?_⟩⟩
 ·rw[Ah,<-List.append_assoc (Ah pre.length x),show i-1=pre.length+x.size+y.size-1 by omega];exact Jg (mid:=Ah pre.length x++Ah (pre.length+x.size) y) (by rw[List.length_append];omega)
 ·rw[Ah];simp only[List.append_assoc]
 ·rw[Ah,List.length_append,hl];simp only[List.append_assoc]
 ·rw[List.length_append,hl];omega
end Big
end Go.Proofs.YtkoaogkknnelaaaGreatDoor
