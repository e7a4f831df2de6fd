import Derived.Below
import Derived.Deep.RegionHeld3
import Derived.Test.YtkoaogkknnelaaaGreatDoorChecked
import Derived.Lib.Split
import Derived.Test.YtkoaogkknnelaaaGreatDoorM1
import Derived.Lib.IndexMore
import Derived.Lib.TrimByte
import Derived.Lib.SlTrimSet
set_option linter.unusedVariables false
set_option linter.unusedSimpArgs false
namespace Go.RowKit
theorem Hid.o{p:Prop}(h:Hid p):p:=h
end Go.RowKit
namespace Go.Proofs.YtkoaogkknnelaaaGreatDoor
namespace Big
section
open Go
theorem pu:(∀(a:Act) (d:Nat) (v:Value),a.put (some d) v={ a with tmps:=a.tmps.setIfInBounds d v })/\(∀(a:Act) (v:Value),a.put none v=a)/\(∀(l:List Value) (i:Nat) (v:Value),l.toArray.setIfInBounds i v=(l.set i v).toArray)/\(∀(x v:Value) (l:List Value),(x::l).set 0 v=v::l)/\(∀(x v:Value) (l:List Value) (i:Nat),(x::l).set (i+1) v=x::l.set i v):=
 ⟨fun _ _ _=>rfl,fun _ _=>rfl,fun _ _ _=>List.setIfInBounds_toArray ..,fun _ _ _=>rfl,fun _ _ _ _=>rfl⟩
end
def OO(c:UInt8):List UInt8->List (List UInt8)
 |[]=>[[]]
 |b::t=>if b=c then []::OO c t else
  match OO c t with
  |[]=>[[b]]
  |h::r=>(b::h)::r
theorem Qk(c b:UInt8)(t:List UInt8):Lib.index (b::t) [c]=if b=c then 0 else if Lib.index t [c]= -1 then-1 else Lib.index t [c]+1:=by
 rw[Lib.index];by_cases h:b=c
 ·subst h;simp[List.isPrefixOf]
 ·have h1:(List.isPrefixOf [c] (b::t))=false:=by
   have:c≠b:=fun e=>h e.symm
   simp[List.isPrefixOf,this]
  rw[if_neg (by rw[h1];simp),if_neg h];by_cases h2:Lib.index t [c]= -1
  ·rw[if_pos h2,if_pos (by rw[h2];rfl)]
  ·rw[if_neg h2,if_neg (by rw[beq_iff_eq];exact h2)]
def RJ(c:UInt8):List (List UInt8)->List UInt8
 |[]=>[]
 |[x]=>x
 |x::y::r=>x++c::RJ c (y::r)
def whole(l:List UInt8):List UInt8:=l.takeWhile (fun c=>c != 46)
def Ba(l:List UInt8):List UInt8:=(l.dropWhile (fun c=>c != 46)).drop 1
def AD(l:List UInt8):Bool:=decide ((whole l).length<l.length)
theorem Ek(t:List UInt8):whole (46::t)=[]:=by simp[whole]
theorem Mo(t:List UInt8):Ba (46::t)=t:=by simp[Ba]
theorem C5{c:UInt8}(t:List UInt8)(h:c≠46):whole (c::t)=c::whole t:=by simp[whole,h]
theorem KM{c:UInt8}(t:List UInt8)(h:c≠46):Ba (c::t)=Ba t:=by simp[Ba,h]
theorem I6(l:List UInt8):(whole l).length<=l.length:=by
 unfold whole;exact(List.takeWhile_sublist _).length_le
theorem Co(l:List UInt8):(AD l=true/\l=whole l++46::Ba l)\/(AD l=false/\l=whole l/\Ba l=[]):=by
 induction l with
 |nil=>exact .inr ⟨rfl,rfl,rfl⟩
 |cons c t ih=>
  by_cases h:c=46
  ·subst h;refine .inl ⟨by unfold AD;rw[Ek];simp,by rw[Ek,Mo];rfl⟩
  ·have hd:AD (c::t)=AD t:=by unfold AD;rw[C5 t h];simp
   rw[hd,C5 t h,KM t h];rcases ih with ⟨h1,h2⟩|⟨h1,h2,h3⟩
   ·exact .inl ⟨h1,by rw[List.cons_append,<-h2]⟩
   ·exact .inr ⟨h1,by rw[<-h2],h3⟩
theorem Ql(l:List UInt8):Lib.index l [46]=if AD l then ((whole l).length:Int) else-1:=by
 induction l with
 |nil=>rfl
 |cons c t ih=>
  rw[Qk];by_cases h:c=46
  ·subst h;rw[if_pos rfl,Ek];rfl
  ·have hd:AD (c::t)=AD t:=by unfold AD;rw[C5 t h];simp
   rw[if_neg h,hd,ih,C5 t h];cases AD t
   ·simp
   ·simp only[if_true];rw[if_neg (by omega),List.length_cons];omega
theorem SY(l:List UInt8):Lib.cut l [46]=(whole l,Ba l,AD l):=by
 unfold Lib.cut;rw[Ql];rcases Co l with ⟨h1,h2⟩|⟨h1,h2,h3⟩
 ·rw[h1];simp only[if_true];rw[if_pos (by omega),Int.toNat_natCast];generalize whole l=a at *;generalize Ba l=b at *;subst h2;simp[List.drop_append]
 ·rw[h1];simp only[Bool.false_eq_true,if_false];rw[if_neg (by omega),h3,<-h2]
def Ie(l:List UInt8):Bool:=(AD l && ((Ba l == []) || ((Ba l).getLast? == some 48))) || (whole l == []) || ((whole l)[0]? == some 48 && decide (1<(whole l).length))
def CU(l:List UInt8):Bool:= !Ie l && (whole l++Ba l).all Bq
def Bs(l:List UInt8):Nat:=if 400<l.length then 7 else if CU l then 0 else 6
theorem Qw(l:List UInt8):(l.dropWhile (· == 48)).all Bq=l.all Bq:=by
 induction l with
 |nil=>rfl
 |cons c t ih=>
  by_cases h:c=48
  ·subst h;simp only[List.dropWhile_cons,beq_self_eq_true,if_true,List.all_cons];rw[ih];rfl
  ·simp[h]
theorem Mz(t:List UInt8):Bi (48::t)=Bi t:=rfl
theorem Qv(l:List UInt8):Bi (l.dropWhile (· == 48))=Bi l:=by
 induction l with
 |nil=>rfl
 |cons c t ih=>
  by_cases h:c=48
  ·subst h;simp only[List.dropWhile_cons,beq_self_eq_true,if_true];rw[ih,Mz]
  ·simp[h]
theorem Ox(l:List UInt8)(h:l.dropWhile (· == 48)≠[]):(l.dropWhile (· == 48))[0]?≠some 48:=by
 induction l with
 |nil=>simp at h
 |cons c t ih=>
  by_cases hc:c=48
  ·subst hc;simp only[List.dropWhile_cons,beq_self_eq_true,if_true]at h ⊢;exact ih h
  ·simp[hc]
def Lb(l:List UInt8):List UInt8:=if l.dropWhile (· == 48)=[] then [48] else l.dropWhile (· == 48)
theorem Kn(l:List UInt8)(hl:l.length<=800):IV (Lb l)=if l.all Bq then (Bi l,0) else (0,6):=by
 unfold Lb;have h1:=Qw l;have h2:=Qv l;have h4:(l.dropWhile (· == 48)).length<=l.length:=(List.dropWhile_sublist _).length_le;by_cases h:l.dropWhile (· == 48)=[]
 ·rw[if_pos h];rw[h]at h1 h2;rw[<-h1,<-h2];rfl
 ·rw[if_neg h];have h3:=Ox l h;unfold IV;rw[if_neg (by omega),if_neg h,if_neg (fun e=>h3 e.1),h1,h2]
theorem Gc{n k:Nat}{m:Nat}(h:n<10 ^ k)(hk:k<=m):(Af n).length<=m:=by
 refine Bg (Nat.lt_of_lt_of_le h (Nat.le_trans (Nat.pow_le_pow_left (show 10<=4294967296 by decide) k) (Mn hk)))
theorem Pn(l:List UInt8)(h:l.all Bq=true):Lib.trimS l [48,49,50,51,52,53,54,55,56,57]=[]:=by
 have key:∀l:List UInt8,l.all Bq=true->l.dropWhile (([48,49,50,51,52,53,54,55,56,57]:List UInt8).contains ·)=[]:=by
  intro l h
  induction l with
  |nil=>rfl
  |cons c t ih=>
   rw[List.all_cons,Bool.and_eq_true]at h;have hc:([48,49,50,51,52,53,54,55,56,57]:List UInt8).contains c=true:=by
    have h1:=h.1;unfold Bq at h1;simp only[Bool.and_eq_true,decide_eq_true_eq]at h1;have:c.toNat=48\/c.toNat=49\/c.toNat=50\/c.toNat=51\/c.toNat=52\/c.toNat=53\/c.toNat=54\/c.toNat=55\/c.toNat=56\/c.toNat=57:=by omega
    rcases this with e|e|e|e|e|e|e|e|e|e<;>(rw[show c=UInt8.ofNat c.toNat by simp,e];rfl)
   rw[List.dropWhile_cons,hc];exact ih h.2
 unfold Lib.trimS Lib.trimLeftS Lib.trimRightS;rw[key l.reverse (by rw[List.all_reverse];exact h)];rfl
def D4(l:List UInt8):Bool:=(whole l++Ba l).all Bq
theorem Sa:D4 []=true:=rfl
theorem Nh(t:List UInt8):D4 (46::t)=t.all Bq:=by unfold D4;rw[Ek,Mo];rfl
theorem If{c:UInt8}(t:List UInt8)(h:c≠46):D4 (c::t)=(Bq c && D4 t):=by
 unfold D4;rw[C5 t h,KM t h];rfl
theorem JO:AD []=false:=rfl
theorem Fj(t:List UInt8):AD (46::t)=true:=by unfold AD;rw[Ek];simp
theorem DX{c:UInt8}(t:List UInt8)(h:c≠46):AD (c::t)=AD t:=by unfold AD;rw[C5 t h];simp
theorem IB(t:List UInt8)(c:UInt8):AD (t++[c])=(AD t || c == 46):=by
 induction t with
 |nil=>
  by_cases h:c=46
  ·subst h;rfl
  ·rw[List.nil_append,DX _ h,JO];simp[h]
 |cons a t ih=>
  by_cases h:a=46
  ·subst h;rw[List.cons_append,Fj,Fj];rfl
  ·rw[List.cons_append,DX _ h,DX _ h,ih]
theorem Lf(t:List UInt8)(c:UInt8):D4 (t++[c])=(D4 t && ((!AD t && c == 46) || Bq c)):=by
 induction t with
 |nil=>
  by_cases h:c=46
  ·subst h;rfl
  ·rw[List.nil_append,If _ h,Sa,JO];have:(c == 46)=false:=by rw[beq_eq_false_iff_ne];exact h
   simp[this]
 |cons a t ih=>
  by_cases h:a=46
  ·subst h;rw[List.cons_append,Nh,Nh,Fj,List.all_append];simp
  ·rw[List.cons_append,If _ h,If _ h,DX _ h,ih,Bool.and_assoc]
theorem QM(a b:List UInt8)(h:D4 (a++b)=true):D4 a=true:=by
 induction b generalizing a with
 |nil=>simpa using h
 |cons c b ih=>
  have:=ih (a++[c]) (by simpa using h);rw[Lf,Bool.and_eq_true]at this;exact this.1
theorem MV(a b:List UInt8)(h:AD a=true):AD (a++b)=true:=by
 induction b generalizing a with
 |nil=>simpa using h
 |cons c b ih=>
  have:=ih (a++[c]) (by rw[IB,h];rfl)
  simpa using this
theorem Qr(l:List UInt8)(i:Nat)(hi:i<l.length)(h:AD (l.take i)=false)(hc:l[i]=46):(whole l).length=i:=by
 induction l generalizing i with
 |nil=>simp at hi
 |cons a t ih=>
  cases i with
  |zero=>
   simp only[List.getElem_cons_zero]at hc;subst hc;rw[Ek];rfl
  |succ i=>
   by_cases ha:a=46
   ·subst ha;rw[List.take_succ_cons,Fj]at h;cases h
   ·rw[List.take_succ_cons,DX _ ha]at h;rw[C5 _ ha,List.length_cons,ih i (by simpa using hi) h (by simpa using hc)]
theorem PM{l:List UInt8}{i:Nat}(hi:i<l.length)(h:D4 (l.take i)=true):
  D4 (l.take (i+1))=((!AD (l.take i) && l[i] == 46) || Bq l[i])/\AD (l.take (i+1))=(AD (l.take i) || l[i] == 46):=by
 rw[List.take_succ_eq_append_getElem hi,Lf,IB,h];exact⟨rfl,rfl⟩
theorem Rh{l:List UInt8}{j:Nat}(h:D4 (l.take j)=false):D4 l=false:=by
 cases h1:D4 l
 ·rfl
 ·rw[<-List.take_append_drop j l]at h1;rw[QM _ _ h1]at h;cases h
theorem M4{l:List UInt8}{j:Nat}(h:AD (l.take j)=true):(whole l).length<l.length:=by
 have h1:=MV (l.take j) (l.drop j) h;rw[List.take_append_drop]at h1;exact of_decide_eq_true h1
theorem FP{l:List UInt8}(h:AD l=false):(whole l).length=l.length:=by
 rcases Co l with ⟨h1,_⟩|⟨_,h2,_⟩
 ·rw[h]at h1;cases h1
 ·exact congrArg List.length h2.symm
theorem GB(l:List UInt8):l.take (whole l).length=whole l:=by
 rcases Co l with ⟨_,h2⟩|⟨_,h2,_⟩
 ·generalize whole l=a at *;generalize Ba l=b at *;subst h2;simp
 ·rw[<-h2,List.take_of_length_le (Nat.le_refl _)]
theorem La{l:List UInt8}(h:AD l=true):l.drop ((whole l).length+1)=Ba l:=by
 rcases Co l with ⟨_,h2⟩|⟨h1,_⟩
 ·generalize whole l=a at *;generalize Ba l=b at *;subst h2;simp[List.drop_append]
 ·rw[h]at h1;cases h1
theorem Cn(l:List UInt8):CU l=(!Ie l && D4 l):=rfl
def Dz(n:Nat):Bool:=decide (48<=n) && decide (n<=57)
def Ev(n:Nat):Bool:=(decide (97<=n) && decide (n<=122)) || (decide (65<=n) && decide (n<=90))
def BN(n:Nat):Bool:=Ev n || Dz n || n == 95
def Ci(n:Nat):Bool:=Dz n || n == 46
def Gs(n:Nat):Bool:=n == 43 || n == 45 || n == 42 || n == 47 || n == 94 || n == 40 || n == 41
structure Tok where
 kind:Nat
 at_:Nat
 text:List UInt8
deriving DecidableEq
def Aj(p:Nat->Bool):List UInt8->Nat
 |[]=>0
 |c::t=>if p c.toNat then Aj p t+1 else 0
theorem DH(p:Nat->Bool)(l:List UInt8):Aj p l<=l.length:=by
 induction l with
 |nil=>exact Nat.le_refl _
 |cons c t ih=>
  unfold Aj;split
  ·simp;exact ih
  ·exact Nat.zero_le _
theorem Hv(p:Nat->Bool)(l:List UInt8)(i:Nat)(h:i<Aj p l):∃hi:i<l.length,p l[i].toNat=true:=by
 induction l generalizing i with
 |nil=>simp[Aj]at h
 |cons c t ih=>
  unfold Aj at h;split at h
  ·rename_i hc;cases i with
   |zero=>exact⟨by simp,by simpa using hc⟩
   |succ i=>
    obtain⟨h1,h2⟩:=ih i (by omega);exact⟨by simpa using h1,by simpa using h2⟩
  ·omega
theorem ND(p:Nat->Bool)(l:List UInt8)(h:Aj p l<l.length):p l[Aj p l].toNat=false:=by
 induction l with
 |nil=>simp at h
 |cons c t ih=>
  by_cases hc:p c.toNat=true
  ·have e:Aj p (c::t)=Aj p t+1:=by rw[Aj,if_pos hc]
   simp only[e]at h ⊢
   simpa using ih (by simpa using h)
  ·have e:Aj p (c::t)=0:=by rw[Aj,if_neg hc]
   simp only[e]
   simpa using hc
def C6(l:List UInt8):Option (Nat × Nat):=
 match l with
 |[]=>none
 |c::_=>
  if Ev c.toNat then (if Aj BN l<=24 then some (2,Aj BN l) else none)
  else if Dz c.toNat then (if Bs (l.take (Aj Ci l))=0 then some (1,Aj Ci l) else none)
  else if Gs c.toNat then some (3,1) else none
def D9:Nat->List UInt8->Nat->List Tok->List Tok × Nat × Nat
 |0,_,at_,_=>([],at_,6)
 |f+1,l,at_,ts=>
  if l.length<=at_ then (ts,l.length,0)
  else if l[at_]? =some 32 then D9 f l (at_+1) ts
  else match C6 (l.drop at_) with
   |none=>([],at_,6)
   |some (k,n)=>D9 f l (at_+n) (ts++[⟨k,at_,(l.drop at_).take n⟩])
theorem E9{l:List UInt8}{k n:Nat}(h:C6 l=some (k,n)):1<=n/\n<=l.length:=by
 unfold C6 at h;split at h
 ·cases h
 ·rename_i c t;split at h
  ·rename_i hc;split at h
   ·injection h with h
    injection h with h1 h2
    rw[<-h2];refine⟨?_,DH _ _⟩;rw[Aj,if_pos (by unfold BN;rw[hc];rfl)];omega
   ·cases h
  ·split at h
   ·rename_i hc;split at h
    ·injection h with h
     injection h with h1 h2
     rw[<-h2];refine⟨?_,DH _ _⟩;rw[Aj,if_pos (by unfold Ci;rw[hc];rfl)];omega
    ·cases h
   ·split at h
    ·injection h with h
     injection h with h1 h2
     rw[<-h2];simp
    ·cases h
theorem Jf(f:Nat):∀(g:Nat) (l:List UInt8) (at_:Nat) (ts:List Tok),l.length+1<=at_+f->l.length+1<=at_+g->1<=f->1<=g->D9 f l at_ ts=D9 g l at_ ts:=by
 induction f with
 |zero=>intro g l at_ ts _ _ h;omega
 |succ f ih=>
  intro g l at_ ts hf hg _ o6;obtain⟨g',rfl⟩:∃g',g=g'+1:=⟨g-1,by omega⟩;unfold D9;by_cases h0:l.length<=at_
  ·rw[if_pos h0,if_pos h0]
  ·rw[if_neg h0,if_neg h0];split
   ·exact ih g' l _ ts (by omega) (by omega) (by omega) (by omega)
   ·cases ht:C6 (l.drop at_) with
    |none=>rfl
    |some kn=>
     obtain⟨k,n⟩:=kn;have hn:=E9 ht;exact ih g' l _ _ (by omega) (by omega) (by omega) (by omega)
def Bh(l:List UInt8):List Tok × Nat × Nat:=if 400<l.length then ([],0,7) else D9 (l.length+1) l 0 []
def DG(l:List UInt8)(at_:Nat)(ts:List Tok):List Tok × Nat × Nat:=D9 (l.length+1) l at_ ts
theorem Nz{l:List UInt8}{at_:Nat}{ts:List Tok}(h:l.length<=at_):DG l at_ ts=(ts,l.length,0):=by
 unfold DG D9;rw[if_pos h]
theorem Ln{l:List UInt8}{at_:Nat}{ts:List Tok}(h:at_<l.length)(hc:l[at_]? =some 32):DG l at_ ts=DG l (at_+1) ts:=by
 unfold DG;rw[D9,if_neg (by omega),if_pos hc];exact Jf _ _ l _ ts (by omega) (by omega) (by omega) (by omega)
theorem FJ{l:List UInt8}{at_:Nat}{ts:List Tok}(h:at_<l.length)(hc:l[at_]?≠some 32)(ht:C6 (l.drop at_)=none):DG l at_ ts=([],at_,6):=by
 unfold DG;rw[D9,if_neg (by omega),if_neg hc,ht]
theorem FI{l:List UInt8}{at_ k n:Nat}{ts:List Tok}(h:at_<l.length)(hc:l[at_]?≠some 32)(ht:C6 (l.drop at_)=some (k,n)):DG l at_ ts=DG l (at_+n) (ts++[⟨k,at_,(l.drop at_).take n⟩]):=by
 unfold DG;have hn:=E9 ht;rw[D9,if_neg (by omega),if_neg hc,ht];exact Jf _ _ l _ _ (by omega) (by omega) (by omega) (by omega)
def CS(l:List UInt8):Bool:= !(l == []) && decide (l.length<=24) && Ev (l.getD 0 0).toNat && l.all (fun c=>BN c.toNat)
end Big
end Go.Proofs.YtkoaogkknnelaaaGreatDoor
