import Derived.Test.YtkoaogkknnelaaaGreatDoorM1
import Derived.Below
import Derived.Deep.RegionHeld3
import Derived.Test.YtkoaogkknnelaaaGreatDoorChecked
import Derived.Lib.Split
import Derived.Test.YtkoaogkknnelaaaGreatDoorM1
import Derived.Lib.IndexMore
import Derived.Lib.TrimByte
import Derived.Lib.SlTrimSet
set_option linter.unusedVariables false
set_option linter.unusedSimpArgs false
namespace Go.RowKit
theorem Hid.o{p:Prop}(h:Hid p):p:=h
end Go.RowKit
namespace Go.Proofs.YtkoaogkknnelaaaGreatDoor
namespace Big
section
open Go
theorem pu:(∀(a:Act) (d:Nat) (v:Value),a.put (some d) v={ a with tmps:=a.tmps.setIfInBounds d v })/\(∀(a:Act) (v:Value),a.put none v=a)/\(∀(l:List Value) (i:Nat) (v:Value),l.toArray.setIfInBounds i v=(l.set i v).toArray)/\(∀(x v:Value) (l:List Value),(x::l).set 0 v=v::l)/\(∀(x v:Value) (l:List Value) (i:Nat),(x::l).set (i+1) v=x::l.set i v):=
 ⟨fun _ _ _=>rfl,fun _ _=>rfl,fun _ _ _=>List.setIfInBounds_toArray ..,fun _ _ _=>rfl,fun _ _ _ _=>rfl⟩
end
theorem QP(c b:UInt8)(t:List UInt8):Lib.index (b::t) [c]=if b=c then 0 else if Lib.index t [c]= -1 then-1 else Lib.index t [c]+1:=by
 rw[Lib.index];by_cases h:b=c
 ·subst h;simp[List.isPrefixOf]
 ·have h1:(List.isPrefixOf [c] (b::t))=false:=by
   have:c≠b:=fun e=>h e.symm
   simp[List.isPrefixOf,this]
  rw[if_neg (by rw[h1];simp),if_neg h];by_cases h2:Lib.index t [c]= -1
  ·rw[if_pos h2,if_pos (by rw[h2];rfl)]
  ·rw[if_neg h2,if_neg (by rw[beq_iff_eq];exact h2)]
def whole(l:List UInt8):List UInt8:=l.takeWhile (fun c=>c != 46)
def AX(l:List UInt8):List UInt8:=(l.dropWhile (fun c=>c != 46)).drop 1
def AB(l:List UInt8):Bool:=decide ((whole l).length<l.length)
theorem D2(t:List UInt8):whole (46::t)=[]:=by simp[whole]
theorem Mw(t:List UInt8):AX (46::t)=t:=by simp[AX]
theorem C6{c:UInt8}(t:List UInt8)(h:c≠46):whole (c::t)=c::whole t:=by simp[whole,h]
theorem KM{c:UInt8}(t:List UInt8)(h:c≠46):AX (c::t)=AX t:=by simp[AX,h]
theorem IY(l:List UInt8):(whole l).length<=l.length:=by
 unfold whole;exact(List.takeWhile_sublist _).length_le
theorem Cy(l:List UInt8):(AB l=true/\l=whole l++46::AX l)\/(AB l=false/\l=whole l/\AX l=[]):=by
 induction l with
 |nil=>exact .inr ⟨rfl,rfl,rfl⟩
 |cons c t ih=>
  by_cases h:c=46
  ·subst h;refine .inl ⟨by unfold AB;rw[D2];simp,by rw[D2,Mw];rfl⟩
  ·have hd:AB (c::t)=AB t:=by unfold AB;rw[C6 t h];simp
   rw[hd,C6 t h,KM t h];rcases ih with ⟨h1,h2⟩|⟨h1,h2,h3⟩
   ·exact .inl ⟨h1,by rw[qbt,<-h2]⟩
   ·exact .inr ⟨h1,by rw[<-h2],h3⟩
theorem QQ(l:List UInt8):Lib.index l [46]=if AB l then ((whole l).length:Int) else-1:=by
 induction l with
 |nil=>rfl
 |cons c t ih=>
  rw[QP];by_cases h:c=46
  ·subst h;rw[if_pos rfl,D2];rfl
  ·have hd:AB (c::t)=AB t:=by unfold AB;rw[C6 t h];simp
   rw[if_neg h,hd,ih,C6 t h];cases AB t
   ·simp
   ·simp only[if_true];rw[if_neg (by omega),qat];omega
theorem TG(l:List UInt8):Lib.cut l [46]=(whole l,AX l,AB l):=by
 unfold Lib.cut;rw[QQ];rcases Cy l with ⟨h1,h2⟩|⟨h1,h2,h3⟩
 ·rw[h1];simp only[if_true];rw[if_pos (by omega),qaq];generalize whole l=a at *;generalize AX l=b at *;subst h2;simp[qcu]
 ·rw[h1];simp only[qbg,if_false];rw[if_neg (by omega),h3,<-h2]
def H8(l:List UInt8):Bool:=(AB l && ((AX l == []) || ((AX l).getLast? == some 48))) || (whole l == []) || ((whole l)[0]? == some 48 && decide (1<(whole l).length))
def CR(l:List UInt8):Bool:= !H8 l && (whole l++AX l).all Bx
def Bz(l:List UInt8):Nat:=if 400<l.length then 7 else if CR l then 0 else 6
theorem Q4(l:List UInt8):(l.dropWhile (· == 48)).all Bx=l.all Bx:=by
 induction l with
 |nil=>rfl
 |cons c t ih=>
  by_cases h:c=48
  ·subst h;simp only[List.dropWhile_cons,beq_self_eq_true,if_true,qbV];rw[ih];rfl
  ·simp[h]
theorem MI(t:List UInt8):Bk (48::t)=Bk t:=rfl
theorem Q3(l:List UInt8):Bk (l.dropWhile (· == 48))=Bk l:=by
 induction l with
 |nil=>rfl
 |cons c t ih=>
  by_cases h:c=48
  ·subst h;simp only[List.dropWhile_cons,beq_self_eq_true,if_true];rw[ih,MI]
  ·simp[h]
theorem OQ(l:List UInt8)(h:l.dropWhile (· == 48)≠[]):(l.dropWhile (· == 48))[0]?≠some 48:=by
 induction l with
 |nil=>simp at h
 |cons c t ih=>
  by_cases hc:c=48
  ·subst hc;simp only[List.dropWhile_cons,beq_self_eq_true,if_true]at h ⊢;exact ih h
  ·simp[hc]
def K7(l:List UInt8):List UInt8:=if l.dropWhile (· == 48)=[] then [48] else l.dropWhile (· == 48)
theorem Kp(l:List UInt8)(hl:l.length<=800):IQ (K7 l)=if l.all Bx then (Bk l,0) else (0,6):=by
 unfold K7;have h1:=Q4 l;have h2:=Q3 l;have h4:(l.dropWhile (· == 48)).length<=l.length:=(List.dropWhile_sublist _).length_le;by_cases h:l.dropWhile (· == 48)=[]
 ·rw[if_pos h];rw[h]at h1 h2;rw[<-h1,<-h2];rfl
 ·rw[if_neg h];have h3:=OQ l h;unfold IQ;rw[if_neg (by omega),if_neg h,if_neg (fun e=>h3 e.1),h1,h2]
theorem F8{n k:Nat}{m:Nat}(h:n<10 ^ k)(hk:k<=m):(Af n).length<=m:=by
 refine Bg (qaj h (qaf (Nat.pow_le_pow_left (show 10<=4294967296 by decide) k) (Mv hk)))
theorem PL(l:List UInt8)(h:l.all Bx=true):Lib.trimS l [48,49,50,51,52,53,54,55,56,57]=[]:=by
 have key:∀l:List UInt8,l.all Bx=true->l.dropWhile (([48,49,50,51,52,53,54,55,56,57]:List UInt8).contains ·)=[]:=by
  intro l h
  induction l with
  |nil=>rfl
  |cons c t ih=>
   rw[qbV,qaM]at h;have hc:([48,49,50,51,52,53,54,55,56,57]:List UInt8).contains c=true:=by
    have h1:=h.1;unfold Bx at h1;simp only[qaM,decide_eq_true_eq]at h1;have:c.toNat=48\/c.toNat=49\/c.toNat=50\/c.toNat=51\/c.toNat=52\/c.toNat=53\/c.toNat=54\/c.toNat=55\/c.toNat=56\/c.toNat=57:=by omega
    rcases this with e|e|e|e|e|e|e|e|e|e<;>(rw[show c=UInt8.ofNat c.toNat by simp,e];rfl)
   rw[List.dropWhile_cons,hc];exact ih h.2
 unfold Lib.trimS Lib.trimLeftS Lib.trimRightS;rw[key l.reverse (by rw[List.all_reverse];exact h)];rfl
def DP(l:List UInt8):Bool:=(whole l++AX l).all Bx
theorem SW:DP []=true:=rfl
theorem Nu(t:List UInt8):DP (46::t)=t.all Bx:=by unfold DP;rw[D2,Mw];rfl
theorem Ib{c:UInt8}(t:List UInt8)(h:c≠46):DP (c::t)=(Bx c && DP t):=by
 unfold DP;rw[C6 t h,KM t h];rfl
theorem JI:AB []=false:=rfl
theorem Fi(t:List UInt8):AB (46::t)=true:=by unfold AB;rw[D2];simp
theorem DK{c:UInt8}(t:List UInt8)(h:c≠46):AB (c::t)=AB t:=by unfold AB;rw[C6 t h];simp
theorem Iw(t:List UInt8)(c:UInt8):AB (t++[c])=(AB t || c == 46):=by
 induction t with
 |nil=>
  by_cases h:c=46
  ·subst h;rfl
  ·rw[qaG,DK _ h,JI];simp[h]
 |cons a t ih=>
  by_cases h:a=46
  ·subst h;rw[qbt,Fi,Fi];rfl
  ·rw[qbt,DK _ h,DK _ h,ih]
theorem Lc(t:List UInt8)(c:UInt8):DP (t++[c])=(DP t && ((!AB t && c == 46) || Bx c)):=by
 induction t with
 |nil=>
  by_cases h:c=46
  ·subst h;rfl
  ·rw[qaG,Ib _ h,SW,JI];have:(c == 46)=false:=by rw[beq_eq_false_iff_ne];exact h
   simp[this]
 |cons a t ih=>
  by_cases h:a=46
  ·subst h;rw[qbt,Nu,Nu,Fi,qcx];simp
  ·rw[qbt,Ib _ h,Ib _ h,DK _ h,ih,Bool.and_assoc]
theorem Ri(a b:List UInt8)(h:DP (a++b)=true):DP a=true:=by
 induction b generalizing a with
 |nil=>simpa using h
 |cons c b ih=>
  have:=ih (a++[c]) (by simpa using h);rw[Lc,qaM]at this;exact this.1
theorem M3(a b:List UInt8)(h:AB a=true):AB (a++b)=true:=by
 induction b generalizing a with
 |nil=>simpa using h
 |cons c b ih=>
  have:=ih (a++[c]) (by rw[Iw,h];rfl)
  simpa using this
theorem QX(l:List UInt8)(i:Nat)(hi:i<l.length)(h:AB (l.take i)=false)(hc:l[i]=46):(whole l).length=i:=by
 induction l generalizing i with
 |nil=>simp at hi
 |cons a t ih=>
  cases i with
  |zero=>
   simp only[qbA]at hc;subst hc;rw[D2];rfl
  |succ i=>
   by_cases ha:a=46
   ·subst ha;rw[qbR,Fi]at h;cases h
   ·rw[qbR,DK _ ha]at h;rw[C6 _ ha,qat,ih i (by simpa using hi) h (by simpa using hc)]
theorem Qa{l:List UInt8}{i:Nat}(hi:i<l.length)(h:DP (l.take i)=true):
  DP (l.take (i+1))=((!AB (l.take i) && l[i] == 46) || Bx l[i])/\AB (l.take (i+1))=(AB (l.take i) || l[i] == 46):=by
 rw[qah hi,Lc,Iw,h];exact⟨rfl,rfl⟩
theorem RS{l:List UInt8}{j:Nat}(h:DP (l.take j)=false):DP l=false:=by
 cases h1:DP l
 ·rfl
 ·rw[<-qbo j l]at h1;rw[Ri _ _ h1]at h;cases h
theorem Nf{l:List UInt8}{j:Nat}(h:AB (l.take j)=true):(whole l).length<l.length:=by
 have h1:=M3 (l.take j) (l.drop j) h;rw[qbo]at h1;exact of_decide_eq_true h1
theorem FP{l:List UInt8}(h:AB l=false):(whole l).length=l.length:=by
 rcases Cy l with ⟨h1,_⟩|⟨_,h2,_⟩
 ·rw[h]at h1;cases h1
 ·exact congrArg List.length h2.symm
theorem Gv(l:List UInt8):l.take (whole l).length=whole l:=by
 rcases Cy l with ⟨_,h2⟩|⟨_,h2,_⟩
 ·generalize whole l=a at *;generalize AX l=b at *;subst h2;simp
 ·rw[<-h2,qak (qad _)]
theorem K6{l:List UInt8}(h:AB l=true):l.drop ((whole l).length+1)=AX l:=by
 rcases Cy l with ⟨_,h2⟩|⟨h1,_⟩
 ·generalize whole l=a at *;generalize AX l=b at *;subst h2;simp[qcu]
 ·rw[h]at h1;cases h1
theorem Cx(l:List UInt8):CR l=(!H8 l && DP l):=rfl
def Dp(n:Nat):Bool:=decide (48<=n) && decide (n<=57)
def Ej(n:Nat):Bool:=(decide (97<=n) && decide (n<=122)) || (decide (65<=n) && decide (n<=90))
def BU(n:Nat):Bool:=Ej n || Dp n || n == 95
def Cw(n:Nat):Bool:=Dp n || n == 46
def Gp(n:Nat):Bool:=n == 43 || n == 45 || n == 42 || n == 47 || n == 94 || n == 40 || n == 41
structure Tok where
 kind:Nat
 at_:Nat
 text:List UInt8
deriving DecidableEq
def An(p:Nat->Bool):List UInt8->Nat
 |[]=>0
 |c::t=>if p c.toNat then An p t+1 else 0
theorem Dx(p:Nat->Bool)(l:List UInt8):An p l<=l.length:=by
 induction l with
 |nil=>exact qad _
 |cons c t ih=>
  unfold An;split
  ·simp;exact ih
  ·exact qal _
theorem Ht(p:Nat->Bool)(l:List UInt8)(i:Nat)(h:i<An p l):∃hi:i<l.length,p l[i].toNat=true:=by
 induction l generalizing i with
 |nil=>simp[An]at h
 |cons c t ih=>
  unfold An at h;split at h
  ·rename_i hc;cases i with
   |zero=>exact⟨by simp,by simpa using hc⟩
   |succ i=>
    obtain⟨h1,h2⟩:=ih i (by omega);exact⟨by simpa using h1,by simpa using h2⟩
  ·omega
theorem NU(p:Nat->Bool)(l:List UInt8)(h:An p l<l.length):p l[An p l].toNat=false:=by
 induction l with
 |nil=>simp at h
 |cons c t ih=>
  by_cases hc:p c.toNat=true
  ·have e:An p (c::t)=An p t+1:=by rw[An,if_pos hc]
   simp only[e]at h ⊢
   simpa using ih (by simpa using h)
  ·have e:An p (c::t)=0:=by rw[An,if_neg hc]
   simp only[e]
   simpa using hc
def Dl(l:List UInt8):Option (Nat × Nat):=
 match l with
 |[]=>none
 |c::_=>
  if Ej c.toNat then (if An BU l<=24 then some (2,An BU l) else none)
  else if Dp c.toNat then (if Bz (l.take (An Cw l))=0 then some (1,An Cw l) else none)
  else if Gp c.toNat then some (3,1) else none
def DS:Nat->List UInt8->Nat->List Tok->List Tok × Nat × Nat
 |0,_,at_,_=>([],at_,6)
 |f+1,l,at_,ts=>
  if l.length<=at_ then (ts,l.length,0)
  else if l[at_]? =some 32 then DS f l (at_+1) ts
  else match Dl (l.drop at_) with
   |none=>([],at_,6)
   |some (k,n)=>DS f l (at_+n) (ts++[⟨k,at_,(l.drop at_).take n⟩])
theorem E6{l:List UInt8}{k n:Nat}(h:Dl l=some (k,n)):1<=n/\n<=l.length:=by
 unfold Dl at h;split at h
 ·cases h
 ·rename_i c t;split at h
  ·rename_i hc;split at h
   ·injection h with h
    injection h with h1 h2
    rw[<-h2];refine⟨?_,Dx _ _⟩;rw[An,if_pos (by unfold BU;rw[hc];rfl)];omega
   ·cases h
  ·split at h
   ·rename_i hc;split at h
    ·injection h with h
     injection h with h1 h2
     rw[<-h2];refine⟨?_,Dx _ _⟩;rw[An,if_pos (by unfold Cw;rw[hc];rfl)];omega
    ·cases h
   ·split at h
    ·injection h with h
     injection h with h1 h2
     rw[<-h2];simp
    ·cases h
theorem I8(f:Nat):∀(g:Nat) (l:List UInt8) (at_:Nat) (ts:List Tok),l.length+1<=at_+f->l.length+1<=at_+g->1<=f->1<=g->DS f l at_ ts=DS g l at_ ts:=by
 induction f with
 |zero=>intro g l at_ ts _ _ h;omega
 |succ f ih=>
  intro g l at_ ts hf hg _ uX;obtain⟨g',rfl⟩:∃g',g=g'+1:=⟨g-1,by omega⟩;unfold DS;by_cases h0:l.length<=at_
  ·rw[if_pos h0,if_pos h0]
  ·rw[if_neg h0,if_neg h0];split
   ·exact ih g' l _ ts (by omega) (by omega) (by omega) (by omega)
   ·cases ht:Dl (l.drop at_) with
    |none=>rfl
    |some kn=>
     obtain⟨k,n⟩:=kn;have hn:=E6 ht;exact ih g' l _ _ (by omega) (by omega) (by omega) (by omega)
def Bj(l:List UInt8):List Tok × Nat × Nat:=if 400<l.length then ([],0,7) else DS (l.length+1) l 0 []
def Dw(l:List UInt8)(at_:Nat)(ts:List Tok):List Tok × Nat × Nat:=DS (l.length+1) l at_ ts
theorem NR{l:List UInt8}{at_:Nat}{ts:List Tok}(h:l.length<=at_):Dw l at_ ts=(ts,l.length,0):=by
 unfold Dw DS;rw[if_pos h]
theorem Lk{l:List UInt8}{at_:Nat}{ts:List Tok}(h:at_<l.length)(hc:l[at_]? =some 32):Dw l at_ ts=Dw l (at_+1) ts:=by
 unfold Dw;rw[DS,if_neg (by omega),if_pos hc];exact I8 _ _ l _ ts (by omega) (by omega) (by omega) (by omega)
theorem FE{l:List UInt8}{at_:Nat}{ts:List Tok}(h:at_<l.length)(hc:l[at_]?≠some 32)(ht:Dl (l.drop at_)=none):Dw l at_ ts=([],at_,6):=by
 unfold Dw;rw[DS,if_neg (by omega),if_neg hc,ht]
theorem FD{l:List UInt8}{at_ k n:Nat}{ts:List Tok}(h:at_<l.length)(hc:l[at_]?≠some 32)(ht:Dl (l.drop at_)=some (k,n)):Dw l at_ ts=Dw l (at_+n) (ts++[⟨k,at_,(l.drop at_).take n⟩]):=by
 unfold Dw;have hn:=E6 ht;rw[DS,if_neg (by omega),if_neg hc,ht];exact I8 _ _ l _ _ (by omega) (by omega) (by omega) (by omega)
def CO(l:List UInt8):Bool:= !(l == []) && decide (l.length<=24) && Ej (l.getD 0 0).toNat && l.all (fun c=>BU c.toNat)
end Big
end Go.Proofs.YtkoaogkknnelaaaGreatDoor
