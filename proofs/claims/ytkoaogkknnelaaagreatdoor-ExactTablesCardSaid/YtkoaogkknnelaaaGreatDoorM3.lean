import Derived.Test.YtkoaogkknnelaaaGreatDoorM1
import Derived.Below
import Derived.Deep.RegionHeld3
import Derived.Test.YtkoaogkknnelaaaGreatDoorChecked
import Derived.Lib.Split
import Derived.Test.YtkoaogkknnelaaaGreatDoorM1
import Derived.Lib.IndexMore
import Derived.Lib.TrimByte
import Derived.Lib.SlTrimSet
set_option linter.unusedVariables false
set_option linter.unusedSimpArgs false
namespace Go.RowKit
theorem Hid.o{p:Prop}(h:Hid p):p:=h
end Go.RowKit
namespace Go.Proofs.YtkoaogkknnelaaaGreatDoor
namespace Big
section
open Go
theorem pu:(∀(a:Act) (d:Nat) (v:Value),a.put (some d) v={ a with tmps:=a.tmps.setIfInBounds d v })/\(∀(a:Act) (v:Value),a.put none v=a)/\(∀(l:List Value) (i:Nat) (v:Value),l.toArray.setIfInBounds i v=(l.set i v).toArray)/\(∀(x v:Value) (l:List Value),(x::l).set 0 v=v::l)/\(∀(x v:Value) (l:List Value) (i:Nat),(x::l).set (i+1) v=x::l.set i v):=
 ⟨fun _ _ _=>rfl,fun _ _=>rfl,fun _ _ _=>List.setIfInBounds_toArray ..,fun _ _ _=>rfl,fun _ _ _ _=>rfl⟩
end
theorem Qx(c b:UInt8)(t:List UInt8):Lib.index (b::t) [c]=if b=c then 0 else if Lib.index t [c]= -1 then-1 else Lib.index t [c]+1:=by
 rw[Lib.index];by_cases h:b=c
 ·subst h;simp[List.isPrefixOf]
 ·have h1:(List.isPrefixOf [c] (b::t))=false:=by
   have:c≠b:=fun e=>h e.symm
   simp[List.isPrefixOf,this]
  rw[if_neg (by rw[h1];simp),if_neg h];by_cases h2:Lib.index t [c]= -1
  ·rw[if_pos h2,if_pos (by rw[h2];rfl)]
  ·rw[if_neg h2,if_neg (by rw[beq_iff_eq];exact h2)]
def whole(l:List UInt8):List UInt8:=l.takeWhile (fun c=>c != 46)
def Bb(l:List UInt8):List UInt8:=(l.dropWhile (fun c=>c != 46)).drop 1
def AE(l:List UInt8):Bool:=decide ((whole l).length<l.length)
theorem DZ(t:List UInt8):whole (46::t)=[]:=by simp[whole]
theorem Ml(t:List UInt8):Bb (46::t)=t:=by simp[Bb]
theorem C6{c:UInt8}(t:List UInt8)(h:c≠46):whole (c::t)=c::whole t:=by simp[whole,h]
theorem KS{c:UInt8}(t:List UInt8)(h:c≠46):Bb (c::t)=Bb t:=by simp[Bb,h]
theorem Gz(l:List UInt8):(whole l).length<=l.length:=by
 unfold whole;exact(List.takeWhile_sublist _).length_le
theorem Ck(l:List UInt8):(AE l=true/\l=whole l++46::Bb l)\/(AE l=false/\l=whole l/\Bb l=[]):=by
 induction l with
 |nil=>exact .inr ⟨rfl,rfl,rfl⟩
 |cons c t ih=>
  by_cases h:c=46
  ·subst h;refine .inl ⟨by unfold AE;rw[DZ];simp,by rw[DZ,Ml];rfl⟩
  ·have hd:AE (c::t)=AE t:=by unfold AE;rw[C6 t h];simp
   rw[hd,C6 t h,KS t h];rcases ih with ⟨h1,h2⟩|⟨h1,h2,h3⟩
   ·exact .inl ⟨h1,by rw[qbD,<-h2]⟩
   ·exact .inr ⟨h1,by rw[<-h2],h3⟩
theorem Qy(l:List UInt8):Lib.index l [46]=if AE l then ((whole l).length:Int) else-1:=by
 induction l with
 |nil=>rfl
 |cons c t ih=>
  rw[Qx];by_cases h:c=46
  ·subst h;rw[if_pos rfl,DZ];rfl
  ·have hd:AE (c::t)=AE t:=by unfold AE;rw[C6 t h];simp
   rw[if_neg h,hd,ih,C6 t h];cases AE t
   ·simp
   ·simp only[if_true];rw[if_neg (by omega),qaC];omega
theorem T2(l:List UInt8):Lib.cut l [46]=(whole l,Bb l,AE l):=by
 unfold Lib.cut;rw[Qy];rcases Ck l with ⟨h1,h2⟩|⟨h1,h2,h3⟩
 ·rw[h1];simp only[if_true];rw[if_pos (by omega),qaq];generalize whole l=a at *;generalize Bb l=b at *;subst h2;simp[qcx]
 ·rw[h1];simp only[qbk,if_false];rw[if_neg (by omega),h3,<-h2]
def Ic(l:List UInt8):Bool:=(AE l && ((Bb l == []) || ((Bb l).getLast? == some 48))) || (whole l == []) || ((whole l)[0]? == some 48 && decide (1<(whole l).length))
def CO(l:List UInt8):Bool:= !Ic l && (whole l++Bb l).all BA
def Bh(l:List UInt8):Nat:=if 400<l.length then 7 else if CO l then 0 else 6
theorem QM(l:List UInt8):(l.dropWhile (· == 48)).all BA=l.all BA:=by
 induction l with
 |nil=>rfl
 |cons c t ih=>
  by_cases h:c=48
  ·subst h;simp only[List.dropWhile_cons,beq_self_eq_true,if_true,qcc];rw[ih];rfl
  ·simp[h]
theorem Mv(t:List UInt8):Bo (48::t)=Bo t:=rfl
theorem QL(l:List UInt8):Bo (l.dropWhile (· == 48))=Bo l:=by
 induction l with
 |nil=>rfl
 |cons c t ih=>
  by_cases h:c=48
  ·subst h;simp only[List.dropWhile_cons,beq_self_eq_true,if_true];rw[ih,Mv]
  ·simp[h]
theorem Ow(l:List UInt8)(h:l.dropWhile (· == 48)≠[]):(l.dropWhile (· == 48))[0]?≠some 48:=by
 induction l with
 |nil=>simp at h
 |cons c t ih=>
  by_cases hc:c=48
  ·subst hc;simp only[List.dropWhile_cons,beq_self_eq_true,if_true]at h ⊢;exact ih h
  ·simp[hc]
def K6(l:List UInt8):List UInt8:=if l.dropWhile (· == 48)=[] then [48] else l.dropWhile (· == 48)
theorem Kn(l:List UInt8)(hl:l.length<=800):I3 (K6 l)=if l.all BA then (Bo l,0) else (0,6):=by
 unfold K6;have h1:=QM l;have h2:=QL l;have h4:(l.dropWhile (· == 48)).length<=l.length:=(List.dropWhile_sublist _).length_le;by_cases h:l.dropWhile (· == 48)=[]
 ·rw[if_pos h];rw[h]at h1 h2;rw[<-h1,<-h2];rfl
 ·rw[if_neg h];have h3:=Ow l h;unfold I3;rw[if_neg (by omega),if_neg h,if_neg (fun e=>h3 e.1),h1,h2]
theorem D5{n k:Nat}{m:Nat}(h:n<10 ^ k)(hk:k<=m):(Ac n).length<=m:=by
 refine AH (qan h (qae (Nat.pow_le_pow_left (show 10<=4294967296 by decide) k) (Eb hk)))
theorem Ph(l:List UInt8)(h:l.all BA=true):Lib.trimS l [48,49,50,51,52,53,54,55,56,57]=[]:=by
 have key:∀l:List UInt8,l.all BA=true->l.dropWhile (([48,49,50,51,52,53,54,55,56,57]:List UInt8).contains ·)=[]:=by
  intro l h
  induction l with
  |nil=>rfl
  |cons c t ih=>
   rw[qcc,qaT]at h;have hc:([48,49,50,51,52,53,54,55,56,57]:List UInt8).contains c=true:=by
    have h1:=h.1;unfold BA at h1;simp only[qaT,decide_eq_true_eq]at h1;have:c.toNat=48\/c.toNat=49\/c.toNat=50\/c.toNat=51\/c.toNat=52\/c.toNat=53\/c.toNat=54\/c.toNat=55\/c.toNat=56\/c.toNat=57:=by omega
    rcases this with e|e|e|e|e|e|e|e|e|e<;>(rw[show c=UInt8.ofNat c.toNat by simp,e];rfl)
   rw[List.dropWhile_cons,hc];exact ih h.2
 unfold Lib.trimS Lib.trimLeftS Lib.trimRightS;rw[key l.reverse (by rw[List.all_reverse];exact h)];rfl
def DM(l:List UInt8):Bool:=(whole l++Bb l).all BA
theorem SW:DM []=true:=rfl
theorem M5(t:List UInt8):DM (46::t)=t.all BA:=by unfold DM;rw[DZ,Ml];rfl
theorem Ie{c:UInt8}(t:List UInt8)(h:c≠46):DM (c::t)=(BA c && DM t):=by
 unfold DM;rw[C6 t h,KS t h];rfl
theorem JW:AE []=false:=rfl
theorem Fa(t:List UInt8):AE (46::t)=true:=by unfold AE;rw[DZ];simp
theorem DG{c:UInt8}(t:List UInt8)(h:c≠46):AE (c::t)=AE t:=by unfold AE;rw[C6 t h];simp
theorem IE(t:List UInt8)(c:UInt8):AE (t++[c])=(AE t || c == 46):=by
 induction t with
 |nil=>
  by_cases h:c=46
  ·subst h;rfl
  ·rw[qaU,DG _ h,JW];simp[h]
 |cons a t ih=>
  by_cases h:a=46
  ·subst h;rw[qbD,Fa,Fa];rfl
  ·rw[qbD,DG _ h,DG _ h,ih]
theorem K8(t:List UInt8)(c:UInt8):DM (t++[c])=(DM t && ((!AE t && c == 46) || BA c)):=by
 induction t with
 |nil=>
  by_cases h:c=46
  ·subst h;rfl
  ·rw[qaU,Ie _ h,SW,JW];have:(c == 46)=false:=by rw[beq_eq_false_iff_ne];exact h
   simp[this]
 |cons a t ih=>
  by_cases h:a=46
  ·subst h;rw[qbD,M5,M5,Fa,qcC];simp
  ·rw[qbD,Ie _ h,Ie _ h,DG _ h,ih,Bool.and_assoc]
theorem QZ(a b:List UInt8)(h:DM (a++b)=true):DM a=true:=by
 induction b generalizing a with
 |nil=>simpa using h
 |cons c b ih=>
  have:=ih (a++[c]) (by simpa using h);rw[K8,qaT]at this;exact this.1
theorem MK(a b:List UInt8)(h:AE a=true):AE (a++b)=true:=by
 induction b generalizing a with
 |nil=>simpa using h
 |cons c b ih=>
  have:=ih (a++[c]) (by rw[IE,h];rfl)
  simpa using this
theorem QE(l:List UInt8)(i:Nat)(hi:i<l.length)(h:AE (l.take i)=false)(hc:l[i]=46):(whole l).length=i:=by
 induction l generalizing i with
 |nil=>simp at hi
 |cons a t ih=>
  cases i with
  |zero=>
   simp only[List.getElem_cons_zero]at hc;subst hc;rw[DZ];rfl
  |succ i=>
   by_cases ha:a=46
   ·subst ha;rw[qcb,Fa]at h;cases h
   ·rw[qcb,DG _ ha]at h;rw[C6 _ ha,qaC,ih i (by simpa using hi) h (by simpa using hc)]
theorem PT{l:List UInt8}{i:Nat}(hi:i<l.length)(h:DM (l.take i)=true):
  DM (l.take (i+1))=((!AE (l.take i) && l[i] == 46) || BA l[i])/\AE (l.take (i+1))=(AE (l.take i) || l[i] == 46):=by
 rw[qaz hi,K8,IE,h];exact⟨rfl,rfl⟩
theorem RJ{l:List UInt8}{j:Nat}(h:DM (l.take j)=false):DM l=false:=by
 cases h1:DM l
 ·rfl
 ·rw[<-qbV j l]at h1;rw[QZ _ _ h1]at h;cases h
theorem MS{l:List UInt8}{j:Nat}(h:AE (l.take j)=true):(whole l).length<l.length:=by
 have h1:=MK (l.take j) (l.drop j) h;rw[qbV]at h1;exact of_decide_eq_true h1
theorem FB{l:List UInt8}(h:AE l=false):(whole l).length=l.length:=by
 rcases Ck l with ⟨h1,_⟩|⟨_,h2,_⟩
 ·rw[h]at h1;cases h1
 ·exact congrArg List.length h2.symm
theorem Gc(l:List UInt8):l.take (whole l).length=whole l:=by
 rcases Ck l with ⟨_,h2⟩|⟨_,h2,_⟩
 ·generalize whole l=a at *;generalize Bb l=b at *;subst h2;simp
 ·rw[<-h2,qaf (qab _)]
theorem K5{l:List UInt8}(h:AE l=true):l.drop ((whole l).length+1)=Bb l:=by
 rcases Ck l with ⟨_,h2⟩|⟨h1,_⟩
 ·generalize whole l=a at *;generalize Bb l=b at *;subst h2;simp[qcx]
 ·rw[h]at h1;cases h1
theorem Cy(l:List UInt8):CO l=(!Ic l && DM l):=rfl
def Dl(n:Nat):Bool:=decide (48<=n) && decide (n<=57)
def Ee(n:Nat):Bool:=(decide (97<=n) && decide (n<=122)) || (decide (65<=n) && decide (n<=90))
def BX(n:Nat):Bool:=Ee n || Dl n || n == 95
def Cx(n:Nat):Bool:=Dl n || n == 46
def F4(n:Nat):Bool:=n == 43 || n == 45 || n == 42 || n == 47 || n == 94 || n == 40 || n == 41
structure Tok where
 kind:Nat
 at_:Nat
 text:List UInt8
deriving DecidableEq
def Ao(p:Nat->Bool):List UInt8->Nat
 |[]=>0
 |c::t=>if p c.toNat then Ao p t+1 else 0
theorem Dq(p:Nat->Bool)(l:List UInt8):Ao p l<=l.length:=by
 induction l with
 |nil=>exact qab _
 |cons c t ih=>
  unfold Ao;split
  ·simp;exact ih
  ·exact qaj _
theorem Hv(p:Nat->Bool)(l:List UInt8)(i:Nat)(h:i<Ao p l):∃hi:i<l.length,p l[i].toNat=true:=by
 induction l generalizing i with
 |nil=>simp[Ao]at h
 |cons c t ih=>
  unfold Ao at h;split at h
  ·rename_i hc;cases i with
   |zero=>exact⟨by simp,by simpa using hc⟩
   |succ i=>
    obtain⟨h1,h2⟩:=ih i (by omega);exact⟨by simpa using h1,by simpa using h2⟩
  ·omega
theorem NE(p:Nat->Bool)(l:List UInt8)(h:Ao p l<l.length):p l[Ao p l].toNat=false:=by
 induction l with
 |nil=>simp at h
 |cons c t ih=>
  by_cases hc:p c.toNat=true
  ·have e:Ao p (c::t)=Ao p t+1:=by rw[Ao,if_pos hc]
   simp only[e]at h ⊢
   simpa using ih (by simpa using h)
  ·have e:Ao p (c::t)=0:=by rw[Ao,if_neg hc]
   simp only[e]
   simpa using hc
def Df(l:List UInt8):Option (Nat × Nat):=
 match l with
 |[]=>none
 |c::_=>
  if Ee c.toNat then (if Ao BX l<=24 then some (2,Ao BX l) else none)
  else if Dl c.toNat then (if Bh (l.take (Ao Cx l))=0 then some (1,Ao Cx l) else none)
  else if F4 c.toNat then some (3,1) else none
def DP:Nat->List UInt8->Nat->List Tok->List Tok × Nat × Nat
 |0,_,at_,_=>([],at_,6)
 |f+1,l,at_,ts=>
  if l.length<=at_ then (ts,l.length,0)
  else if l[at_]? =some 32 then DP f l (at_+1) ts
  else match Df (l.drop at_) with
   |none=>([],at_,6)
   |some (k,n)=>DP f l (at_+n) (ts++[⟨k,at_,(l.drop at_).take n⟩])
theorem EW{l:List UInt8}{k n:Nat}(h:Df l=some (k,n)):1<=n/\n<=l.length:=by
 unfold Df at h;split at h
 ·cases h
 ·rename_i c t;split at h
  ·rename_i hc;split at h
   ·injection h with h
    injection h with h1 h2
    rw[<-h2];refine⟨?_,Dq _ _⟩;rw[Ao,if_pos (by unfold BX;rw[hc];rfl)];omega
   ·cases h
  ·split at h
   ·rename_i hc;split at h
    ·injection h with h
     injection h with h1 h2
     rw[<-h2];refine⟨?_,Dq _ _⟩;rw[Ao,if_pos (by unfold Cx;rw[hc];rfl)];omega
    ·cases h
   ·split at h
    ·injection h with h
     injection h with h1 h2
     rw[<-h2];simp
    ·cases h
theorem Jj(f:Nat):∀(g:Nat) (l:List UInt8) (at_:Nat) (ts:List Tok),l.length+1<=at_+f->l.length+1<=at_+g->1<=f->1<=g->DP f l at_ ts=DP g l at_ ts:=by
 induction f with
 |zero=>intro g l at_ ts _ _ h;omega
 |succ f ih=>
  intro g l at_ ts hf hg _ ya;obtain⟨g',rfl⟩:∃g',g=g'+1:=⟨g-1,by omega⟩;unfold DP;by_cases h0:l.length<=at_
  ·rw[if_pos h0,if_pos h0]
  ·rw[if_neg h0,if_neg h0];split
   ·exact ih g' l _ ts (by omega) (by omega) (by omega) (by omega)
   ·cases ht:Df (l.drop at_) with
    |none=>rfl
    |some kn=>
     obtain⟨k,n⟩:=kn;have hn:=EW ht;exact ih g' l _ _ (by omega) (by omega) (by omega) (by omega)
def Bm(l:List UInt8):List Tok × Nat × Nat:=if 400<l.length then ([],0,7) else DP (l.length+1) l 0 []
def Dp(l:List UInt8)(at_:Nat)(ts:List Tok):List Tok × Nat × Nat:=DP (l.length+1) l at_ ts
theorem Nz{l:List UInt8}{at_:Nat}{ts:List Tok}(h:l.length<=at_):Dp l at_ ts=(ts,l.length,0):=by
 unfold Dp DP;rw[if_pos h]
theorem Lh{l:List UInt8}{at_:Nat}{ts:List Tok}(h:at_<l.length)(hc:l[at_]? =some 32):Dp l at_ ts=Dp l (at_+1) ts:=by
 unfold Dp;rw[DP,if_neg (by omega),if_pos hc];exact Jj _ _ l _ ts (by omega) (by omega) (by omega) (by omega)
theorem Ft{l:List UInt8}{at_:Nat}{ts:List Tok}(h:at_<l.length)(hc:l[at_]?≠some 32)(ht:Df (l.drop at_)=none):Dp l at_ ts=([],at_,6):=by
 unfold Dp;rw[DP,if_neg (by omega),if_neg hc,ht]
theorem Fs{l:List UInt8}{at_ k n:Nat}{ts:List Tok}(h:at_<l.length)(hc:l[at_]?≠some 32)(ht:Df (l.drop at_)=some (k,n)):Dp l at_ ts=Dp l (at_+n) (ts++[⟨k,at_,(l.drop at_).take n⟩]):=by
 unfold Dp;have hn:=EW ht;rw[DP,if_neg (by omega),if_neg hc,ht];exact Jj _ _ l _ _ (by omega) (by omega) (by omega) (by omega)
def C9(l:List UInt8):Bool:= !(l == []) && decide (l.length<=24) && Ee (l.getD 0 0).toNat && l.all (fun c=>BX c.toNat)
end Big
end Go.Proofs.YtkoaogkknnelaaaGreatDoor
