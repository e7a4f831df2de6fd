import Derived.Test.YtkoaogkknnelaaaGreatDoorChecked
import Derived.Lib.Split
import Derived.Test.YtkoaogkknnelaaaGreatDoorM1
import Derived.Lib.IndexMore
import Derived.Lib.TrimByte
import Derived.Lib.SlTrimSet
set_option linter.unusedVariables false
set_option linter.unusedSimpArgs false
namespace Go.Proofs.YtkoaogkknnelaaaGreatDoor
namespace Big
theorem Qc(c b:UInt8)(t:List UInt8):Lib.index (b::t) [c]=if b=c then 0 else if Lib.index t [c]= -1 then-1 else Lib.index t [c]+1:=by
 rw[Lib.index];by_cases h:b=c
 ·subst h;simp[List.isPrefixOf]
 ·have h1:(List.isPrefixOf [c] (b::t))=false:=by
   have:c≠b:=fun e=>h e.symm
   simp[List.isPrefixOf,this]
  rw[if_neg (by rw[h1];simp),if_neg h];by_cases h2:Lib.index t [c]= -1
  ·rw[if_pos h2,if_pos (by rw[h2];rfl)]
  ·rw[if_neg h2,if_neg (by rw[beq_iff_eq];exact h2)]
def whole(l:List UInt8):List UInt8:=l.takeWhile (fun c=>c != 46)
def AY(l:List UInt8):List UInt8:=(l.dropWhile (fun c=>c != 46)).drop 1
def AC(l:List UInt8):Bool:=decide ((whole l).length<l.length)
theorem DP(t:List UInt8):whole (46::t)=[]:=by simp[whole]
theorem L8(t:List UInt8):AY (46::t)=t:=by simp[AY]
theorem CX{c:UInt8}(t:List UInt8)(h:c≠46):whole (c::t)=c::whole t:=by simp[whole,h]
theorem Kv{c:UInt8}(t:List UInt8)(h:c≠46):AY (c::t)=AY t:=by simp[AY,h]
theorem Gk(l:List UInt8):(whole l).length<=l.length:=by
 unfold whole;exact(List.takeWhile_sublist _).length_le
theorem Cd(l:List UInt8):(AC l=true/\l=whole l++46::AY l)\/(AC l=false/\l=whole l/\AY l=[]):=by
 induction l with
 |nil=>exact .inr ⟨rfl,rfl,rfl⟩
 |cons c t ih=>
  by_cases h:c=46
  ·subst h;refine .inl ⟨by unfold AC;rw[DP];simp,by rw[DP,L8];rfl⟩
  ·have hd:AC (c::t)=AC t:=by unfold AC;rw[CX t h];simp
   rw[hd,CX t h,Kv t h];rcases ih with ⟨h1,h2⟩|⟨h1,h2,h3⟩
   ·exact .inl ⟨h1,by rw[List.cons_append,<-h2]⟩
   ·exact .inr ⟨h1,by rw[<-h2],h3⟩
theorem Qd(l:List UInt8):Lib.index l [46]=if AC l then ((whole l).length:Int) else-1:=by
 induction l with
 |nil=>rfl
 |cons c t ih=>
  rw[Qc];by_cases h:c=46
  ·subst h;rw[if_pos rfl,DP];rfl
  ·have hd:AC (c::t)=AC t:=by unfold AC;rw[CX t h];simp
   rw[if_neg h,hd,ih,CX t h];cases AC t
   ·simp
   ·simp only[if_true];rw[if_neg (by omega),List.length_cons];omega
theorem TI(l:List UInt8):Lib.cut l [46]=(whole l,AY l,AC l):=by
 unfold Lib.cut;rw[Qd];rcases Cd l with ⟨h1,h2⟩|⟨h1,h2,h3⟩
 ·rw[h1];simp only[if_true];rw[if_pos (by omega),Int.toNat_natCast];generalize whole l=a at *;generalize AY l=b at *;subst h2;simp[List.drop_append]
 ·rw[h1];simp only[Bool.false_eq_true,if_false];rw[if_neg (by omega),h3,<-h2]
def Hs(l:List UInt8):Bool:=(AC l && ((AY l == []) || ((AY l).getLast? == some 48))) || (whole l == []) || ((whole l)[0]? == some 48 && decide (1<(whole l).length))
def CF(l:List UInt8):Bool:= !Hs l && (whole l++AY l).all Bu
def Bm(l:List UInt8):Nat:=if 400<l.length then 7 else if CF l then 0 else 6
theorem Qo(l:List UInt8):(l.dropWhile (· == 48)).all Bu=l.all Bu:=by
 induction l with
 |nil=>rfl
 |cons c t ih=>
  by_cases h:c=48
  ·subst h;simp only[List.dropWhile_cons,beq_self_eq_true,if_true,List.all_cons];rw[ih];rfl
  ·simp[h]
theorem Mi(t:List UInt8):Bl (48::t)=Bl t:=rfl
theorem Qn(l:List UInt8):Bl (l.dropWhile (· == 48))=Bl l:=by
 induction l with
 |nil=>rfl
 |cons c t ih=>
  by_cases h:c=48
  ·subst h;simp only[List.dropWhile_cons,beq_self_eq_true,if_true];rw[ih,Mi]
  ·simp[h]
theorem N5(l:List UInt8)(h:l.dropWhile (· == 48)≠[]):(l.dropWhile (· == 48))[0]?≠some 48:=by
 induction l with
 |nil=>simp at h
 |cons c t ih=>
  by_cases hc:c=48
  ·subst hc;simp only[List.dropWhile_cons,beq_self_eq_true,if_true]at h ⊢;exact ih h
  ·simp[hc]
def KM(l:List UInt8):List UInt8:=if l.dropWhile (· == 48)=[] then [48] else l.dropWhile (· == 48)
theorem J7(l:List UInt8)(hl:l.length<=800):IL (KM l)=if l.all Bu then (Bl l,0) else (0,6):=by
 unfold KM;have h1:=Qo l;have h2:=Qn l;have h4:(l.dropWhile (· == 48)).length<=l.length:=(List.dropWhile_sublist _).length_le;by_cases h:l.dropWhile (· == 48)=[]
 ·rw[if_pos h];rw[h]at h1 h2;rw[<-h1,<-h2];rfl
 ·rw[if_neg h];have h3:=N5 l h;unfold IL;rw[if_neg (by omega),if_neg h,if_neg (fun e=>h3 e.1),h1,h2]
theorem DR{n k:Nat}{m:Nat}(h:n<10 ^ k)(hk:k<=m):(Ac n).length<=m:=by
 refine AE (Nat.lt_of_lt_of_le h (Nat.le_trans (Nat.pow_le_pow_left (show 10<=4294967296 by decide) k) (DW hk)))
theorem OX(l:List UInt8)(h:l.all Bu=true):Lib.trimS l [48,49,50,51,52,53,54,55,56,57]=[]:=by
 have key:∀l:List UInt8,l.all Bu=true->l.dropWhile (([48,49,50,51,52,53,54,55,56,57]:List UInt8).contains ·)=[]:=by
  intro l h
  induction l with
  |nil=>rfl
  |cons c t ih=>
   rw[List.all_cons,Bool.and_eq_true]at h;have hc:([48,49,50,51,52,53,54,55,56,57]:List UInt8).contains c=true:=by
    have h1:=h.1;unfold Bu at h1;simp only[Bool.and_eq_true,decide_eq_true_eq]at h1;have:c.toNat=48\/c.toNat=49\/c.toNat=50\/c.toNat=51\/c.toNat=52\/c.toNat=53\/c.toNat=54\/c.toNat=55\/c.toNat=56\/c.toNat=57:=by omega
    rcases this with e|e|e|e|e|e|e|e|e|e<;>(rw[show c=UInt8.ofNat c.toNat by simp,e];rfl)
   rw[List.dropWhile_cons,hc];exact ih h.2
 unfold Lib.trimS Lib.trimLeftS Lib.trimRightS;rw[key l.reverse (by rw[List.all_reverse];exact h)];rfl
def DE(l:List UInt8):Bool:=(whole l++AY l).all Bu
theorem SF:DE []=true:=rfl
theorem MO(t:List UInt8):DE (46::t)=t.all Bu:=by unfold DE;rw[DP,L8];rfl
theorem Ht{c:UInt8}(t:List UInt8)(h:c≠46):DE (c::t)=(Bu c && DE t):=by
 unfold DE;rw[CX t h,Kv t h];rfl
theorem JF:AC []=false:=rfl
theorem ES(t:List UInt8):AC (46::t)=true:=by unfold AC;rw[DP];simp
theorem Dz{c:UInt8}(t:List UInt8)(h:c≠46):AC (c::t)=AC t:=by unfold AC;rw[CX t h];simp
theorem Im(t:List UInt8)(c:UInt8):AC (t++[c])=(AC t || c == 46):=by
 induction t with
 |nil=>
  by_cases h:c=46
  ·subst h;rfl
  ·rw[List.nil_append,Dz _ h,JF];simp[h]
 |cons a t ih=>
  by_cases h:a=46
  ·subst h;rw[List.cons_append,ES,ES];rfl
  ·rw[List.cons_append,Dz _ h,Dz _ h,ih]
theorem KQ(t:List UInt8)(c:UInt8):DE (t++[c])=(DE t && ((!AC t && c == 46) || Bu c)):=by
 induction t with
 |nil=>
  by_cases h:c=46
  ·subst h;rfl
  ·rw[List.nil_append,Ht _ h,SF,JF];have:(c == 46)=false:=by rw[beq_eq_false_iff_ne];exact h
   simp[this]
 |cons a t ih=>
  by_cases h:a=46
  ·subst h;rw[List.cons_append,MO,MO,ES,List.all_append];simp
  ·rw[List.cons_append,Ht _ h,Ht _ h,Dz _ h,ih,Bool.and_assoc]
theorem Qz(a b:List UInt8)(h:DE (a++b)=true):DE a=true:=by
 induction b generalizing a with
 |nil=>simpa using h
 |cons c b ih=>
  have:=ih (a++[c]) (by simpa using h);rw[KQ,Bool.and_eq_true]at this;exact this.1
theorem Mz(a b:List UInt8)(h:AC a=true):AC (a++b)=true:=by
 induction b generalizing a with
 |nil=>simpa using h
 |cons c b ih=>
  have:=ih (a++[c]) (by rw[Im,h];rfl)
  simpa using this
theorem Qi(l:List UInt8)(i:Nat)(hi:i<l.length)(h:AC (l.take i)=false)(hc:l[i]=46):(whole l).length=i:=by
 induction l generalizing i with
 |nil=>simp at hi
 |cons a t ih=>
  cases i with
  |zero=>
   simp only[List.getElem_cons_zero]at hc;subst hc;rw[DP];rfl
  |succ i=>
   by_cases ha:a=46
   ·subst ha;rw[List.take_succ_cons,ES]at h;cases h
   ·rw[List.take_succ_cons,Dz _ ha]at h;rw[CX _ ha,List.length_cons,ih i (by simpa using hi) h (by simpa using hc)]
theorem PD{l:List UInt8}{i:Nat}(hi:i<l.length)(h:DE (l.take i)=true):
  DE (l.take (i+1))=((!AC (l.take i) && l[i] == 46) || Bu l[i])/\AC (l.take (i+1))=(AC (l.take i) || l[i] == 46):=by
 rw[List.take_succ_eq_append_getElem hi,KQ,Im,h];exact⟨rfl,rfl⟩
theorem Rk{l:List UInt8}{j:Nat}(h:DE (l.take j)=false):DE l=false:=by
 cases h1:DE l
 ·rfl
 ·rw[<-List.take_append_drop j l]at h1;rw[Qz _ _ h1]at h;cases h
theorem MF{l:List UInt8}{j:Nat}(h:AC (l.take j)=true):(whole l).length<l.length:=by
 have h1:=Mz (l.take j) (l.drop j) h;rw[List.take_append_drop]at h1;exact of_decide_eq_true h1
theorem Fl{l:List UInt8}(h:AC l=false):(whole l).length=l.length:=by
 rcases Cd l with ⟨h1,_⟩|⟨_,h2,_⟩
 ·rw[h]at h1;cases h1
 ·exact congrArg List.length h2.symm
theorem F0(l:List UInt8):l.take (whole l).length=whole l:=by
 rcases Cd l with ⟨_,h2⟩|⟨_,h2,_⟩
 ·generalize whole l=a at *;generalize AY l=b at *;subst h2;simp
 ·rw[<-h2,List.take_of_length_le (Nat.le_refl _)]
theorem KL{l:List UInt8}(h:AC l=true):l.drop ((whole l).length+1)=AY l:=by
 rcases Cd l with ⟨_,h2⟩|⟨h1,_⟩
 ·generalize whole l=a at *;generalize AY l=b at *;subst h2;simp[List.drop_append]
 ·rw[h]at h1;cases h1
theorem Cr(l:List UInt8):CF l=(!Hs l && DE l):=rfl
def Df(n:Nat):Bool:=decide (48<=n) && decide (n<=57)
def D2(n:Nat):Bool:=(decide (97<=n) && decide (n<=122)) || (decide (65<=n) && decide (n<=90))
def BQ(n:Nat):Bool:=D2 n || Df n || n == 95
def Cq(n:Nat):Bool:=Df n || n == 46
def FR(n:Nat):Bool:=n == 43 || n == 45 || n == 42 || n == 47 || n == 94 || n == 40 || n == 41
structure Tok where
 kind:Nat
 at_:Nat
 text:List UInt8
deriving DecidableEq
def Aq(p:Nat->Bool):List UInt8->Nat
 |[]=>0
 |c::t=>if p c.toNat then Aq p t+1 else 0
theorem Di(p:Nat->Bool)(l:List UInt8):Aq p l<=l.length:=by
 induction l with
 |nil=>exact Nat.le_refl _
 |cons c t ih=>
  unfold Aq;split
  ·simp;exact ih
  ·exact Nat.zero_le _
theorem Hf(p:Nat->Bool)(l:List UInt8)(i:Nat)(h:i<Aq p l):∃hi:i<l.length,p l[i].toNat=true:=by
 induction l generalizing i with
 |nil=>simp[Aq]at h
 |cons c t ih=>
  unfold Aq at h;split at h
  ·rename_i hc;cases i with
   |zero=>exact⟨by simp,by simpa using hc⟩
   |succ i=>
    obtain⟨h1,h2⟩:=ih i (by omega);exact⟨by simpa using h1,by simpa using h2⟩
  ·omega
theorem Nj(p:Nat->Bool)(l:List UInt8)(h:Aq p l<l.length):p l[Aq p l].toNat=false:=by
 induction l with
 |nil=>simp at h
 |cons c t ih=>
  by_cases hc:p c.toNat=true
  ·have e:Aq p (c::t)=Aq p t+1:=by rw[Aq,if_pos hc]
   simp only[e]at h ⊢
   simpa using ih (by simpa using h)
  ·have e:Aq p (c::t)=0:=by rw[Aq,if_neg hc]
   simp only[e]
   simpa using hc
def C8(l:List UInt8):Option (Nat × Nat):=
 match l with
 |[]=>none
 |c::_=>
  if D2 c.toNat then (if Aq BQ l<=24 then some (2,Aq BQ l) else none)
  else if Df c.toNat then (if Bm (l.take (Aq Cq l))=0 then some (1,Aq Cq l) else none)
  else if FR c.toNat then some (3,1) else none
def DH:Nat->List UInt8->Nat->List Tok->List Tok × Nat × Nat
 |0,_,at_,_=>([],at_,6)
 |f+1,l,at_,ts=>
  if l.length<=at_ then (ts,l.length,0)
  else if l[at_]? =some 32 then DH f l (at_+1) ts
  else match C8 (l.drop at_) with
   |none=>([],at_,6)
   |some (k,n)=>DH f l (at_+n) (ts++[⟨k,at_,(l.drop at_).take n⟩])
theorem EG{l:List UInt8}{k n:Nat}(h:C8 l=some (k,n)):1<=n/\n<=l.length:=by
 unfold C8 at h;split at h
 ·cases h
 ·rename_i c t;split at h
  ·rename_i hc;split at h
   ·injection h with h
    injection h with h1 h2
    rw[<-h2];refine⟨?_,Di _ _⟩;rw[Aq,if_pos (by unfold BQ;rw[hc];rfl)];omega
   ·cases h
  ·split at h
   ·rename_i hc;split at h
    ·injection h with h
     injection h with h1 h2
     rw[<-h2];refine⟨?_,Di _ _⟩;rw[Aq,if_pos (by unfold Cq;rw[hc];rfl)];omega
    ·cases h
   ·split at h
    ·injection h with h
     injection h with h1 h2
     rw[<-h2];simp
    ·cases h
theorem I3(f:Nat):∀(g:Nat) (l:List UInt8) (at_:Nat) (ts:List Tok),l.length+1<=at_+f->l.length+1<=at_+g->1<=f->1<=g->DH f l at_ ts=DH g l at_ ts:=by
 induction f with
 |zero=>intro g l at_ ts _ _ h;omega
 |succ f ih=>
  intro g l at_ ts hf hg _ xk;obtain⟨g',rfl⟩:∃g',g=g'+1:=⟨g-1,by omega⟩;unfold DH;by_cases h0:l.length<=at_
  ·rw[if_pos h0,if_pos h0]
  ·rw[if_neg h0,if_neg h0];split
   ·exact ih g' l _ ts (by omega) (by omega) (by omega) (by omega)
   ·cases ht:C8 (l.drop at_) with
    |none=>rfl
    |some kn=>
     obtain⟨k,n⟩:=kn;have hn:=EG ht;exact ih g' l _ _ (by omega) (by omega) (by omega) (by omega)
def Bj(l:List UInt8):List Tok × Nat × Nat:=if 400<l.length then ([],0,7) else DH (l.length+1) l 0 []
def Dh(l:List UInt8)(at_:Nat)(ts:List Tok):List Tok × Nat × Nat:=DH (l.length+1) l at_ ts
theorem Ng{l:List UInt8}{at_:Nat}{ts:List Tok}(h:l.length<=at_):Dh l at_ ts=(ts,l.length,0):=by
 unfold Dh DH;rw[if_pos h]
theorem K1{l:List UInt8}{at_:Nat}{ts:List Tok}(h:at_<l.length)(hc:l[at_]? =some 32):Dh l at_ ts=Dh l (at_+1) ts:=by
 unfold Dh;rw[DH,if_neg (by omega),if_pos hc];exact I3 _ _ l _ ts (by omega) (by omega) (by omega) (by omega)
theorem Fd{l:List UInt8}{at_:Nat}{ts:List Tok}(h:at_<l.length)(hc:l[at_]?≠some 32)(ht:C8 (l.drop at_)=none):Dh l at_ ts=([],at_,6):=by
 unfold Dh;rw[DH,if_neg (by omega),if_neg hc,ht]
theorem Fc{l:List UInt8}{at_ k n:Nat}{ts:List Tok}(h:at_<l.length)(hc:l[at_]?≠some 32)(ht:C8 (l.drop at_)=some (k,n)):Dh l at_ ts=Dh l (at_+n) (ts++[⟨k,at_,(l.drop at_).take n⟩]):=by
 unfold Dh;have hn:=EG ht;rw[DH,if_neg (by omega),if_neg hc,ht];exact I3 _ _ l _ _ (by omega) (by omega) (by omega) (by omega)
def C0(l:List UInt8):Bool:= !(l == []) && decide (l.length<=24) && D2 (l.getD 0 0).toNat && l.all (fun c=>BQ c.toNat)
inductive Ex where
 |leaf (k:Nat) (t:List UInt8)
 |un (k:Nat) (n:Int) (x:Ex)
 |bin (k:Nat) (x y:Ex)
structure Nd where
 kind:Int
 a:Int
 b:Int
 n:Int
 text:List UInt8
def Ex.kind:Ex->Nat
 | .leaf k _=>k
 | .un k _ _=>k
 | .bin k _ _=>k
def Ex.size:Ex->Nat
 | .leaf _ _=>1
 | .un _ _ x=>x.size+1
 | .bin _ x y=>x.size+y.size+1
def Ex.depth:Ex->Nat
 | .leaf _ _=>1
 | .un _ _ x=>x.depth+1
 | .bin _ x y=>max x.depth y.depth+1
theorem Ex.size_pos(e:Ex):1<=e.size:=by cases e<;>simp[Ex.size]
def Ak:Nat->Ex->List Nd
 |_,.leaf k t=>[⟨(k:Int),0,0,0,t⟩]
 |off,.un k n x=>Ak off x++[⟨(k:Int),((off+x.size-1:Nat):Int),0,n,[]⟩]
 |off,.bin k x y=>Ak off x++(Ak (off+x.size) y++[⟨(k:Int),((off+x.size-1:Nat):Int),((off+x.size+y.size-1:Nat):Int),0,[]⟩])
theorem AO(e:Ex):∀off,(Ak off e).length=e.size:=by
 induction e with
 |leaf k t=>intro off;rfl
 |un k n x ih=>intro off;rw[Ak,List.length_append,ih];rfl
 |bin k x y ihx ihy=>intro off;rw[Ak,List.length_append,List.length_append,ihx,ihy,List.length_singleton,Ex.size];omega
def Ej(t:List UInt8):Bool:=C0 t && !([[112,105],[101],[115,113,114,116],[101,120,112],[108,110],[115,105,110],[99,111,115],[97,116,97,110]]:List (List UInt8)).contains t
def Ex.Good:Ex->Prop
 | .leaf k t=>(k=1/\Bm t=0/\t.length<=400)\/(k=2/\Ej t=true)\/((k=3\/k=4)/\t=[])
 | .un k n x=>(k=5\/(10<=k/\k<=16))/\(k≠10->n=0)∧-64<=n/\n<=64/\x.Good
 | .bin k x y=>(6<=k/\k<=9)/\x.Good/\y.Good
def Es(k:Nat):Nat:=if k=6\/k=7 then 1 else if k=8\/k=9 then 2 else if k=5 then 3 else if k=10 then 4 else 5
def UX(k:Nat):List UInt8:=
 if k=11 then [115,113,114,116] else if k=12 then [101,120,112] else if k=13 then [108,110] else if k=14 then [115,105,110] else if k=15 then [99,111,115] else [97,116,97,110]
theorem Gj{t:List UInt8}(h:C0 t=true):t.length<=24:=by
 unfold C0 at h;simp only[Bool.and_eq_true,decide_eq_true_eq]at h;exact h.1.1.2
def Gg(l:List Nd)(i:Nat)(e:Ex):Prop:=∃pre post,l=pre++(Ak pre.length e++post)/\i+1=pre.length+e.size
theorem Gg.lt{l:List Nd}{i:Nat}{e:Ex}(h:Gg l i e):i<l.length/\e.size<=i+1:=by
 obtain⟨pre,post,rfl,h⟩:=h;have:=AO e pre.length;rw[List.length_append,List.length_append];omega
theorem JG{α:Type}{pre mid post:List α}{x:α}{i:Nat}(h:i=pre.length+mid.length):(pre++((mid++[x])++post))[i]? =some x:=by
 subst h;rw[List.getElem?_append_right (by omega),Nat.add_sub_cancel_left,List.getElem?_append_left (by simp),List.getElem?_append_right (Nat.le_refl _),Nat.sub_self];rfl
theorem Gg.leaf{l:List Nd}{i k:Nat}{t:List UInt8}(h:Gg l i (.leaf k t)):l[i]? =some ⟨(k:Int),0,0,0,t⟩:=by
 obtain⟨pre,post,rfl,h⟩:=h;simp only[Ex.size]at h;exact JG (mid:=[]) (by simp;omega)
theorem Gg.un{l:List Nd}{i k:Nat}{n:Int}{x:Ex}(h:Gg l i (.un k n x)):1<=i/\l[i]? =some ⟨(k:Int),((i-1:Nat):Int),0,n,[]⟩/\Gg l (i-1) x:=by
 obtain⟨pre,post,rfl,h⟩:=h;simp only[Ex.size]at h;have hx:=x.size_pos;have hl:=AO x pre.length;refine⟨by omega,?_,⟨pre,[⟨(k:Int),((pre.length+x.size-1:Nat):Int),0,n,[]⟩]++post,?_,by omega⟩⟩
 ·rw[show i-1=pre.length+x.size-1 by omega];exact JG (mid:=Ak pre.length x) (by omega)
 ·rw[Ak,List.append_assoc]
theorem Gg.bin{l:List Nd}{i k:Nat}{x y:Ex}(h:Gg l i (.bin k x y)):∃j,j+1+y.size=i/\l[i]? =some ⟨(k:Int),(j:Int),((i-1:Nat):Int),0,[]⟩/\Gg l j x/\Gg l (i-1) y:=by
 obtain⟨pre,post,rfl,h⟩:=h;simp only[Ex.size]at h;have hx:=x.size_pos;have hy:=y.size_pos;have hl:=AO x pre.length;have hl2:=AO y (pre.length+x.size);refine⟨pre.length+x.size-1,by omega,?_,⟨pre,Ak (pre.length+x.size) y++([⟨(k:Int),((pre.length+x.size-1:Nat):Int),((pre.length+x.size+y.size-1:Nat):Int),0,[]⟩]++post),?_,by omega⟩,⟨pre++Ak pre.length x,[⟨(k:Int),((pre.length+x.size-1:Nat):Int),((pre.length+x.size+y.size-1:Nat):Int),0,[]⟩]++post,?_,?_⟩⟩
 ·rw[Ak,<-List.append_assoc (Ak pre.length x),show i-1=pre.length+x.size+y.size-1 by omega];exact JG (mid:=Ak pre.length x++Ak (pre.length+x.size) y) (by rw[List.length_append];omega)
 ·rw[Ak];simp only[List.append_assoc]
 ·rw[Ak,List.length_append,hl];simp only[List.append_assoc]
 ·rw[List.length_append,hl];omega
end Big
end Go.Proofs.YtkoaogkknnelaaaGreatDoor
