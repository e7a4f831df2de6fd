import Derived.Test.YtkoaogkknnelaaaGreatDoorM8
import Derived.Lib.SlicesCompact
set_option linter.unusedVariables false
set_option linter.unusedSimpArgs false
namespace Go.Proofs.YtkoaogkknnelaaaGreatDoor
namespace Big
open Go.RowKit
theorem Fx{l:List UInt8}(h:(AC l && ((AY l == []) || ((AY l).getLast? == some 48)))=true):Hs l=true:=by
 unfold Hs;rw[h];rfl
theorem EE{l:List UInt8}(h:(AC l && ((AY l == []) || ((AY l).getLast? == some 48)))=false):Hs l=((whole l == []) || ((whole l)[0]? == some 48 && decide (1<(whole l).length))):=by
 unfold Hs;rw[h];rfl
theorem KA(P:List UInt8)(k:Nat)(h:P.length=k+1):(P.getLast? == some 48)=((Af P k:Int) == 48):=by
 have h1:P.getLast? =some P[k]:=by
  rw[List.getLast?_eq_getElem?,show P.length-1=k by omega,List.getElem?_eq_getElem (by omega)]
 rw[h1,Bz P k (by omega),Bool.eq_iff_iff];simp only[beq_iff_eq,Option.some.injEq];constructor
 ·intro e;rw[e];rfl
 ·intro e;apply UInt8.toNat_inj.1;have:P[k].toNat=48:=by omega
  rw[this];rfl
theorem Gb(W:List UInt8)(k:Nat)(h:W.length=k+1):(W[0]? == some 48)=((Af W 0:Int) == 48):=by
 rw[Bz W 0 (by omega),List.getElem?_eq_getElem (by omega),Bool.eq_iff_iff];simp only[beq_iff_eq,Option.some.injEq];constructor
 ·intro e;rw[e];rfl
 ·intro e;apply UInt8.toNat_inj.1;have:W[0].toNat=48:=by omega
  rw[this];rfl
def Hl(l:List UInt8):Int:=Dy (Bl (whole l++AY l)) (10 ^ (AY l).length)
def Hq(l:List UInt8):Nat:=C9 (Bl (whole l++AY l)) (10 ^ (AY l).length)
def DS(w:World)(l:List UInt8)(e:Ending)(w':World):Prop:=
 ∃v',e= .returned (.tuple #[v',.int .i64 (Bm l:Int)])/\Ag w.heap.size w' v' (if Bm l=0 then Hl l else 0) (if Bm l=0 then Hq l else 0)/\Ext w w'
structure X2 where
 st:Nat
 p:Int
 q:Nat
def X2.O:X2:=⟨0,0,0⟩
def X2.U:X2:=⟨2,0,0⟩
def AJ(p:Int)(q:Nat):X2:=if max (AG p.natAbs) (AG q)<=1024 then ⟨1,p,q⟩ else X2.O
open Classical in
noncomputable def sqX(p:Int)(q:Nat):X2:=if h:∃r s:Nat,p=((r*r:Nat):Int)/\q=s*s then AJ (h.choose:Int) h.choose_spec.choose else X2.O
theorem Jo{a b:Nat}(h:a*a=b*b):a=b:=DD.uniq (DD.sq a) (h ▸ DD.sq b)
theorem IX{r s:Nat}:sqX ((r*r:Nat):Int) (s*s)=AJ (r:Int) s:=by
 have h:∃r' s':Nat,((r*r:Nat):Int)=((r'*r':Nat):Int)/\s*s=s'*s':=⟨r,s,rfl,rfl⟩;unfold sqX;rw[dif_pos h];obtain⟨h1,h2⟩:=h.choose_spec.choose_spec;have e1:=Jo (Int.ofNat_inj.1 h1);have e2:=Jo h2;have key:∀a b:Nat,r=a->s=b->AJ ((a:Nat):Int) b=AJ (r:Int) s:=by
  rintro a b rfl rfl;rfl
 exact key _ _ e1 e2
theorem LQ{p:Int}{q:Nat}(h:¬∃r s:Nat,p=((r*r:Nat):Int)/\q=s*s):sqX p q=X2.O:=dif_neg h
def Gv(p:Int)(q:Nat)(n:Int):X2:=if 0<=n then AJ (p ^ n.toNat) (q ^ n.toNat) else if p=0 then X2.U else AJ (CM p q ^ (-n).toNat) (p.natAbs ^ (-n).toNat)
noncomputable def unX(k n:Int)(p:Int)(q:Nat):X2:=
 if k=5 then AJ (-p) q else if k=10 then Gv p q n else if k=11 then (if p<0 then X2.U else sqX p q)
 else if k=13 then (if p<=0 then X2.U else if p=(q:Int) then AJ 0 1 else X2.O)
 else if k=12\/k=15 then (if p=0 then AJ 1 1 else X2.O) else (if p=0 then AJ 0 1 else X2.O)
def biX(k:Int)(p:Int)(q:Nat)(r:Int)(s:Nat):X2:=
 if k=6 then AJ (MR p q r s) (MQ p q r s) else if k=7 then AJ (MR p q (-r) s) (MQ p q (-r) s)
 else if k=8 then AJ (IC p q r s) (IB p q r s) else if r=0 then X2.U else AJ (IC p q (CM r s) r.natAbs) (IB p q (CM r s) r.natAbs)
noncomputable def Bf(n:Nd)(x y:X2):X2:=
 if n.kind<5 then (if n.kind=1 then AJ (Hl n.text) (Hq n.text) else X2.O)
 else if 6<=n.kind/\n.kind<=9 then
  (if x.st=2\/y.st=2 then X2.U else if n.kind=9/\y.st=1/\y.p=0 then X2.U else if x.st=1/\y.st=1 then biX n.kind x.p x.q y.p y.q else X2.O)
 else (if x.st=2 then X2.U else if x.st=1 then unX n.kind n.n x.p x.q else X2.O)
def X2.Ok(x:X2):Prop:=(x.st=1/\Low x.p x.q/\max (AG x.p.natAbs) (AG x.q)<=1024)\/x=X2.O\/x=X2.U
theorem X2.O_ok:X2.O.Ok:= .inr (.inl rfl)
theorem X2.U_ok:X2.U.Ok:= .inr (.inr rfl)
theorem BU{p:Int}{q:Nat}(h:Low p q):(AJ p q).Ok:=by
 unfold AJ;split
 ·exact .inl ⟨rfl,h,‹_›⟩
 ·exact X2.O_ok
theorem RS{r s:Nat}(h:Low ((r*r:Nat):Int) (s*s)):Low (r:Int) s:=by
 obtain⟨h1,h2⟩:=h;refine⟨by rcases Nat.eq_zero_or_pos s with h|h;(subst h;omega);exact h,?_⟩;simp only[Int.natAbs_natCast]at h2 ⊢;have h3:Nat.gcd r s ∣ Nat.gcd (r*r) (s*s):=Nat.dvd_gcd (Nat.dvd_trans (Nat.gcd_dvd_left r s) (Nat.dvd_mul_right r r)) (Nat.dvd_trans (Nat.gcd_dvd_right r s) (Nat.dvd_mul_right s s));rw[h2]at h3;exact Nat.dvd_one.1 h3
theorem Uf{p:Int}{q:Nat}(h:Low p q):(sqX p q).Ok:=by
 by_cases hs:∃r s:Nat,p=((r*r:Nat):Int)/\q=s*s
 ·obtain⟨r,s,rfl,rfl⟩:=hs;rw[IX];exact BU (RS h)
 ·rw[LQ hs];exact X2.O_ok
theorem Tb{p:Int}{q:Nat}(h:Low p q)(n:Int):(Gv p q n).Ok:=by
 unfold Gv;split
 ·exact BU (Oz h _)
 ·split
  ·exact X2.U_ok
  ·exact BU (Oz (Ll h ‹_›) _)
theorem Ub{p:Int}{q:Nat}(h:Low p q)(k n:Int):(unX k n p q).Ok:=by
 unfold unX;split
 ·exact BU (OA h)
 split
 ·exact Tb h n
 split
 ·split
  ·exact X2.U_ok
  ·exact Uf h
 split
 ·split
  ·exact X2.U_ok
  ·split
   ·exact BU (FE 0)
   ·exact X2.O_ok
 split
 ·split
  ·exact BU (FE 1)
  ·exact X2.O_ok
 ·split
  ·exact BU (FE 0)
  ·exact X2.O_ok
theorem Ux{p r:Int}{q s:Nat}(h:Low p q)(h':Low r s)(k:Int):(biX k p q r s).Ok:=by
 unfold biX;split
 ·exact BU (OC h h')
 split
 ·exact BU (OC h (OA h'))
 split
 ·exact BU (OB h h')
 split
 ·exact X2.U_ok
 ·exact BU (OB h (Ll h' ‹_›))
theorem X2.Ok.low{x:X2}(h:x.Ok)(hs:x.st=1):Low x.p x.q:=by
 rcases h with ⟨_,h,_⟩|h|h
 ·exact h
 ·rw[h]at hs;cases hs
 ·rw[h]at hs;cases hs
theorem RT{t:List UInt8}:Low (Hl t) (Hq t):=Jv _ (Nat.pos_of_ne_zero (by simp))
theorem Fz(n:Nd){x y:X2}(hx:x.Ok)(hy:y.Ok):(Bf n x y).Ok:=by
 unfold Bf;split
 ·split
  ·exact BU RT
  ·exact X2.O_ok
 split
 ·split
  ·exact X2.U_ok
  split
  ·exact X2.U_ok
  split
  ·rename_i h;exact Ux (hx.low h.1) (hy.low h.2) _
  ·exact X2.O_ok
 ·split
  ·exact X2.U_ok
  split
  ·rename_i h;exact Ub (hx.low h) _ _
  ·exact X2.O_ok
noncomputable def H4(T:List X2)(n:Nd):List X2:=T++[Bf n (T.getD n.a.toNat X2.O) (T.getD n.b.toNat X2.O)]
noncomputable def CA(ns:List Nd):List X2:=ns.foldl H4 []
theorem Ke(ns:List Nd)(x:Nd):CA (ns++[x])=H4 (CA ns) x:=by unfold CA;rw[List.foldl_append];rfl
theorem Gm(ns:List Nd):(CA ns).length=ns.length:=by
 have key:∀(l:List Nd) (D:List X2),(l.foldl H4 D).length=D.length+l.length:=by
  intro l
  induction l with
  |nil=>intro D;rfl
  |cons x l ih=>
   intro D;rw[List.foldl_cons,ih];simp only[H4,List.length_append,List.length_cons,List.length_nil];omega
 have:=key ns [];rw[List.length_nil,Nat.zero_add]at this;exact this
theorem QS(ns ms:List Nd):CA ns <+: CA (ns++ms):=by
 have key:∀(l:List Nd) (D:List X2),D <+: l.foldl H4 D:=by
  intro l
  induction l with
  |nil=>intro D;exact List.prefix_refl _
  |cons x l ih=>intro D;exact(List.prefix_append D _).trans (ih _)
 unfold CA;rw[List.foldl_append];exact key ms _
theorem ET(l m:List X2){i:Nat}(h:i<l.length):(l++m).getD i X2.O=l.getD i X2.O:=by
 rw[List.getD_eq_getElem?_getD,List.getD_eq_getElem?_getD,List.getElem?_append_left h]
theorem JH(l:List X2)(x:X2){i:Nat}(h:i=l.length):(l++[x]).getD i X2.O=x:=by
 subst h;rw[List.getD_eq_getElem?_getD,List.getElem?_append_right (Nat.le_refl _),Nat.sub_self];rfl
theorem Ew{ns:List Nd}{i:Nat}(X7:i<=ns.length):∀j,j<i->(CA (ns.take i)).getD j X2.O=(CA ns).getD j X2.O:=by
 intro j hj;have h1:=QS (ns.take i) (ns.drop i);rw[List.take_append_drop]at h1;obtain⟨t,ht⟩:=h1;rw[<-ht,ET _ _ (by rw[Gm,List.length_take];omega)]
theorem Eu{n:Nd}(h:n.kind<5)(x y x' y':X2):Bf n x y=Bf n x' y':=by unfold Bf;rw[if_pos h,if_pos h]
theorem Gl{n:Nd}(h:¬n.kind<5)(h2:¬(6<=n.kind/\n.kind<=9))(x y y':X2):Bf n x y=Bf n x y':=by unfold Bf;rw[if_neg h,if_neg h,if_neg h2,if_neg h2]
theorem IF{ns:List Nd}(hs:AH ns){i:Nat}{x:Nd}(hx:ns[i]? =some x):(CA ns).getD i X2.O=Bf x ((CA ns).getD x.a.toNat X2.O) ((CA ns).getD x.b.toNat X2.O):=by
 obtain⟨hi,he⟩:=List.getElem?_eq_some_iff.1 hx;have h1:=Ew (ns:=ns) (i:=i+1) (by omega) i (by omega);rw[<-h1,List.take_succ_eq_append_getElem hi,Ke,he];unfold H4;rw[JH _ _ (by rw[Gm,List.length_take];omega)];rcases hs.2 i x hx with ⟨k,t,rfl,ho⟩|⟨k,n,j,rfl,ho,hj⟩|⟨k,j,q,rfl,hk,hj,hq⟩
 ·have:k<5:=by rcases ho with ⟨h,_⟩|⟨h,_⟩|⟨h,_⟩<;>omega
  exact Eu (by simp only;omega) _ _ _ _
 ·have:=ho.1;simp only[Int.toNat_natCast];rw[Ew (Nat.le_of_lt hi) j hj];exact Gl (by simp only;omega) (by simp only;omega) _ _ _
 ·simp only[Int.toNat_natCast];rw[Ew (Nat.le_of_lt hi) j hj,Ew (Nat.le_of_lt hi) q hq]
theorem SY(ns:List Nd):∀x∈CA ns,x.Ok:=by
 have key:∀(l:List Nd) (D:List X2),(∀x∈D,x.Ok)->∀x∈l.foldl H4 D,x.Ok:=by
  intro l
  induction l with
  |nil=>intro D h;exact h
  |cons n l ih=>
   intro D h;rw[List.foldl_cons];refine ih _ (fun x hx=> ?_);unfold H4 at hx;rcases List.mem_append.1 hx with hx|hx
   ·exact h x hx
   ·rw[List.mem_singleton]at hx;subst hx;have hg:∀j,(D.getD j X2.O).Ok:=fun j=>by
     rw[List.getD_eq_getElem?_getD];cases hj:D[j]? with
     |none=>exact X2.O_ok
     |some y=>exact h y (List.mem_of_getElem? hj)
    exact Fz n (hg _) (hg _)
 exact key ns [] (fun x hx=>by cases hx)
noncomputable def exX:Ex->X2
 | .leaf k t=>Bf ⟨(k:Int),0,0,0,t⟩ X2.O X2.O
 | .un k n x=>Bf ⟨(k:Int),0,0,n,[]⟩ (exX x) X2.O
 | .bin k x y=>Bf ⟨(k:Int),0,0,0,[]⟩ (exX x) (exX y)
theorem LN{ns:List Nd}(hs:AH ns):∀{e:Ex} {i:Nat},e.Good->Rep ns i e->(CA ns).getD i X2.O=exX e:=by
 intro e
 induction e with
 |leaf k t=>
  intro i hg hr;rw[IF hs (show ns[i]? =_ from hr)];have:k<5:=by rcases hg with ⟨h,_⟩|⟨h,_⟩|⟨h,_⟩<;>omega
  exact Eu (by simp only;omega) _ _ _ _
 |un k n x ih=>
  intro i hg hr;obtain⟨j,hj,hx⟩:=hr;rw[IF hs hx];simp only[Int.toNat_natCast];rw[ih hg.2.2.2.2 hj];have:=hg.1;exact Gl (by simp only;omega) (by simp only;omega) _ _ _
 |bin k x y ihx ihy=>
  intro i hg hr;obtain⟨j,q,hj,hq,hx⟩:=hr;rw[IF hs hx];simp only[Int.toNat_natCast];rw[ihx hg.2.1 hj,ihy hg.2.2 hq];rfl
abbrev Tx:=List UInt8
def Asc(l:List Tx):Prop:=l.Pairwise (·<·)
def BF(x:Nd):List Nat:=if x.kind<5 then [] else if 6<=x.kind/\x.kind<=9 then [x.a.toNat,x.b.toNat] else [x.a.toNat]
def CH(ns:List Nd)(i:Nat):List Nat:=match ns[i]? with
 |some x=>BF x
 |none=>[]
theorem AH.args_lt{ns:List Nd}(hs:AH ns){i a:Nat}(h:a∈CH ns i):a<i:=by
 unfold CH at h;cases hx:ns[i]? with
 |none=>rw[hx]at h;cases h
 |some x=>
  rw[hx]at h;simp only at h;rcases hs.2 i x hx with ⟨k,t,rfl,ho⟩|⟨k,n,j,rfl,ho,hj⟩|⟨k,j,q,rfl,hk,hj,hq⟩
  ·unfold BF at h;rw[if_pos (by rcases ho with ⟨h,_⟩|⟨h,_⟩|⟨h,_⟩<;>simp only<;>omega)]at h;cases h
  ·unfold BF at h;have:=ho.1;rw[if_neg (by simp only;omega),if_neg (by simp only;omega)]at h;simp only[Int.toNat_natCast,List.mem_singleton]at h;omega
  ·unfold BF at h;rw[if_neg (by simp only;omega),if_pos (by simp only;omega)]at h;simp only[Int.toNat_natCast,List.mem_cons,List.not_mem_nil,or_false]at h;omega
inductive CI (ns:List Nd) (i:Nat):Nat->Prop where
 |here:CI ns i i
 |down {j a:Nat}:CI ns i j->a∈CH ns j->CI ns i a
theorem CI.le{ns:List Nd}(hs:AH ns){i j:Nat}(h:CI ns i j):j<=i:=by
 induction h with
 |here=>exact Nat.le_refl _
 |down _ ha ih=>have:=hs.args_lt ha;omega
theorem CI.trans{ns:List Nd}{i j q:Nat}(h:CI ns i j)(k:CI ns j q):CI ns i q:=by
 induction k with
 |here=>exact h
 |down _ ha ih=>exact ih.down ha
def Fb(F:List Bool):List Nat->List Bool
 |[]=>F
 |a::l=>Fb (F.set a true) l
theorem Nc(l:List Nat):∀F:List Bool,(Fb F l).length=F.length:=by
 induction l with
 |nil=>intro F;rfl
 |cons a l ih=>intro F;rw[Fb,ih,List.length_set]
theorem KH(F:List Bool)(a j:Nat):(F.set a true).getD j false=(decide (j=a/\a<F.length) || F.getD j false):=by
 rw[List.getD_eq_getElem?_getD,List.getD_eq_getElem?_getD,List.getElem?_set];by_cases h:a=j
 ·subst h;rw[if_pos rfl];by_cases hl:a<F.length
  ·simp[hl]
  ·rw[if_neg hl,List.getElem?_eq_none (by omega)];simp[hl]
 ·rw[if_neg h];simp[Ne.symm h]
theorem MC(l:List Nat):∀(F:List Bool) (j:Nat),j<F.length->(Fb F l).getD j false=(decide (j∈l) || F.getD j false):=by
 induction l with
 |nil=>intro F j _;simp[Fb]
 |cons a l ih=>
  intro F j hj;rw[Fb,ih _ j (by rw[List.length_set];exact hj),KH];by_cases h1:j=a
  ·subst h1;simp[hj]
  ·simp[h1]
def Ij(ns:List Nd)(i:Nat)(F:List Bool):List Bool:=if F.getD i false then Fb F (CH ns i) else F
theorem Hm(ns:List Nd)(i:Nat)(F:List Bool):(Ij ns i F).length=F.length:=by
 unfold Ij;split
 ·exact Nc _ _
 ·rfl
def Dd(ns:List Nd)(i m:Nat)(F:List Bool):Prop:=i<F.length/\F.length<=ns.length/\∀j,j<F.length->(F.getD j false=true↔j=i\/∃q,m<=q/\CI ns i q/\j∈CH ns q)
theorem Dd.start{ns:List Nd}(hs:AH ns){i:Nat}{F:List Bool}(hi:i<F.length)(hF:F.length<=ns.length)(h:∀j,j<F.length->(F.getD j false=true↔j=i)):Dd ns i (i+1) F:=
 ⟨hi,hF,fun j hj=>(h j hj).trans ⟨.inl,fun h=>by
  rcases h with h|⟨q,hq,hr,_⟩
  ·exact h
  ·have:=hr.le hs;omega⟩⟩
theorem Dd.here{ns:List Nd}(hs:AH ns){i m:Nat}{F:List Bool}(h:Dd ns i (m+1) F)(hm:m<F.length):F.getD m false=true↔CI ns i m:=by
 rw[h.2.2 m hm];constructor
 ·rintro(rfl|⟨q,_,hr,ha⟩)
  ·exact .here
  ·exact hr.down ha
 ·intro hr;cases hr with
  |here=>exact .inl rfl
  | @down j _ hr ha=>exact .inr ⟨j,by have:=hs.args_lt ha;omega,hr,ha⟩
theorem Dd.step{ns:List Nd}(hs:AH ns){i m:Nat}{F:List Bool}(h:Dd ns i (m+1) F)(hm:m<F.length):Dd ns i m (Ij ns m F):=by
 have hh:=h.here hs hm;refine⟨by rw[Hm];exact h.1,by rw[Hm];exact h.2.1,fun j hj=> ?_⟩;rw[Hm]at hj;unfold Ij;by_cases hr:CI ns i m
 ·rw[if_pos (hh.2 hr),MC _ _ _ hj,Bool.or_eq_true,decide_eq_true_eq,h.2.2 j hj];constructor
  ·rintro(ha|ha|⟨q,hq,hr2,ha⟩)
   ·exact .inr ⟨m,Nat.le_refl _,hr,ha⟩
   ·exact .inl ha
   ·exact .inr ⟨q,by omega,hr2,ha⟩
  ·rintro(ha|⟨q,hq,hr2,ha⟩)
   ·exact .inr (.inl ha)
   ·rcases Nat.eq_or_lt_of_le hq with e|e
    ·subst e;exact .inl ha
    ·exact .inr (.inr ⟨q,e,hr2,ha⟩)
 ·have hf:F.getD m false=false:=by
   cases hc:F.getD m false with
   |false=>rfl
   |true=>exact absurd (hh.1 hc) hr
  rw[hf];simp only[Bool.false_eq_true,if_false];rw[h.2.2 j hj];constructor
  ·rintro(ha|⟨q,hq,hr2,ha⟩)
   ·exact .inl ha
   ·exact .inr ⟨q,by omega,hr2,ha⟩
  ·rintro(ha|⟨q,hq,hr2,ha⟩)
   ·exact .inl ha
   ·rcases Nat.eq_or_lt_of_le hq with e|e
    ·subst e;exact absurd hr2 hr
    ·exact .inr ⟨q,e,hr2,ha⟩
theorem Dd.done{ns:List Nd}{i:Nat}{F:List Bool}(h:Dd ns i 0 F):∀j,j<F.length->(F.getD j false=true↔CI ns i j):=by
 intro j hj;rw[h.2.2 j hj];constructor
 ·rintro(rfl|⟨q,_,hr,ha⟩)
  ·exact .here
  ·exact hr.down ha
 ·intro hr;cases hr with
  |here=>exact .inl rfl
  | @down q _ hr ha=>exact .inr ⟨q,Nat.zero_le _,hr,ha⟩
def SK(ns:List Nd)(i:Nat)(t:Tx):Prop:=∃j x,CI ns i j/\ns[j]? =some x/\x.kind=2/\x.text=t
theorem CI.split{ns:List Nd}{i j:Nat}:CI ns i j↔i=j\/∃a∈CH ns i,CI ns a j:=by
 constructor
 ·intro h
  induction h with
  |here=>exact .inl rfl
  | @down p b hp hb ih=>
    rcases ih with rfl|⟨a,ha,hr⟩
    ·exact .inr ⟨b,hb,.here⟩
    ·exact .inr ⟨a,ha,hr.down hb⟩
 ·rintro(rfl|⟨a,ha,hr⟩)
  ·exact .here
  ·exact(CI.here.down ha).trans hr
end Big
end Go.Proofs.YtkoaogkknnelaaaGreatDoor
