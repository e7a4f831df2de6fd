import Derived.Test.YtkoaogkknnelaaaGreatDoorM8
import Derived.Lib.SlicesCompact
set_option linter.unusedVariables false
set_option linter.unusedSimpArgs false
namespace Go.Proofs.YtkoaogkknnelaaaGreatDoor
namespace Big
open Go.RowKit
theorem Fm{l:List UInt8}(h:(AF l && ((AS l == []) || ((AS l).getLast? == some 48)))=true):GX l=true:=by
 unfold GX;rw[h];rfl
theorem Es{l:List UInt8}(h:(AF l && ((AS l == []) || ((AS l).getLast? == some 48)))=false):GX l=((whole l == []) || ((whole l)[0]? == some 48 && decide (1<(whole l).length))):=by
 unfold GX;rw[h];rfl
theorem Kc(P:List UInt8)(k:Nat)(h:P.length=k+1):(P.getLast? == some 48)=((Ae P k:Int) == 48):=by
 have h1:P.getLast? =some P[k]:=by
  rw[List.getLast?_eq_getElem?,show P.length-1=k by omega,List.getElem?_eq_getElem (by omega)]
 rw[h1,Bq P k (by omega),Bool.eq_iff_iff];simp only[beq_iff_eq,Option.some.injEq];constructor
 ·intro e;rw[e];rfl
 ·intro e;apply UInt8.toNat_inj.1;have:P[k].toNat=48:=by omega
  rw[this];rfl
theorem FZ(W:List UInt8)(k:Nat)(h:W.length=k+1):(W[0]? == some 48)=((Ae W 0:Int) == 48):=by
 rw[Bq W 0 (by omega),List.getElem?_eq_getElem (by omega),Bool.eq_iff_iff];simp only[beq_iff_eq,Option.some.injEq];constructor
 ·intro e;rw[e];rfl
 ·intro e;apply UInt8.toNat_inj.1;have:W[0].toNat=48:=by omega
  rw[this];rfl
def Ic(l:List UInt8):Int:=EG (Bd (whole l++AS l)) (10 ^ (AS l).length)
def If(l:List UInt8):Nat:=Ec (Bd (whole l++AS l)) (10 ^ (AS l).length)
def DG(w:World)(l:List UInt8)(e:Ending)(w':World):Prop:=
 ∃v',e= .returned (.tuple #[v',.int .i64 (AX l:Int)])/\Aj w.heap.size w' v' (if AX l=0 then Ic l else 0) (if AX l=0 then If l else 0)/\Ext w w'
structure X2 where
 st:Nat
 p:Int
 q:Nat
def X2.O:X2:=⟨0,0,0⟩
def X2.U:X2:=⟨2,0,0⟩
def AW(p:Int)(q:Nat):X2:=if max (Be p.natAbs) (Be q)<=1024 then ⟨1,p,q⟩ else X2.O
open Classical in
noncomputable def sqX(p:Int)(q:Nat):X2:=if h:∃r s:Nat,p=((r*r:Nat):Int)/\q=s*s then AW (h.choose:Int) h.choose_spec.choose else X2.O
theorem IZ{a b:Nat}(h:a*a=b*b):a=b:=DU.uniq (DU.sq a) (h ▸ DU.sq b)
theorem Iy{r s:Nat}:sqX ((r*r:Nat):Int) (s*s)=AW (r:Int) s:=by
 have h:∃r' s':Nat,((r*r:Nat):Int)=((r'*r':Nat):Int)/\s*s=s'*s':=⟨r,s,rfl,rfl⟩;unfold sqX;rw[dif_pos h];obtain⟨h1,h2⟩:=h.choose_spec.choose_spec;have e1:=IZ (Int.ofNat_inj.1 h1);have e2:=IZ h2;have key:∀a b:Nat,r=a->s=b->AW ((a:Nat):Int) b=AW (r:Int) s:=by
  rintro a b rfl rfl;rfl
 exact key _ _ e1 e2
theorem Ls{p:Int}{q:Nat}(h:¬∃r s:Nat,p=((r*r:Nat):Int)/\q=s*s):sqX p q=X2.O:=dif_neg h
def LL(p:Int)(q:Nat)(n:Int):X2:=if 0<=n then AW (p ^ n.toNat) (q ^ n.toNat) else if p=0 then X2.U else AW (Fh p q ^ (-n).toNat) (p.natAbs ^ (-n).toNat)
noncomputable def unX(k n:Int)(p:Int)(q:Nat):X2:=
 if k=5 then AW (-p) q else if k=10 then LL p q n else if k=11 then (if p<0 then X2.U else sqX p q)
 else if k=13 then (if p<=0 then X2.U else if p=(q:Int) then AW 0 1 else X2.O)
 else if k=12\/k=15 then (if p=0 then AW 1 1 else X2.O) else (if p=0 then AW 0 1 else X2.O)
def biX(k:Int)(p:Int)(q:Nat)(r:Int)(s:Nat):X2:=
 if k=6 then AW (My p q r s) (Mx p q r s) else if k=7 then AW (My p q (-r) s) (Mx p q (-r) s)
 else if k=8 then AW (PI p q r s) (PH p q r s) else if r=0 then X2.U else AW (PI p q (Fh r s) r.natAbs) (PH p q (Fh r s) r.natAbs)
noncomputable def BH(n:Nd)(x y:X2):X2:=
 if n.kind<5 then (if n.kind=1 then AW (Ic n.text) (If n.text) else X2.O)
 else if 6<=n.kind/\n.kind<=9 then
  (if x.st=2\/y.st=2 then X2.U else if n.kind=9/\y.st=1/\y.p=0 then X2.U else if x.st=1/\y.st=1 then biX n.kind x.p x.q y.p y.q else X2.O)
 else (if x.st=2 then X2.U else if x.st=1 then unX n.kind n.n x.p x.q else X2.O)
def X2.Ok(x:X2):Prop:=(x.st=1/\Low x.p x.q/\max (Be x.p.natAbs) (Be x.q)<=1024)\/x=X2.O\/x=X2.U
theorem X2.O_ok:X2.O.Ok:= .inr (.inl rfl)
theorem X2.U_ok:X2.U.Ok:= .inr (.inr rfl)
theorem BL{p:Int}{q:Nat}(h:Low p q):(AW p q).Ok:=by
 unfold AW;split
 ·exact .inl ⟨rfl,h,‹_›⟩
 ·exact X2.O_ok
theorem Rp{r s:Nat}(h:Low ((r*r:Nat):Int) (s*s)):Low (r:Int) s:=by
 obtain⟨h1,h2⟩:=h;refine⟨by rcases Nat.eq_zero_or_pos s with h|h;(subst h;omega);exact h,?_⟩;simp only[Int.natAbs_natCast]at h2 ⊢;have h3:Nat.gcd r s ∣ Nat.gcd (r*r) (s*s):=Nat.dvd_gcd (Nat.dvd_trans (Nat.gcd_dvd_left r s) (Nat.dvd_mul_right r r)) (Nat.dvd_trans (Nat.gcd_dvd_right r s) (Nat.dvd_mul_right s s));rw[h2]at h3;exact Nat.dvd_one.1 h3
theorem TD{p:Int}{q:Nat}(h:Low p q):(sqX p q).Ok:=by
 by_cases hs:∃r s:Nat,p=((r*r:Nat):Int)/\q=s*s
 ·obtain⟨r,s,rfl,rfl⟩:=hs;rw[Iy];exact BL (Rp h)
 ·rw[Ls hs];exact X2.O_ok
theorem SG{p:Int}{q:Nat}(h:Low p q)(n:Int):(LL p q n).Ok:=by
 unfold LL;split
 ·exact BL (Ol h _)
 ·split
  ·exact X2.U_ok
  ·exact BL (Ol (Oo h ‹_›) _)
theorem Tz{p:Int}{q:Nat}(h:Low p q)(k n:Int):(unX k n p q).Ok:=by
 unfold unX;split
 ·exact BL (Om h)
 split
 ·exact SG h n
 split
 ·split
  ·exact X2.U_ok
  ·exact TD h
 split
 ·split
  ·exact X2.U_ok
  ·split
   ·exact BL (Fv 0)
   ·exact X2.O_ok
 split
 ·split
  ·exact BL (Fv 1)
  ·exact X2.O_ok
 ·split
  ·exact BL (Fv 0)
  ·exact X2.O_ok
theorem TQ{p r:Int}{q s:Nat}(h:Low p q)(h':Low r s)(k:Int):(biX k p q r s).Ok:=by
 unfold biX;split
 ·exact BL (Oq h h')
 split
 ·exact BL (Oq h (Om h'))
 split
 ·exact BL (On h h')
 split
 ·exact X2.U_ok
 ·exact BL (On h (Oo h' ‹_›))
theorem X2.Ok.low{x:X2}(h:x.Ok)(hs:x.st=1):Low x.p x.q:=by
 rcases h with ⟨_,h,_⟩|h|h
 ·exact h
 ·rw[h]at hs;cases hs
 ·rw[h]at hs;cases hs
theorem X2.Ok.zero{x:X2}(h:x.Ok)(hs:x.st≠1):x.p=0/\x.q=0:=by
 rcases h with ⟨h,_⟩|h|h
 ·exact absurd h hs
 ·rw[h];exact⟨rfl,rfl⟩
 ·rw[h];exact⟨rfl,rfl⟩
theorem Rq{t:List UInt8}:Low (Ic t) (If t):=NC _ (Nat.pos_of_ne_zero (by simp))
theorem Ii(n:Nd){x y:X2}(hx:x.Ok)(hy:y.Ok):(BH n x y).Ok:=by
 unfold BH;split
 ·split
  ·exact BL Rq
  ·exact X2.O_ok
 split
 ·split
  ·exact X2.U_ok
  split
  ·exact X2.U_ok
  split
  ·rename_i h;exact TQ (hx.low h.1) (hy.low h.2) _
  ·exact X2.O_ok
 ·split
  ·exact X2.U_ok
  split
  ·rename_i h;exact Tz (hx.low h) _ _
  ·exact X2.O_ok
noncomputable def JQ(T:List X2)(n:Nd):List X2:=T++[BH n (T.getD n.a.toNat X2.O) (T.getD n.b.toNat X2.O)]
noncomputable def DI(ns:List Nd):List X2:=ns.foldl JQ []
theorem OP(ns:List Nd)(x:Nd):DI (ns++[x])=JQ (DI ns) x:=by unfold DI;rw[List.foldl_append];rfl
theorem Lp(ns:List Nd):(DI ns).length=ns.length:=by
 have key:∀(l:List Nd) (D:List X2),(l.foldl JQ D).length=D.length+l.length:=by
  intro l
  induction l with
  |nil=>intro D;rfl
  |cons x l ih=>
   intro D;rw[List.foldl_cons,ih];simp only[JQ,List.length_append,List.length_cons,List.length_nil];omega
 have:=key ns [];rw[List.length_nil,Nat.zero_add]at this;exact this
theorem Qz(ns ms:List Nd):DI ns <+: DI (ns++ms):=by
 have key:∀(l:List Nd) (D:List X2),D <+: l.foldl JQ D:=by
  intro l
  induction l with
  |nil=>intro D;exact List.prefix_refl _
  |cons x l ih=>intro D;exact(List.prefix_append D _).trans (ih _)
 unfold DI;rw[List.foldl_append];exact key ms _
theorem EK(l m:List X2){i:Nat}(h:i<l.length):(l++m).getD i X2.O=l.getD i X2.O:=by
 rw[List.getD_eq_getElem?_getD,List.getD_eq_getElem?_getD,List.getElem?_append_left h]
theorem Jh(l:List X2)(x:X2){i:Nat}(h:i=l.length):(l++[x]).getD i X2.O=x:=by
 subst h;rw[List.getD_eq_getElem?_getD,List.getElem?_append_right (Nat.le_refl _),Nat.sub_self];rfl
theorem Eh{ns:List Nd}{i:Nat}(yF:i<=ns.length):∀j,j<i->(DI (ns.take i)).getD j X2.O=(DI ns).getD j X2.O:=by
 intro j hj;have h1:=Qz (ns.take i) (ns.drop i);rw[List.take_append_drop]at h1;obtain⟨t,ht⟩:=h1;rw[<-ht,EK _ _ (by rw[Lp,List.length_take];omega)]
theorem Fr{n:Nd}(h:n.kind<5)(x y x' y':X2):BH n x y=BH n x' y':=by unfold BH;rw[if_pos h,if_pos h]
theorem Ih{n:Nd}(h:¬n.kind<5)(h2:¬(6<=n.kind/\n.kind<=9))(x y y':X2):BH n x y=BH n x y':=by unfold BH;rw[if_neg h,if_neg h,if_neg h2,if_neg h2]
theorem Ik{ns:List Nd}(hs:AC ns){i:Nat}{x:Nd}(hx:ns[i]? =some x):(DI ns).getD i X2.O=BH x ((DI ns).getD x.a.toNat X2.O) ((DI ns).getD x.b.toNat X2.O):=by
 obtain⟨hi,he⟩:=List.getElem?_eq_some_iff.1 hx;have h1:=Eh (ns:=ns) (i:=i+1) (by omega) i (by omega);rw[<-h1,List.take_succ_eq_append_getElem hi,OP,he];unfold JQ;rw[Jh _ _ (by rw[Lp,List.length_take];omega)];rcases hs.2 i x hx with ⟨k,t,rfl,ho⟩|⟨k,n,j,rfl,ho,hj⟩|⟨k,j,q,rfl,hk,hj,hq⟩
 ·have:k<5:=by rcases ho with ⟨h,_⟩|⟨h,_⟩|⟨h,_⟩<;>omega
  exact Fr (by simp only;omega) _ _ _ _
 ·have:=ho.1;simp only[Int.toNat_natCast];rw[Eh (Nat.le_of_lt hi) j hj];exact Ih (by simp only;omega) (by simp only;omega) _ _ _
 ·simp only[Int.toNat_natCast];rw[Eh (Nat.le_of_lt hi) j hj,Eh (Nat.le_of_lt hi) q hq]
noncomputable def exX:Ex->X2
 | .leaf k t=>BH ⟨(k:Int),0,0,0,t⟩ X2.O X2.O
 | .un k n x=>BH ⟨(k:Int),0,0,n,[]⟩ (exX x) X2.O
 | .bin k x y=>BH ⟨(k:Int),0,0,0,[]⟩ (exX x) (exX y)
theorem Ln{ns:List Nd}(hs:AC ns):∀{e:Ex} {i:Nat},e.Good->Rep ns i e->(DI ns).getD i X2.O=exX e:=by
 intro e
 induction e with
 |leaf k t=>
  intro i hg hr;rw[Ik hs (show ns[i]? =_ from hr)];have:k<5:=by rcases hg with ⟨h,_⟩|⟨h,_⟩|⟨h,_⟩<;>omega
  exact Fr (by simp only;omega) _ _ _ _
 |un k n x ih=>
  intro i hg hr;obtain⟨j,hj,hx⟩:=hr;rw[Ik hs hx];simp only[Int.toNat_natCast];rw[ih hg.2.2.2.2 hj];have:=hg.1;exact Ih (by simp only;omega) (by simp only;omega) _ _ _
 |bin k x y ihx ihy=>
  intro i hg hr;obtain⟨j,q,hj,hq,hx⟩:=hr;rw[Ik hs hx];simp only[Int.toNat_natCast];rw[ihx hg.2.1 hj,ihy hg.2.2 hq];rfl
abbrev Tx:=List UInt8
theorem Ft(a:Tx):¬a<a:=List.lt_irrefl a
theorem Qt{a b c:Tx}(h:a<b)(h':b<c):a<c:=List.lt_trans h h'
theorem Qu{a b:Tx}(h:a<b):¬b<a:=fun h'=>Ft a (Qt h h')
def Asc(l:List Tx):Prop:=l.Pairwise (·<·)
theorem Mu:∀{l m:List Tx},Asc l->Asc m->(∀x,x∈l↔x∈m)->l=m
 |[],[],_,_,_=>rfl
 |[],y::m,_,_,h=>absurd ((h y).2 (by simp)) (by simp)
 |x::l,[],_,_,h=>absurd ((h x).1 (by simp)) (by simp)
 |x::l,y::m,hl,hm,h=>by
  unfold Asc at hl hm;rw[List.pairwise_cons]at hl hm;have e:x=y:=by
   rcases List.mem_cons.1 ((h x).1 (by simp)) with e|e
   ·exact e
   ·rcases List.mem_cons.1 ((h y).2 (by simp)) with e'|e'
    ·exact e'.symm
    ·exact absurd (hm.1 x e) (Qu (hl.1 y e'))
  subst e;refine congrArg (x::·) (Mu hl.2 hm.2 fun z=>⟨fun hz=> ?_,fun hz=> ?_⟩)
  ·rcases List.mem_cons.1 ((h z).1 (List.mem_cons_of_mem _ hz)) with e|e
   ·exact absurd (hl.1 z hz) (by rw[e];exact Ft x)
   ·exact e
  ·rcases List.mem_cons.1 ((h z).2 (List.mem_cons_of_mem _ hz)) with e|e
   ·exact absurd (hm.1 z hz) (by rw[e];exact Ft x)
   ·exact e
def Ua(s:Tx):List Tx->List Tx
 |[]=>[s]
 |x::xs=>if x<s then x::Ua s xs else if x=s then x::xs else s::x::xs
def Uy(l:List Tx):List Tx:=l.foldl (fun out s=>Ua s out) []
def Cg(x:Nd):List Nat:=if x.kind<5 then [] else if 6<=x.kind/\x.kind<=9 then [x.a.toNat,x.b.toNat] else [x.a.toNat]
def Cv(ns:List Nd)(i:Nat):List Nat:=match ns[i]? with
 |some x=>Cg x
 |none=>[]
theorem AC.args_lt{ns:List Nd}(hs:AC ns){i a:Nat}(h:a∈Cv ns i):a<i:=by
 unfold Cv at h;cases hx:ns[i]? with
 |none=>rw[hx]at h;cases h
 |some x=>
  rw[hx]at h;simp only at h;rcases hs.2 i x hx with ⟨k,t,rfl,ho⟩|⟨k,n,j,rfl,ho,hj⟩|⟨k,j,q,rfl,hk,hj,hq⟩
  ·unfold Cg at h;rw[if_pos (by rcases ho with ⟨h,_⟩|⟨h,_⟩|⟨h,_⟩<;>simp only<;>omega)]at h;cases h
  ·unfold Cg at h;have:=ho.1;rw[if_neg (by simp only;omega),if_neg (by simp only;omega)]at h;simp only[Int.toNat_natCast,List.mem_singleton]at h;omega
  ·unfold Cg at h;rw[if_neg (by simp only;omega),if_pos (by simp only;omega)]at h;simp only[Int.toNat_natCast,List.mem_cons,List.not_mem_nil,or_false]at h;omega
inductive B6 (ns:List Nd) (i:Nat):Nat->Prop where
 |here:B6 ns i i
 |down {j a:Nat}:B6 ns i j->a∈Cv ns j->B6 ns i a
theorem B6.le{ns:List Nd}(hs:AC ns){i j:Nat}(h:B6 ns i j):j<=i:=by
 induction h with
 |here=>exact Nat.le_refl _
 |down _ ha ih=>have:=hs.args_lt ha;omega
theorem B6.trans{ns:List Nd}{i j q:Nat}(h:B6 ns i j)(k:B6 ns j q):B6 ns i q:=by
 induction k with
 |here=>exact h
 |down _ ha ih=>exact ih.down ha
def E0(F:List Bool):List Nat->List Bool
 |[]=>F
 |a::l=>E0 (F.set a true) l
theorem MU(l:List Nat):∀F:List Bool,(E0 F l).length=F.length:=by
 induction l with
 |nil=>intro F;rfl
 |cons a l ih=>intro F;rw[E0,ih,List.length_set]
theorem Kg(F:List Bool)(a j:Nat):(F.set a true).getD j false=(decide (j=a/\a<F.length) || F.getD j false):=by
 rw[List.getD_eq_getElem?_getD,List.getD_eq_getElem?_getD,List.getElem?_set];by_cases h:a=j
 ·subst h;rw[if_pos rfl];by_cases hl:a<F.length
  ·simp[hl]
  ·rw[if_neg hl,List.getElem?_eq_none (by omega)];simp[hl]
 ·rw[if_neg h];simp[Ne.symm h]
theorem Mk(l:List Nat):∀(F:List Bool) (j:Nat),j<F.length->(E0 F l).getD j false=(decide (j∈l) || F.getD j false):=by
 induction l with
 |nil=>intro F j _;simp[E0]
 |cons a l ih=>
  intro F j hj;rw[E0,ih _ j (by rw[List.length_set];exact hj),Kg];by_cases h1:j=a
  ·subst h1;simp[hj]
  ·simp[h1]
def Hw(ns:List Nd)(i:Nat)(F:List Bool):List Bool:=if F.getD i false then E0 F (Cv ns i) else F
theorem GR(ns:List Nd)(i:Nat)(F:List Bool):(Hw ns i F).length=F.length:=by
 unfold Hw;split
 ·exact MU _ _
 ·rfl
def C3(ns:List Nd)(i m:Nat)(F:List Bool):Prop:=i<F.length/\F.length<=ns.length/\∀j,j<F.length->(F.getD j false=true↔j=i\/∃q,m<=q/\B6 ns i q/\j∈Cv ns q)
theorem C3.start{ns:List Nd}(hs:AC ns){i:Nat}{F:List Bool}(hi:i<F.length)(hF:F.length<=ns.length)(h:∀j,j<F.length->(F.getD j false=true↔j=i)):C3 ns i (i+1) F:=
 ⟨hi,hF,fun j hj=>(h j hj).trans ⟨.inl,fun h=>by
  rcases h with h|⟨q,hq,hr,_⟩
  ·exact h
  ·have:=hr.le hs;omega⟩⟩
theorem C3.here{ns:List Nd}(hs:AC ns){i m:Nat}{F:List Bool}(h:C3 ns i (m+1) F)(hm:m<F.length):F.getD m false=true↔B6 ns i m:=by
 rw[h.2.2 m hm];constructor
 ·rintro(rfl|⟨q,_,hr,ha⟩)
  ·exact .here
  ·exact hr.down ha
 ·intro hr;cases hr with
  |here=>exact .inl rfl
  | @down j _ hr ha=>exact .inr ⟨j,by have:=hs.args_lt ha;omega,hr,ha⟩
theorem C3.step{ns:List Nd}(hs:AC ns){i m:Nat}{F:List Bool}(h:C3 ns i (m+1) F)(hm:m<F.length):C3 ns i m (Hw ns m F):=by
 have hh:=h.here hs hm;refine⟨by rw[GR];exact h.1,by rw[GR];exact h.2.1,fun j hj=> ?_⟩;rw[GR]at hj;unfold Hw;by_cases hr:B6 ns i m
 ·rw[if_pos (hh.2 hr),Mk _ _ _ hj,Bool.or_eq_true,decide_eq_true_eq,h.2.2 j hj];constructor
  ·rintro(ha|ha|⟨q,hq,hr2,ha⟩)
   ·exact .inr ⟨m,Nat.le_refl _,hr,ha⟩
   ·exact .inl ha
   ·exact .inr ⟨q,by omega,hr2,ha⟩
  ·rintro(ha|⟨q,hq,hr2,ha⟩)
   ·exact .inr (.inl ha)
   ·rcases Nat.eq_or_lt_of_le hq with e|e
    ·subst e;exact .inl ha
    ·exact .inr (.inr ⟨q,e,hr2,ha⟩)
 ·have hf:F.getD m false=false:=by
   cases hc:F.getD m false with
   |false=>rfl
   |true=>exact absurd (hh.1 hc) hr
  rw[hf];simp only[Bool.false_eq_true,if_false];rw[h.2.2 j hj];constructor
  ·rintro(ha|⟨q,hq,hr2,ha⟩)
   ·exact .inl ha
   ·exact .inr ⟨q,by omega,hr2,ha⟩
  ·rintro(ha|⟨q,hq,hr2,ha⟩)
   ·exact .inl ha
   ·rcases Nat.eq_or_lt_of_le hq with e|e
    ·subst e;exact absurd hr2 hr
    ·exact .inr ⟨q,e,hr2,ha⟩
theorem C3.done{ns:List Nd}{i:Nat}{F:List Bool}(h:C3 ns i 0 F):∀j,j<F.length->(F.getD j false=true↔B6 ns i j):=by
 intro j hj;rw[h.2.2 j hj];constructor
 ·rintro(rfl|⟨q,_,hr,ha⟩)
  ·exact .here
  ·exact hr.down ha
 ·intro hr;cases hr with
  |here=>exact .inl rfl
  | @down q _ hr ha=>exact .inr ⟨q,Nat.zero_le _,hr,ha⟩
def Dg(ns:List Nd)(i:Nat)(t:Tx):Prop:=∃j x,B6 ns i j/\ns[j]? =some x/\x.kind=2/\x.text=t
def Nw:Ex->List Tx
 | .leaf k t=>if k=2 then [t] else []
 | .un _ _ x=>Nw x
 | .bin _ x y=>Nw x++Nw y
theorem B6.split{ns:List Nd}{i j:Nat}:B6 ns i j↔i=j\/∃a∈Cv ns i,B6 ns a j:=by
 constructor
 ·intro h
  induction h with
  |here=>exact .inl rfl
  | @down p b hp hb ih=>
    rcases ih with rfl|⟨a,ha,hr⟩
    ·exact .inr ⟨b,hb,.here⟩
    ·exact .inr ⟨a,ha,hr.down hb⟩
 ·rintro(rfl|⟨a,ha,hr⟩)
  ·exact .here
  ·exact(B6.here.down ha).trans hr
end Big
end Go.Proofs.YtkoaogkknnelaaaGreatDoor
