import Derived.Test.YtkoaogkknnelaaaGreatDoorM8
import Derived.Lib.Strings
import Derived.Laws.Entries
import Derived.Lib.SlicesCompact
set_option linter.unusedVariables false
set_option linter.unusedSimpArgs false
namespace Go.Proofs.YtkoaogkknnelaaaGreatDoor
namespace Big
open Go.RowKit
def Af(l:List UInt8)(i:Nat):Nat:=(l.getD i 0).toNat
theorem CR(l:List UInt8)(i:Nat):Af l i<256:=UInt8.toNat_lt _
theorem BG(l:List UInt8)(i:Nat)(h:i<l.length):Af l i=l[i].toNat:=by
 unfold Af;rw[qaa,qad h];rfl
theorem Cv(l:List UInt8):(⟨l.toArray⟩:ByteArray).size=l.length:=by simp[ByteArray.size]
@[go_sem] theorem Ud (l:List UInt8) (ty:TypeId) (W:World):(Builtin.len_ #[9] ty #[str l]).run Tryz.prog W= .ok (.int .i64 (l.length:Int)) W:=by
  have:=run_len_string (P:=Tryz.prog) W 9 ty ⟨l.toArray⟩ Tryz.underlying9;rw[Cv]at this;exact this
@[go_sem] theorem Ue (l:List UInt8) (k:IntKind) (i:Int) (W:World):
  (Instr.index 9 (str l) (.int k i)).run Tryz.prog W=if 0<=i/\i<(l.length:Int) then .ok (.int .u8 (Af l i.toNat:Int)) W else (boundsPanic k i (l.length:Int) .index).run Tryz.prog W:=by
  have h2:=run_index_string (P:=Tryz.prog) W 9 ⟨l.toArray⟩ k i Tryz.underlying9;by_cases h:0<=i/\i<(l.length:Int)
  ·rw[dif_pos ⟨h.1,by rw[Cv];exact h.2⟩]at h2;have h3:i.toNat<l.length:=by omega
   rw[if_pos h,BG l _ h3];exact h2
  ·rw[dif_neg (by rw[Cv];exact h),Cv]at h2;rw[if_neg h];exact h2
@[go_sem] theorem Uj (op:BinOp) (t:TypeId) (x y:Operand) (a:List UInt8) (v:Value):eqGuard op t x y (str a) v=pure ():=by
  unfold str;cases op<;>cases v<;>rfl
@[go_sem] theorem O8 (op:BinOp) (t:TypeId) (x y:Operand) (a:List UInt8) (s:ByteArray):eqGuard op t x y (.string s) (str a)=pure ():=by
  unfold str;cases op<;>rfl
@[go_sem] theorem T0 (a b:List UInt8):binOp .eql 9 (str a) (str b)=pure (.bool (a == b)):=by
  unfold str;rw[binOp_string_eql,ByteArray.toList_mk,ByteArray.toList_mk]
@[go_sem] theorem Ty (a b:List UInt8):binOp .neq 9 (str a) (str b)=pure (.bool !(a == b)):=by
  unfold str;rw[binOp_string_neq,ByteArray.toList_mk,ByteArray.toList_mk]
@[go_sem] theorem Ta (a b:List UInt8):binOp .eql 9 (str a) (.string ⟨b.toArray⟩)=pure (.bool (a == b)):=T0 a b
@[go_sem] theorem S9 (a b:List UInt8):binOp .neq 9 (str a) (.string ⟨b.toArray⟩)=pure (.bool !(a == b)):=Ty a b
theorem FI(l:List UInt8)(a b:Nat):(⟨l.toArray⟩:ByteArray).extract a b=⟨((l.drop a).take (b-a)).toArray⟩:=by
 apply ByteArray.ext;apply qck;rw[Lib.extract_data]
@[go_sem] theorem S8 (l:List UInt8) (k k':IntKind) (i j:Int) (W:World):
  (Instr.slice 9 (str l) (some (.int k i)) (some (.int k' j)) none).run Tryz.prog W=
   if 0<=j/\j<=(l.length:Int) then
    (if 0<=i/\i<=j then .ok (str ((l.take j.toNat).drop i.toNat)) W
     else ((boundsPanic k i j.toNat .sliceB:Sem Nat).run Tryz.prog W).andThen fun a w'=> .ok (str ((l.take j.toNat).drop a)) w')
   else ((boundsPanic k' j l.length .sliceAlen:Sem Nat).run Tryz.prog W).andThen fun b w'=>
    ((Instr.sliceBound (.int k i) b .sliceB).run Tryz.prog w').andThen fun a w''=> .ok (str ((l.take b).drop a)) w'':=by
  unfold str;rw[run_slice_string_if (P:=Tryz.prog) W 9 ⟨l.toArray⟩ k k' i j Tryz.underlying9];simp only[Cv,FI,List.drop_take]
@[go_sem] theorem ND (l:List UInt8) (k:IntKind) (i:Int) (W:World):
  (Instr.slice 9 (str l) (some (.int k i)) none none).run Tryz.prog W=
   if 0<=i/\i<=(l.length:Int) then .ok (str (l.drop i.toNat)) W else ((boundsPanic k i l.length .sliceB:Sem Nat).run Tryz.prog W).andThen fun a w'=> .ok (str (l.drop a)) w':=by
  unfold str;rw[run_slice_string_from_if (P:=Tryz.prog) W 9 ⟨l.toArray⟩ k i Tryz.underlying9];have hd:∀a,(l.drop a).take (l.length-a)=l.drop a:=fun a=>qaf (by simp)
  simp only[Cv,FI,hd]
@[go_sem] theorem PB (l:List UInt8) (k:IntKind) (j:Int) (W:World):
  (Instr.slice 9 (str l) none (some (.int k j)) none).run Tryz.prog W=
   if 0<=j/\j<=(l.length:Int) then .ok (str (l.take j.toNat)) W else ((boundsPanic k j l.length .sliceAlen:Sem Nat).run Tryz.prog W).andThen fun a w'=> .ok (str (l.take a)) w':=by
  unfold str;rw[run_slice_string_to_if (P:=Tryz.prog) W 9 ⟨l.toArray⟩ k j Tryz.underlying9];simp only[Cv,FI,qco,Nat.sub_zero]
@[go_sem high] theorem S7 (P:Program) (w:World) (a:Addr) (l:List UInt8) (m:Mode):(store a (str l) m).run P w=stored P w a (str l) m:=run_store P w a _ m rfl
@[go_sem high] theorem UM (l:List UInt8):(str l).cells= #[str l]:=rfl
@[go_sem high] theorem Q6 (l:List UInt8):(match str l with|Value.agg cs=>cs|v=> #[v])= #[str l]:=rfl
@[go_sem high] theorem Uh (l:List UInt8):(str l).oneCell'=true:=rfl
theorem FN{l:List UInt8}(h:(AE l && ((Bb l == []) || ((Bb l).getLast? == some 48)))=true):Ic l=true:=by
 unfold Ic;rw[h];rfl
theorem ET{l:List UInt8}(h:(AE l && ((Bb l == []) || ((Bb l).getLast? == some 48)))=false):Ic l=((whole l == []) || ((whole l)[0]? == some 48 && decide (1<(whole l).length))):=by
 unfold Ic;rw[h];rfl
theorem KX(P:List UInt8)(k:Nat)(h:P.length=k+1):(P.getLast? == some 48)=((Af P k:Int) == 48):=by
 have h1:P.getLast? =some P[k]:=by
  rw[List.getLast?_eq_getElem?,show P.length-1=k by omega,qad (by omega)]
 rw[h1,BG P k (by omega),qaM];simp only[beq_iff_eq,qar];constructor
 ·intro e;rw[e];rfl
 ·intro e;apply qcA.1;have:P[k].toNat=48:=by omega
  rw[this];rfl
theorem Gq(W:List UInt8)(k:Nat)(h:W.length=k+1):(W[0]? == some 48)=((Af W 0:Int) == 48):=by
 rw[BG W 0 (by omega),qad (by omega),qaM];simp only[beq_iff_eq,qar];constructor
 ·intro e;rw[e];rfl
 ·intro e;apply qcA.1;have:W[0].toNat=48:=by omega
  rw[this];rfl
def HJ(l:List UInt8):Int:=EN (Bo (whole l++Bb l)) (10 ^ (Bb l).length)
def Ia(l:List UInt8):Nat:=Em (Bo (whole l++Bb l)) (10 ^ (Bb l).length)
def D7(w:World)(l:List UInt8)(e:Ending)(w':World):Prop:=
 ∃v',e= .returned (.tuple #[v',.int .i64 (Bh l:Int)])/\Ag w.heap.size w' v' (if Bh l=0 then HJ l else 0) (if Bh l=0 then Ia l else 0)/\Ext w w'
structure X2 where
 st:Nat
 p:Int
 q:Nat
def X2.O:X2:=⟨0,0,0⟩
def X2.U:X2:=⟨2,0,0⟩
def AN(p:Int)(q:Nat):X2:=if max (AT p.natAbs) (AT q)<=1024 then ⟨1,p,q⟩ else X2.O
open Classical in
noncomputable def sqX(p:Int)(q:Nat):X2:=if h:∃r s:Nat,p=((r*r:Nat):Int)/\q=s*s then AN (h.choose:Int) h.choose_spec.choose else X2.O
theorem JG{a b:Nat}(h:a*a=b*b):a=b:=DL.uniq (DL.sq a) (h ▸ DL.sq b)
theorem Jd{r s:Nat}:sqX ((r*r:Nat):Int) (s*s)=AN (r:Int) s:=by
 have h:∃r' s':Nat,((r*r:Nat):Int)=((r'*r':Nat):Int)/\s*s=s'*s':=⟨r,s,rfl,rfl⟩;unfold sqX;rw[dif_pos h];obtain⟨h1,h2⟩:=h.choose_spec.choose_spec;have e1:=JG (Int.ofNat_inj.1 h1);have e2:=JG h2;have key:∀a b:Nat,r=a->s=b->AN ((a:Nat):Int) b=AN (r:Int) s:=by
  rintro a b rfl rfl;rfl
 exact key _ _ e1 e2
theorem L4{p:Int}{q:Nat}(h:¬∃r s:Nat,p=((r*r:Nat):Int)/\q=s*s):sqX p q=X2.O:=dif_neg h
def GK(p:Int)(q:Nat)(n:Int):X2:=if 0<=n then AN (p ^ n.toNat) (q ^ n.toNat) else if p=0 then X2.U else AN (CU p q ^ (-n).toNat) (p.natAbs ^ (-n).toNat)
noncomputable def unX(k n:Int)(p:Int)(q:Nat):X2:=
 if k=5 then AN (-p) q else if k=10 then GK p q n else if k=11 then (if p<0 then X2.U else sqX p q)
 else if k=13 then (if p<=0 then X2.U else if p=(q:Int) then AN 0 1 else X2.O)
 else if k=12\/k=15 then (if p=0 then AN 1 1 else X2.O) else (if p=0 then AN 0 1 else X2.O)
def biX(k:Int)(p:Int)(q:Nat)(r:Int)(s:Nat):X2:=
 if k=6 then AN (M8 p q r s) (M7 p q r s) else if k=7 then AN (M8 p q (-r) s) (M7 p q (-r) s)
 else if k=8 then AN (IT p q r s) (IS p q r s) else if r=0 then X2.U else AN (IT p q (CU r s) r.natAbs) (IS p q (CU r s) r.natAbs)
noncomputable def Bj(n:Nd)(x y:X2):X2:=
 if n.kind<5 then (if n.kind=1 then AN (HJ n.text) (Ia n.text) else X2.O)
 else if 6<=n.kind/\n.kind<=9 then
  (if x.st=2\/y.st=2 then X2.U else if n.kind=9/\y.st=1/\y.p=0 then X2.U else if x.st=1/\y.st=1 then biX n.kind x.p x.q y.p y.q else X2.O)
 else (if x.st=2 then X2.U else if x.st=1 then unX n.kind n.n x.p x.q else X2.O)
def X2.Ok(x:X2):Prop:=(x.st=1/\Low x.p x.q/\max (AT x.p.natAbs) (AT x.q)<=1024)\/x=X2.O\/x=X2.U
theorem X2.O_ok:X2.O.Ok:= .inr (.inl rfl)
theorem X2.U_ok:X2.U.Ok:= .inr (.inr rfl)
theorem B6{p:Int}{q:Nat}(h:Low p q):(AN p q).Ok:=by
 unfold AN;split
 ·exact .inl ⟨rfl,h,‹_›⟩
 ·exact X2.O_ok
theorem Sm{r s:Nat}(h:Low ((r*r:Nat):Int) (s*s)):Low (r:Int) s:=by
 obtain⟨h1,h2⟩:=h;refine⟨by rcases qag s with h|h;(subst h;omega);exact h,?_⟩;simp only[qaL]at h2 ⊢;have h3:Nat.gcd r s ∣ Nat.gcd (r*r) (s*s):=Nat.dvd_gcd (Nat.dvd_trans (Nat.gcd_dvd_left r s) (Nat.dvd_mul_right r r)) (Nat.dvd_trans (Nat.gcd_dvd_right r s) (Nat.dvd_mul_right s s));rw[h2]at h3;exact Nat.dvd_one.1 h3
theorem Us{p:Int}{q:Nat}(h:Low p q):(sqX p q).Ok:=by
 by_cases hs:∃r s:Nat,p=((r*r:Nat):Int)/\q=s*s
 ·obtain⟨r,s,rfl,rfl⟩:=hs;rw[Jd];exact B6 (Sm h)
 ·rw[L4 hs];exact X2.O_ok
theorem Tt{p:Int}{q:Nat}(h:Low p q)(n:Int):(GK p q n).Ok:=by
 unfold GK;split
 ·exact B6 (OW h _)
 ·split
  ·exact X2.U_ok
  ·exact B6 (OW (LD h ‹_›) _)
theorem Uo{p:Int}{q:Nat}(h:Low p q)(k n:Int):(unX k n p q).Ok:=by
 unfold unX;split
 ·exact B6 (OX h)
 split
 ·exact Tt h n
 split
 ·split
  ·exact X2.U_ok
  ·exact Us h
 split
 ·split
  ·exact X2.U_ok
  ·split
   ·exact B6 (FT 0)
   ·exact X2.O_ok
 split
 ·split
  ·exact B6 (FT 1)
  ·exact X2.O_ok
 ·split
  ·exact B6 (FT 0)
  ·exact X2.O_ok
theorem UE{p r:Int}{q s:Nat}(h:Low p q)(h':Low r s)(k:Int):(biX k p q r s).Ok:=by
 unfold biX;split
 ·exact B6 (OZ h h')
 split
 ·exact B6 (OZ h (OX h'))
 split
 ·exact B6 (OY h h')
 split
 ·exact X2.U_ok
 ·exact B6 (OY h (LD h' ‹_›))
theorem X2.Ok.low{x:X2}(h:x.Ok)(hs:x.st=1):Low x.p x.q:=by
 rcases h with ⟨_,h,_⟩|h|h
 ·exact h
 ·rw[h]at hs;cases hs
 ·rw[h]at hs;cases hs
theorem Sn{t:List UInt8}:Low (HJ t) (Ia t):=Og _ (qcn (by simp))
theorem FP(n:Nd){x y:X2}(hx:x.Ok)(hy:y.Ok):(Bj n x y).Ok:=by
 unfold Bj;split
 ·split
  ·exact B6 Sn
  ·exact X2.O_ok
 split
 ·split
  ·exact X2.U_ok
  split
  ·exact X2.U_ok
  split
  ·rename_i h;exact UE (hx.low h.1) (hy.low h.2) _
  ·exact X2.O_ok
 ·split
  ·exact X2.U_ok
  split
  ·rename_i h;exact Uo (hx.low h) _ _
  ·exact X2.O_ok
noncomputable def Fq(T:List X2)(n:Nd):List X2:=T++[Bj n (T.getD n.a.toNat X2.O) (T.getD n.b.toNat X2.O)]
noncomputable def BB(ns:List Nd):List X2:=ns.foldl Fq []
theorem Hr(ns:List Nd)(x:Nd):BB (ns++[x])=Fq (BB ns) x:=by unfold BB;rw[qbx];rfl
theorem CZ(ns:List Nd):(BB ns).length=ns.length:=by
 have key:∀(l:List Nd) (D:List X2),(l.foldl Fq D).length=D.length+l.length:=by
  intro l
  induction l with
  |nil=>intro D;rfl
  |cons x l ih=>
   intro D;rw[qbU,ih];simp only[Fq,qac,qaC,qaZ];omega
 have:=key ns [];rw[qaZ,qaW]at this;exact this
theorem Rf(ns ms:List Nd):BB ns <+: BB (ns++ms):=by
 have key:∀(l:List Nd) (D:List X2),D <+: l.foldl Fq D:=by
  intro l
  induction l with
  |nil=>intro D;exact List.prefix_refl _
  |cons x l ih=>intro D;exact(List.prefix_append D _).trans (ih _)
 unfold BB;rw[qbx];exact key ms _
theorem Fb(l m:List X2){i:Nat}(h:i<l.length):(l++m).getD i X2.O=l.getD i X2.O:=by
 rw[qaa,qaa,qat h]
theorem Gn(l:List X2)(x:X2){i:Nat}(h:i=l.length):(l++[x]).getD i X2.O=x:=by
 subst h;rw[qaa,qai (qab _),qaR];rfl
theorem D3{ns:List Nd}{i:Nat}(YQ:i<=ns.length):∀j,j<i->(BB (ns.take i)).getD j X2.O=(BB ns).getD j X2.O:=by
 intro j hj;have h1:=Rf (ns.take i) (ns.drop i);rw[qbV]at h1;obtain⟨t,ht⟩:=h1;rw[<-ht,Fb _ _ (by rw[CZ,qam];omega)]
theorem EH{n:Nd}(h:n.kind<5)(x y x' y':X2):Bj n x y=Bj n x' y':=by unfold Bj;rw[if_pos h,if_pos h]
theorem GB{n:Nd}(h:¬n.kind<5)(h2:¬(6<=n.kind/\n.kind<=9))(x y y':X2):Bj n x y=Bj n x y':=by unfold Bj;rw[if_neg h,if_neg h,if_neg h2,if_neg h2]
theorem IY{ns:List Nd}(hs:AK ns){i:Nat}{x:Nd}(hx:ns[i]? =some x):(BB ns).getD i X2.O=Bj x ((BB ns).getD x.a.toNat X2.O) ((BB ns).getD x.b.toNat X2.O):=by
 obtain⟨hi,he⟩:=qaB.1 hx;have h1:=D3 (ns:=ns) (i:=i+1) (by omega) i (by omega);rw[<-h1,qaz hi,Hr,he];unfold Fq;rw[Gn _ _ (by rw[CZ,qam];omega)];rcases hs.2 i x hx with ⟨k,t,rfl,ho⟩|⟨k,n,j,rfl,ho,hj⟩|⟨k,j,q,rfl,hk,hj,hq⟩
 ·have:k<5:=by rcases ho with ⟨h,_⟩|⟨h,_⟩|⟨h,_⟩<;>omega
  exact EH (by simp only;omega) _ _ _ _
 ·have:=ho.1;simp only[qaq];rw[D3 (qaK hi) j hj];exact GB (by simp only;omega) (by simp only;omega) _ _ _
 ·simp only[qaq];rw[D3 (qaK hi) j hj,D3 (qaK hi) q hq]
theorem IX(ns:List Nd):∀x∈BB ns,x.Ok:=by
 have key:∀(l:List Nd) (D:List X2),(∀x∈D,x.Ok)->∀x∈l.foldl Fq D,x.Ok:=by
  intro l
  induction l with
  |nil=>intro D h;exact h
  |cons n l ih=>
   intro D h;rw[qbU];refine ih _ (fun x hx=> ?_);unfold Fq at hx;rcases qbt.1 hx with hx|hx
   ·exact h x hx
   ·rw[qaQ]at hx;subst hx;have hg:∀j,(D.getD j X2.O).Ok:=fun j=>by
     rw[qaa];cases hj:D[j]? with
     |none=>exact X2.O_ok
     |some y=>exact h y (qbf hj)
    exact FP n (hg _) (hg _)
 exact key ns [] (fun x hx=>by cases hx)
noncomputable def exX:Ex->X2
 | .leaf k t=>Bj ⟨(k:Int),0,0,0,t⟩ X2.O X2.O
 | .un k n x=>Bj ⟨(k:Int),0,0,n,[]⟩ (exX x) X2.O
 | .bin k x y=>Bj ⟨(k:Int),0,0,0,[]⟩ (exX x) (exX y)
theorem Re{ns:List Nd}(hs:AK ns):∀{e:Ex} {i:Nat},e.Good->Rep ns i e->(BB ns).getD i X2.O=exX e:=by
 intro e
 induction e with
 |leaf k t=>
  intro i hg hr;rw[IY hs (show ns[i]? =_ from hr)];have:k<5:=by rcases hg with ⟨h,_⟩|⟨h,_⟩|⟨h,_⟩<;>omega
  exact EH (by simp only;omega) _ _ _ _
 |un k n x ih=>
  intro i hg hr;obtain⟨j,hj,hx⟩:=hr;rw[IY hs hx];simp only[qaq];rw[ih hg.2.2.2.2 hj];have:=hg.1;exact GB (by simp only;omega) (by simp only;omega) _ _ _
 |bin k x y ihx ihy=>
  intro i hg hr;obtain⟨j,q,hj,hq,hx⟩:=hr;rw[IY hs hx];simp only[qaq];rw[ihx hg.2.1 hj,ihy hg.2.2 hq];rfl
abbrev Tx:=List UInt8
def Asc(l:List Tx):Prop:=l.Pairwise (·<·)
end Big
end Go.Proofs.YtkoaogkknnelaaaGreatDoor
