import Derived.Test.YtkoaogkknnelaaaGreatDoorM4
import Derived.Lib.Strings
import Derived.Laws.Entries
set_option linter.unusedVariables false
set_option linter.unusedSimpArgs false
namespace Go.Proofs.YtkoaogkknnelaaaGreatDoor
namespace Big
open Lib renaming hid → J
open Go.RowKit
theorem NL(a b:List UInt8):(⟨a.toArray⟩:ByteArray)++⟨b.toArray⟩=⟨(a++b).toArray⟩:=by
 apply qbW;simp
theorem Ap(a b:List UInt8)(h:a.length+b.length<=2147483648)(W:World):(binOp .add 9 (str a) (str b)).run Tryz.prog W= .ok (str (a++b)) W:=by
 unfold str;simp[go_sem,NL];omega
theorem Q7(r:Nat)(h:r<10):(⟨#[48,49,50,51,52,53,54,55,56,57]⟩:ByteArray).extract r (r+1)=⟨[UInt8.ofNat (48+r)].toArray⟩:=by
 have:r=0\/r=1\/r=2\/r=3\/r=4\/r=5\/r=6\/r=7\/r=8\/r=9:=by omega
 rcases this with rfl|rfl|rfl|rfl|rfl|rfl|rfl|rfl|rfl|rfl<;>rfl
theorem Kf(r:Nat)(h:r<10)(t:List UInt8)(ht:t.length<=1073741824)(W:World):
  (binOp .add 9 (.string ((⟨#[48,49,50,51,52,53,54,55,56,57]⟩:ByteArray).extract r (r+1))) (str t)).run Tryz.prog W= .ok (str (UInt8.ofNat (48+r)::t)) W:=by
 rw[Q7 r h];exact Ap [UInt8.ofNat (48+r)] t (by simp;omega) W
def Ad(l:List UInt8)(i:Nat):Nat:=(l.getD i 0).toNat
theorem CL(l:List UInt8)(i:Nat):Ad l i<256:=UInt8.toNat_lt _
theorem BC(l:List UInt8)(i:Nat)(h:i<l.length):Ad l i=l[i].toNat:=by
 unfold Ad;rw[qac,qaa h];rfl
theorem Cl(l:List UInt8):(⟨l.toArray⟩:ByteArray).size=l.length:=by simp[ByteArray.size]
@[go_sem] theorem TO (l:List UInt8) (ty:TypeId) (W:World):(Builtin.len_ #[9] ty #[str l]).run Tryz.prog W= .ok (.int .i64 (l.length:Int)) W:=by
  have:=run_len_string (P:=Tryz.prog) W 9 ty ⟨l.toArray⟩ Tryz.underlying9;rw[Cl]at this;exact this
@[go_sem] theorem TP (l:List UInt8) (k:IntKind) (i:Int) (W:World):
  (Instr.index 9 (str l) (.int k i)).run Tryz.prog W=if 0<=i/\i<(l.length:Int) then .ok (.int .u8 (Ad l i.toNat:Int)) W else (boundsPanic k i (l.length:Int) .index).run Tryz.prog W:=by
  have h2:=run_index_string (P:=Tryz.prog) W 9 ⟨l.toArray⟩ k i Tryz.underlying9;by_cases h:0<=i/\i<(l.length:Int)
  ·rw[dif_pos ⟨h.1,by rw[Cl];exact h.2⟩]at h2;have h3:i.toNat<l.length:=by omega
   rw[if_pos h,BC l _ h3];exact h2
  ·rw[dif_neg (by rw[Cl];exact h),Cl]at h2;rw[if_neg h];exact h2
@[go_sem] theorem TR (op:BinOp) (t:TypeId) (x y:Operand) (a:List UInt8) (v:Value):eqGuard op t x y (str a) v=pure ():=by
  unfold str;cases op<;>cases v<;>rfl
@[go_sem] theorem Ps (op:BinOp) (t:TypeId) (x y:Operand) (a:List UInt8) (s:ByteArray):eqGuard op t x y (.string s) (str a)=pure ():=by
  unfold str;cases op<;>rfl
@[go_sem] theorem TC (a b:List UInt8):binOp .eql 9 (str a) (str b)=pure (.bool (a == b)):=by
  unfold str;rw[binOp_string_eql,ByteArray.toList_mk,ByteArray.toList_mk]
@[go_sem] theorem Ts (a b:List UInt8):binOp .neq 9 (str a) (str b)=pure (.bool !(a == b)):=by
  unfold str;rw[binOp_string_neq,ByteArray.toList_mk,ByteArray.toList_mk]
@[go_sem] theorem Tb (a b:List UInt8):binOp .eql 9 (str a) (.string ⟨b.toArray⟩)=pure (.bool (a == b)):=TC a b
@[go_sem] theorem Ta (a b:List UInt8):binOp .neq 9 (str a) (.string ⟨b.toArray⟩)=pure (.bool !(a == b)):=Ts a b
theorem FV(l:List UInt8)(a b:Nat):(⟨l.toArray⟩:ByteArray).extract a b=⟨((l.drop a).take (b-a)).toArray⟩:=by
 apply qbW;apply qcg;rw[Lib.extract_data]
@[go_sem] theorem S9 (l:List UInt8) (k k':IntKind) (i j:Int) (W:World):
  (Instr.slice 9 (str l) (some (.int k i)) (some (.int k' j)) none).run Tryz.prog W=
   if 0<=j/\j<=(l.length:Int) then
    (if 0<=i/\i<=j then .ok (str ((l.take j.toNat).drop i.toNat)) W
     else ((boundsPanic k i j.toNat .sliceB:Sem Nat).run Tryz.prog W).andThen fun a w'=> .ok (str ((l.take j.toNat).drop a)) w')
   else ((boundsPanic k' j l.length .sliceAlen:Sem Nat).run Tryz.prog W).andThen fun b w'=>
    ((Instr.sliceBound (.int k i) b .sliceB).run Tryz.prog w').andThen fun a w''=> .ok (str ((l.take b).drop a)) w'':=by
  unfold str;rw[run_slice_string_if (P:=Tryz.prog) W 9 ⟨l.toArray⟩ k k' i j Tryz.underlying9];simp only[Cl,FV,List.drop_take]
@[go_sem] theorem NT (l:List UInt8) (k:IntKind) (i:Int) (W:World):
  (Instr.slice 9 (str l) (some (.int k i)) none none).run Tryz.prog W=
   if 0<=i/\i<=(l.length:Int) then .ok (str (l.drop i.toNat)) W else ((boundsPanic k i l.length .sliceB:Sem Nat).run Tryz.prog W).andThen fun a w'=> .ok (str (l.drop a)) w':=by
  unfold str;rw[run_slice_string_from_if (P:=Tryz.prog) W 9 ⟨l.toArray⟩ k i Tryz.underlying9];have hd:∀a,(l.drop a).take (l.length-a)=l.drop a:=fun a=>qak (by simp)
  simp only[Cl,FV,hd]
@[go_sem] theorem P2 (l:List UInt8) (k:IntKind) (j:Int) (W:World):
  (Instr.slice 9 (str l) none (some (.int k j)) none).run Tryz.prog W=
   if 0<=j/\j<=(l.length:Int) then .ok (str (l.take j.toNat)) W else ((boundsPanic k j l.length .sliceAlen:Sem Nat).run Tryz.prog W).andThen fun a w'=> .ok (str (l.take a)) w':=by
  unfold str;rw[run_slice_string_to_if (P:=Tryz.prog) W 9 ⟨l.toArray⟩ k j Tryz.underlying9];simp only[Cl,FV,qco,Nat.sub_zero]
@[go_sem high] theorem S8 (P:Program) (w:World) (a:Addr) (l:List UInt8) (m:Mode):(store a (str l) m).run P w=stored P w a (str l) m:=run_store P w a _ m rfl
@[go_sem high] theorem Ub (l:List UInt8):(str l).cells= #[str l]:=rfl
@[go_sem high] theorem Rq (l:List UInt8):(match str l with|Value.agg cs=>cs|v=> #[v])= #[str l]:=rfl
@[go_sem high] theorem TQ (l:List UInt8):(str l).oneCell'=true:=rfl
theorem TU(w:World)(v:Value)(xs:List Nat)(i:Int)(h:Arr w v xs)(h0:0<=i)(h1:i<xs.length):
  Calls Tryz.prog 176 #[v,.int .i64 i] w fun e w'=>e= .returned (.int .u64 (xs.getD i.toNat 0:Nat))/\w=w':=by
 obtain⟨n,rfl⟩:=qcv h0;rw[qaq];obtain⟨an,A,c,rfl,hc,hm,aa⟩:=h.open;obtain⟨b,o,rfl,hb,aa⟩:=aa (by omega);have hx:=aa n (by omega);clear aa h hm;have fp:=an.get n;obtain⟨x,hxe⟩:∃x,xs.getD n 0=x:=⟨_,rfl⟩;rw[hxe]at hx fp ⊢;clear hxe;simp only[d32]at hx;have hd:decide ((xs.length:Int)<=n)=false:=by simp;omega
 have bE:decide (xs.length<=n)=false:=by simp;omega
 go_enter Tryz.func176,Tryz.ntmps176
 go_wp2
 go_ret;exact⟨rfl,rfl⟩
theorem To(w:World)(v:Value)(xs:List Nat)(i:Int)(h:Arr w v xs)(h1:(xs.length:Int)<=i):
  Calls Tryz.prog 176 #[v,.int .i64 i] w fun e w'=>e= .returned (.int .u64 (xs.getD i.toNat 0:Nat))/\w=w':=by
 have hz:xs.getD i.toNat 0=0:=by rw[qac,qaz (by omega)];rfl
 rw[hz];obtain⟨an,A,c,rfl,hc,hm,aa⟩:=h.open;clear aa h hm hz;have hd:decide ((xs.length:Int)<=i)=true:=by simp;omega
 have h0:¬i<0:=by omega
 go_enter Tryz.func176,Tryz.ntmps176
 go_wp2
 go_ret;exact⟨rfl,rfl⟩
theorem IN(w:World)(v:Value)(xs:List Nat)(i:Int)(h:Arr w v xs)(h0:0<=i):
  Calls Tryz.prog 176 #[v,.int .i64 i] w fun e w'=>e= .returned (.int .u64 (xs.getD i.toNat 0:Nat))/\w=w':=by
 rcases Int.lt_or_le i xs.length with h1|h1
 ·exact TU w v xs i h h0 h1
 ·exact To w v xs i h h1
theorem D3(w:World)(v:Value)(xs:List Nat)(h:Arr w v xs)(hn:xs.length<=1073741824):
  Calls Tryz.prog 120 #[v] w fun e w'=>∃v',e= .returned v'/\Own w.heap.size w' v' (Af (val xs))/\Ext w w':=by
 have HA:=J h;have HN:=J hn;obtain⟨an,A,c,rfl,hc,hm,aa⟩:=h.open;clear h hn;unfold maxLen at hm;go_enter Tryz.func120,Tryz.ntmps120
 go_wp2
 go_loop [3] (fun n=>∃k:Nat,k<=xs.length/\n= .int .i64 k/\∀i,k<=i->xs.getD i 0=0) (fun n=>(intOf n).toNat)
 case atStart=>exact⟨_,qad _,rfl,fun i hi=>by rw[qac,qaz hi];rfl⟩
 case round=>
  obtain⟨k,hk,rfl,hz⟩:=hrel;have HZ:=J hz;clear hz;have HC:=J aa;clear aa;have fx:(0<k->xs.getD (k-1) 0≠0)->Arr w (.slice A k c) (Af (val xs)):=fun ht=>by
   have hs:=I4 xs k hk HZ.o ht;obtain⟨A',c',he,ha⟩:=HA.o.take (size xs) (size_le xs);injection he with he1 he2 he3
   subst he1 he3;rw[Dt an,hs]at ha;exact ha
  have HF:=J fx;clear fx;have oA:([]:List Nat).length+(Af (val xs)).length<=2147483648:=by
   have:=AG an;have:=HN.o;simp;omega
  have fZ:=J oA;clear oA;have tail:∀(_:0<k->xs.getD (k-1) 0≠0),True:=fun _=>trivial
  clear tail;by_cases h0:k=0
  ·subst h0;have HX:=J (HF.o (by omega));go_wp2_with (at_builtin;go_must (refine Be rfl _ _ rfl rfl (Own.empty w.heap.size _ _) rfl (HX.o.ext ((Ext.refl _).alloc _)) fZ.o (by simp) ?_;intro v' w' ac hgr hb));go_ret;exact⟨_,rfl,ac,((Ext.refl w).alloc _).more hb⟩
  ·obtain⟨b,o,rfl,hb,aa⟩:=HC.o (by omega);have hx:=aa (k-1) (by omega);clear aa;obtain⟨m,rfl⟩:∃m,k=m+1:=⟨k-1,by omega⟩;simp only[qbE,d32]at hx;by_cases hx0:xs.getD m 0=0
   ·have uP:((xs.getD m 0:Int) == 0)=true:=by rw[hx0];rfl
    have HX:=J hx0;clear hx0;obtain⟨y,hy⟩:∃y,xs.getD m 0=y:=⟨_,rfl⟩;rw[hy]at hx uP;clear hy
    go_wp2
    go_round
    case rel=>exact⟨m,by omega,by go_num,fun i hi=>by
     rcases qam m i with h1|h1
     ·exact HZ.o i h1
     ·obtain rfl:i=m:=by omega
      exact HX.o⟩
    case measure=>simp[intOf]
   ·have uP:((xs.getD m 0:Int) == 0)=false:=by rw[beq_eq_false_iff_ne];omega
    have HX:=J (HF.o (fun _=>hx0));clear hx0;obtain⟨y,hy⟩:∃y,xs.getD m 0=y:=⟨_,rfl⟩;rw[hy]at hx uP;clear hy;go_wp2_with (at_builtin;go_must (refine Be rfl _ _ rfl rfl (Own.empty w.heap.size _ _) rfl (HX.o.ext ((Ext.refl _).alloc _)) fZ.o (by simp) ?_;intro v' w' ac hgr hb));go_ret;exact⟨_,rfl,ac,((Ext.refl w).alloc _).more hb⟩
theorem GS(w:World)(v u:Value)(xs ys:List Nat)(h:Arr w v xs)(h':Arr w u ys)(hn:xs.length<=1073741824)(cC:ys.length<=1073741824):
  Calls Tryz.prog 134 #[v,u] w fun e w'=>e= .returned (.int .i64 (DN (val xs) (val ys)))/\w=w':=by
 have HA:=J h;have HB:=J h';obtain⟨an,A,c,rfl,hc,hm,aa⟩:=h.open;obtain⟨dE,A',c',rfl,hc',qw,bv⟩:=h'.open;have X7:∀k,xs.length<=k->ys.length<=k->val (xs.drop k)=val (ys.drop k):=fun k h1 h2=>by
  rw[qaS h1,qaS h2]
 have HD:=J X7;clear h h' aa bv hm qw hc hc' X7;rcases qam xs.length ys.length with ak|ak
 all_goals
  go_enter Tryz.func134,Tryz.ntmps134;go_wp2_with fail
  go_loop [5] (fun i=>∃k:Nat,k<=1073741824/\i= .int .i64 ((k:Int)-1)/\val (xs.drop k)=val (ys.drop k)) (fun i=>(intOf i+1).toNat)
  case atStart=>first|exact⟨_,cC,rfl,HD.o _ (by omega) (by omega)⟩|exact⟨_,hn,rfl,HD.o _ (by omega) (by omega)⟩
  case round=>
   obtain⟨k,hk,rfl,hv⟩:=hrel;have HV:=J hv;clear hv;rcases qar k with h0|h0
   ·subst h0;have HE:=J (Py (show val xs=val ys from HV.o));go_wp2_with fail;go_ret;exact⟨congrArg (fun z=>Ending.returned (.int .i64 z)) HE.o.symm,rfl⟩
   ·obtain⟨m,rfl⟩:∃m,k=m+1:=⟨k-1,by omega⟩;have HX:=J (IN w _ xs (m:Int) HA.o (by omega));have HY:=J (IN w _ ys (m:Int) HB.o (by omega));rw[qaq]at HX HY;have HL:=J (G9 an m HV.o);have HG:=J (G9 dE m HV.o.symm);have HE:=J (fun he=>Ng (xs:=xs) (ys:=ys) m HV.o he);obtain⟨x,hxe⟩:∃x,xs.getD m 0=x:=⟨_,rfl⟩;obtain⟨y,j6⟩:∃y,ys.getD m 0=y:=⟨_,rfl⟩;rw[hxe]at HX HL HG HE;rw[j6]at HY HL HG HE;clear hxe j6;rcases qca x y with kR|rfl|kR
    ·have HC:=J (Ge (HL.o kR));go_wp2_with fail;refine HX.o.mono ?_;rintro e w' ⟨rfl,rfl⟩
     go_wp2_with fail;refine HY.o.mono ?_;rintro e w' ⟨rfl,rfl⟩
     go_wp2_with fail;go_ret;exact⟨congrArg (fun z=>Ending.returned (.int .i64 z)) HC.o.symm,rfl⟩
    ·have iR:=J (HE.o rfl);go_wp2_with fail;refine HX.o.mono ?_;rintro e w' ⟨rfl,rfl⟩
     go_wp2_with fail;refine HY.o.mono ?_;rintro e w' ⟨rfl,rfl⟩
     go_wp2_with fail;refine HX.o.mono ?_;rintro e w' ⟨rfl,rfl⟩
     go_wp2_with fail;refine HY.o.mono ?_;rintro e w' ⟨rfl,rfl⟩
     go_wp2_with fail
     go_round
     case rel=>exact⟨m,by omega,rfl,iR.o⟩
     case measure=>simp[intOf]
    ·have HC:=J (LP (HG.o kR));go_wp2_with fail;refine HX.o.mono ?_;rintro e w' ⟨rfl,rfl⟩
     go_wp2_with fail;refine HY.o.mono ?_;rintro e w' ⟨rfl,rfl⟩
     go_wp2_with fail;refine HX.o.mono ?_;rintro e w' ⟨rfl,rfl⟩
     go_wp2_with fail;refine HY.o.mono ?_;rintro e w' ⟨rfl,rfl⟩
     go_wp2_with fail;go_ret;exact⟨congrArg (fun z=>Ending.returned (.int .i64 z)) HC.o.symm,rfl⟩
theorem Ec{w:World}{g:Nat}{t:TypeId}{a b:Value}(h:Blk w g t #[a,b])(a' b':Value):
  (w.setCell ⟨g,0,none⟩ a').cell? ⟨g,0,none⟩=some a'/\((w.setCell ⟨g,0,none⟩ a').setCell ⟨g,1,none⟩ b').cell? ⟨g,1,none⟩=some b':=
 ⟨(h.set_ 0 a').cell 0,((h.set_ 0 a').set_ 1 b').cell 1⟩
end Big
end Go.Proofs.YtkoaogkknnelaaaGreatDoor
