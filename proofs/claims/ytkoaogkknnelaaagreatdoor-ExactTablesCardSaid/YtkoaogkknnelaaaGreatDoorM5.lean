import Derived.Test.YtkoaogkknnelaaaGreatDoorM4
import Derived.WalkLawsBesides
import Derived.WalkSpells
import Derived.BigQuiet
import Derived.Deep.QuietTactic
import Derived.Deep.DeepFit
import Derived.Deep.LoopGhost
import Derived.Handy
set_option linter.unusedVariables false
set_option linter.unusedSimpArgs false
set_option maxRecDepth 100000
namespace Go.Proofs.YtkoaogkknnelaaaGreatDoor
namespace Big
open Lib renaming hid → J
open Go.RowKit
theorem CJ(w:World)(v:Value)(xs:List Nat)(h:Arr w v xs):
  Calls Tryz.prog 177 #[v] w fun e w'=>e= .returned (.int .i64 (size xs))/\w=w':=by
 obtain⟨aA,A,c,rfl,hc,hm,aa⟩:=h.open;unfold maxLen at hm;go_enter Tryz.func177,Tryz.ntmps177
 go_wp2
 go_loop [3] (fun n=>∃k:Nat,k<=xs.length/\n= .int .i64 k/\∀i,k<=i->xs.getD i 0=0) (fun n=>(intOf n).toNat)
 case atStart=>exact⟨_,qab _,rfl,fun i hi=>by rw[qaa,qav hi];rfl⟩
 case round=>
  obtain⟨k,hk,rfl,hz⟩:=hrel;have HZ:=J hz;clear hz;have HC:=J aa;clear aa;by_cases h0:k=0
  ·subst h0;have hs:=Jf xs 0 hk HZ.o (by omega);have HS:=J hs;clear hs
   go_wp2
   go_ret;rw[HS.o];exact⟨rfl,rfl⟩
  ·obtain⟨b,o,rfl,hb,aa⟩:=HC.o (by omega);have hx:=aa (k-1) (by omega);clear aa;obtain⟨m,rfl⟩:∃m,k=m+1:=⟨k-1,by omega⟩;simp only[qbC,d32]at hx;by_cases hx0:xs.getD m 0=0
   ·have fF:((xs.getD m 0:Int) == 0)=true:=by rw[hx0];rfl
    have HX:=J hx0;clear hx0;obtain⟨y,hy⟩:∃y,xs.getD m 0=y:=⟨_,rfl⟩;rw[hy]at hx fF;clear hy
    go_wp2
    go_round
    case rel=>exact⟨m,by omega,by go_num,fun i hi=>by
     rcases qah m i with h1|h1
     ·exact HZ.o i h1
     ·obtain rfl:i=m:=by omega
      exact HX.o⟩
    case measure=>simp[intOf]
   ·have fF:((xs.getD m 0:Int) == 0)=false:=by rw[beq_eq_false_iff_ne];omega
    have hs:=Jf xs (m+1) hk HZ.o (fun _=>hx0);have HS:=J hs;clear hs;generalize xs.getD m 0=y at *;clear hx0
    go_wp2
    go_ret;rw[HS.o];exact⟨rfl,rfl⟩
theorem QQ(w:World)(v:Value)(xs:List Nat)(h:Arr w v xs)(hn:xs.length<=1073741824):
  Calls Tryz.prog 222 #[v] w fun e w'=>∃v',e= .returned v'/\Own w.heap.size w' v' xs/\Ext w w':=by
 have HA:=J h;obtain⟨aA,A,c,rfl,hc,hm,aa⟩:=h.open;have HM:=J hm;have HN:=J hn;have HC:=J aa;clear h hm hn aa;obtain⟨i0,hi,aD,hz1,bu⟩:=info_parts JR;rcases A with _|a
 ·have h0:xs=[]:=by
   rcases qag xs.length with h|h
   ·exact qap h
   ·obtain⟨b,o,he,_⟩:=HC.o h;cases he
  subst h0;have hE:=fun W c=>Lib.run_eql_slice_nil (P:=Tryz.prog) W 22 183 none 0 c 0 0 Tryz.underlying22
  go_enter Tryz.func222,Tryz.ntmps222
  go_wp2
  go_ret;exact⟨_,rfl,Own.none_ _ _,Ext.refl _⟩
 ·have hE:=fun W n c=>Lib.run_eql_slice_nil (P:=Tryz.prog) W 22 183 (some a) n c 0 0 Tryz.underlying22
  go_enter Tryz.func222,Tryz.ntmps222;have om:([]:List Nat).length+xs.length<=2147483648:=by have:=HN.o;simp;omega
  have jA:=J om;clear om;go_wp2_with (at_builtin;go_must (refine AW rfl _ _ rfl rfl (Own.empty w.heap.size _ _) rfl (HA.o.ext ((Ext.refl _).alloc _)) jA.o (by simp) ?_;intro v' w' al aC hb));go_ret;exact⟨_,rfl,al,((Ext.refl w).alloc _).more hb⟩
theorem Bu(w:World)(v:Value)(xs:List Nat)(h:Arr w v xs)(hn:xs.length<=1073741824):
  Calls Tryz.prog 188 #[v] w fun e w'=>∃v',e= .returned v'/\Own w.heap.size w' v' (Ac (val xs))/\Ext w w':=by
 have HS:=J (CJ w v xs h);have cH:=CG xs;have HT:=J (Cf h.ok);have HA:=J h;have HN:=J hn;obtain⟨aA,A,c,rfl,hc,hm,aa⟩:=h.open;have HM:=J hm;clear h hn aa hm;go_enter Tryz.func188,Tryz.ntmps188;go_wp2_with fail;refine HS.o.mono ?_
 rintro e w' ⟨rfl,rfl⟩;go_wp2_with fail;obtain⟨A',c',he,ha⟩:=HA.o.take (size xs) cH;injection he with he1 he2 he3
 subst he1 he3;rw[HT.o]at ha;have hc:=QQ w _ _ ha (qae (Aq aA) HN.o);refine hc.mono ?_
 rintro e w' ⟨v',rfl,ho,hx⟩;go_wp2_with fail;go_ret;exact⟨_,rfl,ho,hx⟩
theorem Ut(w:World)(v:Value)(xs:List Nat)(i:Int)(h:Arr w v xs)(h0:0<=i)(h1:i<xs.length):
  Calls Tryz.prog 176 #[v,.int .i64 i] w fun e w'=>e= .returned (.int .u64 (xs.getD i.toNat 0:Nat))/\w=w':=by
 obtain⟨n,rfl⟩:=qbF h0;rw[qaq];obtain⟨aA,A,c,rfl,hc,hm,aa⟩:=h.open;obtain⟨b,o,rfl,hb,aa⟩:=aa (by omega);have hx:=aa n (by omega);clear aa h hm;have cW:=aA.get n;obtain⟨x,bS⟩:∃x,xs.getD n 0=x:=⟨_,rfl⟩;rw[bS]at hx cW ⊢;clear bS;simp only[d32]at hx;have hd:decide ((xs.length:Int)<=n)=false:=by simp;omega
 have eH:decide (xs.length<=n)=false:=by simp;omega
 go_enter Tryz.func176,Tryz.ntmps176
 go_wp2
 go_ret;exact⟨rfl,rfl⟩
theorem To(w:World)(v:Value)(xs:List Nat)(i:Int)(h:Arr w v xs)(h1:(xs.length:Int)<=i):
  Calls Tryz.prog 176 #[v,.int .i64 i] w fun e w'=>e= .returned (.int .u64 (xs.getD i.toNat 0:Nat))/\w=w':=by
 have hz:xs.getD i.toNat 0=0:=by rw[qaa,qav (by omega)];rfl
 rw[hz];obtain⟨aA,A,c,rfl,hc,hm,aa⟩:=h.open;clear aa h hm hz;have hd:decide ((xs.length:Int)<=i)=true:=by simp;omega
 have h0:¬i<0:=by omega
 go_enter Tryz.func176,Tryz.ntmps176
 go_wp2
 go_ret;exact⟨rfl,rfl⟩
theorem Dy(w:World)(v:Value)(xs:List Nat)(i:Int)(h:Arr w v xs)(h0:0<=i):
  Calls Tryz.prog 176 #[v,.int .i64 i] w fun e w'=>e= .returned (.int .u64 (xs.getD i.toNat 0:Nat))/\w=w':=by
 rcases Int.lt_or_le i xs.length with h1|h1
 ·exact Ut w v xs i h h0 h1
 ·exact To w v xs i h h1
theorem CA(w:World)(v:Value)(xs:List Nat)(h:Arr w v xs)(hn:xs.length<=1073741824):
  Calls Tryz.prog 120 #[v] w fun e w'=>∃v',e= .returned v'/\Own w.heap.size w' v' (Ac (val xs))/\Ext w w':=by
 have HA:=J h;have HN:=J hn;obtain⟨aA,A,c,rfl,hc,hm,aa⟩:=h.open;clear h hn;unfold maxLen at hm;go_enter Tryz.func120,Tryz.ntmps120
 go_wp2
 go_loop [3] (fun n=>∃k:Nat,k<=xs.length/\n= .int .i64 k/\∀i,k<=i->xs.getD i 0=0) (fun n=>(intOf n).toNat)
 case atStart=>exact⟨_,qab _,rfl,fun i hi=>by rw[qaa,qav hi];rfl⟩
 case round=>
  obtain⟨k,hk,rfl,hz⟩:=hrel;have HZ:=J hz;clear hz;have HC:=J aa;clear aa;have dQ:(0<k->xs.getD (k-1) 0≠0)->Arr w (.slice A k c) (Ac (val xs)):=fun ht=>by
   have hs:=Jf xs k hk HZ.o ht;obtain⟨A',c',he,ha⟩:=HA.o.take (size xs) (CG xs);injection he with he1 he2 he3
   subst he1 he3;rw[Cf aA,hs]at ha;exact ha
  have HF:=J dQ;clear dQ;have we:([]:List Nat).length+(Ac (val xs)).length<=2147483648:=by
   have:=Aq aA;have:=HN.o;simp;omega
  have ed:=J we;clear we;have tail:∀(_:0<k->xs.getD (k-1) 0≠0),True:=fun _=>trivial
  clear tail;by_cases h0:k=0
  ·subst h0;have HX:=J (HF.o (by omega));go_wp2_with (at_builtin;go_must (refine AW rfl _ _ rfl rfl (Own.empty w.heap.size _ _) rfl (HX.o.ext ((Ext.refl _).alloc _)) ed.o (by simp) ?_;intro v' w' al aC hb));go_ret;exact⟨_,rfl,al,((Ext.refl w).alloc _).more hb⟩
  ·obtain⟨b,o,rfl,hb,aa⟩:=HC.o (by omega);have hx:=aa (k-1) (by omega);clear aa;obtain⟨m,rfl⟩:∃m,k=m+1:=⟨k-1,by omega⟩;simp only[qbC,d32]at hx;by_cases hx0:xs.getD m 0=0
   ·have fF:((xs.getD m 0:Int) == 0)=true:=by rw[hx0];rfl
    have HX:=J hx0;clear hx0;obtain⟨y,hy⟩:∃y,xs.getD m 0=y:=⟨_,rfl⟩;rw[hy]at hx fF;clear hy
    go_wp2
    go_round
    case rel=>exact⟨m,by omega,by go_num,fun i hi=>by
     rcases qah m i with h1|h1
     ·exact HZ.o i h1
     ·obtain rfl:i=m:=by omega
      exact HX.o⟩
    case measure=>simp[intOf]
   ·have fF:((xs.getD m 0:Int) == 0)=false:=by rw[beq_eq_false_iff_ne];omega
    have HX:=J (HF.o (fun _=>hx0));clear hx0;obtain⟨y,hy⟩:∃y,xs.getD m 0=y:=⟨_,rfl⟩;rw[hy]at hx fF;clear hy;go_wp2_with (at_builtin;go_must (refine AW rfl _ _ rfl rfl (Own.empty w.heap.size _ _) rfl (HX.o.ext ((Ext.refl _).alloc _)) ed.o (by simp) ?_;intro v' w' al aC hb));go_ret;exact⟨_,rfl,al,((Ext.refl w).alloc _).more hb⟩
theorem DD(w:World)(v u:Value)(xs ys:List Nat)(h:Arr w v xs)(h':Arr w u ys)(hn:xs.length<=1073741824)(bA:ys.length<=1073741824):
  Calls Tryz.prog 134 #[v,u] w fun e w'=>e= .returned (.int .i64 (BZ (val xs) (val ys)))/\w=w':=by
 have HA:=J h;have HB:=J h';obtain⟨aA,A,c,rfl,hc,hm,aa⟩:=h.open;obtain⟨bR,A',c',rfl,gH,mO,ar⟩:=h'.open;have Yb:∀k,xs.length<=k->ys.length<=k->val (xs.drop k)=val (ys.drop k):=fun k h1 h2=>by
  rw[qaS h1,qaS h2]
 have HD:=J Yb;clear h h' aa ar hm mO hc gH Yb;rcases qah xs.length ys.length with aH|aH
 all_goals
  go_enter Tryz.func134,Tryz.ntmps134;go_wp2_with fail
  go_loop [5] (fun i=>∃k:Nat,k<=1073741824/\i= .int .i64 ((k:Int)-1)/\val (xs.drop k)=val (ys.drop k)) (fun i=>(intOf i+1).toNat)
  case atStart=>first|exact⟨_,bA,rfl,HD.o _ (by omega) (by omega)⟩|exact⟨_,hn,rfl,HD.o _ (by omega) (by omega)⟩
  case round=>
   obtain⟨k,hk,rfl,hv⟩:=hrel;have HV:=J hv;clear hv;rcases qag k with h0|h0
   ·subst h0;have HE:=J (LL (show val xs=val ys from HV.o));go_wp2_with fail;go_ret;exact⟨congrArg (fun z=>Ending.returned (.int .i64 z)) HE.o.symm,rfl⟩
   ·obtain⟨m,rfl⟩:∃m,k=m+1:=⟨k-1,by omega⟩;have HX:=J (Dy w _ xs (m:Int) HA.o (by omega));have HY:=J (Dy w _ ys (m:Int) HB.o (by omega));rw[qaq]at HX HY;have HL:=J (He aA m HV.o);have HG:=J (He bR m HV.o.symm);have HE:=J (fun he=>MU (xs:=xs) (ys:=ys) m HV.o he);obtain⟨x,bS⟩:∃x,xs.getD m 0=x:=⟨_,rfl⟩;obtain⟨y,ei⟩:∃y,ys.getD m 0=y:=⟨_,rfl⟩;rw[bS]at HX HL HG HE;rw[ei]at HY HL HG HE;clear bS ei;rcases qcg x y with mI|rfl|mI
    ·have HC:=J (Ff (HL.o mI));go_wp2_with fail;refine HX.o.mono ?_;rintro e w' ⟨rfl,rfl⟩
     go_wp2_with fail;refine HY.o.mono ?_;rintro e w' ⟨rfl,rfl⟩
     go_wp2_with fail;go_ret;exact⟨congrArg (fun z=>Ending.returned (.int .i64 z)) HC.o.symm,rfl⟩
    ·have fw:=J (HE.o rfl);go_wp2_with fail;refine HX.o.mono ?_;rintro e w' ⟨rfl,rfl⟩
     go_wp2_with fail;refine HY.o.mono ?_;rintro e w' ⟨rfl,rfl⟩
     go_wp2_with fail;refine HX.o.mono ?_;rintro e w' ⟨rfl,rfl⟩
     go_wp2_with fail;refine HY.o.mono ?_;rintro e w' ⟨rfl,rfl⟩
     go_wp2_with fail
     go_round
     case rel=>exact⟨m,by omega,rfl,fw.o⟩
     case measure=>simp[intOf]
    ·have HC:=J (LK (HG.o mI));go_wp2_with fail;refine HX.o.mono ?_;rintro e w' ⟨rfl,rfl⟩
     go_wp2_with fail;refine HY.o.mono ?_;rintro e w' ⟨rfl,rfl⟩
     go_wp2_with fail;refine HX.o.mono ?_;rintro e w' ⟨rfl,rfl⟩
     go_wp2_with fail;refine HY.o.mono ?_;rintro e w' ⟨rfl,rfl⟩
     go_wp2_with fail;go_ret;exact⟨congrArg (fun z=>Ending.returned (.int .i64 z)) HC.o.symm,rfl⟩
theorem B7{w:World}{g:Nat}{t:TypeId}{a b:Value}(h:Blk w g t #[a,b])(a' b':Value):
  (w.setCell ⟨g,0,none⟩ a').cell? ⟨g,0,none⟩=some a'/\((w.setCell ⟨g,0,none⟩ a').setCell ⟨g,1,none⟩ b').cell? ⟨g,1,none⟩=some b':=
 ⟨(h.set_ 0 a').cell 0,((h.set_ 0 a').set_ 1 b').cell 1⟩
end Big
end Go.Proofs.YtkoaogkknnelaaaGreatDoor
