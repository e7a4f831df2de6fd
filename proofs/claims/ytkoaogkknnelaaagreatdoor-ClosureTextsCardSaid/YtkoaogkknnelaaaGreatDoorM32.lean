import Derived.Test.YtkoaogkknnelaaaGreatDoorM31
import Derived.Test.YtkoaogkknnelaaaGreatDoorShelf3
import Derived.Sort.OwnSorted
set_option linter.unusedVariables false
set_option linter.unusedSimpArgs false
set_option maxHeartbeats 4000000
set_option maxRecDepth 100000
namespace Go.Proofs.YtkoaogkknnelaaaGreatDoor
namespace Big
open Lib renaming hid → J
open Go.RowKit
theorem EL:∀(x y:List UInt8),Op.bytesLess x y=decide (x<y)
 |[],[]=>by simp[Op.bytesLess]
 |_::_,[]=>by simp[Op.bytesLess]
 |[],_::_=>by simp[Op.bytesLess]
 |a::x,b::y=>by
  rw[Op.bytesLess,EL x y];by_cases h1:a<b
  ·simp[h1,List.cons_lt_cons_iff]
  ·by_cases h2:a=b
   ·subst h2;simp
   ·simp[h1,h2,List.cons_lt_cons_iff]
@[go_sem] theorem Uk (a b:List UInt8):binOp .lss 9 (str a) (str b)=pure (.bool (decide (a<b))):=by
  unfold str;rw[binOp_string_lss,ByteArray.toList_mk,ByteArray.toList_mk,EL]
theorem LK:∀(out:List Tx) (i:Nat) (s:Tx),(∀j (hj:j<out.length),j<i->out[j]<s)->i<=out.length->(∀hi:i<out.length,¬out[i]<s/\out[i]≠s)->DY s out=out.take i++s::out.drop i
 |[],i,s,_,hi,_=>by
  have:i=0:=by simpa using hi
  subst this;rfl
 |x::xs,0,s,_,_,h=>by
  have h2:=h (by simp);simp only[qbA]at h2;unfold DY;rw[if_neg h2.1,if_neg h2.2];rfl
 |x::xs,i+1,s,h,hi,h2=>by
  have h0:=h 0 (by simp) (by omega);simp only[qbA]at h0;unfold DY;rw[if_pos h0,LK xs i s (fun j hj jQ=>by have:=h (j+1) (by simpa using hj) (by omega);simpa using this) (by simpa using hi) (fun eT=>by have:=h2 (by simpa using eT);simpa using this)];rfl
theorem KZ:∀(out:List Tx) (i:Nat) (s:Tx) (hi:i<out.length),(∀j (hj:j<out.length),j<i->out[j]<s)->out[i]=s->DY s out=out
 |x::xs,0,s,_,_,h=>by
  simp only[qbA]at h;subst h;unfold DY;rw[if_neg (Ds _),if_pos rfl]
 |x::xs,i+1,s,hi,h,h2=>by
  have h0:=h 0 (by simp) (by omega);simp only[qbA]at h0;unfold DY;rw[if_pos h0,KZ xs i s (by simpa using hi) (fun j hj jQ=>by have:=h (j+1) (by simpa using hj) (by omega);simpa using this) (by simpa using h2)]
theorem NO(ls:List Tx)(s:Tx):BZ (ls++[s])=DY s (BZ ls):=by unfold BZ;rw[qaO];rfl
theorem M0(s:Tx):∀l:List Tx,(DY s l).length<=l.length+1
 |[]=>by simp[DY]
 |x::xs=>by
  unfold DY;split
  ·have:=M0 s xs;simp only[qat];omega
  ·split<;>simp
theorem Hp(ls:List Tx):(BZ ls).length<=ls.length:=by
 have key:∀(l out:List Tx),(l.foldl (fun out s=>DY s out) out).length<=l.length+out.length:=by
  intro l
  induction l with
  |nil=>intro out;simp
  |cons x l ih=>
   intro out;have h1:=ih (DY x out);have h2:=M0 x out;rw[qbd,qat];omega
 have:=key ls [];rw[qaE,qbc]at this;exact this
theorem Ce.empty(B:Nat)(w:World)(A:Option Addr):Ce B w (.slice A 0 0) []:=Cp.empty _ B w A
theorem CH {w:World} {v src:Value} {xs ys:List (List UInt8)} {B:Nat} {ii:Array Oper} {o:Oper} {a:Act} {K:Act->World->Prop} {Q:Exit->Act->World->Prop} {E:Prop} (hw:Region.wanted o (yielded ii a.tmps)=true) (s x:Operand)
  (ho:o.op= .call { callee:= .builtin .append,args:= #[s,x],argTypes:= #[30,30] })
  (hs:a.eval s=v) (ac:Ce B w v xs) (hx:a.eval x=src) (fr:BB w src ys) (hn:xs.length+ys.length<=2147483648) (bx:B<=w.heap.size)
  (h:∀v' w',Ce B w' v' (xs++ys)->w.grownBy w' (Im v)->Below B w w'->K (a.put o.dst v') w'):if Region.wanted o (yielded ii a.tmps)=true then Oper.wp Tryz.prog o a w K Q else E:=by
 rw[if_pos hw];obtain⟨i0,hi,aR,hz1,aU⟩:=info_parts ES;refine Gl s x 30 ho 9 i0 _ 16 Tryz.underlying30 hi aR hz1 aU rfl hs ac hx fr MG (by simp only[qag];unfold maxLen;omega) (by simp only[qag];omega) bx (fun v' w' h1 h2 h3=>h v' w' ?_ h2 h3);unfold Ce;rw[qaB];exact h1
theorem Ext.of_none{w w':World}(h:w.grownBy w' none):Ext w w':=⟨h.os,h.tape,h.output,h.size,fun k hk=>h.block k hk (by simp)⟩
theorem Ru(out:List Tx)(i:Nat)(h:out.length<=1000000):(out.take i).length<=1073741824/\(out.take i).length+1+(out.drop i).length<=1073741824:=by
 rw[qas,qaU];omega
theorem Li{P:Program}(W:World)(T e:TypeId)(A:Option Addr)(n c i:Nat)(hT:P.underlying T=some (.slice e))(hE:P.elem T=e)(i0:TypeInfo)(hi:P.info? e=some i0)(hz:i0.size=1)(h:i<=c):
  (Instr.slice T (.slice A n c) none (some (.int .i64 (i:Int))) none).run P W= .ok (.slice A i c) W:=by
 rw[run_slice_h W T A n c (by rw[hE];exact hT) .i64 (i:Int) (by omega) (by omega)];have hs:(sizeOf (P.elem T)).run P W= .ok 1 W:=by rw[hE];simp[sizeOf,typeInfo,hi,hz]
 rw[hs];simp only[Result.andThen,sliced,qaq,Nat.zero_mul,Nat.sub_zero];split
 ·rfl
 ·cases A<;>simp[Addr.add]
theorem I2{P:Program}(W:World)(T e:TypeId)(A:Option Addr)(n c i:Nat)(hT:P.underlying T=some (.slice e))(hE:P.elem T=e)(i0:TypeInfo)(hi:P.info? e=some i0)(hz:i0.size=1)(h:i<=n):
  (Instr.slice T (.slice A n c) (some (.int .i64 (i:Int))) none none).run P W= .ok (.slice (if c=i then A else A.map (·.add (i*1))) (n-i) (c-i)) W:=by
 rw[run_slice_l W T A n c (by rw[hE];exact hT) .i64 (i:Int) (by omega) (by omega)];have hs:(sizeOf (P.elem T)).run P W= .ok 1 W:=by rw[hE];simp[sizeOf,typeInfo,hi,hz]
 rw[hs];simp only[Result.andThen,sliced,qaq]
theorem Me{B:Nat}{w:World}{A:Option Addr}{m c:Nat}{out:List (List UInt8)}(h:Ce B w (.slice A m c) out)(i:Nat)(hi:i<=out.length):
  ∃v1,(∀W:World,(Instr.slice 30 (.slice A m c) none (some (.int .i64 (i:Int))) none).run Tryz.prog W= .ok v1 W)/\∀W,Ext w W->BB W v1 (out.take i):=by
 obtain⟨A',c',he,h2,h3,h4⟩:=h.arr;injection he with e1 e2 e3
 subst e1 e2 e3;rw[qag]at h2;refine⟨.slice A i c,fun W=> ?_,fun W hx=> ?_⟩
 ·have bj:Tryz.prog.elem 30=9:=by kernel_rfl
  obtain⟨i0,dW,_,hz1,_⟩:=info_parts ES;exact Li W 30 9 A _ c i Tryz.underlying30 bj i0 dW hz1 (by omega)
 ·have hl:(out.take i).length=i:=by rw[qas];omega
  refine⟨A,c,by rw[qag,hl],by rw[qag,hl];omega,h3,fun hp=> ?_⟩;rw[qag,hl]at hp;rw[qag]at h4;obtain⟨b,o,hb,hlt,hc⟩:=h4 (by omega);refine⟨b,o,hb,qaj hlt hx.size,fun j u hj=>(hx.cell hlt).trans (hc j u ?_)⟩;rw[List.map_take]at hj;rw[qcm]at hj;split at hj
  ·exact hj
  ·cases hj
theorem I3{B:Nat}{w:World}{A:Option Addr}{m c:Nat}{out:List (List UInt8)}(h:Ce B w (.slice A m c) out)(i:Nat)(hi:i<=out.length):
  ∃v1,(∀W:World,(Instr.slice 30 (.slice A m c) (some (.int .i64 (i:Int))) none none).run Tryz.prog W= .ok v1 W)/\∀W,Ext w W->BB W v1 (out.drop i):=by
 obtain⟨A',c',he,h2,h3,h4⟩:=h.arr;injection he with e1 e2 e3
 subst e1 e2 e3;rw[qag]at h2;have bj:Tryz.prog.elem 30=9:=by kernel_rfl
 obtain⟨i0,dW,_,hz1,_⟩:=info_parts ES;refine⟨.slice (if c=i then A else A.map (·.add (i*1))) ((out.map str).length-i) (c-i),fun W=> ?_,fun W hx=> ?_⟩
 ·exact I2 W 30 9 A _ c i Tryz.underlying30 bj i0 dW hz1 (by rw[qag];omega)
 ·have hl:(out.drop i).length=out.length-i:=by rw[qaU]
  rw[qag]at h4 ⊢;refine⟨_,c-i,by rw[qag,hl],by rw[qag,hl];omega,by omega,fun hp=> ?_⟩;rw[qag,hl]at hp;obtain⟨b,o,rfl,hlt,hc⟩:=h4 (by omega);rw[if_neg (by omega)];refine⟨b,o+i,by simp[Addr.add],qaj hlt hx.size,fun j u hj=>(hx.cell hlt).trans ?_⟩;rw[qbT];refine hc (i+j) u ?_
  rw[List.map_drop,List.getElem?_drop]at hj;exact hj
theorem Du(w:World)(v:Value)(ls:List (List UInt8))(h:BB w v ls)(hn:ls.length<=1000000)(Wj:∀x∈ls,x.length<=1073741824):
  Calls Tryz.prog 91 #[v] w fun e w'=>∃v',e= .returned v'/\Ce w.heap.size w' v' (BZ ls)/\Ext w w':=by
 obtain⟨A,c,rfl,dG,cZ,aa⟩:=h.open;have HC:=J aa;clear aa h dG cZ Wj;obtain⟨n,bB⟩:∃n,n=ls.length:=⟨_,rfl⟩;have HN:=J bB;rw[<-bB]at hn ⊢;clear bB;obtain⟨B,hB⟩:∃B,B=w.heap.size:=⟨_,rfl⟩;have my:Hid (B<=w.heap.size):=J (by omega);rw[<-hB];clear hB;go_enter Tryz.func91,Tryz.ntmps91;go_wp2_with fail;go_loopw [3,9] (fun s3 s9 wr=>∃k:Nat,k<=n/\s9= .int .i64 (k:Int)/\Ce B wr s3 (BZ (ls.take k))/\Ext w wr) (fun _ s9 _=>n-(intOf s9).toNat)
 case atStart=>exact⟨0,qal _,rfl,Ce.none_ _ _,Ext.refl w⟩
 case round=>
  obtain⟨k,hk,rfl,ac,ai⟩:=hrel;obtain⟨m,A3,c3,rfl⟩:=ac.arr.shape;have hm:=ac.arr.len;have yb:Hid (k<n->IntKind.i64.wrap ((k:Int)+1)=(k:Int)+1):=J (fun h=>IntWalk.i64_in _ (by omega));have U2:=Hp (ls.take k);rw[qas]at U2;have kh:(BZ (ls.take k)).length<=1000000:=by omega
  clear U2;generalize wr=wa at *;have aM:=J ai;by_cases hlt:k<n
  ·have hit:k<ls.length:=by rw[<-HN.o];exact hlt
   obtain⟨b,o,rfl,i3,qI⟩:=HC.o (by omega);have hx:=(ai.cell i3).trans (qI k hit);have HT:Hid (BZ (ls.take (k+1))=DY ls[k] (BZ (ls.take k))):=J (by rw[qah hit,NO]);generalize ls[k]=s at *;obtain⟨out,iX⟩:∃out,BZ (ls.take k)=out:=⟨_,rfl⟩;have ib:=J iX;rw[iX]at ac hm kh;have HO:=J ac;have jP:m<=out.length:=by omega
   have cZ:out.length<=m:=by omega
   have aB:=J (yb.o hlt);clear hm;have lN:Hid (∀W:World,BB (W.alloc (.cells #[str s] 9)) (.slice (some ⟨W.heap.size,0,none⟩) 1 1) [s]):=J (fun W=>BB.fresh1 W s);have yO:Hid (∀o:Obj,BB ((wa.alloc o).alloc (.cells #[str s] 9)) (.slice (some ⟨wa.heap.size+1,0,none⟩) 1 1) [s]):=J (fun o=>by
    have:=BB.fresh1 (wa.alloc o) s;rw[show (wa.alloc o).heap.size=wa.heap.size+1 by simp]at this;exact this)
   have hki:(k:Int)<(n:Int):=by omega
   have g3:(0:Int)<=(k:Int):=by omega
   clear ac ai qI iX
   go_upto_block 5 with fail
   go_loopw [6] (fun s6 wq=>∃i:Nat,i<=m/\s6= .int .i64 (i:Int)/\Hid (∀j (hj:j<out.length),j<i->out[j]<s)/\wa=wq) (fun s6 _=>m-(intOf s6).toNat)
   case atStart=>exact⟨0,qal _,rfl,J (fun j _ hj=>absurd hj (Nat.not_lt_zero j)),rfl⟩
   case round=>
    obtain⟨i,hi,rfl,eK,rfl⟩:=hrel;have dW:(0:Int)<=(i:Int):=by omega
    by_cases hil:i<m
    ·obtain⟨A',c',hv,_,_,zn⟩:=HO.o.arr.open;injection hv with hv1 hv2 hv3
     subst hv1;clear hv2 hv3;have X1:i<out.length:=by omega
     obtain⟨bo,oo,rfl,_,zn⟩:=zn (by omega);have hy:=zn i X1;have cV:Hid (out[i]<s->∀j (hj:j<out.length),j<i+1->out[j]<s):=J (fun h j hj jQ=>by
      rcases qam j i with h2|h2
      ·exact eK.o j hj h2
      ·have:j=i:=by omega
       subst this;exact h)
     have mW:Hid (out[i]=s->DY s out=out):=J (fun h=>KZ out i s X1 eK.o h);have fF:Hid (¬out[i]<s->out[i]≠s->∀hi:i<out.length,¬out[i]<s/\out[i]≠s):=J (fun h1 h2 _=>⟨h1,h2⟩);have z1:decide (i<m)=true:=decide_eq_true hil;have Y8:(i:Int)<(m:Int):=by omega
     have z2:((i:Int) == (m:Int))=false:=by rw[beq_eq_false_iff_ne];omega
     have z3:(i == m)=false:=by rw[beq_eq_false_iff_ne];omega
     have HWI:Hid (IntKind.i64.wrap ((i:Int)+1)=(i:Int)+1):=J (IntWalk.i64_in _ (by omega));clear zn;generalize out[i]=x at *;by_cases hxs:x<s
     ·have hd:decide (x<s)=true:=decide_eq_true hxs;have cm:=J (cV.o hxs);clear hxs;have lS:=HWI.o;go_wp2_with fail;clear lS;go_roundw
      case rel=>exact⟨i+1,by omega,by go_num,cm,trivial⟩
      case measure=>simp[intOf];omega
     ·have hd:decide (x<s)=false:=decide_eq_false hxs;by_cases hxe:x=s
      ·have fj:=J (mW.o hxe);have he:(x == s)=true:=by rw[hxe];exact beq_self_eq_true _
       clear hxs hxe;have jn:=aB.o;go_wp2_with fail;clear jn;go_roundw
       case rel=>exact⟨k+1,by omega,by go_num,by rw[HT.o,ib.o,fj.o];exact HO.o,aM.o⟩
       case measure=>simp[intOf];omega
      ·have he:(x == s)=false:=by rw[beq_eq_false_iff_ne];exact hxe
       have dQ:=J (fF.o hxs hxe);clear hxs hxe;have uu:=J (LK out i s eK.o (by omega) (dQ.o));obtain⟨v1,dU,dV⟩:=Me (B:=B) (w:=wa) HO.o i (by omega);obtain⟨v2,cn,dM⟩:=I3 (B:=B) (w:=wa) HO.o i (by omega);have kF:=J dV;have lF:=J dM;have bD:Hid ((out.take i).length<=1073741824/\(out.take i).length+1+(out.drop i).length<=1073741824):=J (Ru out i (by omega));generalize out.take i=o1 at *;generalize out.drop i=o2 at *;clear dV dM;go_upto_region 9 with fail
       go_region_law (first
        |(refine CH rfl (.tmp 39) (.tmp 42) rfl rfl (Ce.empty wa.heap.size _ _) rfl (kF.o _ (by repeat (first|exact Ext.refl _|(with_reducible apply Ext.drew)|(with_reducible apply Ext.alloc)))) (by have:=bD.o;simp;omega) (by first|(simp;done)|(simp;omega)) ?_;intro v3 w3 ek oK eV;have ag:=J (Ext.of_none oK);have xV:Hid (Ext wa w3):=J (Ext.trans (by repeat (first|exact Ext.refl _|(with_reducible apply Ext.drew)|(with_reducible apply Ext.alloc))) ag.o);rw[qaG]at ek;have kH:=J ek;clear ek oK eV)
        |(refine CH rfl (.tmp 43) (.tmp 45) rfl rfl (kH.o.ext (by repeat (first|exact Ext.refl _|(with_reducible apply Ext.drew)|(with_reducible apply Ext.alloc)))) rfl (show BB _ _ [s] from ?_) (by have:=bD.o;simp;omega) (by have:=xV.o.size;first|omega|(simp;done)|(simp;omega)) ?_;(first|exact lN.o _|(focus (refine BB.ext (lN.o w3) ?_;(repeat (first|exact Ext.refl _|(with_reducible apply Ext.drew)|(with_reducible apply Ext.alloc)));done))|(focus (refine BB.ext (BB.ext (yO.o (.cells #[] 9)) ?_) ag.o;(repeat (first|exact Ext.refl _|(with_reducible apply Ext.drew)|(with_reducible apply Ext.alloc)));done))|(focus (refine BB.ext (BB.ext (lN.o wa) ?_) ag.o;(repeat (first|exact Ext.refl _|(with_reducible apply Ext.drew)|(with_reducible apply Ext.alloc)));done)));intro v4 w4 jO rJ p8;have t3:Hid (Ext wa w4):=J (Ext.more (Ext.trans xV.o (by repeat (first|exact Ext.refl _|(with_reducible apply Ext.drew)|(with_reducible apply Ext.alloc)))) p8);have ne:=J jO;clear jO rJ p8)
        |(refine CH (B:=wa.heap.size) (xs:=o1++[s]) (ys:=o2) rfl (.tmp 46) (.tmp 49) rfl rfl ne.o rfl (lF.o _ t3.o) ?_ ?_ ?_;(have:=bD.o;simp;omega);(have:=t3.o.size;omega);intro v5 w5 eI kp fB;have md:Hid (Ext wa w5):=J (Ext.more t3.o fB);have ic:=J eI;clear eI kp fB))
       all_goals
        have fe:Hid (Ce B w5 v5 (BZ (ls.take (k+1)))):=J (by
         rw[HT.o,ib.o,uu.o];have h5:=ic.o.mono (qaf my.o aM.o.size);rw[qan]at h5;exact h5)
        obtain⟨n5,A5,c5,rfl⟩:=ic.o.arr.shape;have ba:=J (aM.o.trans md.o);have jn:=aB.o;go_wp2_with fail;clear jn;go_roundw
        case rel=>exact⟨k+1,by omega,by go_num,fe.o,ba.o⟩
        case measure=>simp[intOf];omega
    ·have z1:decide (i<m)=false:=decide_eq_false hil;obtain rfl:i=m:=by omega
     have Y8:¬(i:Int)<(i:Int):=by omega
     have z2:((i:Int) == (i:Int))=true:=by simp
     have z3:(i == i)=true:=by simp
     have uu:=J (LK out i s eK.o (by omega) (fun h=>absurd h (by omega)));obtain⟨v1,dU,dV⟩:=Me (B:=B) (w:=wa) HO.o i (by omega);obtain⟨v2,cn,dM⟩:=I3 (B:=B) (w:=wa) HO.o i (by omega);have kF:=J dV;have lF:=J dM;have bD:Hid ((out.take i).length<=1073741824/\(out.take i).length+1+(out.drop i).length<=1073741824):=J (Ru out i (by omega));generalize out.take i=o1 at *;generalize out.drop i=o2 at *;clear dV dM;go_upto_region 9 with fail
     go_region_law (first
      |(refine CH rfl (.tmp 39) (.tmp 42) rfl rfl (Ce.empty wa.heap.size _ _) rfl (kF.o _ (by repeat (first|exact Ext.refl _|(with_reducible apply Ext.drew)|(with_reducible apply Ext.alloc)))) (by have:=bD.o;simp;omega) (by first|(simp;done)|(simp;omega)) ?_;intro v3 w3 ek oK eV;have ag:=J (Ext.of_none oK);have xV:Hid (Ext wa w3):=J (Ext.trans (by repeat (first|exact Ext.refl _|(with_reducible apply Ext.drew)|(with_reducible apply Ext.alloc))) ag.o);rw[qaG]at ek;have kH:=J ek;clear ek oK eV)
      |(refine CH rfl (.tmp 43) (.tmp 45) rfl rfl (kH.o.ext (by repeat (first|exact Ext.refl _|(with_reducible apply Ext.drew)|(with_reducible apply Ext.alloc)))) rfl (show BB _ _ [s] from ?_) (by have:=bD.o;simp;omega) (by have:=xV.o.size;first|omega|(simp;done)|(simp;omega)) ?_;(first|exact lN.o _|(focus (refine BB.ext (lN.o w3) ?_;(repeat (first|exact Ext.refl _|(with_reducible apply Ext.drew)|(with_reducible apply Ext.alloc)));done))|(focus (refine BB.ext (BB.ext (yO.o (.cells #[] 9)) ?_) ag.o;(repeat (first|exact Ext.refl _|(with_reducible apply Ext.drew)|(with_reducible apply Ext.alloc)));done))|(focus (refine BB.ext (BB.ext (lN.o wa) ?_) ag.o;(repeat (first|exact Ext.refl _|(with_reducible apply Ext.drew)|(with_reducible apply Ext.alloc)));done)));intro v4 w4 jO rJ p8;have t3:Hid (Ext wa w4):=J (Ext.more (Ext.trans xV.o (by repeat (first|exact Ext.refl _|(with_reducible apply Ext.drew)|(with_reducible apply Ext.alloc)))) p8);have ne:=J jO;clear jO rJ p8)
      |(refine CH (B:=wa.heap.size) (xs:=o1++[s]) (ys:=o2) rfl (.tmp 46) (.tmp 49) rfl rfl ne.o rfl (lF.o _ t3.o) ?_ ?_ ?_;(have:=bD.o;simp;omega);(have:=t3.o.size;omega);intro v5 w5 eI kp fB;have md:Hid (Ext wa w5):=J (Ext.more t3.o fB);have ic:=J eI;clear eI kp fB))
     all_goals
      have fe:Hid (Ce B w5 v5 (BZ (ls.take (k+1)))):=J (by
       rw[HT.o,ib.o,uu.o];have h5:=ic.o.mono (qaf my.o aM.o.size);rw[qan]at h5;exact h5)
      obtain⟨n5,A5,c5,rfl⟩:=ic.o.arr.shape;have ba:=J (aM.o.trans md.o);have jn:=aB.o;go_wp2_with fail;clear jn;go_roundw
      case rel=>exact⟨k+1,by omega,by go_num,fe.o,ba.o⟩
      case measure=>simp[intOf];omega
  ·obtain rfl:k=n:=by omega
   have HA:Hid (BZ (ls.take k)=BZ ls):=J (by rw[HN.o,qbr]);have HE:=J ac;rw[HA.o]at HE;clear ac ai kh hlt hm;go_wp2_with fail;go_ret;exact⟨_,rfl,HE.o,aM.o⟩
open Go.RowKit Go.Maps Go.Sort Go.WideShapes Go.ChangeMaps Go.MapKept
theorem FC(l:List Nat)(a:Nat):∀F:List Bool,BP F (l++[a])=(BP F l).set a true:=by
 induction l with
 |nil=>intro F;rfl
 |cons b l ih=>intro F;exact ih (F.set b true)
def AT(ns:List Nd)(i k:Nat)(t:Tx):Prop:=∃j x,k<=j/\Bn ns i j/\ns[j]? =some x/\x.kind=2/\x.text=t
theorem AT.zero{ns:List Nd}{i:Nat}{t:Tx}:AT ns i 0 t↔AK ns i t:=
 ⟨fun ⟨j,x,_,h1,h2,h3,h4⟩=>⟨j,x,h1,h2,h3,h4⟩,fun ⟨j,x,h1,h2,h3,h4⟩=>⟨j,x,qal _,h1,h2,h3,h4⟩⟩
theorem AT.top{ns:List Nd}(hs:Ax ns){i:Nat}{t:Tx}:¬AT ns i (i+1) t:=fun ⟨j,_,h0,h1,_⟩=>by
 have:=h1.le hs;omega
theorem AT.skip{ns:List Nd}{i k:Nat}(h:¬Bn ns i k\/∀x,ns[k]? =some x->x.kind≠2)(t:Tx):AT ns i (k+1) t↔AT ns i k t:=by
 constructor
 ·rintro⟨j,x,h0,h1⟩;exact⟨j,x,by omega,h1⟩
 ·rintro⟨j,x,h0,h1,h2,h3,h4⟩;refine⟨j,x,?_,h1,h2,h3,h4⟩;rcases qam k j with h5|h5
  ·exact h5
  ·obtain rfl:j=k:=by omega
   rcases h with h|h
   ·exact absurd h1 h
   ·exact absurd h3 (h x h2)
theorem AT.add{ns:List Nd}{i k:Nat}{x:Nd}(hr:Bn ns i k)(hx:ns[k]? =some x)(hk:x.kind=2)(t:Tx):(t=x.text\/AT ns i (k+1) t)↔AT ns i k t:=by
 constructor
 ·rintro(rfl|⟨j,y,h0,h1⟩)
  ·exact⟨k,x,qad _,hr,hx,hk,rfl⟩
  ·exact⟨j,y,by omega,h1⟩
 ·rintro⟨j,y,h0,h1,h2,h3,h4⟩;rcases qam k j with h5|h5
  ·exact .inr ⟨j,y,h5,h1,h2,h3,h4⟩
  ·obtain rfl:j=k:=by omega
   rw[hx]at h2;injection h2 with h2
   subst h2;exact .inl h4.symm
theorem Qv{ns:List Nd}{i b m:Nat}{w:World}{D:DataW Unit}{ss:List Tx}(ac:w.ownsMap Tryz.prog 9 (plainElem Tryz.prog 4) b m D)(hD:∀t,has D (.string t)=true↔AK ns i t)(hp:ss.Perm (strKeys D)):
  EF ns i (ss.mergeSort (fun x y=>decide (x<=y))):=by
 have hm:∀t,t∈ss.mergeSort (fun x y=>decide (x<=y))↔AK ns i t:=fun t=>by
  rw[List.mem_mergeSort,hp.mem_iff,Do.keys ac,hD t]
 have hnd:ss.Nodup:=by
  obtain⟨es,clock,hb,F,hs,qN⟩:=ac;have qu:=fit_apart (string_keyed Tryz.underlying9) F;have h2:(strKeys D).Nodup:=by
   rw[qN];show ((((es.toList.map (Go.WideElems.rg Tryz.prog 9 (plainElem Tryz.prog 4))).foldr DataW.insert [])).map fun p=>strOf p.1).Nodup;have hk:=fit_keys F;refine((sorted_perm _).map _).nodup_iff.2 ?_
   refine List.pairwise_map.2 (qu.imp_of_mem fun {p q} hp' hq' hne e=>hne ?_);obtain⟨v,hv⟩:=hk p hp';obtain⟨v',vO⟩:=hk q hq';obtain⟨x,_,hx,_⟩:=Maps.keyOf_str Tryz.underlying9 hv;obtain⟨y,_,hy,_⟩:=Maps.keyOf_str Tryz.underlying9 vO;rw[hx,hy]at e ⊢;exact congrArg _ e
  exact hp.nodup_iff.2 h2
 refine⟨?_,hm⟩;have hs:=GP ss;have tc:(ss.mergeSort (fun x y=>decide (x<=y))).Nodup:=(List.mergeSort_perm ss _).nodup_iff.2 hnd;exact(hs.and tc).imp fun {a b} ⟨h1,h2⟩=>Eb h1 h2
end Big
end Go.Proofs.YtkoaogkknnelaaaGreatDoor
