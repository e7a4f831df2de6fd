import Derived.Test.YtkoaogkknnelaaaGreatDoorM31
import Derived.Test.YtkoaogkknnelaaaGreatDoorShelf3
import Derived.Sort.OwnSorted
set_option linter.unusedVariables false
set_option linter.unusedSimpArgs false
set_option maxHeartbeats 4000000
set_option maxRecDepth 100000
namespace Go.Proofs.YtkoaogkknnelaaaGreatDoor
namespace Big
open Lib renaming hid → J
open Go.RowKit
def T7(e:Ex)(i:Int):Nat:=if 0<=i/\i<(e.size:Int) then (szE e).getD i.toNat 0 else 0
def TU(l:List Nd):List (List UInt8):=(l.filter fun x=>x.kind == 2).map Nd.text
theorem EQ:∀(x y:List UInt8),Op.bytesLess x y=decide (x<y)
 |[],[]=>by simp[Op.bytesLess]
 |_::_,[]=>by simp[Op.bytesLess]
 |[],_::_=>by simp[Op.bytesLess]
 |a::x,b::y=>by
  rw[Op.bytesLess,EQ x y];by_cases h1:a<b
  ·simp[h1,List.cons_lt_cons_iff]
  ·by_cases h2:a=b
   ·subst h2;simp
   ·simp[h1,h2,List.cons_lt_cons_iff]
@[go_sem] theorem TV (a b:List UInt8):binOp .lss 9 (str a) (str b)=pure (.bool (decide (a<b))):=by
  unfold str;rw[binOp_string_lss,ByteArray.toList_mk,ByteArray.toList_mk,EQ]
theorem LK:∀(out:List Tx) (i:Nat) (s:Tx),(∀j (hj:j<out.length),j<i->out[j]<s)->i<=out.length->(∀hi:i<out.length,¬out[i]<s/\out[i]≠s)->Eg s out=out.take i++s::out.drop i
 |[],i,s,_,hi,_=>by
  have:i=0:=by simpa using hi
  subst this;rfl
 |x::xs,0,s,_,_,h=>by
  have h2:=h (by simp);simp only[List.getElem_cons_zero]at h2;unfold Eg;rw[if_neg h2.1,if_neg h2.2];rfl
 |x::xs,i+1,s,h,hi,h2=>by
  have h0:=h 0 (by simp) (by omega);simp only[List.getElem_cons_zero]at h0;unfold Eg;rw[if_pos h0,LK xs i s (fun j hj r7=>by have:=h (j+1) (by simpa using hj) (by omega);simpa using this) (by simpa using hi) (fun fz=>by have:=h2 (by simpa using fz);simpa using this)];rfl
theorem KZ:∀(out:List Tx) (i:Nat) (s:Tx) (hi:i<out.length),(∀j (hj:j<out.length),j<i->out[j]<s)->out[i]=s->Eg s out=out
 |x::xs,0,s,_,_,h=>by
  simp only[List.getElem_cons_zero]at h;subst h;unfold Eg;rw[if_neg (Bt _),if_pos rfl]
 |x::xs,i+1,s,hi,h,h2=>by
  have h0:=h 0 (by simp) (by omega);simp only[List.getElem_cons_zero]at h0;unfold Eg;rw[if_pos h0,KZ xs i s (by simpa using hi) (fun j hj r7=>by have:=h (j+1) (by simpa using hj) (by omega);simpa using this) (by simpa using h2)]
theorem Nv(ls:List Tx)(s:Tx):BQ (ls++[s])=Eg s (BQ ls):=by unfold BQ;rw[List.foldl_append];rfl
theorem MS(s:Tx):∀l:List Tx,(Eg s l).length<=l.length+1
 |[]=>by simp[Eg]
 |x::xs=>by
  unfold Eg;split
  ·have:=MS s xs;simp only[List.length_cons];omega
  ·split<;>simp
theorem Hs(ls:List Tx):(BQ ls).length<=ls.length:=by
 have key:∀(l out:List Tx),(l.foldl (fun out s=>Eg s out) out).length<=l.length+out.length:=by
  intro l
  induction l with
  |nil=>intro out;simp
  |cons x l ih=>
   intro out;have h1:=ih (Eg x out);have h2:=MS x out;rw[List.foldl_cons,List.length_cons];omega
 have:=key ls [];rw[List.length_nil,Nat.add_zero]at this;exact this
theorem BP.empty(B:Nat)(w:World)(A:Option Addr):BP B w (.slice A 0 0) []:=BJ.empty _ B w A
theorem CH {w:World} {v src:Value} {xs ys:List (List UInt8)} {B:Nat} {ops:Array Oper} {o:Oper} {a:Act} {K:Act->World->Prop} {Q:Exit->Act->World->Prop} {E:Prop} (hw:Region.wanted o (yielded ops a.tmps)=true) (s x:Operand)
  (ho:o.op= .call { callee:= .builtin .append,args:= #[s,x],argTypes:= #[30,30] })
  (hs:a.eval s=v) (ag:BP B w v xs) (hx:a.eval x=src) (eo:Bl w src ys) (hn:xs.length+ys.length<=2147483648) (bj:B<=w.heap.size)
  (h:∀v' w',BP B w' v' (xs++ys)->w.grownBy w' (Ea v)->Below B w w'->K (a.put o.dst v') w'):if Region.wanted o (yielded ops a.tmps)=true then Oper.wp Tryz.prog o a w K Q else E:=by
 rw[if_pos hw];obtain⟨i0,hi,aU,hz1,a9⟩:=info_parts E0;refine Gp s x 30 ho 9 i0 _ 16 Tryz.underlying30 hi aU hz1 a9 rfl hs ag hx eo My (by simp only[List.length_map];unfold maxLen;omega) (by simp only[List.length_map];omega) bj (fun v' w' h1 h2 h3=>h v' w' ?_ h2 h3);unfold BP;rw[List.map_append];exact h1
theorem Ext.of_none{w w':World}(h:w.grownBy w' none):Ext w w':=⟨h.os,h.tape,h.output,h.size,fun k hk=>h.block k hk (by simp)⟩
theorem QY(out:List Tx)(i:Nat)(h:out.length<=1000000):(out.take i).length<=1073741824/\(out.take i).length+1+(out.drop i).length<=1073741824:=by
 rw[List.length_take,List.length_drop];omega
theorem Ll{P:Program}(W:World)(T e:TypeId)(A:Option Addr)(n c i:Nat)(hT:P.underlying T=some (.slice e))(hE:P.elem T=e)(i0:TypeInfo)(hi:P.info? e=some i0)(hz:i0.size=1)(h:i<=c):
  (Instr.slice T (.slice A n c) none (some (.int .i64 (i:Int))) none).run P W= .ok (.slice A i c) W:=by
 rw[run_slice_h W T A n c (by rw[hE];exact hT) .i64 (i:Int) (by omega) (by omega)];have hs:(sizeOf (P.elem T)).run P W= .ok 1 W:=by rw[hE];simp[sizeOf,typeInfo,hi,hz]
 rw[hs];simp only[Result.andThen,sliced,Int.toNat_natCast,Nat.zero_mul,Nat.sub_zero];split
 ·rfl
 ·cases A<;>simp[Addr.add]
theorem I9{P:Program}(W:World)(T e:TypeId)(A:Option Addr)(n c i:Nat)(hT:P.underlying T=some (.slice e))(hE:P.elem T=e)(i0:TypeInfo)(hi:P.info? e=some i0)(hz:i0.size=1)(h:i<=n):
  (Instr.slice T (.slice A n c) (some (.int .i64 (i:Int))) none none).run P W= .ok (.slice (if c=i then A else A.map (·.add (i*1))) (n-i) (c-i)) W:=by
 rw[run_slice_l W T A n c (by rw[hE];exact hT) .i64 (i:Int) (by omega) (by omega)];have hs:(sizeOf (P.elem T)).run P W= .ok 1 W:=by rw[hE];simp[sizeOf,typeInfo,hi,hz]
 rw[hs];simp only[Result.andThen,sliced,Int.toNat_natCast]
theorem L9{B:Nat}{w:World}{A:Option Addr}{m c:Nat}{out:List (List UInt8)}(h:BP B w (.slice A m c) out)(i:Nat)(hi:i<=out.length):
  ∃v1,(∀W:World,(Instr.slice 30 (.slice A m c) none (some (.int .i64 (i:Int))) none).run Tryz.prog W= .ok v1 W)/\∀W,Ext w W->Bl W v1 (out.take i):=by
 obtain⟨A',c',he,h2,h3,h4⟩:=h.arr;injection he with e1 e2 e3
 subst e1 e2 e3;rw[List.length_map]at h2;refine⟨.slice A i c,fun W=> ?_,fun W hx=> ?_⟩
 ·have aB:Tryz.prog.elem 30=9:=by kernel_rfl
  obtain⟨i0,gA,_,hz1,_⟩:=info_parts E0;exact Ll W 30 9 A _ c i Tryz.underlying30 aB i0 gA hz1 (by omega)
 ·have hl:(out.take i).length=i:=by rw[List.length_take];omega
  refine⟨A,c,by rw[List.length_map,hl],by rw[List.length_map,hl];omega,h3,fun hp=> ?_⟩;rw[List.length_map,hl]at hp;rw[List.length_map]at h4;obtain⟨b,o,hb,hlt,hc⟩:=h4 (by omega);refine⟨b,o,hb,Nat.lt_of_lt_of_le hlt hx.size,fun j u hj=>(hx.cell hlt).trans (hc j u ?_)⟩;rw[List.map_take]at hj;rw[List.getElem?_take]at hj;split at hj
  ·exact hj
  ·cases hj
theorem Ja{B:Nat}{w:World}{A:Option Addr}{m c:Nat}{out:List (List UInt8)}(h:BP B w (.slice A m c) out)(i:Nat)(hi:i<=out.length):
  ∃v1,(∀W:World,(Instr.slice 30 (.slice A m c) (some (.int .i64 (i:Int))) none none).run Tryz.prog W= .ok v1 W)/\∀W,Ext w W->Bl W v1 (out.drop i):=by
 obtain⟨A',c',he,h2,h3,h4⟩:=h.arr;injection he with e1 e2 e3
 subst e1 e2 e3;rw[List.length_map]at h2;have aB:Tryz.prog.elem 30=9:=by kernel_rfl
 obtain⟨i0,gA,_,hz1,_⟩:=info_parts E0;refine⟨.slice (if c=i then A else A.map (·.add (i*1))) ((out.map str).length-i) (c-i),fun W=> ?_,fun W hx=> ?_⟩
 ·exact I9 W 30 9 A _ c i Tryz.underlying30 aB i0 gA hz1 (by rw[List.length_map];omega)
 ·have hl:(out.drop i).length=out.length-i:=by rw[List.length_drop]
  rw[List.length_map]at h4 ⊢;refine⟨_,c-i,by rw[List.length_map,hl],by rw[List.length_map,hl];omega,by omega,fun hp=> ?_⟩;rw[List.length_map,hl]at hp;obtain⟨b,o,rfl,hlt,hc⟩:=h4 (by omega);rw[if_neg (by omega)];refine⟨b,o+i,by simp[Addr.add],Nat.lt_of_lt_of_le hlt hx.size,fun j u hj=>(hx.cell hlt).trans ?_⟩;rw[Nat.add_assoc];refine hc (i+j) u ?_
  rw[List.map_drop,List.getElem?_drop]at hj;exact hj
theorem DE(w:World)(v:Value)(ls:List (List UInt8))(h:Bl w v ls)(hn:ls.length<=1000000)(UE:∀x∈ls,x.length<=1073741824):
  Calls Tryz.prog 91 #[v] w fun e w'=>∃v',e= .returned v'/\BP w.heap.size w' v' (BQ ls)/\Ext w w':=by
 obtain⟨A,c,rfl,hc2,lB,ac⟩:=h.open;have HC:=J ac;clear ac h hc2 lB UE;obtain⟨n,bh⟩:∃n,n=ls.length:=⟨_,rfl⟩;have HN:=J bh;rw[<-bh]at hn ⊢;clear bh;obtain⟨B,hB⟩:∃B,B=w.heap.size:=⟨_,rfl⟩;have ua:Hid (B<=w.heap.size):=J (by omega);rw[<-hB];clear hB;go_enter Tryz.func91,Tryz.ntmps91;go_wp2_with fail;go_loopw [3,9] (fun s3 s9 wr=>∃k:Nat,k<=n/\s9= .int .i64 (k:Int)/\BP B wr s3 (BQ (ls.take k))/\Ext w wr) (fun _ s9 _=>n-(intOf s9).toNat)
 case atStart=>exact⟨0,Nat.zero_le _,rfl,BP.none_ _ _,Ext.refl w⟩
 case round=>
  obtain⟨k,hk,rfl,ag,an⟩:=hrel;obtain⟨m,A3,c3,rfl⟩:=ag.arr.shape;have hm:=ag.arr.len;have wI:Hid (k<n->IntKind.i64.wrap ((k:Int)+1)=(k:Int)+1):=J (fun h=>IntWalk.i64_in _ (by omega));have V3:=Hs (ls.take k);rw[List.length_take]at V3;have uV:(BQ (ls.take k)).length<=1000000:=by omega
  clear V3;generalize wr=wa at *;have ax:=J an;by_cases hlt:k<n
  ·have hit:k<ls.length:=by rw[<-HN.o];exact hlt
   obtain⟨b,o,rfl,jS,pQ⟩:=HC.o (by omega);have hx:=(an.cell jS).trans (pQ k hit);have HT:Hid (BQ (ls.take (k+1))=Eg ls[k] (BQ (ls.take k))):=J (by rw[List.take_succ_eq_append_getElem hit,Nv]);generalize ls[k]=s at *;obtain⟨out,rM⟩:∃out,BQ (ls.take k)=out:=⟨_,rfl⟩;have gS:=J rM;rw[rM]at ag hm uV;have HO:=J ag;have kO:m<=out.length:=by omega
   have lB:out.length<=m:=by omega
   have aL:=J (wI.o hlt);clear hm;have ke:Hid (∀W:World,Bl (W.alloc (.cells #[str s] 9)) (.slice (some ⟨W.heap.size,0,none⟩) 1 1) [s]):=J (fun W=>Bl.fresh1 W s);have xu:Hid (∀o:Obj,Bl ((wa.alloc o).alloc (.cells #[str s] 9)) (.slice (some ⟨wa.heap.size+1,0,none⟩) 1 1) [s]):=J (fun o=>by
    have:=Bl.fresh1 (wa.alloc o) s;rw[show (wa.alloc o).heap.size=wa.heap.size+1 by simp]at this;exact this)
   have hki:(k:Int)<(n:Int):=by omega
   have fy:(0:Int)<=(k:Int):=by omega
   clear ag an pQ rM
   go_upto_block 5 with fail
   go_loopw [6] (fun s6 wq=>∃i:Nat,i<=m/\s6= .int .i64 (i:Int)/\Hid (∀j (hj:j<out.length),j<i->out[j]<s)/\wa=wq) (fun s6 _=>m-(intOf s6).toNat)
   case atStart=>exact⟨0,Nat.zero_le _,rfl,J (fun j _ hj=>absurd hj (Nat.not_lt_zero j)),rfl⟩
   case round=>
    obtain⟨i,hi,rfl,eJ,rfl⟩:=hrel;have gA:(0:Int)<=(i:Int):=by omega
    by_cases hil:i<m
    ·obtain⟨A',c',hv,_,_,xL⟩:=HO.o.arr.open;injection hv with hv1 hv2 hv3
     subst hv1;clear hv2 hv3;have Wl:i<out.length:=by omega
     obtain⟨bo,oo,rfl,_,xL⟩:=xL (by omega);have hy:=xL i Wl;have fL:Hid (out[i]<s->∀j (hj:j<out.length),j<i+1->out[j]<s):=J (fun h j hj r7=>by
      rcases Nat.lt_or_ge j i with h2|h2
      ·exact eJ.o j hj h2
      ·have:j=i:=by omega
       subst this;exact h)
     have jw:Hid (out[i]=s->Eg s out=out):=J (fun h=>KZ out i s Wl eJ.o h);have cW:Hid (¬out[i]<s->out[i]≠s->∀hi:i<out.length,¬out[i]<s/\out[i]≠s):=J (fun h1 h2 _=>⟨h1,h2⟩);have z1:decide (i<m)=true:=decide_eq_true hil;have Xr:(i:Int)<(m:Int):=by omega
     have z2:((i:Int) == (m:Int))=false:=by rw[beq_eq_false_iff_ne];omega
     have z3:(i == m)=false:=by rw[beq_eq_false_iff_ne];omega
     have ZL:Hid (IntKind.i64.wrap ((i:Int)+1)=(i:Int)+1):=J (IntWalk.i64_in _ (by omega));clear xL;generalize out[i]=x at *;by_cases hxs:x<s
     ·have hd:decide (x<s)=true:=decide_eq_true hxs;have dP:=J (fL.o hxs);clear hxs;have lr:=ZL.o;go_wp2_with fail;clear lr;go_roundw
      case rel=>exact⟨i+1,by omega,by go_num,dP,trivial⟩
      case measure=>simp[intOf];omega
     ·have hd:decide (x<s)=false:=decide_eq_false hxs;by_cases hxe:x=s
      ·have iG:=J (jw.o hxe);have he:(x == s)=true:=by rw[hxe];exact beq_self_eq_true _
       clear hxs hxe;have iW:=aL.o;go_wp2_with fail;clear iW;go_roundw
       case rel=>exact⟨k+1,by omega,by go_num,by rw[HT.o,gS.o,iG.o];exact HO.o,ax.o⟩
       case measure=>simp[intOf];omega
      ·have he:(x == s)=false:=by rw[beq_eq_false_iff_ne];exact hxe
       have dM:=J (cW.o hxs hxe);clear hxs hxe;have th:=J (LK out i s eJ.o (by omega) (dM.o));obtain⟨v1,eF,dS⟩:=L9 (B:=B) (w:=wa) HO.o i (by omega);obtain⟨v2,gk,dp⟩:=Ja (B:=B) (w:=wa) HO.o i (by omega);have jZ:=J dS;have k7:=J dp;have aW:Hid ((out.take i).length<=1073741824/\(out.take i).length+1+(out.drop i).length<=1073741824):=J (QY out i (by omega));generalize out.take i=o1 at *;generalize out.drop i=o2 at *;clear dS dp;go_upto_region 9 with fail
       go_region_law (first
        |(refine CH rfl (.tmp 39) (.tmp 42) rfl rfl (BP.empty wa.heap.size _ _) rfl (jZ.o _ (by repeat (first|exact Ext.refl _|(with_reducible apply Ext.drew)|(with_reducible apply Ext.alloc)))) (by have:=aW.o;simp;omega) (by first|(simp;done)|(simp;omega)) ?_;intro v3 w3 dr jN cV;have aj:=J (Ext.of_none jN);have ww:Hid (Ext wa w3):=J (Ext.trans (by repeat (first|exact Ext.refl _|(with_reducible apply Ext.drew)|(with_reducible apply Ext.alloc))) aj.o);rw[List.nil_append]at dr;have j7:=J dr;clear dr jN cV)
        |(refine CH rfl (.tmp 43) (.tmp 45) rfl rfl (j7.o.ext (by repeat (first|exact Ext.refl _|(with_reducible apply Ext.drew)|(with_reducible apply Ext.alloc)))) rfl (show Bl _ _ [s] from ?_) (by have:=aW.o;simp;omega) (by have:=ww.o.size;first|omega|(simp;done)|(simp;omega)) ?_;(first|exact ke.o _|(focus (refine Bl.ext (ke.o w3) ?_;(repeat (first|exact Ext.refl _|(with_reducible apply Ext.drew)|(with_reducible apply Ext.alloc)));done))|(focus (refine Bl.ext (Bl.ext (xu.o (.cells #[] 9)) ?_) aj.o;(repeat (first|exact Ext.refl _|(with_reducible apply Ext.drew)|(with_reducible apply Ext.alloc)));done))|(focus (refine Bl.ext (Bl.ext (ke.o wa) ?_) aj.o;(repeat (first|exact Ext.refl _|(with_reducible apply Ext.drew)|(with_reducible apply Ext.alloc)));done)));intro v4 w4 eR qG pd;have sE:Hid (Ext wa w4):=J (Ext.more (Ext.trans ww.o (by repeat (first|exact Ext.refl _|(with_reducible apply Ext.drew)|(with_reducible apply Ext.alloc)))) pd);have jm:=J eR;clear eR qG pd)
        |(refine CH (B:=wa.heap.size) (xs:=o1++[s]) (ys:=o2) rfl (.tmp 46) (.tmp 49) rfl rfl jm.o rfl (k7.o _ sE.o) ?_ ?_ ?_;(have:=aW.o;simp;omega);(have:=sE.o.size;omega);intro v5 w5 cY fT jT;have UI:Hid (Ext wa w5):=J (Ext.more sE.o jT);have gT:=J cY;clear cY fT jT))
       all_goals
        have fd:Hid (BP B w5 v5 (BQ (ls.take (k+1)))):=J (by
         rw[HT.o,gS.o,th.o];have h5:=gT.o.mono (Nat.le_trans ua.o ax.o.size);rw[List.append_assoc]at h5;exact h5)
        obtain⟨n5,A5,c5,rfl⟩:=gT.o.arr.shape;have bg:=J (ax.o.trans UI.o);have iW:=aL.o;go_wp2_with fail;clear iW;go_roundw
        case rel=>exact⟨k+1,by omega,by go_num,fd.o,bg.o⟩
        case measure=>simp[intOf];omega
    ·have z1:decide (i<m)=false:=decide_eq_false hil;obtain rfl:i=m:=by omega
     have Xr:¬(i:Int)<(i:Int):=by omega
     have z2:((i:Int) == (i:Int))=true:=by simp
     have z3:(i == i)=true:=by simp
     have th:=J (LK out i s eJ.o (by omega) (fun h=>absurd h (by omega)));obtain⟨v1,eF,dS⟩:=L9 (B:=B) (w:=wa) HO.o i (by omega);obtain⟨v2,gk,dp⟩:=Ja (B:=B) (w:=wa) HO.o i (by omega);have jZ:=J dS;have k7:=J dp;have aW:Hid ((out.take i).length<=1073741824/\(out.take i).length+1+(out.drop i).length<=1073741824):=J (QY out i (by omega));generalize out.take i=o1 at *;generalize out.drop i=o2 at *;clear dS dp;go_upto_region 9 with fail
     go_region_law (first
      |(refine CH rfl (.tmp 39) (.tmp 42) rfl rfl (BP.empty wa.heap.size _ _) rfl (jZ.o _ (by repeat (first|exact Ext.refl _|(with_reducible apply Ext.drew)|(with_reducible apply Ext.alloc)))) (by have:=aW.o;simp;omega) (by first|(simp;done)|(simp;omega)) ?_;intro v3 w3 dr jN cV;have aj:=J (Ext.of_none jN);have ww:Hid (Ext wa w3):=J (Ext.trans (by repeat (first|exact Ext.refl _|(with_reducible apply Ext.drew)|(with_reducible apply Ext.alloc))) aj.o);rw[List.nil_append]at dr;have j7:=J dr;clear dr jN cV)
      |(refine CH rfl (.tmp 43) (.tmp 45) rfl rfl (j7.o.ext (by repeat (first|exact Ext.refl _|(with_reducible apply Ext.drew)|(with_reducible apply Ext.alloc)))) rfl (show Bl _ _ [s] from ?_) (by have:=aW.o;simp;omega) (by have:=ww.o.size;first|omega|(simp;done)|(simp;omega)) ?_;(first|exact ke.o _|(focus (refine Bl.ext (ke.o w3) ?_;(repeat (first|exact Ext.refl _|(with_reducible apply Ext.drew)|(with_reducible apply Ext.alloc)));done))|(focus (refine Bl.ext (Bl.ext (xu.o (.cells #[] 9)) ?_) aj.o;(repeat (first|exact Ext.refl _|(with_reducible apply Ext.drew)|(with_reducible apply Ext.alloc)));done))|(focus (refine Bl.ext (Bl.ext (ke.o wa) ?_) aj.o;(repeat (first|exact Ext.refl _|(with_reducible apply Ext.drew)|(with_reducible apply Ext.alloc)));done)));intro v4 w4 eR qG pd;have sE:Hid (Ext wa w4):=J (Ext.more (Ext.trans ww.o (by repeat (first|exact Ext.refl _|(with_reducible apply Ext.drew)|(with_reducible apply Ext.alloc)))) pd);have jm:=J eR;clear eR qG pd)
      |(refine CH (B:=wa.heap.size) (xs:=o1++[s]) (ys:=o2) rfl (.tmp 46) (.tmp 49) rfl rfl jm.o rfl (k7.o _ sE.o) ?_ ?_ ?_;(have:=aW.o;simp;omega);(have:=sE.o.size;omega);intro v5 w5 cY fT jT;have UI:Hid (Ext wa w5):=J (Ext.more sE.o jT);have gT:=J cY;clear cY fT jT))
     all_goals
      have fd:Hid (BP B w5 v5 (BQ (ls.take (k+1)))):=J (by
       rw[HT.o,gS.o,th.o];have h5:=gT.o.mono (Nat.le_trans ua.o ax.o.size);rw[List.append_assoc]at h5;exact h5)
      obtain⟨n5,A5,c5,rfl⟩:=gT.o.arr.shape;have bg:=J (ax.o.trans UI.o);have iW:=aL.o;go_wp2_with fail;clear iW;go_roundw
      case rel=>exact⟨k+1,by omega,by go_num,fd.o,bg.o⟩
      case measure=>simp[intOf];omega
  ·obtain rfl:k=n:=by omega
   have HA:Hid (BQ (ls.take k)=BQ ls):=J (by rw[HN.o,List.take_length]);have HE:=J ag;rw[HA.o]at HE;clear ag an uV hlt hm;go_wp2_with fail;go_ret;exact⟨_,rfl,HE.o,ax.o⟩
open Go.RowKit Go.Maps Go.Sort Go.WideShapes Go.ChangeMaps Go.MapKept
theorem FH(l:List Nat)(a:Nat):∀F:List Bool,BL F (l++[a])=(BL F l).set a true:=by
 induction l with
 |nil=>intro F;rfl
 |cons b l ih=>intro F;exact ih (F.set b true)
def AV(ns:List Nd)(i k:Nat)(t:Tx):Prop:=∃j x,k<=j/\Bj ns i j/\ns[j]? =some x/\x.kind=2/\x.text=t
theorem AV.zero{ns:List Nd}{i:Nat}{t:Tx}:AV ns i 0 t↔AB ns i t:=
 ⟨fun ⟨j,x,_,h1,h2,h3,h4⟩=>⟨j,x,h1,h2,h3,h4⟩,fun ⟨j,x,h1,h2,h3,h4⟩=>⟨j,x,Nat.zero_le _,h1,h2,h3,h4⟩⟩
theorem AV.top{ns:List Nd}(hs:Aw ns){i:Nat}{t:Tx}:¬AV ns i (i+1) t:=fun ⟨j,_,h0,h1,_⟩=>by
 have:=h1.le hs;omega
theorem AV.skip{ns:List Nd}{i k:Nat}(h:¬Bj ns i k\/∀x,ns[k]? =some x->x.kind≠2)(t:Tx):AV ns i (k+1) t↔AV ns i k t:=by
 constructor
 ·rintro⟨j,x,h0,h1⟩;exact⟨j,x,by omega,h1⟩
 ·rintro⟨j,x,h0,h1,h2,h3,h4⟩;refine⟨j,x,?_,h1,h2,h3,h4⟩;rcases Nat.lt_or_ge k j with h5|h5
  ·exact h5
  ·obtain rfl:j=k:=by omega
   rcases h with h|h
   ·exact absurd h1 h
   ·exact absurd h3 (h x h2)
theorem AV.add{ns:List Nd}{i k:Nat}{x:Nd}(hr:Bj ns i k)(hx:ns[k]? =some x)(hk:x.kind=2)(t:Tx):(t=x.text\/AV ns i (k+1) t)↔AV ns i k t:=by
 constructor
 ·rintro(rfl|⟨j,y,h0,h1⟩)
  ·exact⟨k,x,Nat.le_refl _,hr,hx,hk,rfl⟩
  ·exact⟨j,y,by omega,h1⟩
 ·rintro⟨j,y,h0,h1,h2,h3,h4⟩;rcases Nat.lt_or_ge k j with h5|h5
  ·exact .inr ⟨j,y,h5,h1,h2,h3,h4⟩
  ·obtain rfl:j=k:=by omega
   rw[hx]at h2;injection h2 with h2
   subst h2;exact .inl h4.symm
theorem P2{ns:List Nd}{i b m:Nat}{w:World}{D:DataW Unit}{ss:List Tx}(ag:w.ownsMap Tryz.prog 9 (plainElem Tryz.prog 4) b m D)(hD:∀t,has D (.string t)=true↔AB ns i t)(hp:ss.Perm (strKeys D)):
  Dw ns i (ss.mergeSort (fun x y=>decide (x<=y))):=by
 have hm:∀t,t∈ss.mergeSort (fun x y=>decide (x<=y))↔AB ns i t:=fun t=>by
  rw[List.mem_mergeSort,hp.mem_iff,Dx.keys ag,hD t]
 have hnd:ss.Nodup:=by
  obtain⟨es,clock,hb,F,hs,pV⟩:=ag;have pC:=fit_apart (string_keyed Tryz.underlying9) F;have h2:(strKeys D).Nodup:=by
   rw[pV];show ((((es.toList.map (Go.WideElems.rg Tryz.prog 9 (plainElem Tryz.prog 4))).foldr DataW.insert [])).map fun p=>strOf p.1).Nodup;have hk:=fit_keys F;refine((sorted_perm _).map _).nodup_iff.2 ?_
   refine List.pairwise_map.2 (pC.imp_of_mem fun {p q} hp' hq' hne e=>hne ?_);obtain⟨v,hv⟩:=hk p hp';obtain⟨v',uz⟩:=hk q hq';obtain⟨x,_,hx,_⟩:=Maps.keyOf_str Tryz.underlying9 hv;obtain⟨y,_,hy,_⟩:=Maps.keyOf_str Tryz.underlying9 uz;rw[hx,hy]at e ⊢;exact congrArg _ e
  exact hp.nodup_iff.2 h2
 refine⟨?_,hm⟩;have hs:=GV ss;have rR:(ss.mergeSort (fun x y=>decide (x<=y))).Nodup:=(List.mergeSort_perm ss _).nodup_iff.2 hnd;exact(hs.and rR).imp fun {a b} ⟨h1,h2⟩=>Dp h1 h2
end Big
end Go.Proofs.YtkoaogkknnelaaaGreatDoor
