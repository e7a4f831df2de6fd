import Derived.Test.YtaccjdbbkmhanaaGreatDoorM27
import Derived.Test.YtaccjdbbkmhanaaGreatDoorM10
import Derived.Test.YtaccjdbbkmhanaaGreatDoorM36
import Derived.Test.YtaccjdbbkmhanaaGreatDoorM21
import Derived.Test.YtaccjdbbkmhanaaGreatDoorM9
import Derived.Test.YtaccjdbbkmhanaaGreatDoorM33
import Derived.Test.YtaccjdbbkmhanaaGreatDoorShelf3
import Derived.Sort.OwnSorted
import Derived.Deep.RegionLaw
namespace Go.Proofs.YtaccjdbbkmhanaaGreatDoor
namespace Big
end Big
end Go.Proofs.YtaccjdbbkmhanaaGreatDoor
namespace Go.Proofs.YtaccjdbbkmhanaaGreatDoor
namespace Big
open Go.RowKit
def szAt (e:Ex) (i:Int):Nat:=if 0≤i∧i<(e.size:Int) then (szE e).getD i.toNat 0 else 0
end Big
end Go.Proofs.YtaccjdbbkmhanaaGreatDoor
namespace Go.Proofs.YtaccjdbbkmhanaaGreatDoor
namespace Big
open Go.RowKit
def namesOf (l:List Nd):List (List UInt8):=(l.filter fun x=>x.kind == 2).map Nd.text
end Big
end Go.Proofs.YtaccjdbbkmhanaaGreatDoor
namespace Go.Proofs.YtaccjdbbkmhanaaGreatDoor
namespace Big
open Go.RowKit
theorem bytesLess_dec:∀(x y:List UInt8),Op.bytesLess x y=decide (x<y)
 |[],[]=>by simp [Op.bytesLess]
 |_::_,[]=>by simp [Op.bytesLess]
 |[],_::_=>by simp [Op.bytesLess]
 |a::x,b::y=>by
  rw [Op.bytesLess,bytesLess_dec x y]
  by_cases h1:a<b
  ·simp [h1,List.cons_lt_cons_iff]
  ·by_cases h2:a=b
   ·subst h2
    simp
   ·simp [h1,h2,List.cons_lt_cons_iff]
@[go_sem] theorem lss_str (a b:List UInt8):binOp .lss 9 (str a) (str b)=pure (.bool (decide (a<b))):=by
  unfold str;rw [binOp_string_lss,ByteArray.toList_mk,ByteArray.toList_mk,bytesLess_dec]
theorem insS_at:∀(out:List Tx) (i:Nat) (s:Tx),(∀j (hj:j<out.length),j<i→out[j]<s)→i≤out.length→(∀hi:i<out.length,¬out[i]<s∧out[i]≠s)→insS s out=out.take i++s::out.drop i
 |[],i,s,_,hi,_=>by
  have:i=0:=by simpa using hi
  subst this
  rfl
 |x::xs,0,s,_,_,h=>by
  have h2:=h (by simp)
  simp only [List.getElem_cons_zero] at h2
  unfold insS
  rw [if_neg h2.1,if_neg h2.2]
  rfl
 |x::xs,i+1,s,h,hi,h2=>by
  have h0:=h 0 (by simp) (by omega)
  simp only [List.getElem_cons_zero] at h0
  unfold insS
  rw [if_pos h0,insS_at xs i s (fun j hj hji=>by have:=h (j+1) (by simpa using hj) (by omega);simpa using this) (by simpa using hi) (fun hi2=>by have:=h2 (by simpa using hi2);simpa using this)]
  rfl
theorem insS_same:∀(out:List Tx) (i:Nat) (s:Tx) (hi:i<out.length),(∀j (hj:j<out.length),j<i→out[j]<s)→out[i]=s→insS s out=out
 |x::xs,0,s,_,_,h=>by
  simp only [List.getElem_cons_zero] at h
  subst h
  unfold insS
  rw [if_neg (tx_irrefl _),if_pos rfl]
 |x::xs,i+1,s,hi,h,h2=>by
  have h0:=h 0 (by simp) (by omega)
  simp only [List.getElem_cons_zero] at h0
  unfold insS
  rw [if_pos h0,insS_same xs i s (by simpa using hi) (fun j hj hji=>by have:=h (j+1) (by simpa using hj) (by omega);simpa using this) (by simpa using h2)]
theorem sortS_snoc (ls:List Tx) (s:Tx):sortS (ls++[s])=insS s (sortS ls):=by unfold sortS;rw [List.foldl_append];rfl
theorem insS_len (s:Tx):∀l:List Tx,(insS s l).length≤l.length+1
 |[]=>by simp [insS]
 |x::xs=>by
  unfold insS
  split
  ·have:=insS_len s xs;simp only [List.length_cons];omega
  ·split<;>simp
theorem sortS_len (ls:List Tx):(sortS ls).length≤ls.length:=by
 have key:∀(l out:List Tx),(l.foldl (fun out s=>insS s out) out).length≤l.length+out.length:=by
  intro l
  induction l with
  |nil=>intro out;simp
  |cons x l ih=>
   intro out
   have h1:=ih (insS x out)
   have h2:=insS_len x out
   rw [List.foldl_cons,List.length_cons]
   omega
 have:=key ls []
 rw [List.length_nil,Nat.add_zero] at this
 exact this
theorem OwnS.empty (B:Nat) (w:World) (A:Option Addr):OwnS B w (.slice A 0 0) []:=ROwn.empty _ B w A
theorem step_appendS {w:World} {v src:Value} {xs ys:List (List UInt8)} {B:Nat} {ops:Array Oper} {o:Oper} {a:Act} {K:Act→World→Prop} {Q:Exit→Act→World→Prop} {E:Prop} (hw:Region.wanted o (yielded ops a.tmps)=true) (s x:Operand)
  (ho:o.op= .call { callee:= .builtin .append,args:= #[s,x],argTypes:= #[77,77] })
  (hs:a.eval s=v) (hown:OwnS B w v xs) (hx:a.eval x=src) (hsrc:ArrS w src ys) (hn:xs.length+ys.length≤2147483648) (hbase:B≤w.heap.size)
  (h:∀v' w',OwnS B w' v' (xs++ys)→w.grownBy w' (rowOf v)→Below B w w'→K (a.put o.dst v') w'):if Region.wanted o (yielded ops a.tmps)=true then Oper.wp Tryz.prog o a w K Q else E:=by
 rw [if_pos hw]
 obtain ⟨i0,hi,hz0,hz1,hz2⟩:=info_parts info_str
 refine wp_append_any s x 77 ho 9 i0 _ 16 Tryz.underlying77 hi hz0 hz1 hz2 rfl hs hown hx hsrc ones_str (by simp only [List.length_map];unfold maxLen;omega) (by simp only [List.length_map];omega) hbase (fun v' w' h1 h2 h3=>h v' w' ?_ h2 h3)
 unfold OwnS
 rw [List.map_append]
 exact h1
theorem Ext.of_none {w w':World} (h:w.grownBy w' none):Ext w w':=⟨h.os,h.tape,h.output,h.size,fun k hk=>h.block k hk (by simp)⟩
theorem td_len (out:List Tx) (i:Nat) (h:out.length≤1000000):(out.take i).length≤1073741824∧(out.take i).length+1+(out.drop i).length≤1073741824:=by
 rw [List.length_take,List.length_drop]
 omega
theorem slice_to_run {P:Program} (W:World) (T e:TypeId) (A:Option Addr) (n c i:Nat) (hT:P.underlying T=some (.slice e)) (hE:P.elem T=e) (i0:TypeInfo) (hi:P.info? e=some i0) (hz:i0.size=1) (h:i≤c):
  (Instr.slice T (.slice A n c) none (some (.int .i64 (i:Int))) none).run P W= .ok (.slice A i c) W:=by
 rw [run_slice_h W T A n c (by rw [hE];exact hT) .i64 (i:Int) (by omega) (by omega)]
 have hs:(sizeOf (P.elem T)).run P W= .ok 1 W:=by rw [hE];simp [sizeOf,typeInfo,hi,hz]
 rw [hs]
 simp only [Result.andThen,sliced,Int.toNat_natCast,Nat.zero_mul,Nat.sub_zero]
 split
 ·rfl
 ·cases A<;>simp [Addr.add]
theorem slice_from_run {P:Program} (W:World) (T e:TypeId) (A:Option Addr) (n c i:Nat) (hT:P.underlying T=some (.slice e)) (hE:P.elem T=e) (i0:TypeInfo) (hi:P.info? e=some i0) (hz:i0.size=1) (h:i≤n):
  (Instr.slice T (.slice A n c) (some (.int .i64 (i:Int))) none none).run P W= .ok (.slice (if c=i then A else A.map (·.add (i*1))) (n-i) (c-i)) W:=by
 rw [run_slice_l W T A n c (by rw [hE];exact hT) .i64 (i:Int) (by omega) (by omega)]
 have hs:(sizeOf (P.elem T)).run P W= .ok 1 W:=by rw [hE];simp [sizeOf,typeInfo,hi,hz]
 rw [hs]
 simp only [Result.andThen,sliced,Int.toNat_natCast]
theorem slice_to {B:Nat} {w:World} {A:Option Addr} {m c:Nat} {out:List (List UInt8)} (h:OwnS B w (.slice A m c) out) (i:Nat) (hi:i≤out.length):
  ∃v1,(∀W:World,(Instr.slice 77 (.slice A m c) none (some (.int .i64 (i:Int))) none).run Tryz.prog W= .ok v1 W)∧∀W,Ext w W→ArrS W v1 (out.take i):=by
 obtain ⟨A',c',he,h2,h3,h4⟩:=h.arr
 injection he with e1 e2 e3
 subst e1 e2 e3
 rw [List.length_map] at h2
 refine ⟨.slice A i c,fun W=> ?_,fun W hx=> ?_⟩
 ·have hcl:Tryz.prog.elem 77=9:=by kernel_rfl
  obtain ⟨i0,hi0,_,hz1,_⟩:=info_parts info_str
  exact slice_to_run W 77 9 A _ c i Tryz.underlying77 hcl i0 hi0 hz1 (by omega)
 ·have hl:(out.take i).length=i:=by rw [List.length_take];omega
  refine ⟨A,c,by rw [List.length_map,hl],by rw [List.length_map,hl];omega,h3,fun hp=> ?_⟩
  rw [List.length_map,hl] at hp
  rw [List.length_map] at h4
  obtain ⟨b,o,hb,hlt,hc⟩:=h4 (by omega)
  refine ⟨b,o,hb,Nat.lt_of_lt_of_le hlt hx.size,fun j u hj=>(hx.cell hlt).trans (hc j u ?_)⟩
  rw [List.map_take] at hj
  rw [List.getElem?_take] at hj
  split at hj
  ·exact hj
  ·cases hj
theorem slice_from {B:Nat} {w:World} {A:Option Addr} {m c:Nat} {out:List (List UInt8)} (h:OwnS B w (.slice A m c) out) (i:Nat) (hi:i≤out.length):
  ∃v1,(∀W:World,(Instr.slice 77 (.slice A m c) (some (.int .i64 (i:Int))) none none).run Tryz.prog W= .ok v1 W)∧∀W,Ext w W→ArrS W v1 (out.drop i):=by
 obtain ⟨A',c',he,h2,h3,h4⟩:=h.arr
 injection he with e1 e2 e3
 subst e1 e2 e3
 rw [List.length_map] at h2
 have hcl:Tryz.prog.elem 77=9:=by kernel_rfl
 obtain ⟨i0,hi0,_,hz1,_⟩:=info_parts info_str
 refine ⟨.slice (if c=i then A else A.map (·.add (i*1))) ((out.map str).length-i) (c-i),fun W=> ?_,fun W hx=> ?_⟩
 ·exact slice_from_run W 77 9 A _ c i Tryz.underlying77 hcl i0 hi0 hz1 (by rw [List.length_map];omega)
 ·have hl:(out.drop i).length=out.length-i:=by rw [List.length_drop]
  rw [List.length_map] at h4 ⊢
  refine ⟨_,c-i,by rw [List.length_map,hl],by rw [List.length_map,hl];omega,by omega,fun hp=> ?_⟩
  rw [List.length_map,hl] at hp
  obtain ⟨b,o,rfl,hlt,hc⟩:=h4 (by omega)
  rw [if_neg (by omega)]
  refine ⟨b,o+i,by simp [Addr.add],Nat.lt_of_lt_of_le hlt hx.size,fun j u hj=>(hx.cell hlt).trans ?_⟩
  rw [Nat.add_assoc]
  refine hc (i+j) u ?_
  rw [List.map_drop,List.getElem?_drop] at hj
  exact hj
set_option maxHeartbeats 4000000 in
set_option maxRecDepth 100000 in
theorem sorted_any (w:World) (v:Value) (ls:List (List UInt8)) (h:ArrS w v ls) (hn:ls.length≤1000000) (_htx:∀x∈ls,x.length≤1073741824):
  Calls Tryz.prog 63 #[v] w fun e w'=>∃v',e= .returned v'∧OwnS w.heap.size w' v' (sortS ls)∧Ext w w':=by
 obtain ⟨A,c,rfl,hc2,hm2,hcell⟩:=h.open
 have HC:=Lib.hid hcell
 clear hcell h hc2 hm2 _htx
 obtain ⟨n,hnn⟩:∃n,n=ls.length:=⟨_,rfl⟩
 have HN:=Lib.hid hnn
 rw [←hnn] at hn ⊢
 clear hnn
 obtain ⟨B,hB⟩:∃B,B=w.heap.size:=⟨_,rfl⟩
 have HBB:Hid (B≤w.heap.size):=Lib.hid (by omega)
 rw [←hB]
 clear hB
 go_enter Tryz.func63,Tryz.ntmps63
 go_wp2_with fail
 go_loopw [3,9] (fun s3 s9 wr=>∃k:Nat,k≤n∧s9= .int .i64 (k:Int)∧OwnS B wr s3 (sortS (ls.take k))∧Ext w wr) (fun _ s9 _=>n-(intOf s9).toNat)
 case atStart=>exact ⟨0,Nat.zero_le _,rfl,OwnS.none_ _ _,Ext.refl w⟩
 case round=>
  obtain ⟨k,hk,rfl,hown,hext⟩:=hrel
  obtain ⟨m,A3,c3,rfl⟩:=hown.arr.shape
  have hm:=hown.arr.len
  have HW1:Hid (k<n→IntKind.i64.wrap ((k:Int)+1)=(k:Int)+1):=Lib.hid (fun h=>IntWalk.i64_in _ (by omega))
  have hol:=sortS_len (ls.take k)
  rw [List.length_take] at hol
  have hol2:(sortS (ls.take k)).length≤1000000:=by omega
  clear hol
  generalize wr=wa at *
  have HXA:=Lib.hid hext
  by_cases hlt:k<n
  ·have hit:k<ls.length:=by rw [←HN.out];exact hlt
   obtain ⟨b,o,rfl,hbw,hcs⟩:=HC.out (by omega)
   have hx:=(hext.cell hbw).trans (hcs k hit)
   have HT:Hid (sortS (ls.take (k+1))=insS ls[k] (sortS (ls.take k))):=Lib.hid (by rw [List.take_succ_eq_append_getElem hit,sortS_snoc])
   generalize ls[k]=s at *
   obtain ⟨out,hout⟩:∃out,sortS (ls.take k)=out:=⟨_,rfl⟩
   have HSO:=Lib.hid hout
   rw [hout] at hown hm hol2
   have HO:=Lib.hid hown
   have hm1:m≤out.length:=by omega
   have hm2:out.length≤m:=by omega
   have hw1:=Lib.hid (HW1.out hlt)
   clear hm
   have HFR:Hid (∀W:World,ArrS (W.alloc (.cells #[str s] 9)) (.slice (some ⟨W.heap.size,0,none⟩) 1 1) [s]):=Lib.hid (fun W=>ArrS.fresh1 W s)
   have HFR2:Hid (∀o:Obj,ArrS ((wa.alloc o).alloc (.cells #[str s] 9)) (.slice (some ⟨wa.heap.size+1,0,none⟩) 1 1) [s]):=Lib.hid (fun o=>by
    have:=ArrS.fresh1 (wa.alloc o) s
    rw [show (wa.alloc o).heap.size=wa.heap.size+1 by simp] at this
    exact this)
   have hki:(k:Int)<(n:Int):=by omega
   have hk0:(0:Int)≤(k:Int):=by omega
   clear hown hext hcs hout
   go_upto_block 5 with fail
   go_loopw [6] (fun s6 wq=>∃i:Nat,i≤m∧s6= .int .i64 (i:Int)∧Hid (∀j (hj:j<out.length),j<i→out[j]<s)∧wa=wq) (fun s6 _=>m-(intOf s6).toNat)
   case atStart=>exact ⟨0,Nat.zero_le _,rfl,Lib.hid (fun j _ hj=>absurd hj (Nat.not_lt_zero j)),rfl⟩
   case round=>
    obtain ⟨i,hi,rfl,HB4,rfl⟩:=hrel
    have hi0:(0:Int)≤(i:Int):=by omega
    by_cases hil:i<m
    ·obtain ⟨A',c',hv,_,_,hoc⟩:=HO.out.arr.open
     injection hv with hv1 hv2 hv3
     subst hv1
     clear hv2 hv3
     have hio:i<out.length:=by omega
     obtain ⟨bo,oo,rfl,_,hoc⟩:=hoc (by omega)
     have hy:=hoc i hio
     have HNX:Hid (out[i]<s→∀j (hj:j<out.length),j<i+1→out[j]<s):=Lib.hid (fun h j hj hji=>by
      rcases Nat.lt_or_ge j i with h2|h2
      ·exact HB4.out j hj h2
      ·have:j=i:=by omega
       subst this
       exact h)
     have HSM:Hid (out[i]=s→insS s out=out):=Lib.hid (fun h=>insS_same out i s hio HB4.out h)
     have HNE:Hid (¬out[i]<s→out[i]≠s→∀hi:i<out.length,¬out[i]<s∧out[i]≠s):=Lib.hid (fun h1 h2 _=>⟨h1,h2⟩)
     have z1:decide (i<m)=true:=decide_eq_true hil
     have z1i:(i:Int)<(m:Int):=by omega
     have z2:((i:Int) == (m:Int))=false:=by rw [beq_eq_false_iff_ne];omega
     have z3:(i == m)=false:=by rw [beq_eq_false_iff_ne];omega
     have HWI:Hid (IntKind.i64.wrap ((i:Int)+1)=(i:Int)+1):=Lib.hid (IntWalk.i64_in _ (by omega))
     clear hoc
     generalize out[i]=x at *
     by_cases hxs:x<s
     ·have hd:decide (x<s)=true:=decide_eq_true hxs
      have HB5:=Lib.hid (HNX.out hxs)
      clear hxs
      have hwi:=HWI.out
      go_wp2_with fail
      clear hwi
      go_roundw
      case rel=>exact ⟨i+1,by omega,by go_num,HB5,trivial⟩
      case measure=>simp [intOf];omega
     ·have hd:decide (x<s)=false:=decide_eq_false hxs
      by_cases hxe:x=s
      ·have HS2:=Lib.hid (HSM.out hxe)
       have he:(x == s)=true:=by rw [hxe];exact beq_self_eq_true _
       clear hxs hxe
       have hwk:=hw1.out
       go_wp2_with fail
       clear hwk
       go_roundw
       case rel=>exact ⟨k+1,by omega,by go_num,by rw [HT.out,HSO.out,HS2.out];exact HO.out,HXA.out⟩
       case measure=>simp [intOf];omega
      ·have he:(x == s)=false:=by rw [beq_eq_false_iff_ne];exact hxe
       have HN2:=Lib.hid (HNE.out hxs hxe)
       clear hxs hxe
       have HINS:=Lib.hid (insS_at out i s HB4.out (by omega) (HN2.out))
       obtain ⟨v1,hs1,hp1⟩:=slice_to (B:=B) (w:=wa) HO.out i (by omega)
       obtain ⟨v2,hs2,hp2⟩:=slice_from (B:=B) (w:=wa) HO.out i (by omega)
       have HP1:=Lib.hid hp1
       have HP2:=Lib.hid hp2
       have HLT:Hid ((out.take i).length≤1073741824∧(out.take i).length+1+(out.drop i).length≤1073741824):=Lib.hid (td_len out i (by omega))
       generalize out.take i=o1 at *
       generalize out.drop i=o2 at *
       clear hp1 hp2
       go_upto_region 9 with fail
       go_region_law (first
        |(refine step_appendS rfl (.tmp 39) (.tmp 42) rfl rfl (OwnS.empty wa.heap.size _ _) rfl (HP1.out _ (by repeat (first|exact Ext.refl _|(with_reducible apply Ext.drew)|(with_reducible apply Ext.alloc)))) (by have:=HLT.out;simp;omega) (by first|(simp;done)|(simp;omega)) ?_;intro v3 w3 ho3 hg3 hb3;have HX3:=Lib.hid (Ext.of_none hg3);have HY3:Hid (Ext wa w3):=Lib.hid (Ext.trans (by repeat (first|exact Ext.refl _|(with_reducible apply Ext.drew)|(with_reducible apply Ext.alloc))) HX3.out);rw [List.nil_append] at ho3;have HO3:=Lib.hid ho3;clear ho3 hg3 hb3)
        |(refine step_appendS rfl (.tmp 43) (.tmp 45) rfl rfl (HO3.out.ext (by repeat (first|exact Ext.refl _|(with_reducible apply Ext.drew)|(with_reducible apply Ext.alloc)))) rfl (show ArrS _ _ [s] from ?_) (by have:=HLT.out;simp;omega) (by have:=HY3.out.size;first|omega|(simp;done)|(simp;omega)) ?_;(first|exact HFR.out _|(focus (refine ArrS.ext (HFR.out w3) ?_;(repeat (first|exact Ext.refl _|(with_reducible apply Ext.drew)|(with_reducible apply Ext.alloc)));done))|(focus (refine ArrS.ext (ArrS.ext (HFR2.out (.cells #[] 9)) ?_) HX3.out;(repeat (first|exact Ext.refl _|(with_reducible apply Ext.drew)|(with_reducible apply Ext.alloc)));done))|(focus (refine ArrS.ext (ArrS.ext (HFR.out wa) ?_) HX3.out;(repeat (first|exact Ext.refl _|(with_reducible apply Ext.drew)|(with_reducible apply Ext.alloc)));done)));intro v4 w4 ho4 hg4 hb4;have HY4:Hid (Ext wa w4):=Lib.hid (Ext.more (Ext.trans HY3.out (by repeat (first|exact Ext.refl _|(with_reducible apply Ext.drew)|(with_reducible apply Ext.alloc)))) hb4);have HO4:=Lib.hid ho4;clear ho4 hg4 hb4)
        |(refine step_appendS (B:=wa.heap.size) (xs:=o1++[s]) (ys:=o2) rfl (.tmp 46) (.tmp 49) rfl rfl HO4.out rfl (HP2.out _ HY4.out) ?_ ?_ ?_;(have:=HLT.out;simp;omega);(have:=HY4.out.size;omega);intro v5 w5 ho5 hg5 hb5;have HY5:Hid (Ext wa w5):=Lib.hid (Ext.more HY4.out hb5);have HO5:=Lib.hid ho5;clear ho5 hg5 hb5))
       all_goals
        have HFIN:Hid (OwnS B w5 v5 (sortS (ls.take (k+1)))):=Lib.hid (by
         rw [HT.out,HSO.out,HINS.out]
         have h5:=HO5.out.mono (Nat.le_trans HBB.out HXA.out.size)
         rw [List.append_assoc] at h5
         exact h5)
        obtain ⟨n5,A5,c5,rfl⟩:=HO5.out.arr.shape
        have HX5:=Lib.hid (HXA.out.trans HY5.out)
        have hwk:=hw1.out
        go_wp2_with fail
        clear hwk
        go_roundw
        case rel=>exact ⟨k+1,by omega,by go_num,HFIN.out,HX5.out⟩
        case measure=>simp [intOf];omega
    ·have z1:decide (i<m)=false:=decide_eq_false hil
     obtain rfl:i=m:=by omega
     have z1i:¬(i:Int)<(i:Int):=by omega
     have z2:((i:Int) == (i:Int))=true:=by simp
     have z3:(i == i)=true:=by simp
     have HINS:=Lib.hid (insS_at out i s HB4.out (by omega) (fun h=>absurd h (by omega)))
     obtain ⟨v1,hs1,hp1⟩:=slice_to (B:=B) (w:=wa) HO.out i (by omega)
     obtain ⟨v2,hs2,hp2⟩:=slice_from (B:=B) (w:=wa) HO.out i (by omega)
     have HP1:=Lib.hid hp1
     have HP2:=Lib.hid hp2
     have HLT:Hid ((out.take i).length≤1073741824∧(out.take i).length+1+(out.drop i).length≤1073741824):=Lib.hid (td_len out i (by omega))
     generalize out.take i=o1 at *
     generalize out.drop i=o2 at *
     clear hp1 hp2
     go_upto_region 9 with fail
     go_region_law (first
      |(refine step_appendS rfl (.tmp 39) (.tmp 42) rfl rfl (OwnS.empty wa.heap.size _ _) rfl (HP1.out _ (by repeat (first|exact Ext.refl _|(with_reducible apply Ext.drew)|(with_reducible apply Ext.alloc)))) (by have:=HLT.out;simp;omega) (by first|(simp;done)|(simp;omega)) ?_;intro v3 w3 ho3 hg3 hb3;have HX3:=Lib.hid (Ext.of_none hg3);have HY3:Hid (Ext wa w3):=Lib.hid (Ext.trans (by repeat (first|exact Ext.refl _|(with_reducible apply Ext.drew)|(with_reducible apply Ext.alloc))) HX3.out);rw [List.nil_append] at ho3;have HO3:=Lib.hid ho3;clear ho3 hg3 hb3)
      |(refine step_appendS rfl (.tmp 43) (.tmp 45) rfl rfl (HO3.out.ext (by repeat (first|exact Ext.refl _|(with_reducible apply Ext.drew)|(with_reducible apply Ext.alloc)))) rfl (show ArrS _ _ [s] from ?_) (by have:=HLT.out;simp;omega) (by have:=HY3.out.size;first|omega|(simp;done)|(simp;omega)) ?_;(first|exact HFR.out _|(focus (refine ArrS.ext (HFR.out w3) ?_;(repeat (first|exact Ext.refl _|(with_reducible apply Ext.drew)|(with_reducible apply Ext.alloc)));done))|(focus (refine ArrS.ext (ArrS.ext (HFR2.out (.cells #[] 9)) ?_) HX3.out;(repeat (first|exact Ext.refl _|(with_reducible apply Ext.drew)|(with_reducible apply Ext.alloc)));done))|(focus (refine ArrS.ext (ArrS.ext (HFR.out wa) ?_) HX3.out;(repeat (first|exact Ext.refl _|(with_reducible apply Ext.drew)|(with_reducible apply Ext.alloc)));done)));intro v4 w4 ho4 hg4 hb4;have HY4:Hid (Ext wa w4):=Lib.hid (Ext.more (Ext.trans HY3.out (by repeat (first|exact Ext.refl _|(with_reducible apply Ext.drew)|(with_reducible apply Ext.alloc)))) hb4);have HO4:=Lib.hid ho4;clear ho4 hg4 hb4)
      |(refine step_appendS (B:=wa.heap.size) (xs:=o1++[s]) (ys:=o2) rfl (.tmp 46) (.tmp 49) rfl rfl HO4.out rfl (HP2.out _ HY4.out) ?_ ?_ ?_;(have:=HLT.out;simp;omega);(have:=HY4.out.size;omega);intro v5 w5 ho5 hg5 hb5;have HY5:Hid (Ext wa w5):=Lib.hid (Ext.more HY4.out hb5);have HO5:=Lib.hid ho5;clear ho5 hg5 hb5))
     all_goals
      have HFIN:Hid (OwnS B w5 v5 (sortS (ls.take (k+1)))):=Lib.hid (by
       rw [HT.out,HSO.out,HINS.out]
       have h5:=HO5.out.mono (Nat.le_trans HBB.out HXA.out.size)
       rw [List.append_assoc] at h5
       exact h5)
      obtain ⟨n5,A5,c5,rfl⟩:=HO5.out.arr.shape
      have HX5:=Lib.hid (HXA.out.trans HY5.out)
      have hwk:=hw1.out
      go_wp2_with fail
      clear hwk
      go_roundw
      case rel=>exact ⟨k+1,by omega,by go_num,HFIN.out,HX5.out⟩
      case measure=>simp [intOf];omega
  ·obtain rfl:k=n:=by omega
   have HA:Hid (sortS (ls.take k)=sortS ls):=Lib.hid (by rw [HN.out,List.take_length])
   have HE:=Lib.hid hown
   rw [HA.out] at HE
   clear hown hext hol2 hlt hm
   go_wp2_with fail
   go_ret
   exact ⟨_,rfl,HE.out,HXA.out⟩
end Big
end Go.Proofs.YtaccjdbbkmhanaaGreatDoor
