import Derived.Test.YtaccjdbbkmhanaaGreatDoorM4
import Derived.Laws.BytesArg
import Derived.Lib.Strings
import Derived.WalkSpells
import Derived.Laws.Entries
namespace Go.Proofs.YtaccjdbbkmhanaaGreatDoor
namespace Big
open Go.RowKit
def d8 (b:UInt8):Value:= .int .u8 (b.toNat:Int)
def str (l:List UInt8):Value:= .string ⟨l.toArray⟩
def Arr8 (w:World) (v:Value) (bs:List UInt8):Prop:=RArr w v (bs.map d8)
def Own8 (B:Nat) (w:World) (v:Value) (bs:List UInt8):Prop:=ROwn 5 B w v (bs.map d8)
section
variable {w w':World} {v:Value} {bs:List UInt8} {B B':Nat}
theorem Arr8.ext (h:Arr8 w v bs) (hb:Ext w w'):Arr8 w' v bs:=RArr.ext h hb
theorem Own8.ext (h:Own8 B w v bs) (hb:Ext w w'):Own8 B w' v bs:=ROwn.ext h hb
theorem Own8.mono (h:Own8 B w v bs) (hB:B'≤B):Own8 B' w v bs:=ROwn.mono h hB
theorem Own8.arr (h:Own8 B w v bs):Arr8 w v bs:=ROwn.arr h
theorem Own8.none_ (B:Nat) (w:World):Own8 B w (.slice none 0 0) []:=ROwn.none_ _ B w
theorem Arr8.fresh1 (w:World) (t:Int) (y:UInt8) (ht:t=(y.toNat:Int)):Arr8 (w.alloc (.cells #[.int .u8 t] 5)) (.slice (some ⟨w.heap.size,0,none⟩) 1 1) [y]:=by
 subst ht;exact RArr.one (by simp [d8])
theorem map_d8_get {j:Nat} (hj:j<bs.length):(bs.map d8)[j]? =some (d8 bs[j]):=by
 rw [List.getElem?_map,List.getElem?_eq_getElem hj];rfl
theorem Arr8.open (h:Arr8 w v bs):∃A c,v= .slice A bs.length c∧bs.length≤c∧c≤maxLen∧
  (0<bs.length→∃b o,A=some ⟨b,o,none⟩∧b<w.heap.size∧∀j (hj:j<bs.length),w.cell? ⟨b,o+j,none⟩=some (d8 bs[j])):=by
 obtain ⟨A,c,rfl,h2,h3,h4⟩:=h
 rw [List.length_map] at h2 h4
 refine ⟨A,c,by rw [List.length_map],h2,h3,fun hp=> ?_⟩
 obtain ⟨b,o,rfl,hlt,hc⟩:=h4 hp
 exact ⟨b,o,rfl,hlt,fun j hj=>hc j _ (map_d8_get hj)⟩
end
end Big
end Go.Proofs.YtaccjdbbkmhanaaGreatDoor
namespace Go.Proofs.YtaccjdbbkmhanaaGreatDoor
namespace Big
open Go.RowKit
theorem str_append (a b:List UInt8):(⟨a.toArray⟩:ByteArray)++⟨b.toArray⟩=⟨(a++b).toArray⟩:=by
 apply ByteArray.ext
 simp
theorem run_add_str (a b:List UInt8) (h:a.length+b.length≤2147483648) (W:World):(binOp .add 9 (str a) (str b)).run Tryz.prog W= .ok (str (a++b)) W:=by
 unfold str
 simp [go_sem,str_append]
 omega
end Big
end Go.Proofs.YtaccjdbbkmhanaaGreatDoor
namespace Go.Proofs.YtaccjdbbkmhanaaGreatDoor
namespace Big
open Go.RowKit
def byteAt (l:List UInt8) (i:Nat):Nat:=(l.getD i 0).toNat
theorem byteAt_lt (l:List UInt8) (i:Nat):byteAt l i<256:=UInt8.toNat_lt _
theorem byteAt_eq (l:List UInt8) (i:Nat) (h:i<l.length):byteAt l i=l[i].toNat:=by
 unfold byteAt;rw [List.getD_eq_getElem?_getD,List.getElem?_eq_getElem h];rfl
theorem size_str (l:List UInt8):(⟨l.toArray⟩:ByteArray).size=l.length:=by simp [ByteArray.size]
@[go_sem] theorem run_len_str (l:List UInt8) (ty:TypeId) (W:World):(Builtin.len_ #[9] ty #[str l]).run Tryz.prog W= .ok (.int .i64 (l.length:Int)) W:=by
  have:=run_len_string (P:=Tryz.prog) W 9 ty ⟨l.toArray⟩ Tryz.underlying9
  rw [size_str] at this
  exact this
@[go_sem] theorem run_idx_str (l:List UInt8) (k:IntKind) (i:Int) (W:World):
  (Instr.index 9 (str l) (.int k i)).run Tryz.prog W=if 0≤i∧i<(l.length:Int) then .ok (.int .u8 (byteAt l i.toNat:Int)) W else (boundsPanic k i (l.length:Int) .index).run Tryz.prog W:=by
  have h2:=run_index_string (P:=Tryz.prog) W 9 ⟨l.toArray⟩ k i Tryz.underlying9
  by_cases h:0≤i∧i<(l.length:Int)
  ·rw [dif_pos ⟨h.1,by rw [size_str];exact h.2⟩] at h2
   have h3:i.toNat<l.length:=by omega
   rw [if_pos h,byteAt_eq l _ h3]
   exact h2
  ·rw [dif_neg (by rw [size_str];exact h),size_str] at h2
   rw [if_neg h]
   exact h2
@[go_sem] theorem eqGuard_str (op:BinOp) (t:TypeId) (x y:Operand) (a:List UInt8) (v:Value):eqGuard op t x y (str a) v=pure ():=by
  unfold str;cases op<;>cases v<;>rfl
@[go_sem] theorem eqGuard_str_const (op:BinOp) (t:TypeId) (x y:Operand) (a:List UInt8) (s:ByteArray):eqGuard op t x y (.string s) (str a)=pure ():=by
  unfold str;cases op<;>rfl
@[go_sem] theorem eql_str (a b:List UInt8):binOp .eql 9 (str a) (str b)=pure (.bool (a == b)):=by
  unfold str;rw [binOp_string_eql,ByteArray.toList_mk,ByteArray.toList_mk]
@[go_sem] theorem neq_str (a b:List UInt8):binOp .neq 9 (str a) (str b)=pure (.bool !(a == b)):=by
  unfold str;rw [binOp_string_neq,ByteArray.toList_mk,ByteArray.toList_mk]
@[go_sem] theorem eql_str_const (a b:List UInt8):binOp .eql 9 (str a) (.string ⟨b.toArray⟩)=pure (.bool (a == b)):=eql_str a b
@[go_sem] theorem neq_str_const (a b:List UInt8):binOp .neq 9 (str a) (.string ⟨b.toArray⟩)=pure (.bool !(a == b)):=neq_str a b
theorem extract_str (l:List UInt8) (a b:Nat):(⟨l.toArray⟩:ByteArray).extract a b=⟨((l.drop a).take (b-a)).toArray⟩:=by
 apply ByteArray.ext
 apply Array.ext'
 rw [Lib.extract_data]
@[go_sem] theorem run_slice_str (l:List UInt8) (k k':IntKind) (i j:Int) (W:World):
  (Instr.slice 9 (str l) (some (.int k i)) (some (.int k' j)) none).run Tryz.prog W=
   if 0≤j∧j≤(l.length:Int) then
    (if 0≤i∧i≤j then .ok (str ((l.take j.toNat).drop i.toNat)) W
     else ((boundsPanic k i j.toNat .sliceB:Sem Nat).run Tryz.prog W).andThen fun a w'=> .ok (str ((l.take j.toNat).drop a)) w')
   else ((boundsPanic k' j l.length .sliceAlen:Sem Nat).run Tryz.prog W).andThen fun b w'=>
    ((Instr.sliceBound (.int k i) b .sliceB).run Tryz.prog w').andThen fun a w''=> .ok (str ((l.take b).drop a)) w'':=by
  unfold str
  rw [run_slice_string_if (P:=Tryz.prog) W 9 ⟨l.toArray⟩ k k' i j Tryz.underlying9]
  simp only [size_str,extract_str,List.drop_take]
@[go_sem] theorem run_slice_str_from (l:List UInt8) (k:IntKind) (i:Int) (W:World):
  (Instr.slice 9 (str l) (some (.int k i)) none none).run Tryz.prog W=
   if 0≤i∧i≤(l.length:Int) then .ok (str (l.drop i.toNat)) W else ((boundsPanic k i l.length .sliceB:Sem Nat).run Tryz.prog W).andThen fun a w'=> .ok (str (l.drop a)) w':=by
  unfold str
  rw [run_slice_string_from_if (P:=Tryz.prog) W 9 ⟨l.toArray⟩ k i Tryz.underlying9]
  have hd:∀a,(l.drop a).take (l.length-a)=l.drop a:=fun a=>List.take_of_length_le (by simp)
  simp only [size_str,extract_str,hd]
@[go_sem] theorem run_slice_str_to (l:List UInt8) (k:IntKind) (j:Int) (W:World):
  (Instr.slice 9 (str l) none (some (.int k j)) none).run Tryz.prog W=
   if 0≤j∧j≤(l.length:Int) then .ok (str (l.take j.toNat)) W else ((boundsPanic k j l.length .sliceAlen:Sem Nat).run Tryz.prog W).andThen fun a w'=> .ok (str (l.take a)) w':=by
  unfold str
  rw [run_slice_string_to_if (P:=Tryz.prog) W 9 ⟨l.toArray⟩ k j Tryz.underlying9]
  simp only [size_str,extract_str,List.drop_zero,Nat.sub_zero]
@[go_sem high] theorem run_store_str (P:Program) (w:World) (a:Addr) (l:List UInt8) (m:Mode):(store a (str l) m).run P w=stored P w a (str l) m:=run_store P w a _ m rfl
@[go_sem high] theorem cells_str (l:List UInt8):(str l).cells= #[str l]:=rfl
@[go_sem high] theorem cells_match_str (l:List UInt8):(match str l with|Value.agg cs=>cs|v=> #[v])= #[str l]:=rfl
@[go_sem high] theorem oneCell_str (l:List UInt8):(str l).oneCell'=true:=rfl
end Big
end Go.Proofs.YtaccjdbbkmhanaaGreatDoor
namespace Go.Proofs.YtaccjdbbkmhanaaGreatDoor
namespace Big
open Go.RowKit
theorem rat_in (w:World) (v:Value) (xs:List Nat) (i:Int) (h:Arr w v xs) (h0:0≤i) (h1:i<xs.length):
  Calls Tryz.prog 184 #[v,.int .i64 i] w fun e w'=>e= .returned (.int .u64 (xs.getD i.toNat 0:Nat))∧w=w':=by
 obtain ⟨n,rfl⟩:=Int.eq_ofNat_of_zero_le h0
 rw [Int.toNat_natCast]
 obtain ⟨hok,A,c,rfl,hc,hm,hcell⟩:=h.open
 obtain ⟨b,o,rfl,hb,hcell⟩:=hcell (by omega)
 have hx:=hcell n (by omega)
 clear hcell h hm
 have hxm:=hok.get n
 obtain ⟨x,hxe⟩:∃x,xs.getD n 0=x:=⟨_,rfl⟩
 rw [hxe] at hx hxm ⊢
 clear hxe
 simp only [d32] at hx
 have hd:decide ((xs.length:Int)≤n)=false:=by simp;omega
 have hd2:decide (xs.length≤n)=false:=by simp;omega
 go_enter Tryz.func184,Tryz.ntmps184
 go_wp2
 go_ret
 exact ⟨rfl,rfl⟩
theorem rat_out (w:World) (v:Value) (xs:List Nat) (i:Int) (h:Arr w v xs) (h1:(xs.length:Int)≤i):
  Calls Tryz.prog 184 #[v,.int .i64 i] w fun e w'=>e= .returned (.int .u64 (xs.getD i.toNat 0:Nat))∧w=w':=by
 have hz:xs.getD i.toNat 0=0:=by rw [List.getD_eq_getElem?_getD,List.getElem?_eq_none (by omega)];rfl
 rw [hz]
 obtain ⟨hok,A,c,rfl,hc,hm,hcell⟩:=h.open
 clear hcell h hm hz
 have hd:decide ((xs.length:Int)≤i)=true:=by simp;omega
 have h0:¬i<0:=by omega
 go_enter Tryz.func184,Tryz.ntmps184
 go_wp2
 go_ret
 exact ⟨rfl,rfl⟩
theorem rat_any (w:World) (v:Value) (xs:List Nat) (i:Int) (h:Arr w v xs) (h0:0≤i):
  Calls Tryz.prog 184 #[v,.int .i64 i] w fun e w'=>e= .returned (.int .u64 (xs.getD i.toNat 0:Nat))∧w=w':=by
 rcases Int.lt_or_le i xs.length with h1|h1
 ·exact rat_in w v xs i h h0 h1
 ·exact rat_out w v xs i h h1
theorem rtrim_any (w:World) (v:Value) (xs:List Nat) (h:Arr w v xs) (hn:xs.length≤1073741824):
  Calls Tryz.prog 109 #[v] w fun e w'=>∃v',e= .returned v'∧Own w.heap.size w' v' (limbs (val xs))∧Ext w w':=by
 have HA:=Lib.hid h
 have HN:=Lib.hid hn
 obtain ⟨hok,A,c,rfl,hc,hm,hcell⟩:=h.open
 clear h hn
 unfold maxLen at hm
 go_enter Tryz.func109,Tryz.ntmps109
 go_wp2
 go_loop [3] (fun n=>∃k:Nat,k≤xs.length∧n= .int .i64 k∧∀i,k≤i→xs.getD i 0=0) (fun n=>(intOf n).toNat)
 case atStart=>exact ⟨_,Nat.le_refl _,rfl,fun i hi=>by rw [List.getD_eq_getElem?_getD,List.getElem?_eq_none hi];rfl⟩
 case round=>
  obtain ⟨k,hk,rfl,hz⟩:=hrel
  have HZ:=Lib.hid hz;clear hz
  have HC:=Lib.hid hcell;clear hcell
  have hfin:(0<k→xs.getD (k-1) 0≠0)→Arr w (.slice A k c) (limbs (val xs)):=fun ht=>by
   have hs:=size_top xs k hk HZ.out ht
   obtain ⟨A',c',he,ha⟩:=HA.out.take (size xs) (size_le xs)
   injection he with he1 he2 he3
   subst he1 he3
   rw [take_size hok,hs] at ha
   exact ha
  have HF:=Lib.hid hfin;clear hfin
  have hlim:([]:List Nat).length+(limbs (val xs)).length≤2147483648:=by
   have:=length_limbs_val hok
   have:=HN.out
   simp;omega
  have HLIM:=Lib.hid hlim;clear hlim
  have tail:∀(_:0<k→xs.getD (k-1) 0≠0),True:=fun _=>trivial
  clear tail
  by_cases h0:k=0
  ·subst h0
   have HX:=Lib.hid (HF.out (by omega))
   go_wp2_with (at_builtin;go_must (refine wpList_append32 rfl _ _ rfl rfl (Own.empty w.heap.size _ _) rfl (HX.out.ext ((Ext.refl _).alloc _)) HLIM.out (by simp) ?_;intro v' w' hown hgr hb))
   go_ret
   exact ⟨_,rfl,hown,((Ext.refl w).alloc _).more hb⟩
  ·obtain ⟨b,o,rfl,hb,hcell⟩:=HC.out (by omega)
   have hx:=hcell (k-1) (by omega)
   clear hcell
   obtain ⟨m,rfl⟩:∃m,k=m+1:=⟨k-1,by omega⟩
   simp only [Nat.add_sub_cancel,d32] at hx
   by_cases hx0:xs.getD m 0=0
   ·have hxb:((xs.getD m 0:Int) == 0)=true:=by rw [hx0];rfl
    have HX:=Lib.hid hx0;clear hx0
    obtain ⟨y,hy⟩:∃y,xs.getD m 0=y:=⟨_,rfl⟩
    rw [hy] at hx hxb
    clear hy
    go_wp2
    go_round
    case rel=>exact ⟨m,by omega,by go_num,fun i hi=>by
     rcases Nat.lt_or_ge m i with h1|h1
     ·exact HZ.out i h1
     ·obtain rfl:i=m:=by omega
      exact HX.out⟩
    case measure=>simp [intOf]
   ·have hxb:((xs.getD m 0:Int) == 0)=false:=by rw [beq_eq_false_iff_ne];omega
    have HX:=Lib.hid (HF.out (fun _=>hx0))
    clear hx0
    obtain ⟨y,hy⟩:∃y,xs.getD m 0=y:=⟨_,rfl⟩
    rw [hy] at hx hxb
    clear hy
    go_wp2_with (at_builtin;go_must (refine wpList_append32 rfl _ _ rfl rfl (Own.empty w.heap.size _ _) rfl (HX.out.ext ((Ext.refl _).alloc _)) HLIM.out (by simp) ?_;intro v' w' hown hgr hb))
    go_ret
    exact ⟨_,rfl,hown,((Ext.refl w).alloc _).more hb⟩
end Big
end Go.Proofs.YtaccjdbbkmhanaaGreatDoor
