import Derived.Test.YtaccjdbbkmhanaaGreatDoorM19
import Derived.Maps.Own
import Derived.DeepKeys4
import Derived.ChangeMaps
import Derived.Maps.OwnSet
import Derived.Below
namespace Go.Proofs.YtaccjdbbkmhanaaGreatDoor
namespace Big
open Go.RowKit
structure KeyOk (x:Nd):Prop where
 kind:(Lit.int .i64 x.kind).wf=true
 a:(Lit.int .i64 x.a).wf=true
 b:(Lit.int .i64 x.b).wf=true
 n:(Lit.int .i64 x.n).wf=true
 text:x.text.length≤maxLen
theorem laid_out2:laidOutB Tryz.prog=true:=by kernel_rfl
theorem keyed_node:Go.Maps.Keyed Tryz.prog 50:=
 Go.Maps.Keyed.of_law (deep_law_laid laid_out2 (m:=3) (by omega) (of_decide_eq_true (by kernel_rfl)) (by kernel_rfl) (by rw [Tryz.underlying50]))
theorem keyType_node:Tryz.prog.keyType 50=true:=by kernel_rfl
theorem cells_node:Tryz.prog.cellsOf 50=5:=by kernel_rfl
theorem cells_int:Tryz.prog.cellsOf 3=1:=by kernel_rfl
theorem cells_string:Tryz.prog.cellsOf 9=1:=by kernel_rfl
theorem keyOf_nd (x:Nd) (h:KeyOk x):∃l,keyOf Tryz.prog 50 (ndV x)=some l:=by
 have hs:(⟨x.text.toArray⟩:ByteArray).size≤maxLen:=by
  have:=h.text
  rw [size_str]
  exact this
 obtain ⟨m,hm⟩:∃m,Tryz.prog.types.size=m+1:=⟨Tryz.prog.types.size-1,by
  have:0<Tryz.prog.types.size:=of_decide_eq_true (by kernel_rfl)
  omega⟩
 obtain ⟨q0,q1,q2,q3,_⟩:=h
 refine Option.isSome_iff_exists.1 ?_
 unfold keyOf
 rw [Tryz.underlying50]
 simp only [keyType_node,Bool.true_and]
 rw [if_pos (by simp [ndV,Value.formed,Tryz.underlying50,cells_node]),hm]
 unfold Program.keyLits
 rw [Tryz.underlying50]
 simp [ndV,Value.cells,cells_node,cells_int,cells_string,Program.keyLits,Tryz.underlying3,Tryz.underlying9,str,hs,q0,q1,q2,q3]
end Big
end Go.Proofs.YtaccjdbbkmhanaaGreatDoor
namespace Go.Proofs.YtaccjdbbkmhanaaGreatDoor
namespace Big
open Go.RowKit Go.ChangeMaps
def nmE (ns:List Nd):List (Value × Value):=(List.range ns.length).map fun i=>(ndV (ns.getD i ⟨0,0,0,0,[]⟩),.int .i64 (i:Int))
theorem nmE_length (ns:List Nd):(nmE ns).length=ns.length:=by simp [nmE]
theorem nmE_get (ns:List Nd) (i:Nat) (h:i<ns.length):(nmE ns)[i]? =some (ndV ns[i],.int .i64 (i:Int)):=by
 unfold nmE
 rw [List.getElem?_map,List.getElem?_range h,Option.map_some,List.getD_eq_getElem?_getD,List.getElem?_eq_getElem h,Option.getD_some]
theorem nmE_snoc (ns:List Nd) (x:Nd):nmE (ns++[x])=nmE ns++[(ndV x,.int .i64 (ns.length:Int))]:=by
 apply List.ext_getElem?
 intro i
 rcases Nat.lt_trichotomy i ns.length with h|h|h
 ·rw [nmE_get _ _ (by simp;omega),List.getElem?_append_left (by rw [nmE_length];exact h),nmE_get _ _ h,List.getElem_append_left h]
 ·subst h
  rw [nmE_get _ _ (by simp),List.getElem?_append_right (by rw [nmE_length];exact Nat.le_refl _),nmE_length]
  simp
 ·rw [List.getElem?_eq_none (by rw [nmE_length];simp;omega),List.getElem?_eq_none (by rw [List.length_append,nmE_length];simp;omega)]
theorem ndV_inj {x y:Nd} (h:ndV x=ndV y):x=y:=by
 obtain ⟨a0,a1,a2,a3,a4⟩:=x
 obtain ⟨b0,b1,b2,b3,b4⟩:=y
 unfold ndV at h
 simp only [Value.agg.injEq,Array.mk.injEq,List.cons.injEq,Value.int.injEq,true_and,and_true] at h
 obtain ⟨rfl,rfl,rfl,rfl,h5⟩:=h
 unfold str at h5
 injection h5 with h5
 injection h5 with h5
 have h6:=congrArg Array.toList h5
 simp only [List.toList_toArray] at h6
 rw [h6]
def NMap (w:World) (b:Nat) (ns:List Nd):Prop:=
 ∃es clock,w.heap[b]? =some (.map es clock)∧es.toList.map (fun e=>(e.key,e.val))=nmE ns
theorem NMap.made (w:World):NMap (w.alloc (.map #[] 0)) w.heap.size []:=⟨#[],0,(MapKept.heap_alloc w _).1,rfl⟩
theorem NMap.lt {w:World} {b:Nat} {ns:List Nd} (h:NMap w b ns):b<w.heap.size:=by
 obtain ⟨es,clock,hb,_⟩:=h
 exact (Array.getElem?_eq_some_iff.1 hb).1
theorem NMap.kept {w w':World} {b:Nat} {ns:List Nd} (h:NMap w b ns) (hk:w'.heap[b]? =w.heap[b]?):NMap w' b ns:=by
 obtain ⟨es,clock,hb,h2⟩:=h
 exact ⟨es,clock,hk.trans hb,h2⟩
theorem NMap.keys {es:Array MapEntry} {ns:List Nd} (h:es.toList.map (fun e=>(e.key,e.val))=nmE ns) (hk:∀x∈ns,KeyOk x):∀e∈es.toList,∃l,keyOf Tryz.prog 50 e.key=some l:=by
 intro e he
 obtain ⟨i,hi,rfl⟩:=List.getElem_of_mem he
 have hl:es.toList.length=ns.length:=by rw [←nmE_length ns,←h,List.length_map]
 have h2:(es.toList.map (fun e=>(e.key,e.val)))[i]? =some (ndV (ns[i]'(by omega)),.int .i64 (i:Int)):=by rw [h,nmE_get]
 rw [List.getElem?_map,List.getElem?_eq_getElem hi,Option.map_some] at h2
 injection h2 with h2
 injection h2 with h2 _
 rw [h2]
 exact keyOf_nd _ (hk _ (List.getElem_mem _))
theorem NMap.entry {es:Array MapEntry} {ns:List Nd} (h:es.toList.map (fun e=>(e.key,e.val))=nmE ns) {j:Nat} {e:MapEntry} (he:es.toList[j]? =some e):∃hj:j<ns.length,e.key=ndV ns[j]∧e.val= .int .i64 (j:Int):=by
 have hl:es.toList.length=ns.length:=by rw [←nmE_length ns,←h,List.length_map]
 have hj:j<ns.length:=by rw [←hl];exact (List.getElem?_eq_some_iff.1 he).1
 have h2:(es.toList.map (fun e=>(e.key,e.val)))[j]? =some (ndV ns[j],.int .i64 (j:Int)):=by rw [h,nmE_get _ _ hj]
 rw [List.getElem?_map,he,Option.map_some] at h2
 injection h2 with h2
 injection h2 with h2 h3
 exact ⟨hj,h2,h3⟩
def placeV (x:Nd) (ns:List Nd):Int:=if x∈ns then (placeG x ns:Int) else 0
theorem NMap.look {w:World} {b:Nat} {ns:List Nd} (h:NMap w b ns) (hk:∀x∈ns,KeyOk x) (hn:ns.Nodup) (x:Nd) (hx:KeyOk x) {t:TypeId} (ht:Tryz.prog.underlying t=some (.map 50 3)):
  (Instr.lookup t (.map (some b)) (ndV x) true).run Tryz.prog w= .ok (.tuple #[.int .i64 (placeV x ns),.bool (decide (x∈ns))]) w:=by
 obtain ⟨es,clock,hb,he⟩:=h
 obtain ⟨l,hl⟩:=keyOf_nd x hx
 have hz:(zeroValue 3).run Tryz.prog w= .ok (.int .i64 0) w:=by kernel_rfl
 have hlen:es.toList.length=ns.length:=by rw [←nmE_length ns,←he,List.length_map]
 rcases keyed_node.find w hl es.toList (NMap.keys he hk) with ⟨h1,h2⟩|⟨j,e0,h1,h2,h3⟩
 ·have hno:x∉ns:=fun hm=>by
   obtain ⟨i,hi,rfl⟩:=List.getElem_of_mem hm
   have hi2:i<es.toList.length:=by omega
   obtain ⟨_,q,_⟩:=NMap.entry he (List.getElem?_eq_getElem hi2)
   exact h2 _ (List.getElem_mem hi2) q
  rw [placeV,if_neg hno,decide_eq_false hno]
  simp [Instr.lookup,run_underlying ht,MapKept.run_getObj_map hb,keyed_node.check w _ hl,h1,hz,Result.andThen]
 ·obtain ⟨hj,q1,q2⟩:=NMap.entry he h2
  have hxe:x=ns[j]:=ndV_inj (h3.symm.trans q1)
  have hm:x∈ns:=by rw [hxe];exact List.getElem_mem hj
  have hp:placeG x ns=j:=by rw [hxe];exact placeG_at hn hj
  rw [placeV,if_pos hm,decide_eq_true hm,hp,←q2]
  simp [Instr.lookup,run_underlying ht,MapKept.run_getObj_map hb,keyed_node.check w _ hl,h1,Result.andThen]
theorem NMap.store {w:World} {b:Nat} {ns:List Nd} (h:NMap w b ns) (hk:∀x∈ns,KeyOk x) (x:Nd) (hx:KeyOk x) (hno:x∉ns) {t:TypeId} (ht:Tryz.prog.underlying t=some (.map 50 3)):
  ∃w',(Instr.mapUpdate t (.map (some b)) (ndV x) (.int .i64 (ns.length:Int))).run Tryz.prog w= .ok () w'∧NMap w' b (ns++[x])∧w.grownBy w' (some b):=by
 obtain ⟨es,clock,hb,he⟩:=h
 obtain ⟨l,hl⟩:=keyOf_nd x hx
 rcases keyed_node.find w hl es.toList (NMap.keys he hk) with ⟨h1,h2⟩|⟨j,e0,h1,h2,h3⟩
 ·refine ⟨setBlock w b (.map (es.push ⟨ndV x,.int .i64 (ns.length:Int),clock⟩) (clock+1)),?_,⟨_,_,heap_setBlock_same hb _,?_⟩,⟨rfl,rfl,rfl,by simp [setBlock],fun i _ hi=>heap_setBlock_other hb _ (fun e=>hi (by rw [e]))⟩⟩
  ·simp [Instr.mapUpdate,run_underlying ht,MapKept.run_getObj_map hb,keyed_node.check w false hl,h1,MapKept.run_setObj_map _ hb,Result.andThen,setBlock]
  ·rw [Array.toList_push,List.map_append,he,nmE_snoc]
   rfl
 ·obtain ⟨hj,q1,_⟩:=NMap.entry he h2
  exact absurd (by rw [ndV_inj (h3.symm.trans q1)];exact List.getElem_mem hj) hno
end Big
end Go.Proofs.YtaccjdbbkmhanaaGreatDoor
namespace Go.Proofs.YtaccjdbbkmhanaaGreatDoor
namespace Big
def LeafOk (k:Nat) (t:List UInt8):Prop:=(k=1∧code7 t=0∧t.length≤400)∨(k=2∧nameB t=true)∨((k=3∨k=4)∧t=[])
def UnOk (k:Nat) (n:Int):Prop:=(k=5∨(10≤k∧k≤16))∧(k≠10→n=0)∧-64≤n∧n≤64
def NdOk (i:Nat) (x:Nd):Prop:=
 (∃(k:Nat) (t:List UInt8),x=⟨(k:Int),0,0,0,t⟩∧LeafOk k t)∨(∃(k:Nat) (n:Int) (j:Nat),x=⟨(k:Int),(j:Int),0,n,[]⟩∧UnOk k n∧j<i)∨
 (∃k j q:Nat,x=⟨(k:Int),(j:Int),(q:Int),0,[]⟩∧(6≤k∧k≤9)∧j<i∧q<i)
theorem NdOk.mono {i j:Nat} {x:Nd} (h:NdOk i x) (hij:i≤j):NdOk j x:=by
 rcases h with h|⟨k,n,p,he,h1,h2⟩|⟨k,p,q,he,h1,h2,h3⟩
 ·exact .inl h
 ·exact .inr (.inl ⟨k,n,p,he,h1,by omega⟩)
 ·exact .inr (.inr ⟨k,p,q,he,h1,by omega,by omega⟩)
theorem NdOk.text {i:Nat} {x:Nd} (h:NdOk i x):x.text.length≤400:=by
 rcases h with ⟨k,t,rfl,h⟩|⟨k,n,p,rfl,h1,h2⟩|⟨k,p,q,rfl,h1,h2,h3⟩
 ·rcases h with ⟨_,_,h⟩|⟨_,h⟩|⟨_,h⟩
  ·exact h
  ·have:=wordB_le (Bool.and_eq_true_iff.1 h).1
   simp only
   omega
  ·rw [h];simp
 ·simp
 ·simp
def SoundG (ns:List Nd):Prop:=ns.Nodup∧∀i x,ns[i]? =some x→NdOk i x
theorem SoundG.nil:SoundG []:=⟨List.nodup_nil,fun i x h=>by cases h⟩
theorem SoundG.put {ns:List Nd} (h:SoundG ns) {x:Nd} (hx:NdOk ns.length x):SoundG (putG ns x).2:=by
 refine ⟨putG_nodup h.1 x,?_⟩
 unfold putG
 split
 ·exact h.2
 ·intro i y hy
  rcases Nat.lt_or_ge i ns.length with hi|hi
  ·rw [List.getElem?_append_left hi] at hy
   exact h.2 i y hy
  ·rw [List.getElem?_append_right hi] at hy
   have:i-ns.length=0:=by
    rcases Nat.eq_zero_or_pos (i-ns.length) with h0|h0
    ·exact h0
    ·rw [List.getElem?_eq_none (by simp only [List.length_singleton];omega)] at hy;cases hy
   rw [this] at hy
   injection hy with hy
   subst hy
   exact hx.mono hi
theorem SoundG.add (e:Ex) (hg:e.Good):∀ns,SoundG ns→SoundG (addG ns e).2:=by
 induction e with
 |leaf k t=>intro ns h;exact h.put (.inl ⟨k,t,rfl,hg⟩)
 |un k n x ih=>
  intro ns h
  obtain ⟨h1,h2,h3,h4,hx⟩:=hg
  exact (ih hx ns h).put (.inr (.inl ⟨k,n,_,rfl,⟨h1,h2,h3,h4⟩,addG_lt x ns⟩))
 |bin k x y ihx ihy=>
  intro ns h
  obtain ⟨h1,hx,hy⟩:=hg
  have hl:=(addG_pre y (addG ns x).2).length_le
  have:=addG_lt x ns
  exact (ihy hy _ (ihx hx ns h)).put (.inr (.inr ⟨k,_,_,rfl,h1,by omega,addG_lt y _⟩))
theorem SoundG.pre {ns ms:List Nd} (h:SoundG ms) (hp:ns <+: ms):SoundG ns:=by
 refine ⟨h.1.sublist hp.sublist,fun i x hx=>h.2 i x (get_pre hp hx)⟩
theorem SoundG.rep {ns:List Nd} (h:SoundG ns):∀i,i<ns.length→∃e:Ex,e.Good∧Rep ns i e:=by
 have key:∀m i,i≤m→i<ns.length→∃e:Ex,e.Good∧Rep ns i e:=by
  intro m
  induction m with
  |zero=>
   intro i hi hl
   obtain rfl:i=0:=by omega
   have hx:=h.2 0 ns[0] (List.getElem?_eq_getElem hl)
   rcases hx with ⟨k,t,he,ho⟩|⟨k,n,j,he,_,hj⟩|⟨k,j,q,he,_,hj,_⟩
   ·exact ⟨.leaf k t,ho,by show ns[0]? =_;rw [List.getElem?_eq_getElem hl,he]⟩
   ·omega
   ·omega
  |succ m ih=>
   intro i hi hl
   have hx:=h.2 i ns[i] (List.getElem?_eq_getElem hl)
   rcases hx with ⟨k,t,he,ho⟩|⟨k,n,j,he,ho,hj⟩|⟨k,j,q,he,hk,hj,hq⟩
   ·exact ⟨.leaf k t,ho,by show ns[i]? =_;rw [List.getElem?_eq_getElem hl,he]⟩
   ·obtain ⟨x,hg,hr⟩:=ih j (by omega) (by omega)
    exact ⟨.un k n x,⟨ho.1,ho.2.1,ho.2.2.1,ho.2.2.2,hg⟩,j,hr,by rw [List.getElem?_eq_getElem hl,he]⟩
   ·obtain ⟨x,hg,hr⟩:=ih j (by omega) (by omega)
    obtain ⟨y,hg2,hr2⟩:=ih q (by omega) (by omega)
    exact ⟨.bin k x y,⟨hk,hg,hg2⟩,j,q,hr,hr2,by rw [List.getElem?_eq_getElem hl,he]⟩
 intro i hl
 exact key i i (Nat.le_refl _) hl
theorem Rep.lt {ns:List Nd} {i:Nat} {e:Ex} (h:Rep ns i e):i<ns.length:=by
 cases e with
 |leaf k t=>exact (List.getElem?_eq_some_iff.1 h).1
 |un k n x=>obtain ⟨j,_,h⟩:=h;exact (List.getElem?_eq_some_iff.1 h).1
 |bin k x y=>obtain ⟨j,q,_,_,h⟩:=h;exact (List.getElem?_eq_some_iff.1 h).1
theorem Rep.un_lt {ns:List Nd} (hs:SoundG ns) {i j k:Nat} {n:Int} (h:ns[i]? =some ⟨(k:Int),(j:Int),0,n,[]⟩) (hk:k=5∨(10≤k∧k≤16)):j<i:=by
 rcases hs.2 i _ h with ⟨k',t,he,ho⟩|⟨k',n',j',he,_,hj⟩|⟨k',j',q,he,hk',hj,hq⟩
 ·simp only [Nd.mk.injEq] at he
  rcases ho with ⟨h,_⟩|⟨h,_⟩|⟨h,_⟩<;>omega
 ·simp only [Nd.mk.injEq] at he
  omega
 ·simp only [Nd.mk.injEq] at he
  omega
theorem Rep.bin_lt {ns:List Nd} (hs:SoundG ns) {i j q k:Nat} (h:ns[i]? =some ⟨(k:Int),(j:Int),(q:Int),0,[]⟩) (hk:6≤k∧k≤9):j<i∧q<i:=by
 rcases hs.2 i _ h with ⟨k',t,he,ho⟩|⟨k',n',j',he,ho,hj⟩|⟨k',j',q',he,hk',hj,hq⟩
 ·simp only [Nd.mk.injEq] at he
  rcases ho with ⟨h,_⟩|⟨h,_⟩|⟨h,_⟩<;>omega
 ·simp only [Nd.mk.injEq] at he
  have:=ho.1
  omega
 ·simp only [Nd.mk.injEq] at he
  omega
def stepN (f:Nat) (g:Nat→Nat) (h:Nat→Nat→Nat) (D:List Nat) (x:Nd):List Nat:=
 D++[if x.kind<5 then f else if 6≤x.kind∧x.kind≤9 then h (D.getD x.a.toNat 0) (D.getD x.b.toNat 0) else g (D.getD x.a.toNat 0)]
def allN (f:Nat) (g:Nat→Nat) (h:Nat→Nat→Nat) (ns:List Nd):List Nat:=ns.foldl (stepN f g h) []
section
variable {f:Nat} {g:Nat→Nat} {h:Nat→Nat→Nat}
theorem allN_snoc (ns:List Nd) (x:Nd):allN f g h (ns++[x])=stepN f g h (allN f g h ns) x:=by unfold allN;rw [List.foldl_append];rfl
theorem allN_len (ns:List Nd):(allN f g h ns).length=ns.length:=by
 have key:∀(l:List Nd) (D:List Nat),(l.foldl (stepN f g h) D).length=D.length+l.length:=by
  intro l
  induction l with
  |nil=>intro D;rfl
  |cons x l ih=>
   intro D
   rw [List.foldl_cons,ih]
   simp only [stepN,List.length_append,List.length_cons,List.length_nil]
   omega
 have:=key ns []
 rw [List.length_nil,Nat.zero_add] at this
 exact this
theorem allN_pre (ns ms:List Nd):allN f g h ns <+: allN f g h (ns++ms):=by
 have key:∀(l:List Nd) (D:List Nat),D <+: l.foldl (stepN f g h) D:=by
  intro l
  induction l with
  |nil=>intro D;exact List.prefix_refl _
  |cons x l ih=>intro D;exact (List.prefix_append D _).trans (ih _)
 unfold allN
 rw [List.foldl_append]
 exact key ms _
theorem allN_getD {ns:List Nd} {i:Nat} (hi:i<ns.length):∀j,j<i→(allN f g h (ns.take i)).getD j 0=(allN f g h ns).getD j 0:=by
 intro j hj
 have h1:=allN_pre (f:=f) (g:=g) (h:=h) (ns.take i) (ns.drop i)
 rw [List.take_append_drop] at h1
 obtain ⟨t,ht⟩:=h1
 rw [←ht,getD_before _ _ (by rw [allN_len,List.length_take];omega)]
theorem allN_at {ns:List Nd} {i:Nat} (hi:i<ns.length):(allN f g h ns).getD i 0=(stepN f g h (allN f g h (ns.take i)) ns[i]).getD i 0:=by
 have h1:=allN_pre (f:=f) (g:=g) (h:=h) (ns.take (i+1)) (ns.drop (i+1))
 rw [List.take_append_drop] at h1
 obtain ⟨t,ht⟩:=h1
 rw [←ht,getD_before _ _ (by rw [allN_len,List.length_take];omega),List.take_succ_eq_append_getElem hi,allN_snoc]
def exN (f:Nat) (g:Nat→Nat) (h:Nat→Nat→Nat):Ex→Nat
 | .leaf _ _=>f
 | .un _ _ x=>g (exN f g h x)
 | .bin _ x y=>h (exN f g h x) (exN f g h y)
theorem allN_rep {ns:List Nd} (hs:SoundG ns):∀{e:Ex} {i:Nat},e.Good→Rep ns i e→(allN f g h ns).getD i 0=exN f g h e:=by
 intro e
 induction e with
 |leaf k t=>
  intro i hg hr
  obtain ⟨hi,hx⟩:=List.getElem?_eq_some_iff.1 (show ns[i]? =_ from hr)
  rw [allN_at hi,hx]
  unfold stepN
  rw [getD_lastG _ _ (by rw [allN_len,List.length_take];omega)]
  rw [if_pos (by rcases hg with ⟨h,_⟩|⟨h,_⟩|⟨h,_⟩<;>simp only<;>omega)]
  rfl
 |un k n x ih=>
  intro i hg hr
  obtain ⟨j,hj,hx⟩:=hr
  have hji:=Rep.un_lt hs hx hg.1
  obtain ⟨hi,hx⟩:=List.getElem?_eq_some_iff.1 hx
  rw [allN_at hi,hx]
  unfold stepN
  rw [getD_lastG _ _ (by rw [allN_len,List.length_take];omega)]
  have:=hg.1
  rw [if_neg (by simp only;omega),if_neg (by simp only;omega)]
  simp only [Int.toNat_natCast]
  rw [allN_getD hi j hji,ih hg.2.2.2.2 hj]
  rfl
 |bin k x y ihx ihy=>
  intro i hg hr
  obtain ⟨j,q,hj,hq,hx⟩:=hr
  have hji:=Rep.bin_lt hs hx hg.1
  obtain ⟨hi,hx⟩:=List.getElem?_eq_some_iff.1 hx
  rw [allN_at hi,hx]
  unfold stepN
  rw [getD_lastG _ _ (by rw [allN_len,List.length_take];omega)]
  have:=hg.1
  rw [if_neg (by simp only;omega),if_pos (by simp only;omega)]
  simp only [Int.toNat_natCast]
  rw [allN_getD hi j hji.1,allN_getD hi q hji.2,ihx hg.2.1 hj,ihy hg.2.2 hq]
  rfl
end
def deepG (ns:List Nd):List Nat:=allN 1 (fun a=>max 1 (a+1)) (fun a b=>max (max 1 (a+1)) (b+1)) ns
theorem exN_depth (e:Ex):exN 1 (fun a=>max 1 (a+1)) (fun a b=>max (max 1 (a+1)) (b+1)) e=e.depth:=by
 induction e with
 |leaf k t=>rfl
 |un k n x ih=>simp only [exN,ih,Ex.depth];omega
 |bin k x y ihx ihy=>simp only [exN,ihx,ihy,Ex.depth];omega
theorem deepG_rep {ns:List Nd} (hs:SoundG ns) {e:Ex} {i:Nat} (hg:e.Good) (hr:Rep ns i e):(deepG ns).getD i 0=e.depth:=(allN_rep hs hg hr).trans (exN_depth e)
def bigG (ns:List Nd):List Nat:=allN 1 (fun a=>min (1+a) 201) (fun a b=>min (min (1+a) 201+b) 201) ns
theorem exN_size (e:Ex):exN 1 (fun a=>min (1+a) 201) (fun a b=>min (min (1+a) 201+b) 201) e=min e.size 201:=by
 induction e with
 |leaf k t=>rfl
 |un k n x ih=>simp only [exN,ih,Ex.size];omega
 |bin k x y ihx ihy=>simp only [exN,ihx,ihy,Ex.size];omega
theorem bigG_rep {ns:List Nd} (hs:SoundG ns) {e:Ex} {i:Nat} (hg:e.Good) (hr:Rep ns i e):(bigG ns).getD i 0=min e.size 201:=(allN_rep hs hg hr).trans (exN_size e)
end Big
end Go.Proofs.YtaccjdbbkmhanaaGreatDoor
namespace Go.Proofs.YtaccjdbbkmhanaaGreatDoor
namespace Big
theorem flat_ndOk (e:Ex) (hg:e.Good):∀(off i:Nat) (x:Nd),(flat off e)[i]? =some x→NdOk (off+i) x:=by
 induction e with
 |leaf k t=>
  intro off i x h
  obtain ⟨_,he⟩:=List.getElem?_eq_some_iff.1 h
  simp only [flat,List.getElem_singleton] at he
  exact .inl ⟨k,t,he.symm,hg⟩
 |un k n x ih=>
  intro off i y h
  obtain ⟨h1,h2,h3,h4,hx⟩:=hg
  rcases Nat.lt_or_ge i x.size with hi|hi
  ·rw [flat,List.getElem?_append_left (by rw [flat_len];exact hi)] at h
   exact ih hx off i y h
  ·rw [flat,List.getElem?_append_right (by rw [flat_len];exact hi),flat_len] at h
   obtain ⟨q,he⟩:=List.getElem?_eq_some_iff.1 h
   simp only [List.getElem_singleton] at he
   have:=x.size_pos
   exact .inr (.inl ⟨k,n,off+x.size-1,he.symm,⟨h1,h2,h3,h4⟩,by omega⟩)
 |bin k x y ihx ihy=>
  intro off i z h
  obtain ⟨h1,hx,hy⟩:=hg
  have:=x.size_pos
  have:=y.size_pos
  rcases Nat.lt_or_ge i x.size with hi|hi
  ·rw [flat,List.getElem?_append_left (by rw [flat_len];exact hi)] at h
   exact ihx hx off i z h
  ·rw [flat,List.getElem?_append_right (by rw [flat_len];exact hi),flat_len] at h
   rcases Nat.lt_or_ge (i-x.size) y.size with hi2|hi2
   ·rw [List.getElem?_append_left (by rw [flat_len];exact hi2)] at h
    have:=ihy hy _ _ z h
    rw [show off+x.size+(i-x.size)=off+i by omega] at this
    exact this
   ·rw [List.getElem?_append_right (by rw [flat_len];exact hi2),flat_len] at h
    obtain ⟨q,he⟩:=List.getElem?_eq_some_iff.1 h
    simp only [List.getElem_singleton] at he
    exact .inr (.inr ⟨k,off+x.size-1,off+x.size+y.size-1,he.symm,h1,by omega,by omega⟩)
def liftG (ids:List Nat) (x:Nd):Nd:=
 ⟨x.kind,if 5≤x.kind then ((ids.getD x.a.toNat 0:Nat):Int) else x.a,if 6≤x.kind∧x.kind≤9 then ((ids.getD x.b.toNat 0:Nat):Int) else x.b,x.n,x.text⟩
theorem stepG_eq (s:List Nat × List Nd) (x:Nd):stepG s x=(s.1++[(putG s.2 (liftG s.1 x)).1],(putG s.2 (liftG s.1 x)).2):=rfl
structure FG (n:Nat) (s:List Nat × List Nd) (i:Nat):Prop where
 len:s.1.length=i
 lt:∀j,j<i→s.1.getD j 0<s.2.length
 sound:SoundG s.2
 big:s.2.length≤n+i
theorem LeafOk.lt {k:Nat} {t:List UInt8} (h:LeafOk k t):k<5:=by rcases h with ⟨h,_⟩|⟨h,_⟩|⟨h,_⟩<;>omega
theorem liftG_ok {n:Nat} {s:List Nat × List Nd} {i:Nat} {x:Nd} (h:FG n s i) (hx:NdOk i x):NdOk s.2.length (liftG s.1 x):=by
 rcases hx with ⟨k,t,rfl,ho⟩|⟨k,m,j,rfl,ho,hj⟩|⟨k,j,q,rfl,hk,hj,hq⟩
 ·have:=ho.lt
  refine .inl ⟨k,t,?_,ho⟩
  unfold liftG
  rw [if_neg (by simp only;omega),if_neg (by simp only;omega)]
 ·have:=ho.1
  refine .inr (.inl ⟨k,m,s.1.getD j 0,?_,ho,h.lt j hj⟩)
  unfold liftG
  rw [if_pos (by simp only;omega),if_neg (by simp only;omega)]
  rfl
 ·refine .inr (.inr ⟨k,s.1.getD j 0,s.1.getD q 0,?_,hk,h.lt j hj,h.lt q hq⟩)
  unfold liftG
  rw [if_pos (by simp only;omega),if_pos (by simp only;omega)]
  rfl
theorem FG.step {n:Nat} {s:List Nat × List Nd} {i:Nat} {x:Nd} (h:FG n s i) (hx:NdOk i x):FG n (stepG s x) (i+1):=by
 have hp:=(putG_pre s.2 (liftG s.1 x)).length_le
 have hl:=putG_len s.2 (liftG s.1 x)
 have hb:=h.big
 have hlen:=h.len
 rw [stepG_eq]
 refine ⟨by simp only [List.length_append,List.length_singleton,hlen],fun j hj=> ?_,h.sound.put (liftG_ok h hx),by simp only;omega⟩
 simp only
 rcases Nat.lt_or_ge j i with hji|hji
 ·rw [getD_before _ _ (by omega)]
  exact Nat.lt_of_lt_of_le (h.lt j hji) hp
 ·rw [getD_lastG _ _ (by omega)]
  exact putG_lt _ _
theorem FG.start {ns:List Nd} (h:SoundG ns):FG ns.length ([],ns) 0:=⟨rfl,fun j hj=>by omega,h,Nat.le_refl _⟩
theorem foldG_take (s:List Nat × List Nd) (l:List Nd) (i:Nat) (h:i<l.length):foldG s (l.take (i+1))=stepG (foldG s (l.take i)) l[i]:=by
 rw [List.take_succ_eq_append_getElem h]
 unfold foldG
 rw [List.foldl_append]
 rfl
theorem FG.at {ns:List Nd} (h:SoundG ns) {e:Ex} (hg:e.Good):∀i,i≤e.size→FG ns.length (foldG ([],ns) ((flat 0 e).take i)) i:=by
 intro i
 induction i with
 |zero=>intro _;exact FG.start h
 |succ i ih=>
  intro hi
  have hl:i<(flat 0 e).length:=by rw [flat_len];omega
  rw [foldG_take _ _ _ hl]
  have h2:=flat_ndOk e hg 0 i _ (List.getElem?_eq_getElem hl)
  rw [Nat.zero_add] at h2
  exact (ih (by omega)).step h2
theorem foldG_end (e:Ex) (hg:e.Good) (ns:List Nd):∃more:List Nat,more.length+1=e.size∧foldG ([],ns) (flat 0 e)=(more++[(addG ns e).1],(addG ns e).2):=by
 obtain ⟨more,h1,h2⟩:=foldG_flat e hg [] ns
 exact ⟨more,h1,by simpa using h2⟩
end Big
end Go.Proofs.YtaccjdbbkmhanaaGreatDoor
