import Derived.Test.YtaccjdbbkmhanaaGreatDoorM3
import Derived.Test.YtaccjdbbkmhanaaGreatDoorChecked
import Derived.Test.YtaccjdbbkmhanaaGreatDoorM1
import Derived.WalkKit
import Derived.Lib.Hide
import Derived.Laws.OwnMore
import Derived.Deep.Draws
import Derived.WalkLawsBesides
import Derived.WalkSpells
import Derived.BigQuiet
import Derived.Deep.QuietTactic
import Derived.Deep.DeepFit
import Derived.Deep.LoopGhost
import Derived.Handy
namespace Go.Proofs.YtaccjdbbkmhanaaGreatDoor
namespace Big
inductive Ex where
 |leaf (k:Nat) (t:List UInt8)
 |un (k:Nat) (n:Int) (x:Ex)
 |bin (k:Nat) (x y:Ex)
structure Nd where
 kind:Int
 a:Int
 b:Int
 n:Int
 text:List UInt8
def Ex.kind:Ex→Nat
 | .leaf k _=>k
 | .un k _ _=>k
 | .bin k _ _=>k
def Ex.size:Ex→Nat
 | .leaf _ _=>1
 | .un _ _ x=>x.size+1
 | .bin _ x y=>x.size+y.size+1
def Ex.depth:Ex→Nat
 | .leaf _ _=>1
 | .un _ _ x=>x.depth+1
 | .bin _ x y=>max x.depth y.depth+1
theorem Ex.size_pos (e:Ex):1≤e.size:=by cases e<;>simp [Ex.size]
def flat:Nat→Ex→List Nd
 |_,.leaf k t=>[⟨(k:Int),0,0,0,t⟩]
 |off,.un k n x=>flat off x++[⟨(k:Int),((off+x.size-1:Nat):Int),0,n,[]⟩]
 |off,.bin k x y=>flat off x++(flat (off+x.size) y++[⟨(k:Int),((off+x.size-1:Nat):Int),((off+x.size+y.size-1:Nat):Int),0,[]⟩])
theorem flat_len (e:Ex):∀off,(flat off e).length=e.size:=by
 induction e with
 |leaf k t=>intro off;rfl
 |un k n x ih=>intro off;rw [flat,List.length_append,ih];rfl
 |bin k x y ihx ihy=>intro off;rw [flat,List.length_append,List.length_append,ihx,ihy,List.length_singleton,Ex.size];omega
def nameB (t:List UInt8):Bool:=wordB t && !([[112,105],[101],[115,113,114,116],[101,120,112],[108,110],[115,105,110],[99,111,115],[97,116,97,110]]:List (List UInt8)).contains t
def Ex.Good:Ex→Prop
 | .leaf k t=>(k=1∧code7 t=0∧t.length≤400)∨(k=2∧nameB t=true)∨((k=3∨k=4)∧t=[])
 | .un k n x=>(k=5∨(10≤k∧k≤16))∧(k≠10→n=0)∧-64≤n∧n≤64∧x.Good
 | .bin k x y=>(6≤k∧k≤9)∧x.Good∧y.Good
def levelK (k:Nat):Nat:=if k=6∨k=7 then 1 else if k=8∨k=9 then 2 else if k=5 then 3 else if k=10 then 4 else 5
def signT (k:Nat):List UInt8:=if k=6 then [32,43,32] else if k=7 then [32,45,32] else if k=8 then [32,42,32] else [32,47,32]
def funcT (k:Nat):List UInt8:=
 if k=11 then [115,113,114,116] else if k=12 then [101,120,112] else if k=13 then [108,110] else if k=14 then [115,105,110] else if k=15 then [99,111,115] else [97,116,97,110]
def parenT (b:Bool) (s:List UInt8):List UInt8:=if b then 40::(s++[41]) else s
def nodeT (fmt:Int→List UInt8):Ex→List UInt8
 | .leaf k t=>if k=3 then [112,105] else if k=4 then [101] else t
 | .un k n x=>if k=5 then 45::parenT (decide (levelK x.kind<3)) (nodeT fmt x)
   else if k=10 then parenT (decide (levelK x.kind<5)) (nodeT fmt x)++(94::fmt n)
   else funcT k++(40::(nodeT fmt x++[41]))
 | .bin k x y=>parenT (decide (levelK x.kind<levelK k)) (nodeT fmt x)++(signT k++parenT (decide (levelK y.kind<levelK k+1)) (nodeT fmt y))
theorem wordB_le {t:List UInt8} (h:wordB t=true):t.length≤24:=by
 unfold wordB at h
 simp only [Bool.and_eq_true,decide_eq_true_eq] at h
 exact h.1.1.2
def AtEx (l:List Nd) (i:Nat) (e:Ex):Prop:=∃pre post,l=pre++(flat pre.length e++post)∧i+1=pre.length+e.size
theorem AtEx.lt {l:List Nd} {i:Nat} {e:Ex} (h:AtEx l i e):i<l.length∧e.size≤i+1:=by
 obtain ⟨pre,post,rfl,h⟩:=h
 have:=flat_len e pre.length
 rw [List.length_append,List.length_append]
 omega
theorem get_last {α:Type} {pre mid post:List α} {x:α} {i:Nat} (h:i=pre.length+mid.length):(pre++((mid++[x])++post))[i]? =some x:=by
 subst h
 rw [List.getElem?_append_right (by omega),Nat.add_sub_cancel_left,List.getElem?_append_left (by simp),List.getElem?_append_right (Nat.le_refl _),Nat.sub_self]
 rfl
theorem AtEx.leaf {l:List Nd} {i k:Nat} {t:List UInt8} (h:AtEx l i (.leaf k t)):l[i]? =some ⟨(k:Int),0,0,0,t⟩:=by
 obtain ⟨pre,post,rfl,h⟩:=h
 simp only [Ex.size] at h
 exact get_last (mid:=[]) (by simp;omega)
theorem AtEx.un {l:List Nd} {i k:Nat} {n:Int} {x:Ex} (h:AtEx l i (.un k n x)):1≤i∧l[i]? =some ⟨(k:Int),((i-1:Nat):Int),0,n,[]⟩∧AtEx l (i-1) x:=by
 obtain ⟨pre,post,rfl,h⟩:=h
 simp only [Ex.size] at h
 have hx:=x.size_pos
 have hl:=flat_len x pre.length
 refine ⟨by omega,?_,⟨pre,[⟨(k:Int),((pre.length+x.size-1:Nat):Int),0,n,[]⟩]++post,?_,by omega⟩⟩
 ·rw [show i-1=pre.length+x.size-1 by omega]
  exact get_last (mid:=flat pre.length x) (by omega)
 ·rw [flat,List.append_assoc]
theorem AtEx.bin {l:List Nd} {i k:Nat} {x y:Ex} (h:AtEx l i (.bin k x y)):∃j,j+1+y.size=i∧l[i]? =some ⟨(k:Int),(j:Int),((i-1:Nat):Int),0,[]⟩∧AtEx l j x∧AtEx l (i-1) y:=by
 obtain ⟨pre,post,rfl,h⟩:=h
 simp only [Ex.size] at h
 have hx:=x.size_pos
 have hy:=y.size_pos
 have hl:=flat_len x pre.length
 have hl2:=flat_len y (pre.length+x.size)
 refine ⟨pre.length+x.size-1,by omega,?_,⟨pre,flat (pre.length+x.size) y++([⟨(k:Int),((pre.length+x.size-1:Nat):Int),((pre.length+x.size+y.size-1:Nat):Int),0,[]⟩]++post),?_,by omega⟩,⟨pre++flat pre.length x,[⟨(k:Int),((pre.length+x.size-1:Nat):Int),((pre.length+x.size+y.size-1:Nat):Int),0,[]⟩]++post,?_,?_⟩⟩
 ·rw [flat,←List.append_assoc (flat pre.length x),show i-1=pre.length+x.size+y.size-1 by omega]
  exact get_last (mid:=flat pre.length x++flat (pre.length+x.size) y) (by rw [List.length_append];omega)
 ·rw [flat];simp only [List.append_assoc]
 ·rw [flat,List.length_append,hl];simp only [List.append_assoc]
 ·rw [List.length_append,hl];omega
end Big
end Go.Proofs.YtaccjdbbkmhanaaGreatDoor
namespace Go.Proofs.YtaccjdbbkmhanaaGreatDoor
namespace Big
open Go.RowKit
def d32 (x:Nat):Value:= .int .u32 (x:Int)
def Ext (w w':World):Prop:=Below w.heap.size w w'
section
variable {w w' w'':World}
theorem Ext.refl (w:World):Ext w w:=Below.refl _ _
theorem Ext.trans (h:Ext w w') (k:Ext w' w''):Ext w w'':=Below.trans h (Below.mono k h.size)
theorem Ext.more (h:Ext w w') (k:Below w.heap.size w' w''):Ext w w'':=Below.trans h k
theorem Ext.size (h:Ext w w'):w.heap.size≤w'.heap.size:=Below.size h
theorem Ext.alloc (h:Ext w w') (o:Obj):Ext w (w'.alloc o):=Below.alloc h h.size o
theorem Ext.drew (h:Ext w w'):Ext w w'.drew:=Below.drew h
theorem Ext.drewN (h:Ext w w') (n:Nat):Ext w (w'.drewN n):=⟨h.os,h.tape,h.output,h.size,h.block⟩
theorem Ext.setCell (h:Ext w w') {p:Addr} (hp:w.heap.size≤p.block) (u:Value):Ext w (w'.setCell p u):=Below.setCell h hp u
theorem Ext.grown {row:Option Nat} (h:Ext w w') (hg:w'.grownBy w'' row) (hr:∀k,row=some k→w.heap.size≤k):Ext w w'':=Below.grown h hg h.size hr
theorem Ext.cell (h:Ext w w') {b o:Nat} (hb:b<w.heap.size):w'.cell? ⟨b,o,none⟩=w.cell? ⟨b,o,none⟩:=Below.cell (p:=⟨b,o,none⟩) h hb
theorem Ext.frozen (h:Ext w w') {b o:Nat} (hb:b<w.heap.size):w'.frozen? ⟨b,o,none⟩=w.frozen? ⟨b,o,none⟩:=Below.frozen (p:=⟨b,o,none⟩) h hb
end
def Blk (w:World) (g:Nat) (t:TypeId) (cs:Array Value):Prop:=w.heap[g]? =some (.cells cs t (0,0))
section
variable {w w':World} {g:Nat} {t:TypeId} {cs:Array Value}
theorem Blk.lt (h:Blk w g t cs):g<w.heap.size:=by
 rcases Nat.lt_or_ge g w.heap.size with hlt|hge
 ·exact hlt
 ·unfold Blk at h;rw [Array.getElem?_eq_none hge] at h;cases h
theorem Blk.cell (h:Blk w g t cs) (i:Nat):w.cell? ⟨g,i,none⟩=cs[i]? :=cell_of_row w g i cs t (0,0) h
theorem Blk.frozen (h:Blk w g t cs) (i:Nat):w.frozen? ⟨g,i,none⟩=false:=by
 unfold Blk at h
 simp [World.frozen?,h]
theorem Blk.new (w:World) (t:TypeId) (cs:Array Value):Blk (w.alloc (.cells cs t)) w.heap.size t cs:=heap_alloc_new w _
theorem Blk.drew (h:Blk w g t cs):Blk w.drew g t cs:=h
theorem Blk.drewN (h:Blk w g t cs) (n:Nat):Blk (w.drewN n) g t cs:=h
theorem Blk.alloc (h:Blk w g t cs) (o:Obj):Blk (w.alloc o) g t cs:=(Below.heap_alloc w o g h.lt).trans h
theorem Blk.set_ (h:Blk w g t cs) (i:Nat) (u:Value):Blk (w.setCell ⟨g,i,none⟩ u) g t (cs.setIfInBounds i u):=by
 unfold Blk at h ⊢
 simp [World.setCell,Array.getElem?_modify,h]
theorem Blk.far (h:Blk w g t cs) {p:Addr} (hp:g≠p.block) (u:Value):Blk (w.setCell p u) g t cs:=(Below.heap_setCell w p u g hp).trans h
theorem Blk.ext (h:Blk w g t cs) (hb:Ext w w'):Blk w' g t cs:=(Below.block hb g h.lt).trans h
end
def RArr (w:World) (v:Value) (vs:List Value):Prop:=
 ∃A c,v= .slice A vs.length c∧vs.length≤c∧c≤maxLen∧
  (0<vs.length→∃b o,A=some ⟨b,o,none⟩∧b<w.heap.size∧∀j u,vs[j]? =some u→w.cell? ⟨b,o+j,none⟩=some u)
def ROwn (t:TypeId) (B:Nat) (w:World) (v:Value) (vs:List Value):Prop:=
 ∃A c,v= .slice A vs.length c∧vs.length≤c∧c≤maxLen∧
  ((vs=[]∧c=0)∨∃g cur,A=some ⟨g,0,none⟩∧B≤g∧Blk w g t cur∧cur.size=c∧cur.toList.take vs.length=vs)
section
variable {w w':World} {v:Value} {vs:List Value} {B B':Nat} {t:TypeId}
theorem RArr.ext (h:RArr w v vs) (hb:Ext w w'):RArr w' v vs:=by
 obtain ⟨A,c,rfl,h2,h3,h4⟩:=h
 refine ⟨A,c,rfl,h2,h3,fun hp=> ?_⟩
 obtain ⟨b,o,rfl,hlt,hc⟩:=h4 hp
 exact ⟨b,o,rfl,Nat.lt_of_lt_of_le hlt hb.size,fun j u hj=>(hb.cell hlt).trans (hc j u hj)⟩
theorem ROwn.ext (h:ROwn t B w v vs) (hb:Ext w w'):ROwn t B w' v vs:=by
 obtain ⟨A,c,rfl,h2,h3,h4⟩:=h
 refine ⟨A,c,rfl,h2,h3,?_⟩
 rcases h4 with h4|⟨g,cur,rfl,hg,hblk,hs,ht⟩
 ·exact .inl h4
 ·exact .inr ⟨g,cur,rfl,hg,hblk.ext hb,hs,ht⟩
theorem ROwn.mono (h:ROwn t B w v vs) (hB:B'≤B):ROwn t B' w v vs:=by
 obtain ⟨A,c,rfl,h2,h3,h4⟩:=h
 refine ⟨A,c,rfl,h2,h3,?_⟩
 rcases h4 with h4|⟨g,cur,rfl,hg,rest⟩
 ·exact .inl h4
 ·exact .inr ⟨g,cur,rfl,Nat.le_trans hB hg,rest⟩
theorem take_at {cur:Array Value} {n:Nat} (ht:cur.toList.take n=vs) {j:Nat} {u:Value} (hj:vs[j]? =some u):cur[j]? =some u:=by
 rw [←ht,List.getElem?_take] at hj
 split at hj
 ·simpa using hj
 ·cases hj
theorem ROwn.arr (h:ROwn t B w v vs):RArr w v vs:=by
 obtain ⟨A,c,rfl,h2,h3,h4⟩:=h
 refine ⟨A,c,rfl,h2,h3,fun hp=> ?_⟩
 rcases h4 with ⟨rfl,rfl⟩|⟨g,cur,rfl,hg,hblk,hs,ht⟩
 ·simp at hp
 ·refine ⟨g,0,rfl,hblk.lt,fun j u hj=> ?_⟩
  rw [hblk.cell,Nat.zero_add]
  exact take_at ht hj
theorem ROwn.none_ (t:TypeId) (B:Nat) (w:World):ROwn t B w (.slice none 0 0) []:=⟨none,0,rfl,Nat.zero_le _,by unfold maxLen;omega,.inl ⟨rfl,rfl⟩⟩
theorem RArr.none_ (w:World):RArr w (.slice none 0 0) []:=(ROwn.none_ 0 0 w).arr
theorem ROwn.empty (t:TypeId) (B:Nat) (w:World) (A:Option Addr):ROwn t B w (.slice A 0 0) []:=⟨A,0,rfl,Nat.zero_le _,by unfold maxLen;omega,.inl ⟨rfl,rfl⟩⟩
theorem RArr.empty (w:World) (A:Option Addr) (c:Nat) (hc:c≤maxLen):RArr w (.slice A 0 c) []:=⟨A,c,rfl,Nat.zero_le _,hc,fun h=>by simp at h⟩
theorem RArr.one {b:Nat} {u:Value} (h:w.cell? ⟨b,0,none⟩=some u):RArr w (.slice (some ⟨b,0,none⟩) 1 1) [u]:=
 ⟨some ⟨b,0,none⟩,1,rfl,Nat.le_refl _,by unfold maxLen;omega,fun _=>⟨b,0,rfl,World.block_lt_of_cell? w _ h,fun j x hj=>by
  match j with
  |0=>simp only [List.getElem?_cons_zero,Option.some.injEq] at hj;subst hj;exact h
  |j+1=>simp at hj⟩⟩
theorem ROwn.take (h:ROwn t B w v vs) (n:Nat) (hn:n≤vs.length):∃A c,v= .slice A vs.length c∧ROwn t B w (.slice A n c) (vs.take n):=by
 obtain ⟨A,c,rfl,h2,h3,h4⟩:=h
 have hl:(vs.take n).length=n:=by rw [List.length_take,Nat.min_eq_left hn]
 refine ⟨A,c,rfl,A,c,by rw [hl],by rw [hl];omega,h3,?_⟩
 rcases h4 with ⟨rfl,rfl⟩|⟨g,cur,rfl,hg,hblk,hs,ht⟩
 ·exact .inl ⟨by simp,rfl⟩
 ·exact .inr ⟨g,cur,rfl,hg,hblk,hs,by rw [hl];rw [←ht,List.take_take,Nat.min_eq_left hn]⟩
end
section
variable {P:Program} {w:World} {v src:Value} {vs ys:List Value} {B:Nat}
def rowOf:Value→Option Nat
 | .slice (some a) _ c=>if c=0 then none else some a.block
 |_=>none
theorem run_append_any (t ty e:TypeId) (i:TypeInfo) (z:Value) (bytes:Nat) (ht:P.underlying t=some (.slice e)) (hi:P.info? e=some i) (hz:i.zero=some z)
  (hsize:i.size=1) (hby:i.bytes=bytes) (hzs:z.cells.size=1)
  (hown:ROwn e B w v vs) (hsrc:RArr w src ys) (h1:∀u∈ys,u.oneCell'=true)
  (h63:vs.length+ys.length≤maxLen) (hbytes:(vs.length+ys.length)*bytes≤140737488355328) (hbase:B≤w.heap.size):
  ∃v' w',(Builtin.append_ #[t,t] ty #[v,src]).run P w= .ok v' w'∧ROwn e B w' v' (vs++ys)∧w.grownBy w' (rowOf v)∧Below B w w':=by
 obtain ⟨A,c,rfl,h2,h3,h4⟩:=hown
 obtain ⟨A',c',rfl,k2,k3,k4⟩:=hsrc
 rcases Nat.eq_zero_or_pos ys.length with hm|hm
 ·have hys:ys=[]:=List.eq_nil_of_length_eq_zero hm
  subst hys
  refine ⟨.slice A vs.length c,w,?_,⟨A,c,by simp,by simpa using h2,h3,by simpa using h4⟩,⟨rfl,rfl,rfl,Nat.le_refl _,fun _ _ _=>rfl⟩,Below.refl _ _⟩
  rcases A' with _|a'<;>rcases A with _|a<;>
   simp [Builtin.append_,run_underlying ht,sizeOf,typeInfo,hi,Builtin.lenOf,Builtin.firstCells,loadCells,loadCellsFrom,storeCells,h2]
 ·obtain ⟨b',o',rfl,hlt',hc'⟩:=k4 hm
  have hnews:∀j u,ys[j]? =some u→w.cell? ((⟨b',o',none⟩:Addr).add j)=some u:=fun j u hj=>by
   have:=hc' j u hj
   unfold Addr.add
   split
   ·rename_i h0;subst h0;simpa using this
   ·exact this
  have h5:(vs=[]∧c=0)∨(c≠0∧∃g cur,A=some ⟨g,0,none⟩∧B≤g∧Blk w g e cur∧cur.size=c∧cur.toList.take vs.length=vs):=by
   by_cases hc0:c=0
   ·exact .inl ⟨List.eq_nil_of_length_eq_zero (by omega),hc0⟩
   ·rcases h4 with ⟨_,hc⟩|h4
    ·exact absurd hc hc0
    ·exact .inr ⟨hc0,h4⟩
  clear h4
  rcases h5 with ⟨rfl,rfl⟩|⟨hc0,g,cur,rfl,hg,hblk,hs,hta⟩
  ·
   have hsm:ys.length≤9223372036854775807:=by unfold maxLen at h63;simp at h63;omega
   have hcm:grownCap w ys.length 0 e≤maxLen:=grownCap_le_maxLen w ys.length 0 e (by simpa using h63)
   have hge:=grownCap_ge w ys.length 0 e
   have hb':ys.length*i.bytes≤140737488355328:=by rw [hby];simpa using hbytes
   have key:∃W,(Builtin.append_ #[t,t] ty #[.slice A 0 0,.slice (some ⟨b',o',none⟩) ys.length c']).run P w= .ok (.slice (some ⟨w.heap.size,0,none⟩) ys.length (grownCap w ys.length 0 e)) W∧
     W=w.drew.alloc (.cells (ys.toArray++Builtin.zeroCells z.cells (grownCap w ys.length 0 e-ys.length)) e):=by
    rcases A with _|a
    ·exact ⟨_,run_append_nil (P:=P) w t ty e i z ht hi hz ⟨b',o',none⟩ ys.length c' ys (by rw [hsize,Nat.mul_one]) hnews hm (by omega) (by omega),rfl⟩
    ·have hr:=run_append_grow (P:=P) w t ty e i z ht hi hz a 0 0 [] (by simp) (fun j u hu=>by simp at hu) ⟨b',o',none⟩ ys.length c' ys (by rw [hsize,Nat.mul_one]) hnews (by omega) (by omega) (growslice_fits (by omega) (by simpa using hb'))
     simp only [Nat.zero_add] at hr
     refine ⟨_,hr,?_⟩
     simp
   obtain ⟨W,hrun,rfl⟩:=key
   refine ⟨_,_,hrun,⟨_,_,by simp,by simpa using hge,hcm,.inr ⟨w.heap.size,_,rfl,hbase,heap_alloc_new w.drew _,?_,?_⟩⟩,?_,?_⟩
   ·simp only [Array.size_append,List.size_toArray,size_zeroCells,hzs,Nat.mul_one];omega
   ·simp
   ·exact ⟨rfl,rfl,rfl,by simp,fun k hk _=>Below.heap_alloc w.drew _ k hk⟩
   ·exact ((Below.refl B w).drew).alloc hbase _
  ·have hrow:w.ownsRow B e 1 (.slice (some ⟨g,0,none⟩) vs.length c) vs.length vs:=
    ⟨by rw [Nat.mul_one],.inr ⟨g,c,cur,rfl,hg,hblk,h2,h3,by rw [Nat.mul_one];exact hs,by rw [Nat.mul_one];exact hta⟩⟩
   obtain ⟨v',w',hrun,hown',hgr,hnil⟩:=run_append_own (P:=P) w B t ty e i z 1 bytes ht hi hz hsize hby hzs (by omega) _ _ _ hrow ⟨b',o',none⟩ ys.length c' ys (by rw [Nat.mul_one]) hnews h1 h63 hbytes hbase
   refine ⟨v',w',hrun,?_,by simpa [rowOf,hc0,Value.ownBlock] using hgr,(Below.refl B w).grown hgr hbase (fun k hk=>by simp [Value.ownBlock] at hk;omega)⟩
   obtain ⟨_,hf⟩:=hown'
   rcases hf with ⟨rfl,hz0⟩|⟨g',cap,cur',rfl,hg',hblk',q1,q2,q3,q4⟩
   ·omega
   ·refine ⟨_,cap,by rw [List.length_append],by rw [List.length_append];exact q1,q2,.inr ⟨g',cur',rfl,hg',hblk',by rw [q3,Nat.mul_one],?_⟩⟩
    rw [List.length_append,←Nat.mul_one (vs.length+ys.length)]
    exact q4
theorem wp_append_any {o:Oper} {a:Act} {K:Act→World→Prop} {Q:Exit→Act→World→Prop} (s x:Operand) (t:TypeId)
  (ho:o.op= .call { callee:= .builtin .append,args:= #[s,x],argTypes:= #[t,t] })
  (e:TypeId) (i:TypeInfo) (z:Value) (bytes:Nat) (ht:P.underlying t=some (.slice e)) (hi:P.info? e=some i) (hz:i.zero=some z)
  (hsize:i.size=1) (hby:i.bytes=bytes) (hzs:z.cells.size=1)
  (hs:a.eval s=v) (hown:ROwn e B w v vs) (hx:a.eval x=src) (hsrc:RArr w src ys) (h1:∀u∈ys,u.oneCell'=true)
  (h63:vs.length+ys.length≤maxLen) (hbytes:(vs.length+ys.length)*bytes≤140737488355328) (hbase:B≤w.heap.size)
  (h:∀v' w',ROwn e B w' v' (vs++ys)→w.grownBy w' (rowOf v)→Below B w w'→K (a.put o.dst v') w'):o.wp P a w K Q:=by
 obtain ⟨v',w',hrun,h2,h3,h4⟩:=run_append_any (P:=P) t o.type e i z bytes ht hi hz hsize hby hzs hown hsrc h1 h63 hbytes hbase
 unfold Oper.wp execOp
 simp only [ho,resolve,invoke,builtin,Sem.run_bind,Sem.run_pure,Result.andThen_ok,List.map_toArray,List.map_cons,List.map_nil,hs,hx,hrun]
 exact h v' w' h2 h3 h4
theorem wpList_append_any {ops:Array Oper} {rest:List Oper} {o:Oper} {a:Act} {Q:Exit→Act→World→Prop} (hgd:o.guard=none) (s x:Operand) (t:TypeId)
  (ho:o.op= .call { callee:= .builtin .append,args:= #[s,x],argTypes:= #[t,t] })
  (e:TypeId) (i:TypeInfo) (z:Value) (bytes:Nat) (ht:P.underlying t=some (.slice e)) (hi:P.info? e=some i) (hz:i.zero=some z)
  (hsize:i.size=1) (hby:i.bytes=bytes) (hzs:z.cells.size=1)
  (hs:a.eval s=v) (hown:ROwn e B w v vs) (hx:a.eval x=src) (hsrc:RArr w src ys) (h1:∀u∈ys,u.oneCell'=true)
  (h63:vs.length+ys.length≤maxLen) (hbytes:(vs.length+ys.length)*bytes≤140737488355328) (hbase:B≤w.heap.size)
  (h:∀v' w',ROwn e B w' v' (vs++ys)→w.grownBy w' (rowOf v)→Below B w w'→wpList P ops Q rest (a.put o.dst v') w'):wpList P ops Q (o::rest) a w:=
 wpList_plain hgd fun _ hK=>wp_append_any s x t ho e i z bytes ht hi hz hsize hby hzs hs hown hx hsrc h1 h63 hbytes hbase fun v' w' h2 h3 h4=>hK _ _ (h v' w' h2 h3 h4)
end
def Arr (w:World) (v:Value) (xs:List Nat):Prop:=Ok xs∧RArr w v (xs.map d32)
def Own (B:Nat) (w:World) (v:Value) (xs:List Nat):Prop:=Ok xs∧ROwn 129 B w v (xs.map d32)
section
variable {w w':World} {v:Value} {xs:List Nat} {B B':Nat}
theorem Arr.ok (h:Arr w v xs):Ok xs:=h.1
theorem Arr.ext (h:Arr w v xs) (hb:Ext w w'):Arr w' v xs:=⟨h.1,h.2.ext hb⟩
theorem Own.ok (h:Own B w v xs):Ok xs:=h.1
theorem Own.ext (h:Own B w v xs) (hb:Ext w w'):Own B w' v xs:=⟨h.1,h.2.ext hb⟩
theorem Own.mono (h:Own B w v xs) (hB:B'≤B):Own B' w v xs:=⟨h.1,h.2.mono hB⟩
theorem Own.arr (h:Own B w v xs):Arr w v xs:=⟨h.1,h.2.arr⟩
theorem Own.none_ (B:Nat) (w:World):Own B w (.slice none 0 0) []:=⟨ok_nil,ROwn.none_ _ B w⟩
theorem Arr.none_ (w:World):Arr w (.slice none 0 0) []:=⟨ok_nil,RArr.none_ w⟩
theorem map_u32_get {j:Nat} (hj:j<xs.length):(xs.map d32)[j]? =some (d32 (xs.getD j 0)):=by
 rw [List.getElem?_map,List.getD_eq_getElem?_getD,List.getElem?_eq_getElem hj];rfl
theorem Arr.open (h:Arr w v xs):Ok xs∧∃A c,v= .slice A xs.length c∧xs.length≤c∧c≤maxLen∧
  (0<xs.length→∃b o,A=some ⟨b,o,none⟩∧b<w.heap.size∧∀j,j<xs.length→w.cell? ⟨b,o+j,none⟩=some (d32 (xs.getD j 0))):=by
 obtain ⟨h1,A,c,rfl,h2,h3,h4⟩:=h
 rw [List.length_map] at h2 h4
 refine ⟨h1,A,c,by rw [List.length_map],h2,h3,fun hp=> ?_⟩
 obtain ⟨b,o,rfl,hlt,hc⟩:=h4 hp
 exact ⟨b,o,rfl,hlt,fun j hj=>hc j _ (map_u32_get hj)⟩
theorem Arr.mk (hok:Ok xs) {A:Option Addr} {c:Nat} (h2:xs.length≤c) (h3:c≤maxLen)
  (h4:0<xs.length→∃b o,A=some ⟨b,o,none⟩∧b<w.heap.size∧∀j,j<xs.length→w.cell? ⟨b,o+j,none⟩=some (d32 (xs.getD j 0))):Arr w (.slice A xs.length c) xs:=by
 refine ⟨hok,A,c,by rw [List.length_map],by rw [List.length_map];exact h2,h3,fun hp=> ?_⟩
 rw [List.length_map] at hp
 obtain ⟨b,o,rfl,hlt,hc⟩:=h4 hp
 refine ⟨b,o,rfl,hlt,fun j u hj=> ?_⟩
 have hl:j<xs.length:=by
  rcases Nat.lt_or_ge j xs.length with h|h
  ·exact h
  ·rw [List.getElem?_eq_none (by simpa using h)] at hj;cases hj
 rw [map_u32_get hl] at hj
 injection hj with hj
 rw [←hj]
 exact hc j hl
theorem Arr.take (h:Arr w v xs) (n:Nat) (hn:n≤xs.length):∃A c,v= .slice A xs.length c∧Arr w (.slice A n c) (xs.take n):=by
 obtain ⟨h1,A,c,rfl,h2,h3,h4⟩:=h.open
 have hl:(xs.take n).length=n:=by rw [List.length_take,Nat.min_eq_left hn]
 have:=Arr.mk (w:=w) (A:=A) (c:=c) (h1.take n) (by omega) h3 (fun hp=>by
  obtain ⟨b,o,rfl,hlt,hc⟩:=h4 (by omega)
  refine ⟨b,o,rfl,hlt,fun j hj=> ?_⟩
  have e:(xs.take n).getD j 0=xs.getD j 0:=by rw [List.getD_eq_getElem?_getD,List.getD_eq_getElem?_getD,List.getElem?_take_of_lt (by omega)]
  rw [e]
  exact hc j (by omega))
 rw [hl] at this
 exact ⟨A,c,rfl,this⟩
theorem Own.take (h:Own B w v xs) (n:Nat) (hn:n≤xs.length):∃A c,v= .slice A xs.length c∧Own B w (.slice A n c) (xs.take n):=by
 obtain ⟨A,c,hv,h1⟩:=h.2.take n (by simpa using hn)
 rw [List.length_map] at hv
 refine ⟨A,c,hv,h.1.take n,?_⟩
 rw [List.map_take]
 exact h1
theorem ones_u32:∀u∈xs.map d32,u.oneCell'=true:=fun u hu=>by
 obtain ⟨x,_,rfl⟩:=List.mem_map.1 hu
 rfl
end
theorem info_u32:(Tryz.prog.info? 129).map (fun i=>(i.zero,i.size,i.bytes))=some (some (.int .u32 0),1,4):=by kernel_rfl
theorem Own.empty (B:Nat) (w:World) (A:Option Addr):Own B w (.slice A 0 0) []:=⟨ok_nil,ROwn.empty _ B w A⟩
theorem bound32 {n:Nat} (h:n≤2147483648):n≤maxLen∧n*4≤140737488355328:=by unfold maxLen;omega
theorem wpList_append32 {w:World} {v src:Value} {xs ys:List Nat} {B:Nat} {ops:Array Oper} {rest:List Oper} {o:Oper} {a:Act} {Q:Exit→Act→World→Prop} (hgd:o.guard=none) (s x:Operand)
  (ho:o.op= .call { callee:= .builtin .append,args:= #[s,x],argTypes:= #[113,113] })
  (hs:a.eval s=v) (hown:Own B w v xs) (hx:a.eval x=src) (hsrc:Arr w src ys) (hn:xs.length+ys.length≤2147483648) (hbase:B≤w.heap.size)
  (h:∀v' w',Own B w' v' (xs++ys)→w.grownBy w' (rowOf v)→Below B w w'→wpList Tryz.prog ops Q rest (a.put o.dst v') w'):wpList Tryz.prog ops Q (o::rest) a w:=by
 obtain ⟨i0,hi,hz0,hz1,hz2⟩:=info_parts info_u32
 have hb:=bound32 hn
 refine wpList_append_any hgd s x 113 ho 129 i0 _ 4 Tryz.underlying113 hi hz0 hz1 hz2 rfl hs hown.2 hx hsrc.2 ones_u32 (by simpa using hb.1) (by simpa using hb.2) hbase (fun v' w' h1 h2 h3=>h v' w' ⟨hown.1.append hsrc.1,?_⟩ h2 h3)
 rw [List.map_append]
 exact h1
def zeros (n:Nat):Array Value:=((List.replicate n 0).map d32).toArray
def cells (xs:List Nat):Array Value:=(xs.map d32).toArray
theorem zeros_cells (n:Nat):zeros n=cells (List.replicate n 0):=rfl
theorem size_cells (xs:List Nat):(cells xs).size=xs.length:=by simp [cells]
theorem get_cells (xs:List Nat) (i:Nat) (h:i<xs.length):(cells xs)[i]? =some (d32 (xs.getD i 0)):=by
 unfold cells
 rw [List.getElem?_toArray]
 exact map_u32_get h
theorem set_cells (xs:List Nat) (i y:Nat):(cells xs).setIfInBounds i (d32 y)=cells (xs.set i y):=by
 apply Array.ext'
 simp [cells,List.map_set]
theorem made_zeros (n:Nat):madeCells (Value.cells (.int .u32 0)) (n*1)=zeros n:=by
 apply Array.ext'
 apply List.ext_getElem?
 intro i
 simp only [madeCells,zeros,Value.cells]
 rw [Array.getElem?_toList,Array.getElem?_map,List.getElem?_map,List.getElem?_replicate]
 rcases Nat.lt_or_ge i n with h|h
 ·rw [Array.getElem?_range,if_pos (by omega),if_pos h]
  simp [d32,Nat.mod_one]
 ·rw [Array.getElem?_range,if_neg (by omega),if_neg (by omega)]
  rfl
theorem run_make32 (n:Nat) (hn:n≤2147483648) (W:World):(Instr.makeSlice 113 (.int .i64 (n:Int)) (.int .i64 (n:Int))).run Tryz.prog W=
  .ok (.slice (some ⟨W.heap.size,0,none⟩) n n) (W.alloc (.cells (zeros n) 129)):=by
 obtain ⟨i0,hi,hz0,hz1,hz2⟩:=info_parts info_u32
 have hr:=run_make (P:=Tryz.prog) W 113 129 i0 _ Tryz.underlying113 hi hz0 .i64 .i64 (n:Int) (n:Int) (by omega) (Int.le_refl _) (by rw [hz2];omega) (by omega)
 rw [hz1,Int.toNat_natCast,made_zeros] at hr
 exact hr
theorem run_make32_succ (n:Nat) (hn:n≤1073741824) (W:World):(Instr.makeSlice 113 (.int .i64 ((n:Int)+1)) (.int .i64 ((n:Int)+1))).run Tryz.prog W=
  .ok (.slice (some ⟨W.heap.size,0,none⟩) (n+1) (n+1)) (W.alloc (.cells (zeros (n+1)) 129)):=run_make32 (n+1) (by omega) W
theorem Own.block {B:Nat} {w:World} {g:Nat} {xs:List Nat} (hok:Ok xs) (h:Blk w g 129 (cells xs)) (hg:B≤g) (hm:xs.length≤2147483648):
  Own B w (.slice (some ⟨g,0,none⟩) xs.length xs.length) xs:=
 ⟨hok,some ⟨g,0,none⟩,xs.length,by rw [List.length_map],by rw [List.length_map];omega,(bound32 hm).1,.inr ⟨g,cells xs,rfl,hg,h,size_cells xs,by rw [List.length_map];show ((xs.map d32).toArray.toList).take xs.length=_;rw [List.take_of_length_le (by simp)]⟩⟩
theorem set_front (ys:List Nat) (k y:Nat):(ys++List.replicate (k+1) 0).set ys.length y=(ys++[y])++List.replicate k 0:=by
 rw [List.set_append_right _ _ (Nat.le_refl _),Nat.sub_self,List.replicate_succ,List.set_cons_zero,List.append_assoc]
 rfl
theorem set_back (ys:List Nat) (k y:Nat):(List.replicate (k+1) 0++ys).set k y=List.replicate k 0++(y::ys):=by
 rw [List.set_append_left _ _ (by simp),List.replicate_succ',List.set_append_right _ _ (by simp),List.length_replicate,Nat.sub_self,List.set_cons_zero,List.append_assoc]
 rfl
theorem Ok.zeros (n:Nat):Ok (List.replicate n 0):=fun x hx=>by
 have:=List.eq_of_mem_replicate hx
 omega
theorem Ok.snoc {xs:List Nat} (h:Ok xs) {y:Nat} (hy:y<4294967296):Ok (xs++[y]):=h.append (ok_cons hy ok_nil)
theorem or_low (r x:Nat) (hr:r<4294967296) (hx:x<4294967296):bits .or .u64 ((r:Int)*4294967296) (x:Int)=((r*4294967296+x:Nat):Int):=by
 have h1:((r:Int)*4294967296)=((r*4294967296:Nat):Int):=by omega
 rw [h1,bits_or_u64_nat _ _ (by omega) (by omega)]
 have h2:=Nat.shiftLeft_add_eq_or_of_lt (i:=32) (b:=x) (by omega) r
 rw [Nat.shiftLeft_eq] at h2
 exact congrArg Int.ofNat h2.symm
theorem Arr.fresh1 (w:World) (y:Nat) (hy:y<4294967296):Arr (w.alloc (.cells #[d32 y] 129)) (.slice (some ⟨w.heap.size,0,none⟩) 1 1) [y]:=
 ⟨ok_cons hy ok_nil,RArr.one (by simp)⟩
theorem Arr.fresh1' (w:World) (t:Int) (y:Nat) (ht:t=(y:Int)) (hy:y<4294967296):Arr (w.alloc (.cells #[.int .u32 t] 129)) (.slice (some ⟨w.heap.size,0,none⟩) 1 1) [y]:=by
 subst ht;exact Arr.fresh1 w y hy
theorem Own.fresh1' (w:World) (t:Int) (y:Nat) (ht:t=(y:Int)) (hy:y<4294967296):Own w.heap.size (w.alloc (.cells #[.int .u32 t] 129)) (.slice (some ⟨w.heap.size,0,none⟩) 1 1) [y]:=by
 subst ht;exact Own.block (xs:=[y]) (ok_cons hy ok_nil) (Blk.new w _ _) (Nat.le_refl _) (by simp)
theorem Own.fresh1 (w:World) (y:Nat) (hy:y<4294967296):Own w.heap.size (w.alloc (.cells #[d32 y] 129)) (.slice (some ⟨w.heap.size,0,none⟩) 1 1) [y]:=
 Own.block (xs:=[y]) (ok_cons hy ok_nil) (Blk.new w _ _) (Nat.le_refl _) (by simp)
theorem Own.fresh2 (w:World) (x y:Nat) (hx:x<4294967296) (hy:y<4294967296):Own w.heap.size (w.alloc (.cells #[d32 x,d32 y] 129)) (.slice (some ⟨w.heap.size,0,none⟩) 2 2) [x,y]:=
 Own.block (xs:=[x,y]) (ok_cons hx (ok_cons hy ok_nil)) (Blk.new w _ _) (Nat.le_refl _) (by simp)
theorem ROwn.far {t:TypeId} {B:Nat} {w:World} {v:Value} {vs:List Value} (h:ROwn t B w v vs) {p:Addr} (hp:p.block<B) (u:Value):ROwn t B (w.setCell p u) v vs:=by
 obtain ⟨A,c,rfl,h2,h3,h4⟩:=h
 refine ⟨A,c,rfl,h2,h3,?_⟩
 rcases h4 with h4|⟨g,cur,rfl,hg,hblk,hs,ht⟩
 ·exact .inl h4
 ·exact .inr ⟨g,cur,rfl,hg,hblk.far (by omega) u,hs,ht⟩
theorem Own.far {B:Nat} {w:World} {v:Value} {xs:List Nat} (h:Own B w v xs) {p:Addr} (hp:p.block<B) (u:Value):Own B (w.setCell p u) v xs:=⟨h.1,h.2.far hp u⟩
theorem ROwn.other {t t':TypeId} {B B':Nat} {w w':World} {v u:Value} {vs us:List Value} (h:ROwn t B w v vs) (k:ROwn t' B' w u us) (ht:t≠t') (hg:w.grownBy w' (rowOf u)):ROwn t B w' v vs:=by
 obtain ⟨A,c,rfl,h2,h3,h4⟩:=h
 refine ⟨A,c,rfl,h2,h3,?_⟩
 rcases h4 with h4|⟨g,cur,rfl,hgb,hblk,hs,hta⟩
 ·exact .inl h4
 ·refine .inr ⟨g,cur,rfl,hgb,?_,hs,hta⟩
  have hne:some g≠rowOf u:=by
   obtain ⟨A',c',rfl,k2,k3,k4⟩:=k
   rcases k4 with ⟨_,rfl⟩|⟨g',cur',rfl,_,kblk,_,_⟩
   ·rcases A' with _|a<;>simp [rowOf]
   ·simp only [rowOf]
    split
    ·simp
    ·intro he
     injection he with he
     subst he
     unfold Blk at hblk kblk
     rw [hblk] at kblk
     injection kblk with kblk
     injection kblk with _ kt
     exact ht kt
  exact (hg.block g hblk.lt hne).trans hblk
end Big
end Go.Proofs.YtaccjdbbkmhanaaGreatDoor
namespace Go.Proofs.YtaccjdbbkmhanaaGreatDoor
namespace Big
open Go.RowKit
theorem size_any (w:World) (v:Value) (xs:List Nat) (h:Arr w v xs):
  Calls Tryz.prog 148 #[v] w fun e w'=>e= .returned (.int .i64 (size xs))∧w=w':=by
 obtain ⟨hok,A,c,rfl,hc,hm,hcell⟩:=h.open
 unfold maxLen at hm
 go_enter Tryz.func148,Tryz.ntmps148
 go_wp2
 go_loop [3] (fun n=>∃k:Nat,k≤xs.length∧n= .int .i64 k∧∀i,k≤i→xs.getD i 0=0) (fun n=>(intOf n).toNat)
 case atStart=>exact ⟨_,Nat.le_refl _,rfl,fun i hi=>by rw [List.getD_eq_getElem?_getD,List.getElem?_eq_none hi];rfl⟩
 case round=>
  obtain ⟨k,hk,rfl,hz⟩:=hrel
  have HZ:=Lib.hid hz;clear hz
  have HC:=Lib.hid hcell;clear hcell
  by_cases h0:k=0
  ·subst h0
   have hs:=size_top xs 0 hk HZ.out (by omega)
   have HS:=Lib.hid hs;clear hs
   go_wp2
   go_ret
   rw [HS.out]
   exact ⟨rfl,rfl⟩
  ·obtain ⟨b,o,rfl,hb,hcell⟩:=HC.out (by omega)
   have hx:=hcell (k-1) (by omega)
   clear hcell
   obtain ⟨m,rfl⟩:∃m,k=m+1:=⟨k-1,by omega⟩
   simp only [Nat.add_sub_cancel,d32] at hx
   by_cases hx0:xs.getD m 0=0
   ·have hxb:((xs.getD m 0:Int) == 0)=true:=by rw [hx0];rfl
    have HX:=Lib.hid hx0;clear hx0
    obtain ⟨y,hy⟩:∃y,xs.getD m 0=y:=⟨_,rfl⟩
    rw [hy] at hx hxb
    clear hy
    go_wp2
    go_round
    case rel=>exact ⟨m,by omega,by go_num,fun i hi=>by
     rcases Nat.lt_or_ge m i with h1|h1
     ·exact HZ.out i h1
     ·obtain rfl:i=m:=by omega
      exact HX.out⟩
    case measure=>simp [intOf]
   ·have hxb:((xs.getD m 0:Int) == 0)=false:=by rw [beq_eq_false_iff_ne];omega
    have hs:=size_top xs (m+1) hk HZ.out (fun _=>hx0)
    have HS:=Lib.hid hs;clear hs
    generalize xs.getD m 0=y at *
    clear hx0
    go_wp2
    go_ret
    rw [HS.out]
    exact ⟨rfl,rfl⟩
end Big
end Go.Proofs.YtaccjdbbkmhanaaGreatDoor
namespace Go.Proofs.YtaccjdbbkmhanaaGreatDoor
namespace Big
open Go.RowKit
set_option maxRecDepth 100000 in
theorem clone_any (w:World) (v:Value) (xs:List Nat) (h:Arr w v xs) (hn:xs.length≤1073741824):
  Calls Tryz.prog 147 #[v] w fun e w'=>∃v',e= .returned v'∧Own w.heap.size w' v' xs∧Ext w w':=by
 have HA:=Lib.hid h
 obtain ⟨hok,A,c,rfl,hc,hm,hcell⟩:=h.open
 have HM:=Lib.hid hm
 have HN:=Lib.hid hn
 have HC:=Lib.hid hcell
 clear h hm hn hcell
 obtain ⟨i0,hi,hz0,hz1,hz2⟩:=info_parts info_u32
 rcases A with _|a
 ·have h0:xs=[]:=by
   rcases Nat.eq_zero_or_pos xs.length with h|h
   ·exact List.eq_nil_of_length_eq_zero h
   ·obtain ⟨b,o,he,_⟩:=HC.out h
    cases he
  subst h0
  have hE:=fun W c=>Lib.run_eql_slice_nil (P:=Tryz.prog) W 113 129 none 0 c 0 0 Tryz.underlying113
  go_enter Tryz.func147,Tryz.ntmps147
  go_wp2
  go_ret
  exact ⟨_,rfl,Own.none_ _ _,Ext.refl _⟩
 ·have hE:=fun W n c=>Lib.run_eql_slice_nil (P:=Tryz.prog) W 113 129 (some a) n c 0 0 Tryz.underlying113
  go_enter Tryz.func147,Tryz.ntmps147
  have hn0:([]:List Nat).length+xs.length≤2147483648:=by have:=HN.out;simp;omega
  have HN0:=Lib.hid hn0;clear hn0
  go_wp2_with (at_builtin;go_must (refine wpList_append32 rfl _ _ rfl rfl (Own.empty w.heap.size _ _) rfl (HA.out.ext ((Ext.refl _).alloc _)) HN0.out (by simp) ?_;intro v' w' hown hgr hb))
  go_ret
  exact ⟨_,rfl,hown,((Ext.refl w).alloc _).more hb⟩
theorem trim_any (w:World) (v:Value) (xs:List Nat) (h:Arr w v xs) (hn:xs.length≤1073741824):
  Calls Tryz.prog 123 #[v] w fun e w'=>∃v',e= .returned v'∧Own w.heap.size w' v' (limbs (val xs))∧Ext w w':=by
 have HS:=Lib.hid (size_any w v xs h)
 have hle:=size_le xs
 have HT:=Lib.hid (take_size h.ok)
 have HA:=Lib.hid h
 have HN:=Lib.hid hn
 obtain ⟨hok,A,c,rfl,hc,hm,hcell⟩:=h.open
 have HM:=Lib.hid hm
 clear h hn hcell hm
 go_enter Tryz.func123,Tryz.ntmps123
 go_wp2_with fail
 refine HS.out.mono ?_
 rintro e w' ⟨rfl,rfl⟩
 go_wp2_with fail
 obtain ⟨A',c',he,ha⟩:=HA.out.take (size xs) hle
 injection he with he1 he2 he3
 subst he1 he3
 rw [HT.out] at ha
 have hc:=clone_any w _ _ ha (Nat.le_trans (length_limbs_val hok) HN.out)
 refine hc.mono ?_
 rintro e w' ⟨v',rfl,ho,hx⟩
 go_wp2_with fail
 go_ret
 exact ⟨_,rfl,ho,hx⟩
end Big
end Go.Proofs.YtaccjdbbkmhanaaGreatDoor
