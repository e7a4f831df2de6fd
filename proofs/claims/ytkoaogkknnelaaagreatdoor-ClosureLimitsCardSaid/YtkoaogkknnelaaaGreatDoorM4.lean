import Derived.Test.YtkoaogkknnelaaaGreatDoorM3
import Derived.Test.YtkoaogkknnelaaaGreatDoorM3
import Derived.WalkKit
import Derived.Lib.Hide
import Derived.Laws.OwnMore
import Derived.Deep.Draws
import Derived.WalkLawsBesides
import Derived.WalkSpells
import Derived.BigQuiet
import Derived.Deep.QuietTactic
import Derived.Deep.DeepFit
import Derived.Deep.LoopGhost
import Derived.Handy
import Derived.Laws.BytesArg
set_option linter.unusedVariables false
set_option linter.unusedSimpArgs false
set_option maxRecDepth 100000
namespace Go.Proofs.YtkoaogkknnelaaaGreatDoor
namespace Big
open Lib renaming hid → J
inductive Ex where
 |leaf (k:Nat) (t:List UInt8)
 |un (k:Nat) (n:Int) (x:Ex)
 |bin (k:Nat) (x y:Ex)
structure Nd where
 kind:Int
 a:Int
 b:Int
 n:Int
 text:List UInt8
def Ex.kind:Ex->Nat
 | .leaf k _=>k
 | .un k _ _=>k
 | .bin k _ _=>k
def Ex.size:Ex->Nat
 | .leaf _ _=>1
 | .un _ _ x=>x.size+1
 | .bin _ x y=>x.size+y.size+1
def Ex.depth:Ex->Nat
 | .leaf _ _=>1
 | .un _ _ x=>x.depth+1
 | .bin _ x y=>max x.depth y.depth+1
theorem Ex.size_pos(e:Ex):1<=e.size:=by cases e<;>simp[Ex.size]
def Ag:Nat->Ex->List Nd
 |_,.leaf k t=>[⟨(k:Int),0,0,0,t⟩]
 |off,.un k n x=>Ag off x++[⟨(k:Int),((off+x.size-1:Nat):Int),0,n,[]⟩]
 |off,.bin k x y=>Ag off x++(Ag (off+x.size) y++[⟨(k:Int),((off+x.size-1:Nat):Int),((off+x.size+y.size-1:Nat):Int),0,[]⟩])
theorem AF(e:Ex):∀off,(Ag off e).length=e.size:=by
 induction e with
 |leaf k t=>intro off;rfl
 |un k n x ih=>intro off;rw[Ag,List.length_append,ih];rfl
 |bin k x y ihx ihy=>intro off;rw[Ag,List.length_append,List.length_append,ihx,ihy,List.length_singleton,Ex.size];omega
def Cs(t:List UInt8):Bool:=CS t && !([[112,105],[101],[115,113,114,116],[101,120,112],[108,110],[115,105,110],[99,111,115],[97,116,97,110]]:List (List UInt8)).contains t
def Ex.Good:Ex->Prop
 | .leaf k t=>(k=1/\Bs t=0/\t.length<=400)\/(k=2/\Cs t=true)\/((k=3\/k=4)/\t=[])
 | .un k n x=>(k=5\/(10<=k/\k<=16))/\(k≠10->n=0)∧-64<=n/\n<=64/\x.Good
 | .bin k x y=>(6<=k/\k<=9)/\x.Good/\y.Good
def BR(k:Nat):Nat:=if k=6\/k=7 then 1 else if k=8\/k=9 then 2 else if k=5 then 3 else if k=10 then 4 else 5
def TG(k:Nat):List UInt8:=if k=6 then [32,43,32] else if k=7 then [32,45,32] else if k=8 then [32,42,32] else [32,47,32]
def RN(k:Nat):List UInt8:=
 if k=11 then [115,113,114,116] else if k=12 then [101,120,112] else if k=13 then [108,110] else if k=14 then [115,105,110] else if k=15 then [99,111,115] else [97,116,97,110]
def LA(b:Bool)(s:List UInt8):List UInt8:=if b then 40::(s++[41]) else s
def KT(tY:Int->List UInt8):Ex->List UInt8
 | .leaf k t=>if k=3 then [112,105] else if k=4 then [101] else t
 | .un k n x=>if k=5 then 45::LA (decide (BR x.kind<3)) (KT tY x)
   else if k=10 then LA (decide (BR x.kind<5)) (KT tY x)++(94::tY n)
   else RN k++(40::(KT tY x++[41]))
 | .bin k x y=>LA (decide (BR x.kind<BR k)) (KT tY x)++(TG k++LA (decide (BR y.kind<BR k+1)) (KT tY y))
theorem FC{t:List UInt8}(h:CS t=true):t.length<=24:=by
 unfold CS at h;simp only[Bool.and_eq_true,decide_eq_true_eq]at h;exact h.1.1.2
def Gn(l:List Nd)(i:Nat)(e:Ex):Prop:=∃pre post,l=pre++(Ag pre.length e++post)/\i+1=pre.length+e.size
theorem Gn.lt{l:List Nd}{i:Nat}{e:Ex}(h:Gn l i e):i<l.length/\e.size<=i+1:=by
 obtain⟨pre,post,rfl,h⟩:=h;have:=AF e pre.length;rw[List.length_append,List.length_append];omega
theorem JS{α:Type}{pre mid post:List α}{x:α}{i:Nat}(h:i=pre.length+mid.length):(pre++((mid++[x])++post))[i]? =some x:=by
 subst h;rw[List.getElem?_append_right (by omega),Nat.add_sub_cancel_left,List.getElem?_append_left (by simp),List.getElem?_append_right (Nat.le_refl _),Nat.sub_self];rfl
theorem Gn.leaf{l:List Nd}{i k:Nat}{t:List UInt8}(h:Gn l i (.leaf k t)):l[i]? =some ⟨(k:Int),0,0,0,t⟩:=by
 obtain⟨pre,post,rfl,h⟩:=h;simp only[Ex.size]at h;exact JS (mid:=[]) (by simp;omega)
theorem Gn.un{l:List Nd}{i k:Nat}{n:Int}{x:Ex}(h:Gn l i (.un k n x)):1<=i/\l[i]? =some ⟨(k:Int),((i-1:Nat):Int),0,n,[]⟩/\Gn l (i-1) x:=by
 obtain⟨pre,post,rfl,h⟩:=h;simp only[Ex.size]at h;have hx:=x.size_pos;have hl:=AF x pre.length;refine⟨by omega,?_,⟨pre,[⟨(k:Int),((pre.length+x.size-1:Nat):Int),0,n,[]⟩]++post,?_,by omega⟩⟩
 ·rw[show i-1=pre.length+x.size-1 by omega];exact JS (mid:=Ag pre.length x) (by omega)
 ·rw[Ag,List.append_assoc]
theorem Gn.bin{l:List Nd}{i k:Nat}{x y:Ex}(h:Gn l i (.bin k x y)):∃j,j+1+y.size=i/\l[i]? =some ⟨(k:Int),(j:Int),((i-1:Nat):Int),0,[]⟩/\Gn l j x/\Gn l (i-1) y:=by
 obtain⟨pre,post,rfl,h⟩:=h;simp only[Ex.size]at h;have hx:=x.size_pos;have hy:=y.size_pos;have hl:=AF x pre.length;have hl2:=AF y (pre.length+x.size);refine⟨pre.length+x.size-1,by omega,?_,⟨pre,Ag (pre.length+x.size) y++([⟨(k:Int),((pre.length+x.size-1:Nat):Int),((pre.length+x.size+y.size-1:Nat):Int),0,[]⟩]++post),?_,by omega⟩,⟨pre++Ag pre.length x,[⟨(k:Int),((pre.length+x.size-1:Nat):Int),((pre.length+x.size+y.size-1:Nat):Int),0,[]⟩]++post,?_,?_⟩⟩
 ·rw[Ag,<-List.append_assoc (Ag pre.length x),show i-1=pre.length+x.size+y.size-1 by omega];exact JS (mid:=Ag pre.length x++Ag (pre.length+x.size) y) (by rw[List.length_append];omega)
 ·rw[Ag];simp only[List.append_assoc]
 ·rw[Ag,List.length_append,hl];simp only[List.append_assoc]
 ·rw[List.length_append,hl];omega
open Go.RowKit
def d32(x:Nat):Value:= .int .u32 (x:Int)
def Ext(w w':World):Prop:=Below w.heap.size w w'
section
variable {w w' w'':World}
theorem Ext.refl(w:World):Ext w w:=Below.refl _ _
theorem Ext.trans(h:Ext w w')(k:Ext w' w''):Ext w w'':=Below.trans h (Below.mono k h.size)
theorem Ext.more(h:Ext w w')(k:Below w.heap.size w' w''):Ext w w'':=Below.trans h k
theorem Ext.size(h:Ext w w'):w.heap.size<=w'.heap.size:=Below.size h
theorem Ext.alloc(h:Ext w w')(o:Obj):Ext w (w'.alloc o):=Below.alloc h h.size o
theorem Ext.drew(h:Ext w w'):Ext w w'.drew:=Below.drew h
theorem Ext.drewN(h:Ext w w')(n:Nat):Ext w (w'.drewN n):=⟨h.os,h.tape,h.output,h.size,h.block⟩
theorem Ext.setCell(h:Ext w w'){p:Addr}(hp:w.heap.size<=p.block)(u:Value):Ext w (w'.setCell p u):=Below.setCell h hp u
theorem Ext.grown{row:Option Nat}(h:Ext w w')(hg:w'.grownBy w'' row)(hr:∀k,row=some k->w.heap.size<=k):Ext w w'':=Below.grown h hg h.size hr
theorem Ext.cell(h:Ext w w'){b o:Nat}(hb:b<w.heap.size):w'.cell? ⟨b,o,none⟩=w.cell? ⟨b,o,none⟩:=Below.cell (p:=⟨b,o,none⟩) h hb
theorem Ext.frozen(h:Ext w w'){b o:Nat}(hb:b<w.heap.size):w'.frozen? ⟨b,o,none⟩=w.frozen? ⟨b,o,none⟩:=Below.frozen (p:=⟨b,o,none⟩) h hb
end
def Blk(w:World)(g:Nat)(t:TypeId)(cs:Array Value):Prop:=w.heap[g]? =some (.cells cs t (0,0))
section
variable {w w':World} {g:Nat} {t:TypeId} {cs:Array Value}
theorem Blk.lt(h:Blk w g t cs):g<w.heap.size:=by
 rcases Nat.lt_or_ge g w.heap.size with hlt|dU
 ·exact hlt
 ·unfold Blk at h;rw[Array.getElem?_eq_none dU]at h;cases h
theorem Blk.cell(h:Blk w g t cs)(i:Nat):w.cell? ⟨g,i,none⟩=cs[i]? :=cell_of_row w g i cs t (0,0) h
theorem Blk.frozen(h:Blk w g t cs)(i:Nat):w.frozen? ⟨g,i,none⟩=false:=by
 unfold Blk at h;simp[World.frozen?,h]
theorem Blk.new(w:World)(t:TypeId)(cs:Array Value):Blk (w.alloc (.cells cs t)) w.heap.size t cs:=heap_alloc_new w _
theorem Blk.drew(h:Blk w g t cs):Blk w.drew g t cs:=h
theorem Blk.drewN(h:Blk w g t cs)(n:Nat):Blk (w.drewN n) g t cs:=h
theorem Blk.alloc(h:Blk w g t cs)(o:Obj):Blk (w.alloc o) g t cs:=(Below.heap_alloc w o g h.lt).trans h
theorem Blk.set_(h:Blk w g t cs)(i:Nat)(u:Value):Blk (w.setCell ⟨g,i,none⟩ u) g t (cs.setIfInBounds i u):=by
 unfold Blk at h ⊢;simp[World.setCell,Array.getElem?_modify,h]
theorem Blk.far(h:Blk w g t cs){p:Addr}(hp:g≠p.block)(u:Value):Blk (w.setCell p u) g t cs:=(Below.heap_setCell w p u g hp).trans h
theorem Blk.ext(h:Blk w g t cs)(hb:Ext w w'):Blk w' g t cs:=(Below.block hb g h.lt).trans h
end
def BS(w:World)(v:Value)(vs:List Value):Prop:=
 ∃A c,v= .slice A vs.length c/\vs.length<=c/\c<=maxLen/\
  (0<vs.length->∃b o,A=some ⟨b,o,none⟩/\b<w.heap.size/\∀j u,vs[j]? =some u->w.cell? ⟨b,o+j,none⟩=some u)
def BJ(t:TypeId)(B:Nat)(w:World)(v:Value)(vs:List Value):Prop:=
 ∃A c,v= .slice A vs.length c/\vs.length<=c/\c<=maxLen/\
  ((vs=[]/\c=0)\/∃g cur,A=some ⟨g,0,none⟩/\B<=g/\Blk w g t cur/\cur.size=c/\cur.toList.take vs.length=vs)
section
variable {w w':World} {v:Value} {vs:List Value} {B B':Nat} {t:TypeId}
theorem BS.ext(h:BS w v vs)(hb:Ext w w'):BS w' v vs:=by
 obtain⟨A,c,rfl,h2,h3,h4⟩:=h;refine⟨A,c,rfl,h2,h3,fun hp=> ?_⟩;obtain⟨b,o,rfl,hlt,hc⟩:=h4 hp;exact⟨b,o,rfl,Nat.lt_of_lt_of_le hlt hb.size,fun j u hj=>(hb.cell hlt).trans (hc j u hj)⟩
theorem BJ.ext(h:BJ t B w v vs)(hb:Ext w w'):BJ t B w' v vs:=by
 obtain⟨A,c,rfl,h2,h3,h4⟩:=h;refine⟨A,c,rfl,h2,h3,?_⟩;rcases h4 with h4|⟨g,cur,rfl,hg,aw,hs,ht⟩
 ·exact .inl h4
 ·exact .inr ⟨g,cur,rfl,hg,aw.ext hb,hs,ht⟩
theorem BJ.mono(h:BJ t B w v vs)(hB:B'<=B):BJ t B' w v vs:=by
 obtain⟨A,c,rfl,h2,h3,h4⟩:=h;refine⟨A,c,rfl,h2,h3,?_⟩;rcases h4 with h4|⟨g,cur,rfl,hg,rest⟩
 ·exact .inl h4
 ·exact .inr ⟨g,cur,rfl,Nat.le_trans hB hg,rest⟩
theorem ON{cur:Array Value}{n:Nat}(ht:cur.toList.take n=vs){j:Nat}{u:Value}(hj:vs[j]? =some u):cur[j]? =some u:=by
 rw[<-ht,List.getElem?_take]at hj;split at hj
 ·simpa using hj
 ·cases hj
theorem BJ.arr(h:BJ t B w v vs):BS w v vs:=by
 obtain⟨A,c,rfl,h2,h3,h4⟩:=h;refine⟨A,c,rfl,h2,h3,fun hp=> ?_⟩;rcases h4 with ⟨rfl,rfl⟩|⟨g,cur,rfl,hg,aw,hs,ht⟩
 ·simp at hp
 ·refine⟨g,0,rfl,aw.lt,fun j u hj=> ?_⟩;rw[aw.cell,Nat.zero_add];exact ON ht hj
theorem BJ.none_(t:TypeId)(B:Nat)(w:World):BJ t B w (.slice none 0 0) []:=⟨none,0,rfl,Nat.zero_le _,by unfold maxLen;omega,.inl ⟨rfl,rfl⟩⟩
theorem BS.none_(w:World):BS w (.slice none 0 0) []:=(BJ.none_ 0 0 w).arr
theorem BJ.empty(t:TypeId)(B:Nat)(w:World)(A:Option Addr):BJ t B w (.slice A 0 0) []:=⟨A,0,rfl,Nat.zero_le _,by unfold maxLen;omega,.inl ⟨rfl,rfl⟩⟩
theorem BS.empty(w:World)(A:Option Addr)(c:Nat)(hc:c<=maxLen):BS w (.slice A 0 c) []:=⟨A,c,rfl,Nat.zero_le _,hc,fun h=>by simp at h⟩
theorem BS.one{b:Nat}{u:Value}(h:w.cell? ⟨b,0,none⟩=some u):BS w (.slice (some ⟨b,0,none⟩) 1 1) [u]:=
 ⟨some ⟨b,0,none⟩,1,rfl,Nat.le_refl _,by unfold maxLen;omega,fun _=>⟨b,0,rfl,World.block_lt_of_cell? w _ h,fun j x hj=>by
  match j with
  |0=>simp only[List.getElem?_cons_zero,Option.some.injEq]at hj;subst hj;exact h
  |j+1=>simp at hj⟩⟩
theorem BJ.take(h:BJ t B w v vs)(n:Nat)(hn:n<=vs.length):∃A c,v= .slice A vs.length c/\BJ t B w (.slice A n c) (vs.take n):=by
 obtain⟨A,c,rfl,h2,h3,h4⟩:=h;have hl:(vs.take n).length=n:=by rw[List.length_take,Nat.min_eq_left hn]
 refine⟨A,c,rfl,A,c,by rw[hl],by rw[hl];omega,h3,?_⟩;rcases h4 with ⟨rfl,rfl⟩|⟨g,cur,rfl,hg,aw,hs,ht⟩
 ·exact .inl ⟨by simp,rfl⟩
 ·exact .inr ⟨g,cur,rfl,hg,aw,hs,by rw[hl];rw[<-ht,List.take_take,Nat.min_eq_left hn]⟩
end
section
variable {P:Program} {w:World} {v src:Value} {vs ys:List Value} {B:Nat}
def Ea:Value->Option Nat
 | .slice (some a) _ c=>if c=0 then none else some a.block
 |_=>none
theorem Jg (t ty e:TypeId) (i:TypeInfo) (z:Value) (bytes:Nat) (ht:P.underlying t=some (.slice e)) (hi:P.info? e=some i) (hz:i.zero=some z)
  (ia:i.size=1) (fv:i.bytes=bytes) (tH:z.cells.size=1)
  (ag:BJ e B w v vs) (eo:BS w src ys) (h1:∀u∈ys,u.oneCell'=true)
  (qO:vs.length+ys.length<=maxLen) (fI:(vs.length+ys.length)*bytes<=140737488355328) (bj:B<=w.heap.size):
  ∃v' w',(Builtin.append_ #[t,t] ty #[v,src]).run P w= .ok v' w'/\BJ e B w' v' (vs++ys)/\w.grownBy w' (Ea v)/\Below B w w':=by
 obtain⟨A,c,rfl,h2,h3,h4⟩:=ag;obtain⟨A',c',rfl,k2,k3,k4⟩:=eo;rcases Nat.eq_zero_or_pos ys.length with hm|hm
 ·have l7:ys=[]:=List.eq_nil_of_length_eq_zero hm;subst l7;refine⟨.slice A vs.length c,w,?_,⟨A,c,by simp,by simpa using h2,h3,by simpa using h4⟩,⟨rfl,rfl,rfl,Nat.le_refl _,fun _ _ _=>rfl⟩,Below.refl _ _⟩;rcases A' with _|a'<;>rcases A with _|a<;>
   simp[Builtin.append_,run_underlying ht,sizeOf,typeInfo,hi,Builtin.lenOf,Builtin.firstCells,loadCells,loadCellsFrom,storeCells,h2]
 ·obtain⟨b',o',rfl,vh,hc'⟩:=k4 hm;have ig:∀j u,ys[j]? =some u->w.cell? ((⟨b',o',none⟩:Addr).add j)=some u:=fun j u hj=>by
   have:=hc' j u hj;unfold Addr.add;split
   ·rename_i h0;subst h0;simpa using this
   ·exact this
  have h5:(vs=[]/\c=0)\/(c≠0/\∃g cur,A=some ⟨g,0,none⟩/\B<=g/\Blk w g e cur/\cur.size=c/\cur.toList.take vs.length=vs):=by
   by_cases hc0:c=0
   ·exact .inl ⟨List.eq_nil_of_length_eq_zero (by omega),hc0⟩
   ·rcases h4 with ⟨_,hc⟩|h4
    ·exact absurd hc hc0
    ·exact .inr ⟨hc0,h4⟩
  clear h4;rcases h5 with ⟨rfl,rfl⟩|⟨hc0,g,cur,rfl,hg,aw,hs,kL⟩
  ·
   have tK:ys.length<=9223372036854775807:=by unfold maxLen at qO;simp at qO;omega
   have kA:grownCap w ys.length 0 e<=maxLen:=grownCap_le_maxLen w ys.length 0 e (by simpa using qO);have dU:=grownCap_ge w ys.length 0 e;have fX:ys.length*i.bytes<=140737488355328:=by rw[fv];simpa using fI
   have key:∃W,(Builtin.append_ #[t,t] ty #[.slice A 0 0,.slice (some ⟨b',o',none⟩) ys.length c']).run P w= .ok (.slice (some ⟨w.heap.size,0,none⟩) ys.length (grownCap w ys.length 0 e)) W/\
     W=w.drew.alloc (.cells (ys.toArray++Builtin.zeroCells z.cells (grownCap w ys.length 0 e-ys.length)) e):=by
    rcases A with _|a
    ·exact⟨_,run_append_nil (P:=P) w t ty e i z ht hi hz ⟨b',o',none⟩ ys.length c' ys (by rw[ia,Nat.mul_one]) ig hm (by omega) (by omega),rfl⟩
    ·have hr:=run_append_grow (P:=P) w t ty e i z ht hi hz a 0 0 [] (by simp) (fun j u hu=>by simp at hu) ⟨b',o',none⟩ ys.length c' ys (by rw[ia,Nat.mul_one]) ig (by omega) (by omega) (growslice_fits (by omega) (by simpa using fX));simp only[Nat.zero_add]at hr;refine⟨_,hr,?_⟩;simp
   obtain⟨W,aV,rfl⟩:=key;refine⟨_,_,aV,⟨_,_,by simp,by simpa using dU,kA,.inr ⟨w.heap.size,_,rfl,bj,heap_alloc_new w.drew _,?_,?_⟩⟩,?_,?_⟩
   ·simp only[Array.size_append,List.size_toArray,size_zeroCells,tH,Nat.mul_one];omega
   ·simp
   ·exact⟨rfl,rfl,rfl,by simp,fun k hk _=>Below.heap_alloc w.drew _ k hk⟩
   ·exact((Below.refl B w).drew).alloc bj _
  ·have aH:w.ownsRow B e 1 (.slice (some ⟨g,0,none⟩) vs.length c) vs.length vs:=
    ⟨by rw[Nat.mul_one],.inr ⟨g,c,cur,rfl,hg,aw,h2,h3,by rw[Nat.mul_one];exact hs,by rw[Nat.mul_one];exact kL⟩⟩
   obtain⟨v',w',aV,aA,al,Yl⟩:=run_append_own (P:=P) w B t ty e i z 1 bytes ht hi hz ia fv tH (by omega) _ _ _ aH ⟨b',o',none⟩ ys.length c' ys (by rw[Nat.mul_one]) ig h1 qO fI bj;refine⟨v',w',aV,?_,by simpa [Ea,hc0,Value.ownBlock] using al,(Below.refl B w).grown al bj (fun k hk=>by simp[Value.ownBlock]at hk;omega)⟩;obtain⟨_,hf⟩:=aA;rcases hf with ⟨rfl,aU⟩|⟨g',cap,pX,rfl,iM,vL,q1,q2,q3,q4⟩
   ·omega
   ·refine⟨_,cap,by rw[List.length_append],by rw[List.length_append];exact q1,q2,.inr ⟨g',pX,rfl,iM,vL,by rw[q3,Nat.mul_one],?_⟩⟩;rw[List.length_append,<-Nat.mul_one (vs.length+ys.length)];exact q4
theorem Gp {o:Oper} {a:Act} {K:Act->World->Prop} {Q:Exit->Act->World->Prop} (s x:Operand) (t:TypeId)
  (ho:o.op= .call { callee:= .builtin .append,args:= #[s,x],argTypes:= #[t,t] })
  (e:TypeId) (i:TypeInfo) (z:Value) (bytes:Nat) (ht:P.underlying t=some (.slice e)) (hi:P.info? e=some i) (hz:i.zero=some z)
  (ia:i.size=1) (fv:i.bytes=bytes) (tH:z.cells.size=1)
  (hs:a.eval s=v) (ag:BJ e B w v vs) (hx:a.eval x=src) (eo:BS w src ys) (h1:∀u∈ys,u.oneCell'=true)
  (qO:vs.length+ys.length<=maxLen) (fI:(vs.length+ys.length)*bytes<=140737488355328) (bj:B<=w.heap.size)
  (h:∀v' w',BJ e B w' v' (vs++ys)->w.grownBy w' (Ea v)->Below B w w'->K (a.put o.dst v') w'):o.wp P a w K Q:=by
 obtain⟨v',w',aV,h2,h3,h4⟩:=Jg (P:=P) t o.type e i z bytes ht hi hz ia fv tH ag eo h1 qO fI bj;unfold Oper.wp execOp;simp only[ho,resolve,invoke,builtin,Sem.run_bind,Sem.run_pure,Result.andThen_ok,List.map_toArray,List.map_cons,List.map_nil,hs,hx,aV];exact h v' w' h2 h3 h4
theorem Do {ops:Array Oper} {rest:List Oper} {o:Oper} {a:Act} {Q:Exit->Act->World->Prop} (eT:o.guard=none) (s x:Operand) (t:TypeId)
  (ho:o.op= .call { callee:= .builtin .append,args:= #[s,x],argTypes:= #[t,t] })
  (e:TypeId) (i:TypeInfo) (z:Value) (bytes:Nat) (ht:P.underlying t=some (.slice e)) (hi:P.info? e=some i) (hz:i.zero=some z)
  (ia:i.size=1) (fv:i.bytes=bytes) (tH:z.cells.size=1)
  (hs:a.eval s=v) (ag:BJ e B w v vs) (hx:a.eval x=src) (eo:BS w src ys) (h1:∀u∈ys,u.oneCell'=true)
  (qO:vs.length+ys.length<=maxLen) (fI:(vs.length+ys.length)*bytes<=140737488355328) (bj:B<=w.heap.size)
  (h:∀v' w',BJ e B w' v' (vs++ys)->w.grownBy w' (Ea v)->Below B w w'->wpList P ops Q rest (a.put o.dst v') w'):wpList P ops Q (o::rest) a w:=
 wpList_plain eT fun _ hK=>Gp s x t ho e i z bytes ht hi hz ia fv tH hs ag hx eo h1 qO fI bj fun v' w' h2 h3 h4=>hK _ _ (h v' w' h2 h3 h4)
end
def Arr(w:World)(v:Value)(xs:List Nat):Prop:=Ok xs/\BS w v (xs.map d32)
def Own(B:Nat)(w:World)(v:Value)(xs:List Nat):Prop:=Ok xs/\BJ 183 B w v (xs.map d32)
section
variable {w w':World} {v:Value} {xs:List Nat} {B B':Nat}
theorem Arr.ok(h:Arr w v xs):Ok xs:=h.1
theorem Arr.ext(h:Arr w v xs)(hb:Ext w w'):Arr w' v xs:=⟨h.1,h.2.ext hb⟩
theorem Own.ok(h:Own B w v xs):Ok xs:=h.1
theorem Own.ext(h:Own B w v xs)(hb:Ext w w'):Own B w' v xs:=⟨h.1,h.2.ext hb⟩
theorem Own.mono(h:Own B w v xs)(hB:B'<=B):Own B' w v xs:=⟨h.1,h.2.mono hB⟩
theorem Own.arr(h:Own B w v xs):Arr w v xs:=⟨h.1,h.2.arr⟩
theorem Own.none_(B:Nat)(w:World):Own B w (.slice none 0 0) []:=⟨Cx,BJ.none_ _ B w⟩
theorem Arr.none_(w:World):Arr w (.slice none 0 0) []:=⟨Cx,BS.none_ w⟩
theorem FQ{j:Nat}(hj:j<xs.length):(xs.map d32)[j]? =some (d32 (xs.getD j 0)):=by
 rw[List.getElem?_map,List.getD_eq_getElem?_getD,List.getElem?_eq_getElem hj];rfl
theorem Arr.open(h:Arr w v xs):Ok xs/\∃A c,v= .slice A xs.length c/\xs.length<=c/\c<=maxLen/\
  (0<xs.length->∃b o,A=some ⟨b,o,none⟩/\b<w.heap.size/\∀j,j<xs.length->w.cell? ⟨b,o+j,none⟩=some (d32 (xs.getD j 0))):=by
 obtain⟨h1,A,c,rfl,h2,h3,h4⟩:=h;rw[List.length_map]at h2 h4;refine⟨h1,A,c,by rw[List.length_map],h2,h3,fun hp=> ?_⟩;obtain⟨b,o,rfl,hlt,hc⟩:=h4 hp;exact⟨b,o,rfl,hlt,fun j hj=>hc j _ (FQ hj)⟩
theorem Arr.mk (av:Ok xs) {A:Option Addr} {c:Nat} (h2:xs.length<=c) (h3:c<=maxLen)
  (h4:0<xs.length->∃b o,A=some ⟨b,o,none⟩/\b<w.heap.size/\∀j,j<xs.length->w.cell? ⟨b,o+j,none⟩=some (d32 (xs.getD j 0))):Arr w (.slice A xs.length c) xs:=by
 refine⟨av,A,c,by rw[List.length_map],by rw[List.length_map];exact h2,h3,fun hp=> ?_⟩;rw[List.length_map]at hp;obtain⟨b,o,rfl,hlt,hc⟩:=h4 hp;refine⟨b,o,rfl,hlt,fun j u hj=> ?_⟩;have hl:j<xs.length:=by
  rcases Nat.lt_or_ge j xs.length with h|h
  ·exact h
  ·rw[List.getElem?_eq_none (by simpa using h)]at hj;cases hj
 rw[FQ hl]at hj;injection hj with hj
 rw[<-hj];exact hc j hl
theorem Arr.take(h:Arr w v xs)(n:Nat)(hn:n<=xs.length):∃A c,v= .slice A xs.length c/\Arr w (.slice A n c) (xs.take n):=by
 obtain⟨h1,A,c,rfl,h2,h3,h4⟩:=h.open;have hl:(xs.take n).length=n:=by rw[List.length_take,Nat.min_eq_left hn]
 have:=Arr.mk (w:=w) (A:=A) (c:=c) (h1.take n) (by omega) h3 (fun hp=>by
  obtain⟨b,o,rfl,hlt,hc⟩:=h4 (by omega);refine⟨b,o,rfl,hlt,fun j hj=> ?_⟩;have e:(xs.take n).getD j 0=xs.getD j 0:=by rw[List.getD_eq_getElem?_getD,List.getD_eq_getElem?_getD,List.getElem?_take_of_lt (by omega)]
  rw[e];exact hc j (by omega))
 rw[hl]at this;exact⟨A,c,rfl,this⟩
theorem Own.take(h:Own B w v xs)(n:Nat)(hn:n<=xs.length):∃A c,v= .slice A xs.length c/\Own B w (.slice A n c) (xs.take n):=by
 obtain⟨A,c,hv,h1⟩:=h.2.take n (by simpa using hn);rw[List.length_map]at hv;refine⟨A,c,hv,h.1.take n,?_⟩;rw[List.map_take];exact h1
theorem Rs:∀u∈xs.map d32,u.oneCell'=true:=fun u hu=>by
 obtain⟨x,_,rfl⟩:=List.mem_map.1 hu;rfl
end
theorem JM:(Tryz.prog.info? 183).map (fun i=>(i.zero,i.size,i.bytes))=some (some (.int .u32 0),1,4):=by kernel_rfl
theorem Own.empty(B:Nat)(w:World)(A:Option Addr):Own B w (.slice A 0 0) []:=⟨Cx,BJ.empty _ B w A⟩
theorem LS{n:Nat}(h:n<=2147483648):n<=maxLen/\n*4<=140737488355328:=by unfold maxLen;omega
theorem Bf {w:World} {v src:Value} {xs ys:List Nat} {B:Nat} {ops:Array Oper} {rest:List Oper} {o:Oper} {a:Act} {Q:Exit->Act->World->Prop} (eT:o.guard=none) (s x:Operand)
  (ho:o.op= .call { callee:= .builtin .append,args:= #[s,x],argTypes:= #[22,22] })
  (hs:a.eval s=v) (ag:Own B w v xs) (hx:a.eval x=src) (eo:Arr w src ys) (hn:xs.length+ys.length<=2147483648) (bj:B<=w.heap.size)
  (h:∀v' w',Own B w' v' (xs++ys)->w.grownBy w' (Ea v)->Below B w w'->wpList Tryz.prog ops Q rest (a.put o.dst v') w'):wpList Tryz.prog ops Q (o::rest) a w:=by
 obtain⟨i0,hi,aU,hz1,a9⟩:=info_parts JM;have hb:=LS hn;refine Do eT s x 22 ho 183 i0 _ 4 Tryz.underlying22 hi aU hz1 a9 rfl hs ag.2 hx eo.2 Rs (by simpa using hb.1) (by simpa using hb.2) bj (fun v' w' h1 h2 h3=>h v' w' ⟨ag.1.append eo.1,?_⟩ h2 h3);rw[List.map_append];exact h1
def zeros(n:Nat):Array Value:=((List.replicate n 0).map d32).toArray
def cells(xs:List Nat):Array Value:=(xs.map d32).toArray
theorem Fz(n:Nat):zeros n=cells (List.replicate n 0):=rfl
theorem Jc(xs:List Nat):(cells xs).size=xs.length:=by simp[cells]
theorem CK(xs:List Nat)(i:Nat)(h:i<xs.length):(cells xs)[i]? =some (d32 (xs.getD i 0)):=by
 unfold cells;rw[List.getElem?_toArray];exact FQ h
theorem CI(xs:List Nat)(i y:Nat):(cells xs).setIfInBounds i (d32 y)=cells (xs.set i y):=by
 apply Array.ext';simp[cells,List.map_set]
theorem N9(n:Nat):madeCells (Value.cells (.int .u32 0)) (n*1)=zeros n:=by
 apply Array.ext';apply List.ext_getElem?;intro i;simp only[madeCells,zeros,Value.cells];rw[Array.getElem?_toList,Array.getElem?_map,List.getElem?_map,List.getElem?_replicate];rcases Nat.lt_or_ge i n with h|h
 ·rw[Array.getElem?_range,if_pos (by omega),if_pos h];simp[d32,Nat.mod_one]
 ·rw[Array.getElem?_range,if_neg (by omega),if_neg (by omega)];rfl
theorem Es(n:Nat)(hn:n<=2147483648)(W:World):(Instr.makeSlice 22 (.int .i64 (n:Int)) (.int .i64 (n:Int))).run Tryz.prog W=
  .ok (.slice (some ⟨W.heap.size,0,none⟩) n n) (W.alloc (.cells (zeros n) 183)):=by
 obtain⟨i0,hi,aU,hz1,a9⟩:=info_parts JM;have hr:=run_make (P:=Tryz.prog) W 22 183 i0 _ Tryz.underlying22 hi aU .i64 .i64 (n:Int) (n:Int) (by omega) (Int.le_refl _) (by rw[a9];omega) (by omega);rw[hz1,Int.toNat_natCast,N9]at hr;exact hr
theorem Fw(n:Nat)(hn:n<=1073741824)(W:World):(Instr.makeSlice 22 (.int .i64 ((n:Int)+1)) (.int .i64 ((n:Int)+1))).run Tryz.prog W=
  .ok (.slice (some ⟨W.heap.size,0,none⟩) (n+1) (n+1)) (W.alloc (.cells (zeros (n+1)) 183)):=Es (n+1) (by omega) W
theorem Own.block{B:Nat}{w:World}{g:Nat}{xs:List Nat}(av:Ok xs)(h:Blk w g 183 (cells xs))(hg:B<=g)(hm:xs.length<=2147483648):
  Own B w (.slice (some ⟨g,0,none⟩) xs.length xs.length) xs:=
 ⟨av,some ⟨g,0,none⟩,xs.length,by rw[List.length_map],by rw[List.length_map];omega,(LS hm).1,.inr ⟨g,cells xs,rfl,hg,h,Jc xs,by rw[List.length_map];show ((xs.map d32).toArray.toList).take xs.length=_;rw[List.take_of_length_le (by simp)]⟩⟩
theorem Hu(ys:List Nat)(k y:Nat):(ys++List.replicate (k+1) 0).set ys.length y=(ys++[y])++List.replicate k 0:=by
 rw[List.set_append_right _ _ (Nat.le_refl _),Nat.sub_self,List.replicate_succ,List.set_cons_zero,List.append_assoc];rfl
theorem Jd(ys:List Nat)(k y:Nat):(List.replicate (k+1) 0++ys).set k y=List.replicate k 0++(y::ys):=by
 rw[List.set_append_left _ _ (by simp),List.replicate_succ',List.set_append_right _ _ (by simp),List.length_replicate,Nat.sub_self,List.set_cons_zero,List.append_assoc];rfl
theorem Ok.zeros(n:Nat):Ok (List.replicate n 0):=fun x hx=>by
 have:=List.eq_of_mem_replicate hx;omega
theorem Ok.snoc{xs:List Nat}(h:Ok xs){y:Nat}(hy:y<4294967296):Ok (xs++[y]):=h.append (Du hy Cx)
theorem N0(r x:Nat)(hr:r<4294967296)(hx:x<4294967296):bits .or .u64 ((r:Int)*4294967296) (x:Int)=((r*4294967296+x:Nat):Int):=by
 have h1:((r:Int)*4294967296)=((r*4294967296:Nat):Int):=by omega
 rw[h1,bits_or_u64_nat _ _ (by omega) (by omega)];have h2:=Nat.shiftLeft_add_eq_or_of_lt (i:=32) (b:=x) (by omega) r;rw[Nat.shiftLeft_eq]at h2;exact congrArg Int.ofNat h2.symm
theorem Arr.fresh1(w:World)(y:Nat)(hy:y<4294967296):Arr (w.alloc (.cells #[d32 y] 183)) (.slice (some ⟨w.heap.size,0,none⟩) 1 1) [y]:=
 ⟨Du hy Cx,BS.one (by simp)⟩
theorem Arr.fresh1'(w:World)(t:Int)(y:Nat)(ht:t=(y:Int))(hy:y<4294967296):Arr (w.alloc (.cells #[.int .u32 t] 183)) (.slice (some ⟨w.heap.size,0,none⟩) 1 1) [y]:=by
 subst ht;exact Arr.fresh1 w y hy
theorem Own.fresh1'(w:World)(t:Int)(y:Nat)(ht:t=(y:Int))(hy:y<4294967296):Own w.heap.size (w.alloc (.cells #[.int .u32 t] 183)) (.slice (some ⟨w.heap.size,0,none⟩) 1 1) [y]:=by
 subst ht;exact Own.block (xs:=[y]) (Du hy Cx) (Blk.new w _ _) (Nat.le_refl _) (by simp)
theorem Own.fresh1(w:World)(y:Nat)(hy:y<4294967296):Own w.heap.size (w.alloc (.cells #[d32 y] 183)) (.slice (some ⟨w.heap.size,0,none⟩) 1 1) [y]:=
 Own.block (xs:=[y]) (Du hy Cx) (Blk.new w _ _) (Nat.le_refl _) (by simp)
theorem Own.fresh2(w:World)(x y:Nat)(hx:x<4294967296)(hy:y<4294967296):Own w.heap.size (w.alloc (.cells #[d32 x,d32 y] 183)) (.slice (some ⟨w.heap.size,0,none⟩) 2 2) [x,y]:=
 Own.block (xs:=[x,y]) (Du hx (Du hy Cx)) (Blk.new w _ _) (Nat.le_refl _) (by simp)
theorem BJ.far{t:TypeId}{B:Nat}{w:World}{v:Value}{vs:List Value}(h:BJ t B w v vs){p:Addr}(hp:p.block<B)(u:Value):BJ t B (w.setCell p u) v vs:=by
 obtain⟨A,c,rfl,h2,h3,h4⟩:=h;refine⟨A,c,rfl,h2,h3,?_⟩;rcases h4 with h4|⟨g,cur,rfl,hg,aw,hs,ht⟩
 ·exact .inl h4
 ·exact .inr ⟨g,cur,rfl,hg,aw.far (by omega) u,hs,ht⟩
theorem Own.far{B:Nat}{w:World}{v:Value}{xs:List Nat}(h:Own B w v xs){p:Addr}(hp:p.block<B)(u:Value):Own B (w.setCell p u) v xs:=⟨h.1,h.2.far hp u⟩
theorem BJ.other{t t':TypeId}{B B':Nat}{w w':World}{v u:Value}{vs us:List Value}(h:BJ t B w v vs)(k:BJ t' B' w u us)(ht:t≠t')(hg:w.grownBy w' (Ea u)):BJ t B w' v vs:=by
 obtain⟨A,c,rfl,h2,h3,h4⟩:=h;refine⟨A,c,rfl,h2,h3,?_⟩;rcases h4 with h4|⟨g,cur,rfl,cw,aw,hs,kL⟩
 ·exact .inl h4
 ·refine .inr ⟨g,cur,rfl,cw,?_,hs,kL⟩;have hne:some g≠Ea u:=by
   obtain⟨A',c',rfl,k2,k3,k4⟩:=k;rcases k4 with ⟨_,rfl⟩|⟨g',pX,rfl,_,kJ,_,_⟩
   ·rcases A' with _|a<;>simp[Ea]
   ·simp only[Ea];split
    ·simp
    ·intro he;injection he with he
     subst he;unfold Blk at aw kJ;rw[aw]at kJ;injection kJ with kJ
     injection kJ with _ kt
     exact ht kt
  exact(hg.block g aw.lt hne).trans aw
theorem Er(w:World)(v:Value)(xs:List Nat)(h:Arr w v xs):
  Calls Tryz.prog 177 #[v] w fun e w'=>e= .returned (.int .i64 (size xs))/\w=w':=by
 obtain⟨av,A,c,rfl,hc,hm,ac⟩:=h.open;unfold maxLen at hm;go_enter Tryz.func177,Tryz.ntmps177
 go_wp2
 go_loop [3] (fun n=>∃k:Nat,k<=xs.length/\n= .int .i64 k/\∀i,k<=i->xs.getD i 0=0) (fun n=>(intOf n).toNat)
 case atStart=>exact⟨_,Nat.le_refl _,rfl,fun i hi=>by rw[List.getD_eq_getElem?_getD,List.getElem?_eq_none hi];rfl⟩
 case round=>
  obtain⟨k,hk,rfl,hz⟩:=hrel;have HZ:=J hz;clear hz;have HC:=J ac;clear ac;by_cases h0:k=0
  ·subst h0;have hs:=Jb xs 0 hk HZ.o (by omega);have HS:=J hs;clear hs
   go_wp2
   go_ret;rw[HS.o];exact⟨rfl,rfl⟩
  ·obtain⟨b,o,rfl,hb,ac⟩:=HC.o (by omega);have hx:=ac (k-1) (by omega);clear ac;obtain⟨m,rfl⟩:∃m,k=m+1:=⟨k-1,by omega⟩;simp only[Nat.add_sub_cancel,d32]at hx;by_cases hx0:xs.getD m 0=0
   ·have gY:((xs.getD m 0:Int) == 0)=true:=by rw[hx0];rfl
    have HX:=J hx0;clear hx0;obtain⟨y,hy⟩:∃y,xs.getD m 0=y:=⟨_,rfl⟩;rw[hy]at hx gY;clear hy
    go_wp2
    go_round
    case rel=>exact⟨m,by omega,by go_num,fun i hi=>by
     rcases Nat.lt_or_ge m i with h1|h1
     ·exact HZ.o i h1
     ·obtain rfl:i=m:=by omega
      exact HX.o⟩
    case measure=>simp[intOf]
   ·have gY:((xs.getD m 0:Int) == 0)=false:=by rw[beq_eq_false_iff_ne];omega
    have hs:=Jb xs (m+1) hk HZ.o (fun _=>hx0);have HS:=J hs;clear hs;generalize xs.getD m 0=y at *;clear hx0
    go_wp2
    go_ret;rw[HS.o];exact⟨rfl,rfl⟩
theorem QD(w:World)(v:Value)(xs:List Nat)(h:Arr w v xs)(hn:xs.length<=1073741824):
  Calls Tryz.prog 222 #[v] w fun e w'=>∃v',e= .returned v'/\Own w.heap.size w' v' xs/\Ext w w':=by
 have HA:=J h;obtain⟨av,A,c,rfl,hc,hm,ac⟩:=h.open;have HM:=J hm;have HN:=J hn;have HC:=J ac;clear h hm hn ac;obtain⟨i0,hi,aU,hz1,a9⟩:=info_parts JM;rcases A with _|a
 ·have h0:xs=[]:=by
   rcases Nat.eq_zero_or_pos xs.length with h|h
   ·exact List.eq_nil_of_length_eq_zero h
   ·obtain⟨b,o,he,_⟩:=HC.o h;cases he
  subst h0;have hE:=fun W c=>Lib.run_eql_slice_nil (P:=Tryz.prog) W 22 183 none 0 c 0 0 Tryz.underlying22
  go_enter Tryz.func222,Tryz.ntmps222
  go_wp2
  go_ret;exact⟨_,rfl,Own.none_ _ _,Ext.refl _⟩
 ·have hE:=fun W n c=>Lib.run_eql_slice_nil (P:=Tryz.prog) W 22 183 (some a) n c 0 0 Tryz.underlying22
  go_enter Tryz.func222,Tryz.ntmps222;have hn0:([]:List Nat).length+xs.length<=2147483648:=by have:=HN.o;simp;omega
  have i4:=J hn0;clear hn0;go_wp2_with (at_builtin;go_must (refine Bf rfl _ _ rfl rfl (Own.empty w.heap.size _ _) rfl (HA.o.ext ((Ext.refl _).alloc _)) i4.o (by simp) ?_;intro v' w' ag al hb));go_ret;exact⟨_,rfl,ag,((Ext.refl w).alloc _).more hb⟩
theorem BU(w:World)(v:Value)(xs:List Nat)(h:Arr w v xs)(hn:xs.length<=1073741824):
  Calls Tryz.prog 188 #[v] w fun e w'=>∃v',e= .returned v'/\Own w.heap.size w' v' (Af (val xs))/\Ext w w':=by
 have HS:=J (Er w v xs h);have hle:=size_le xs;have HT:=J (DD h.ok);have HA:=J h;have HN:=J hn;obtain⟨av,A,c,rfl,hc,hm,ac⟩:=h.open;have HM:=J hm;clear h hn ac hm;go_enter Tryz.func188,Tryz.ntmps188;go_wp2_with fail;refine HS.o.mono ?_
 rintro e w' ⟨rfl,rfl⟩;go_wp2_with fail;obtain⟨A',c',he,ha⟩:=HA.o.take (size xs) hle;injection he with he1 he2 he3
 subst he1 he3;rw[HT.o]at ha;have hc:=QD w _ _ ha (Nat.le_trans (AH av) HN.o);refine hc.mono ?_
 rintro e w' ⟨v',rfl,ho,hx⟩;go_wp2_with fail;go_ret;exact⟨_,rfl,ho,hx⟩
def d8(b:UInt8):Value:= .int .u8 (b.toNat:Int)
def str(l:List UInt8):Value:= .string ⟨l.toArray⟩
def F4(w:World)(v:Value)(bs:List UInt8):Prop:=BS w v (bs.map d8)
def Ih(B:Nat)(w:World)(v:Value)(bs:List UInt8):Prop:=BJ 5 B w v (bs.map d8)
section
variable {w w':World} {v:Value} {bs:List UInt8} {B B':Nat}
theorem F4.ext(h:F4 w v bs)(hb:Ext w w'):F4 w' v bs:=BS.ext h hb
theorem Ih.ext(h:Ih B w v bs)(hb:Ext w w'):Ih B w' v bs:=BJ.ext h hb
theorem Ih.mono(h:Ih B w v bs)(hB:B'<=B):Ih B' w v bs:=BJ.mono h hB
theorem Ih.arr(h:Ih B w v bs):F4 w v bs:=BJ.arr h
theorem Ih.none_(B:Nat)(w:World):Ih B w (.slice none 0 0) []:=BJ.none_ _ B w
theorem F4.fresh1(w:World)(t:Int)(y:UInt8)(ht:t=(y.toNat:Int)):F4 (w.alloc (.cells #[.int .u8 t] 5)) (.slice (some ⟨w.heap.size,0,none⟩) 1 1) [y]:=by
 subst ht;exact BS.one (by simp[d8])
theorem N8{j:Nat}(hj:j<bs.length):(bs.map d8)[j]? =some (d8 bs[j]):=by
 rw[List.getElem?_map,List.getElem?_eq_getElem hj];rfl
theorem F4.open(h:F4 w v bs):∃A c,v= .slice A bs.length c/\bs.length<=c/\c<=maxLen/\
  (0<bs.length->∃b o,A=some ⟨b,o,none⟩/\b<w.heap.size/\∀j (hj:j<bs.length),w.cell? ⟨b,o+j,none⟩=some (d8 bs[j])):=by
 obtain⟨A,c,rfl,h2,h3,h4⟩:=h;rw[List.length_map]at h2 h4;refine⟨A,c,by rw[List.length_map],h2,h3,fun hp=> ?_⟩;obtain⟨b,o,rfl,hlt,hc⟩:=h4 hp;exact⟨b,o,rfl,hlt,fun j hj=>hc j _ (N8 hj)⟩
end
end Big
end Go.Proofs.YtkoaogkknnelaaaGreatDoor
