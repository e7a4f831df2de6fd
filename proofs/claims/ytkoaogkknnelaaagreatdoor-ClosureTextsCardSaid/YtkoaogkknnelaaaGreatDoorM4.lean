import Derived.Test.YtkoaogkknnelaaaGreatDoorM3
import Derived.Test.YtkoaogkknnelaaaGreatDoorM3
import Derived.WalkKit
import Derived.Lib.Hide
import Derived.Laws.OwnMore
import Derived.Deep.Draws
import Derived.WalkLawsBesides
import Derived.WalkSpells
import Derived.BigQuiet
import Derived.Deep.QuietTactic
import Derived.Deep.DeepFit
import Derived.Deep.LoopGhost
import Derived.Handy
import Derived.Laws.BytesArg
set_option linter.unusedVariables false
set_option linter.unusedSimpArgs false
set_option maxRecDepth 100000
namespace Go.Proofs.YtkoaogkknnelaaaGreatDoor
namespace Big
open Lib renaming hid → J
inductive Ex where
 |leaf (k:Nat) (t:List UInt8)
 |un (k:Nat) (n:Int) (x:Ex)
 |bin (k:Nat) (x y:Ex)
structure Nd where
 kind:Int
 a:Int
 b:Int
 n:Int
 text:List UInt8
def Ex.kind:Ex->Nat
 | .leaf k _=>k
 | .un k _ _=>k
 | .bin k _ _=>k
def Ex.size:Ex->Nat
 | .leaf _ _=>1
 | .un _ _ x=>x.size+1
 | .bin _ x y=>x.size+y.size+1
def Ex.depth:Ex->Nat
 | .leaf _ _=>1
 | .un _ _ x=>x.depth+1
 | .bin _ x y=>max x.depth y.depth+1
theorem Ex.size_pos(e:Ex):1<=e.size:=by cases e<;>simp[Ex.size]
def Ag:Nat->Ex->List Nd
 |_,.leaf k t=>[⟨(k:Int),0,0,0,t⟩]
 |off,.un k n x=>Ag off x++[⟨(k:Int),((off+x.size-1:Nat):Int),0,n,[]⟩]
 |off,.bin k x y=>Ag off x++(Ag (off+x.size) y++[⟨(k:Int),((off+x.size-1:Nat):Int),((off+x.size+y.size-1:Nat):Int),0,[]⟩])
theorem Ak(e:Ex):∀off,(Ag off e).length=e.size:=by
 induction e with
 |leaf k t=>intro off;rfl
 |un k n x ih=>intro off;rw[Ag,qab,ih];rfl
 |bin k x y ihx ihy=>intro off;rw[Ag,qab,qab,ihx,ihy,qae,Ex.size];omega
def CQ(t:List UInt8):Bool:=CO t && !([[112,105],[101],[115,113,114,116],[101,120,112],[108,110],[115,105,110],[99,111,115],[97,116,97,110]]:List (List UInt8)).contains t
def Ex.Good:Ex->Prop
 | .leaf k t=>(k=1/\Bz t=0/\t.length<=400)\/(k=2/\CQ t=true)\/((k=3\/k=4)/\t=[])
 | .un k n x=>(k=5\/(10<=k/\k<=16))/\(k≠10->n=0)∧-64<=n/\n<=64/\x.Good
 | .bin k x y=>(6<=k/\k<=9)/\x.Good/\y.Good
def Aw(k:Nat):Nat:=if k=6\/k=7 then 1 else if k=8\/k=9 then 2 else if k=5 then 3 else if k=10 then 4 else 5
def RF(k:Nat):List UInt8:=if k=6 then [32,43,32] else if k=7 then [32,45,32] else if k=8 then [32,42,32] else [32,47,32]
def Pq(k:Nat):List UInt8:=
 if k=11 then [115,113,114,116] else if k=12 then [101,120,112] else if k=13 then [108,110] else if k=14 then [115,105,110] else if k=15 then [99,111,115] else [97,116,97,110]
def Bp(b:Bool)(s:List UInt8):List UInt8:=if b then 40::(s++[41]) else s
def Am(mT:Int->List UInt8):Ex->List UInt8
 | .leaf k t=>if k=3 then [112,105] else if k=4 then [101] else t
 | .un k n x=>if k=5 then 45::Bp (decide (Aw x.kind<3)) (Am mT x)
   else if k=10 then Bp (decide (Aw x.kind<5)) (Am mT x)++(94::mT n)
   else Pq k++(40::(Am mT x++[41]))
 | .bin k x y=>Bp (decide (Aw x.kind<Aw k)) (Am mT x)++(RF k++Bp (decide (Aw y.kind<Aw k+1)) (Am mT y))
theorem Bo(b:Bool)(s:List UInt8):(Bp b s).length<=s.length+2:=by
 unfold Bp;split<;>simp
theorem QU(k:Nat):(Pq k).length<=4:=by
 unfold Pq
 (repeat' split)<;>decide
theorem PT(k:Nat):(RF k).length=3:=by
 unfold RF
 (repeat' split)<;>rfl
theorem EM{t:List UInt8}(h:CO t=true):t.length<=24:=by
 unfold CO at h;simp only[qaM,decide_eq_true_eq]at h;exact h.1.1.2
theorem Hv(mT:Int->List UInt8)(hf:∀n:Int,-64<=n->n<=64->(mT n).length<=100)(e:Ex)(h:e.Good):(Am mT e).length<=410*e.size:=by
 induction e with
 |leaf k t=>
  unfold Am Ex.size;split
  ·simp
  ·split
   ·simp
   ·rcases h with ⟨_,_,h⟩|⟨_,h⟩|⟨_,rfl⟩
    ·omega
    ·have:=EM (qbu.1 h).1;omega
    ·simp
 |un k n x ih=>
  obtain⟨_,_,h3,h4,hx⟩:=h;have h5:=ih hx;unfold Am;rw[Ex.size,qaI];split
  ·have:=Bo (decide (Aw x.kind<3)) (Am mT x);rw[qat];omega
  ·split
   ·have:=Bo (decide (Aw x.kind<5)) (Am mT x);have:=hf n h3 h4;rw[qab,qat];omega
   ·have:=QU k;rw[qab,qat,qab,qae];omega
 |bin k x y ihx ihy=>
  obtain⟨_,hx,hy⟩:=h;have h5:=ihx hx;have h6:=ihy hy;have h7:=Bo (decide (Aw x.kind<Aw k)) (Am mT x);have h8:=Bo (decide (Aw y.kind<Aw k+1)) (Am mT y);unfold Am;rw[Ex.size,qaI,qaI,qab,qab,PT];omega
def Fx(l:List Nd)(i:Nat)(e:Ex):Prop:=∃pre post,l=pre++(Ag pre.length e++post)/\i+1=pre.length+e.size
theorem Fx.lt{l:List Nd}{i:Nat}{e:Ex}(h:Fx l i e):i<l.length/\e.size<=i+1:=by
 obtain⟨pre,post,rfl,h⟩:=h;have:=Ak e pre.length;rw[qab,qab];omega
theorem JL{α:Type}{pre mid post:List α}{x:α}{i:Nat}(h:i=pre.length+mid.length):(pre++((mid++[x])++post))[i]? =some x:=by
 subst h;rw[qao (by omega),qbq,qaC (by simp),qao (qad _),qaX];rfl
theorem Fx.leaf{l:List Nd}{i k:Nat}{t:List UInt8}(h:Fx l i (.leaf k t)):l[i]? =some ⟨(k:Int),0,0,0,t⟩:=by
 obtain⟨pre,post,rfl,h⟩:=h;simp only[Ex.size]at h;exact JL (mid:=[]) (by simp;omega)
theorem Fx.un{l:List Nd}{i k:Nat}{n:Int}{x:Ex}(h:Fx l i (.un k n x)):1<=i/\l[i]? =some ⟨(k:Int),((i-1:Nat):Int),0,n,[]⟩/\Fx l (i-1) x:=by
 obtain⟨pre,post,rfl,h⟩:=h;simp only[Ex.size]at h;have hx:=x.size_pos;have hl:=Ak x pre.length;refine⟨by omega,?_,⟨pre,[⟨(k:Int),((pre.length+x.size-1:Nat):Int),0,n,[]⟩]++post,?_,by omega⟩⟩
 ·rw[show i-1=pre.length+x.size-1 by omega];exact JL (mid:=Ag pre.length x) (by omega)
 ·rw[Ag,qan]
theorem Fx.bin{l:List Nd}{i k:Nat}{x y:Ex}(h:Fx l i (.bin k x y)):∃j,j+1+y.size=i/\l[i]? =some ⟨(k:Int),(j:Int),((i-1:Nat):Int),0,[]⟩/\Fx l j x/\Fx l (i-1) y:=by
 obtain⟨pre,post,rfl,h⟩:=h;simp only[Ex.size]at h;have hx:=x.size_pos;have hy:=y.size_pos;have hl:=Ak x pre.length;have hl2:=Ak y (pre.length+x.size);refine⟨pre.length+x.size-1,by omega,?_,⟨pre,Ag (pre.length+x.size) y++([⟨(k:Int),((pre.length+x.size-1:Nat):Int),((pre.length+x.size+y.size-1:Nat):Int),0,[]⟩]++post),?_,by omega⟩,⟨pre++Ag pre.length x,[⟨(k:Int),((pre.length+x.size-1:Nat):Int),((pre.length+x.size+y.size-1:Nat):Int),0,[]⟩]++post,?_,?_⟩⟩
 ·rw[Ag,<-qan (Ag pre.length x),show i-1=pre.length+x.size+y.size-1 by omega];exact JL (mid:=Ag pre.length x++Ag (pre.length+x.size) y) (by rw[qab];omega)
 ·rw[Ag];simp only[qan]
 ·rw[Ag,qab,hl];simp only[qan]
 ·rw[qab,hl];omega
open Go.RowKit
def d32(x:Nat):Value:= .int .u32 (x:Int)
def Ext(w w':World):Prop:=Below w.heap.size w w'
section
variable {w w' w'':World}
theorem Ext.refl(w:World):Ext w w:=Below.refl _ _
theorem Ext.trans(h:Ext w w')(k:Ext w' w''):Ext w w'':=Below.trans h (Below.mono k h.size)
theorem Ext.more(h:Ext w w')(k:Below w.heap.size w' w''):Ext w w'':=Below.trans h k
theorem Ext.size(h:Ext w w'):w.heap.size<=w'.heap.size:=Below.size h
theorem Ext.alloc(h:Ext w w')(o:Obj):Ext w (w'.alloc o):=Below.alloc h h.size o
theorem Ext.drew(h:Ext w w'):Ext w w'.drew:=Below.drew h
theorem Ext.drewN(h:Ext w w')(n:Nat):Ext w (w'.drewN n):=⟨h.os,h.tape,h.output,h.size,h.block⟩
theorem Ext.setCell(h:Ext w w'){p:Addr}(hp:w.heap.size<=p.block)(u:Value):Ext w (w'.setCell p u):=Below.setCell h hp u
theorem Ext.grown{row:Option Nat}(h:Ext w w')(hg:w'.grownBy w'' row)(hr:∀k,row=some k->w.heap.size<=k):Ext w w'':=Below.grown h hg h.size hr
theorem Ext.cell(h:Ext w w'){b o:Nat}(hb:b<w.heap.size):w'.cell? ⟨b,o,none⟩=w.cell? ⟨b,o,none⟩:=Below.cell (p:=⟨b,o,none⟩) h hb
end
def Blk(w:World)(g:Nat)(t:TypeId)(cs:Array Value):Prop:=w.heap[g]? =some (.cells cs t (0,0))
section
variable {w w':World} {g:Nat} {t:TypeId} {cs:Array Value}
theorem Blk.lt(h:Blk w g t cs):g<w.heap.size:=by
 rcases qam g w.heap.size with hlt|fh
 ·exact hlt
 ·unfold Blk at h;rw[qba fh]at h;cases h
theorem Blk.cell(h:Blk w g t cs)(i:Nat):w.cell? ⟨g,i,none⟩=cs[i]? :=cell_of_row w g i cs t (0,0) h
theorem Blk.frozen(h:Blk w g t cs)(i:Nat):w.frozen? ⟨g,i,none⟩=false:=by
 unfold Blk at h;simp[World.frozen?,h]
theorem Blk.new(w:World)(t:TypeId)(cs:Array Value):Blk (w.alloc (.cells cs t)) w.heap.size t cs:=heap_alloc_new w _
theorem Blk.drew(h:Blk w g t cs):Blk w.drew g t cs:=h
theorem Blk.drewN(h:Blk w g t cs)(n:Nat):Blk (w.drewN n) g t cs:=h
theorem Blk.alloc(h:Blk w g t cs)(o:Obj):Blk (w.alloc o) g t cs:=(Below.heap_alloc w o g h.lt).trans h
theorem Blk.set_(h:Blk w g t cs)(i:Nat)(u:Value):Blk (w.setCell ⟨g,i,none⟩ u) g t (cs.setIfInBounds i u):=by
 unfold Blk at h ⊢;simp[World.setCell,Array.getElem?_modify,h]
theorem Blk.far(h:Blk w g t cs){p:Addr}(hp:g≠p.block)(u:Value):Blk (w.setCell p u) g t cs:=(Below.heap_setCell w p u g hp).trans h
theorem Blk.ext(h:Blk w g t cs)(hb:Ext w w'):Blk w' g t cs:=(Below.block hb g h.lt).trans h
end
def CX(w:World)(v:Value)(vs:List Value):Prop:=
 ∃A c,v= .slice A vs.length c/\vs.length<=c/\c<=maxLen/\
  (0<vs.length->∃b o,A=some ⟨b,o,none⟩/\b<w.heap.size/\∀j u,vs[j]? =some u->w.cell? ⟨b,o+j,none⟩=some u)
def Cp(t:TypeId)(B:Nat)(w:World)(v:Value)(vs:List Value):Prop:=
 ∃A c,v= .slice A vs.length c/\vs.length<=c/\c<=maxLen/\
  ((vs=[]/\c=0)\/∃g cur,A=some ⟨g,0,none⟩/\B<=g/\Blk w g t cur/\cur.size=c/\cur.toList.take vs.length=vs)
section
variable {w w':World} {v:Value} {vs:List Value} {B B':Nat} {t:TypeId}
theorem CX.ext(h:CX w v vs)(hb:Ext w w'):CX w' v vs:=by
 obtain⟨A,c,rfl,h2,h3,h4⟩:=h;refine⟨A,c,rfl,h2,h3,fun hp=> ?_⟩;obtain⟨b,o,rfl,hlt,hc⟩:=h4 hp;exact⟨b,o,rfl,qaj hlt hb.size,fun j u hj=>(hb.cell hlt).trans (hc j u hj)⟩
theorem Cp.ext(h:Cp t B w v vs)(hb:Ext w w'):Cp t B w' v vs:=by
 obtain⟨A,c,rfl,h2,h3,h4⟩:=h;refine⟨A,c,rfl,h2,h3,?_⟩;rcases h4 with h4|⟨g,cur,rfl,hg,ax,hs,ht⟩
 ·exact .inl h4
 ·exact .inr ⟨g,cur,rfl,hg,ax.ext hb,hs,ht⟩
theorem Cp.mono(h:Cp t B w v vs)(hB:B'<=B):Cp t B' w v vs:=by
 obtain⟨A,c,rfl,h2,h3,h4⟩:=h;refine⟨A,c,rfl,h2,h3,?_⟩;rcases h4 with h4|⟨g,cur,rfl,hg,rest⟩
 ·exact .inl h4
 ·exact .inr ⟨g,cur,rfl,qaf hB hg,rest⟩
theorem O7{cur:Array Value}{n:Nat}(ht:cur.toList.take n=vs){j:Nat}{u:Value}(hj:vs[j]? =some u):cur[j]? =some u:=by
 rw[<-ht,qcm]at hj;split at hj
 ·simpa using hj
 ·cases hj
theorem Cp.arr(h:Cp t B w v vs):CX w v vs:=by
 obtain⟨A,c,rfl,h2,h3,h4⟩:=h;refine⟨A,c,rfl,h2,h3,fun hp=> ?_⟩;rcases h4 with ⟨rfl,rfl⟩|⟨g,cur,rfl,hg,ax,hs,ht⟩
 ·simp at hp
 ·refine⟨g,0,rfl,ax.lt,fun j u hj=> ?_⟩;rw[ax.cell,qaF];exact O7 ht hj
theorem Cp.none_(t:TypeId)(B:Nat)(w:World):Cp t B w (.slice none 0 0) []:=⟨none,0,rfl,qal _,by unfold maxLen;omega,.inl ⟨rfl,rfl⟩⟩
theorem CX.none_(w:World):CX w (.slice none 0 0) []:=(Cp.none_ 0 0 w).arr
theorem Cp.empty(t:TypeId)(B:Nat)(w:World)(A:Option Addr):Cp t B w (.slice A 0 0) []:=⟨A,0,rfl,qal _,by unfold maxLen;omega,.inl ⟨rfl,rfl⟩⟩
theorem CX.one{b:Nat}{u:Value}(h:w.cell? ⟨b,0,none⟩=some u):CX w (.slice (some ⟨b,0,none⟩) 1 1) [u]:=
 ⟨some ⟨b,0,none⟩,1,rfl,qad _,by unfold maxLen;omega,fun _=>⟨b,0,rfl,World.block_lt_of_cell? w _ h,fun j x hj=>by
  match j with
  |0=>simp only[List.getElem?_cons_zero,qaw]at hj;subst hj;exact h
  |j+1=>simp at hj⟩⟩
theorem Cp.take(h:Cp t B w v vs)(n:Nat)(hn:n<=vs.length):∃A c,v= .slice A vs.length c/\Cp t B w (.slice A n c) (vs.take n):=by
 obtain⟨A,c,rfl,h2,h3,h4⟩:=h;have hl:(vs.take n).length=n:=by rw[qas,qaV hn]
 refine⟨A,c,rfl,A,c,by rw[hl],by rw[hl];omega,h3,?_⟩;rcases h4 with ⟨rfl,rfl⟩|⟨g,cur,rfl,hg,ax,hs,ht⟩
 ·exact .inl ⟨by simp,rfl⟩
 ·exact .inr ⟨g,cur,rfl,hg,ax,hs,by rw[hl];rw[<-ht,List.take_take,qaV hn]⟩
end
section
variable {P:Program} {w:World} {v src:Value} {vs ys:List Value} {B:Nat}
def Im:Value->Option Nat
 | .slice (some a) _ c=>if c=0 then none else some a.block
 |_=>none
theorem I9 (t ty e:TypeId) (i:TypeInfo) (z:Value) (bytes:Nat) (ht:P.underlying t=some (.slice e)) (hi:P.info? e=some i) (hz:i.zero=some z)
  (ip:i.size=1) (fz:i.bytes=bytes) (uO:z.cells.size=1)
  (ac:Cp e B w v vs) (fr:CX w src ys) (h1:∀u∈ys,u.oneCell'=true)
  (rQ:vs.length+ys.length<=maxLen) (fS:(vs.length+ys.length)*bytes<=140737488355328) (bx:B<=w.heap.size):
  ∃v' w',(Builtin.append_ #[t,t] ty #[v,src]).run P w= .ok v' w'/\Cp e B w' v' (vs++ys)/\w.grownBy w' (Im v)/\Below B w w':=by
 obtain⟨A,c,rfl,h2,h3,h4⟩:=ac;obtain⟨A',c',rfl,k2,k3,k4⟩:=fr;rcases qar ys.length with hm|hm
 ·have mC:ys=[]:=qau hm;subst mC;refine⟨.slice A vs.length c,w,?_,⟨A,c,by simp,by simpa using h2,h3,by simpa using h4⟩,⟨rfl,rfl,rfl,qad _,fun _ _ _=>rfl⟩,Below.refl _ _⟩;rcases A' with _|a'<;>rcases A with _|a<;>
   simp[Builtin.append_,run_underlying ht,sizeOf,typeInfo,hi,Builtin.lenOf,Builtin.firstCells,loadCells,loadCellsFrom,storeCells,h2]
 ·obtain⟨b',o',rfl,Z7,hc'⟩:=k4 hm;have fu:∀j u,ys[j]? =some u->w.cell? ((⟨b',o',none⟩:Addr).add j)=some u:=fun j u hj=>by
   have:=hc' j u hj;unfold Addr.add;split
   ·rename_i h0;subst h0;simpa using this
   ·exact this
  have h5:(vs=[]/\c=0)\/(c≠0/\∃g cur,A=some ⟨g,0,none⟩/\B<=g/\Blk w g e cur/\cur.size=c/\cur.toList.take vs.length=vs):=by
   by_cases hc0:c=0
   ·exact .inl ⟨qau (by omega),hc0⟩
   ·rcases h4 with ⟨_,hc⟩|h4
    ·exact absurd hc hc0
    ·exact .inr ⟨hc0,h4⟩
  clear h4;rcases h5 with ⟨rfl,rfl⟩|⟨hc0,g,cur,rfl,hg,ax,hs,mF⟩
  ·
   have zg:ys.length<=9223372036854775807:=by unfold maxLen at rQ;simp at rQ;omega
   have kW:grownCap w ys.length 0 e<=maxLen:=grownCap_le_maxLen w ys.length 0 e (by simpa using rQ);have fh:=grownCap_ge w ys.length 0 e;have gn:ys.length*i.bytes<=140737488355328:=by rw[fz];simpa using fS
   have key:∃W,(Builtin.append_ #[t,t] ty #[.slice A 0 0,.slice (some ⟨b',o',none⟩) ys.length c']).run P w= .ok (.slice (some ⟨w.heap.size,0,none⟩) ys.length (grownCap w ys.length 0 e)) W/\
     W=w.drew.alloc (.cells (ys.toArray++Builtin.zeroCells z.cells (grownCap w ys.length 0 e-ys.length)) e):=by
    rcases A with _|a
    ·exact⟨_,run_append_nil (P:=P) w t ty e i z ht hi hz ⟨b',o',none⟩ ys.length c' ys (by rw[ip,qbj]) fu hm (by omega) (by omega),rfl⟩
    ·have hr:=run_append_grow (P:=P) w t ty e i z ht hi hz a 0 0 [] (by simp) (fun j u hu=>by simp at hu) ⟨b',o',none⟩ ys.length c' ys (by rw[ip,qbj]) fu (by omega) (by omega) (growslice_fits (by omega) (by simpa using gn));simp only[qaF]at hr;refine⟨_,hr,?_⟩;simp
   obtain⟨W,bq,rfl⟩:=key;refine⟨_,_,bq,⟨_,_,by simp,by simpa using fh,kW,.inr ⟨w.heap.size,_,rfl,bx,heap_alloc_new w.drew _,?_,?_⟩⟩,?_,?_⟩
   ·simp only[Array.size_append,List.size_toArray,size_zeroCells,uO,qbj];omega
   ·simp
   ·exact⟨rfl,rfl,rfl,by simp,fun k hk _=>Below.heap_alloc w.drew _ k hk⟩
   ·exact((Below.refl B w).drew).alloc bx _
  ·have au:w.ownsRow B e 1 (.slice (some ⟨g,0,none⟩) vs.length c) vs.length vs:=
    ⟨by rw[qbj],.inr ⟨g,c,cur,rfl,hg,ax,h2,h3,by rw[qbj];exact hs,by rw[qbj];exact mF⟩⟩
   obtain⟨v',w',bq,bf,hgr,ZS⟩:=run_append_own (P:=P) w B t ty e i z 1 bytes ht hi hz ip fz uO (by omega) _ _ _ au ⟨b',o',none⟩ ys.length c' ys (by rw[qbj]) fu h1 rQ fS bx;refine⟨v',w',bq,?_,by simpa [Im,hc0,Value.ownBlock] using hgr,(Below.refl B w).grown hgr bx (fun k hk=>by simp[Value.ownBlock]at hk;omega)⟩;obtain⟨_,hf⟩:=bf;rcases hf with ⟨rfl,aR⟩|⟨g',cap,xO,rfl,kV,xt,q1,q2,q3,q4⟩
   ·omega
   ·refine⟨_,cap,by rw[qab],by rw[qab];exact q1,q2,.inr ⟨g',xO,rfl,kV,xt,by rw[q3,qbj],?_⟩⟩;rw[qab,<-qbj (vs.length+ys.length)];exact q4
theorem Gl {o:Oper} {a:Act} {K:Act->World->Prop} {Q:Exit->Act->World->Prop} (s x:Operand) (t:TypeId)
  (ho:o.op= .call { callee:= .builtin .append,args:= #[s,x],argTypes:= #[t,t] })
  (e:TypeId) (i:TypeInfo) (z:Value) (bytes:Nat) (ht:P.underlying t=some (.slice e)) (hi:P.info? e=some i) (hz:i.zero=some z)
  (ip:i.size=1) (fz:i.bytes=bytes) (uO:z.cells.size=1)
  (hs:a.eval s=v) (ac:Cp e B w v vs) (hx:a.eval x=src) (fr:CX w src ys) (h1:∀u∈ys,u.oneCell'=true)
  (rQ:vs.length+ys.length<=maxLen) (fS:(vs.length+ys.length)*bytes<=140737488355328) (bx:B<=w.heap.size)
  (h:∀v' w',Cp e B w' v' (vs++ys)->w.grownBy w' (Im v)->Below B w w'->K (a.put o.dst v') w'):o.wp P a w K Q:=by
 obtain⟨v',w',bq,h2,h3,h4⟩:=I9 (P:=P) t o.type e i z bytes ht hi hz ip fz uO ac fr h1 rQ fS bx;unfold Oper.wp execOp;simp only[ho,resolve,invoke,builtin,Sem.run_bind,Sem.run_pure,Result.andThen_ok,List.map_toArray,qbU,qcl,hs,hx,bq];exact h v' w' h2 h3 h4
theorem Dg {ii:Array Oper} {rest:List Oper} {o:Oper} {a:Act} {Q:Exit->Act->World->Prop} (be:o.guard=none) (s x:Operand) (t:TypeId)
  (ho:o.op= .call { callee:= .builtin .append,args:= #[s,x],argTypes:= #[t,t] })
  (e:TypeId) (i:TypeInfo) (z:Value) (bytes:Nat) (ht:P.underlying t=some (.slice e)) (hi:P.info? e=some i) (hz:i.zero=some z)
  (ip:i.size=1) (fz:i.bytes=bytes) (uO:z.cells.size=1)
  (hs:a.eval s=v) (ac:Cp e B w v vs) (hx:a.eval x=src) (fr:CX w src ys) (h1:∀u∈ys,u.oneCell'=true)
  (rQ:vs.length+ys.length<=maxLen) (fS:(vs.length+ys.length)*bytes<=140737488355328) (bx:B<=w.heap.size)
  (h:∀v' w',Cp e B w' v' (vs++ys)->w.grownBy w' (Im v)->Below B w w'->wpList P ii Q rest (a.put o.dst v') w'):wpList P ii Q (o::rest) a w:=
 wpList_plain be fun _ hK=>Gl s x t ho e i z bytes ht hi hz ip fz uO hs ac hx fr h1 rQ fS bx fun v' w' h2 h3 h4=>hK _ _ (h v' w' h2 h3 h4)
end
def Arr(w:World)(v:Value)(xs:List Nat):Prop:=Ok xs/\CX w v (xs.map d32)
def Own(B:Nat)(w:World)(v:Value)(xs:List Nat):Prop:=Ok xs/\Cp 183 B w v (xs.map d32)
section
variable {w w':World} {v:Value} {xs:List Nat} {B B':Nat}
theorem Arr.ok(h:Arr w v xs):Ok xs:=h.1
theorem Arr.ext(h:Arr w v xs)(hb:Ext w w'):Arr w' v xs:=⟨h.1,h.2.ext hb⟩
theorem Own.ok(h:Own B w v xs):Ok xs:=h.1
theorem Own.ext(h:Own B w v xs)(hb:Ext w w'):Own B w' v xs:=⟨h.1,h.2.ext hb⟩
theorem Own.mono(h:Own B w v xs)(hB:B'<=B):Own B' w v xs:=⟨h.1,h.2.mono hB⟩
theorem Own.arr(h:Own B w v xs):Arr w v xs:=⟨h.1,h.2.arr⟩
theorem Own.none_(B:Nat)(w:World):Own B w (.slice none 0 0) []:=⟨CT,Cp.none_ _ B w⟩
theorem Arr.none_(w:World):Arr w (.slice none 0 0) []:=⟨CT,CX.none_ w⟩
theorem FQ{j:Nat}(hj:j<xs.length):(xs.map d32)[j]? =some (d32 (xs.getD j 0)):=by
 rw[qaD,qac,qaa hj];rfl
theorem Arr.open(h:Arr w v xs):Ok xs/\∃A c,v= .slice A xs.length c/\xs.length<=c/\c<=maxLen/\
  (0<xs.length->∃b o,A=some ⟨b,o,none⟩/\b<w.heap.size/\∀j,j<xs.length->w.cell? ⟨b,o+j,none⟩=some (d32 (xs.getD j 0))):=by
 obtain⟨h1,A,c,rfl,h2,h3,h4⟩:=h;rw[qag]at h2 h4;refine⟨h1,A,c,by rw[qag],h2,h3,fun hp=> ?_⟩;obtain⟨b,o,rfl,hlt,hc⟩:=h4 hp;exact⟨b,o,rfl,hlt,fun j hj=>hc j _ (FQ hj)⟩
theorem Arr.mk (an:Ok xs) {A:Option Addr} {c:Nat} (h2:xs.length<=c) (h3:c<=maxLen)
  (h4:0<xs.length->∃b o,A=some ⟨b,o,none⟩/\b<w.heap.size/\∀j,j<xs.length->w.cell? ⟨b,o+j,none⟩=some (d32 (xs.getD j 0))):Arr w (.slice A xs.length c) xs:=by
 refine⟨an,A,c,by rw[qag],by rw[qag];exact h2,h3,fun hp=> ?_⟩;rw[qag]at hp;obtain⟨b,o,rfl,hlt,hc⟩:=h4 hp;refine⟨b,o,rfl,hlt,fun j u hj=> ?_⟩;have hl:j<xs.length:=by
  rcases qam j xs.length with h|h
  ·exact h
  ·rw[qaz (by simpa using h)]at hj;cases hj
 rw[FQ hl]at hj;injection hj with hj
 rw[<-hj];exact hc j hl
theorem Arr.take(h:Arr w v xs)(n:Nat)(hn:n<=xs.length):∃A c,v= .slice A xs.length c/\Arr w (.slice A n c) (xs.take n):=by
 obtain⟨h1,A,c,rfl,h2,h3,h4⟩:=h.open;have hl:(xs.take n).length=n:=by rw[qas,qaV hn]
 have:=Arr.mk (w:=w) (A:=A) (c:=c) (h1.take n) (by omega) h3 (fun hp=>by
  obtain⟨b,o,rfl,hlt,hc⟩:=h4 (by omega);refine⟨b,o,rfl,hlt,fun j hj=> ?_⟩;have e:(xs.take n).getD j 0=xs.getD j 0:=by rw[qac,qac,qcs (by omega)]
  rw[e];exact hc j (by omega))
 rw[hl]at this;exact⟨A,c,rfl,this⟩
theorem Own.take(h:Own B w v xs)(n:Nat)(hn:n<=xs.length):∃A c,v= .slice A xs.length c/\Own B w (.slice A n c) (xs.take n):=by
 obtain⟨A,c,hv,h1⟩:=h.2.take n (by simpa using hn);rw[qag]at hv;refine⟨A,c,hv,h.1.take n,?_⟩;rw[List.map_take];exact h1
theorem R8:∀u∈xs.map d32,u.oneCell'=true:=fun u hu=>by
 obtain⟨x,_,rfl⟩:=qbJ.1 hu;rfl
end
theorem JH:(Tryz.prog.info? 183).map (fun i=>(i.zero,i.size,i.bytes))=some (some (.int .u32 0),1,4):=by kernel_rfl
theorem Own.empty(B:Nat)(w:World)(A:Option Addr):Own B w (.slice A 0 0) []:=⟨CT,Cp.empty _ B w A⟩
theorem Pz{n:Nat}(h:n<=2147483648):n<=maxLen/\n*4<=140737488355328:=by unfold maxLen;omega
theorem Be {w:World} {v src:Value} {xs ys:List Nat} {B:Nat} {ii:Array Oper} {rest:List Oper} {o:Oper} {a:Act} {Q:Exit->Act->World->Prop} (be:o.guard=none) (s x:Operand)
  (ho:o.op= .call { callee:= .builtin .append,args:= #[s,x],argTypes:= #[22,22] })
  (hs:a.eval s=v) (ac:Own B w v xs) (hx:a.eval x=src) (fr:Arr w src ys) (hn:xs.length+ys.length<=2147483648) (bx:B<=w.heap.size)
  (h:∀v' w',Own B w' v' (xs++ys)->w.grownBy w' (Im v)->Below B w w'->wpList Tryz.prog ii Q rest (a.put o.dst v') w'):wpList Tryz.prog ii Q (o::rest) a w:=by
 obtain⟨i0,hi,aR,hz1,aU⟩:=info_parts JH;have hb:=Pz hn;refine Dg be s x 22 ho 183 i0 _ 4 Tryz.underlying22 hi aR hz1 aU rfl hs ac.2 hx fr.2 R8 (by simpa using hb.1) (by simpa using hb.2) bx (fun v' w' h1 h2 h3=>h v' w' ⟨ac.1.append fr.1,?_⟩ h2 h3);rw[qaB];exact h1
def zeros(n:Nat):Array Value:=((List.replicate n 0).map d32).toArray
def cells(xs:List Nat):Array Value:=(xs.map d32).toArray
theorem Fy(n:Nat):zeros n=cells (List.replicate n 0):=rfl
theorem I5(xs:List Nat):(cells xs).size=xs.length:=by simp[cells]
theorem CK(xs:List Nat)(i:Nat)(h:i<xs.length):(cells xs)[i]? =some (d32 (xs.getD i 0)):=by
 unfold cells;rw[qbL];exact FQ h
theorem CI(xs:List Nat)(i y:Nat):(cells xs).setIfInBounds i (d32 y)=cells (xs.set i y):=by
 apply qcg;simp[cells,List.map_set]
theorem Oo(n:Nat):madeCells (Value.cells (.int .u32 0)) (n*1)=zeros n:=by
 apply qcg;apply qcb;intro i;simp only[madeCells,zeros,Value.cells];rw[qcc,Array.getElem?_map,qaD,qbZ];rcases qam i n with h|h
 ·rw[qbO,if_pos (by omega),if_pos h];simp[d32,Nat.mod_one]
 ·rw[qbO,if_neg (by omega),if_neg (by omega)];rfl
theorem Ef(n:Nat)(hn:n<=2147483648)(W:World):(Instr.makeSlice 22 (.int .i64 (n:Int)) (.int .i64 (n:Int))).run Tryz.prog W=
  .ok (.slice (some ⟨W.heap.size,0,none⟩) n n) (W.alloc (.cells (zeros n) 183)):=by
 obtain⟨i0,hi,aR,hz1,aU⟩:=info_parts JH;have hr:=run_make (P:=Tryz.prog) W 22 183 i0 _ Tryz.underlying22 hi aR .i64 .i64 (n:Int) (n:Int) (by omega) (Int.le_refl _) (by rw[aU];omega) (by omega);rw[hz1,qaq,Oo]at hr;exact hr
theorem Fr(n:Nat)(hn:n<=1073741824)(W:World):(Instr.makeSlice 22 (.int .i64 ((n:Int)+1)) (.int .i64 ((n:Int)+1))).run Tryz.prog W=
  .ok (.slice (some ⟨W.heap.size,0,none⟩) (n+1) (n+1)) (W.alloc (.cells (zeros (n+1)) 183)):=Ef (n+1) (by omega) W
theorem Own.block{B:Nat}{w:World}{g:Nat}{xs:List Nat}(an:Ok xs)(h:Blk w g 183 (cells xs))(hg:B<=g)(hm:xs.length<=2147483648):
  Own B w (.slice (some ⟨g,0,none⟩) xs.length xs.length) xs:=
 ⟨an,some ⟨g,0,none⟩,xs.length,by rw[qag],by rw[qag];omega,(Pz hm).1,.inr ⟨g,cells xs,rfl,hg,h,I5 xs,by rw[qag];show ((xs.map d32).toArray.toList).take xs.length=_;rw[qak (by simp)]⟩⟩
theorem Hr(ys:List Nat)(k y:Nat):(ys++List.replicate (k+1) 0).set ys.length y=(ys++[y])++List.replicate k 0:=by
 rw[qbk _ _ (qad _),qaX,qbS,qbF,qan];rfl
theorem I6(ys:List Nat)(k y:Nat):(List.replicate (k+1) 0++ys).set k y=List.replicate k 0++(y::ys):=by
 rw[List.set_append_left _ _ (by simp),List.replicate_succ',qbk _ _ (by simp),qaL,qaX,qbF,qan];rfl
theorem Ok.zeros(n:Nat):Ok (List.replicate n 0):=fun x hx=>by
 have:=List.eq_of_mem_replicate hx;omega
theorem Ok.snoc{xs:List Nat}(h:Ok xs){y:Nat}(hy:y<4294967296):Ok (xs++[y]):=h.append (DE hy CT)
theorem Of(r x:Nat)(hr:r<4294967296)(hx:x<4294967296):bits .or .u64 ((r:Int)*4294967296) (x:Int)=((r*4294967296+x:Nat):Int):=by
 have h1:((r:Int)*4294967296)=((r*4294967296:Nat):Int):=by omega
 rw[h1,bits_or_u64_nat _ _ (by omega) (by omega)];have h2:=Nat.shiftLeft_add_eq_or_of_lt (i:=32) (b:=x) (by omega) r;rw[Nat.shiftLeft_eq]at h2;exact congrArg Int.ofNat h2.symm
theorem Arr.fresh1(w:World)(y:Nat)(hy:y<4294967296):Arr (w.alloc (.cells #[d32 y] 183)) (.slice (some ⟨w.heap.size,0,none⟩) 1 1) [y]:=
 ⟨DE hy CT,CX.one (by simp)⟩
theorem Arr.fresh1'(w:World)(t:Int)(y:Nat)(ht:t=(y:Int))(hy:y<4294967296):Arr (w.alloc (.cells #[.int .u32 t] 183)) (.slice (some ⟨w.heap.size,0,none⟩) 1 1) [y]:=by
 subst ht;exact Arr.fresh1 w y hy
theorem Own.fresh1'(w:World)(t:Int)(y:Nat)(ht:t=(y:Int))(hy:y<4294967296):Own w.heap.size (w.alloc (.cells #[.int .u32 t] 183)) (.slice (some ⟨w.heap.size,0,none⟩) 1 1) [y]:=by
 subst ht;exact Own.block (xs:=[y]) (DE hy CT) (Blk.new w _ _) (qad _) (by simp)
theorem Own.fresh2(w:World)(x y:Nat)(hx:x<4294967296)(hy:y<4294967296):Own w.heap.size (w.alloc (.cells #[d32 x,d32 y] 183)) (.slice (some ⟨w.heap.size,0,none⟩) 2 2) [x,y]:=
 Own.block (xs:=[x,y]) (DE hx (DE hy CT)) (Blk.new w _ _) (qad _) (by simp)
theorem Cp.far{t:TypeId}{B:Nat}{w:World}{v:Value}{vs:List Value}(h:Cp t B w v vs){p:Addr}(hp:p.block<B)(u:Value):Cp t B (w.setCell p u) v vs:=by
 obtain⟨A,c,rfl,h2,h3,h4⟩:=h;refine⟨A,c,rfl,h2,h3,?_⟩;rcases h4 with h4|⟨g,cur,rfl,hg,ax,hs,ht⟩
 ·exact .inl h4
 ·exact .inr ⟨g,cur,rfl,hg,ax.far (by omega) u,hs,ht⟩
theorem Own.far{B:Nat}{w:World}{v:Value}{xs:List Nat}(h:Own B w v xs){p:Addr}(hp:p.block<B)(u:Value):Own B (w.setCell p u) v xs:=⟨h.1,h.2.far hp u⟩
theorem Ee(w:World)(v:Value)(xs:List Nat)(h:Arr w v xs):
  Calls Tryz.prog 177 #[v] w fun e w'=>e= .returned (.int .i64 (size xs))/\w=w':=by
 obtain⟨an,A,c,rfl,hc,hm,aa⟩:=h.open;unfold maxLen at hm;go_enter Tryz.func177,Tryz.ntmps177
 go_wp2
 go_loop [3] (fun n=>∃k:Nat,k<=xs.length/\n= .int .i64 k/\∀i,k<=i->xs.getD i 0=0) (fun n=>(intOf n).toNat)
 case atStart=>exact⟨_,qad _,rfl,fun i hi=>by rw[qac,qaz hi];rfl⟩
 case round=>
  obtain⟨k,hk,rfl,hz⟩:=hrel;have HZ:=J hz;clear hz;have HC:=J aa;clear aa;by_cases h0:k=0
  ·subst h0;have hs:=I4 xs 0 hk HZ.o (by omega);have HS:=J hs;clear hs
   go_wp2
   go_ret;rw[HS.o];exact⟨rfl,rfl⟩
  ·obtain⟨b,o,rfl,hb,aa⟩:=HC.o (by omega);have hx:=aa (k-1) (by omega);clear aa;obtain⟨m,rfl⟩:∃m,k=m+1:=⟨k-1,by omega⟩;simp only[qbE,d32]at hx;by_cases hx0:xs.getD m 0=0
   ·have uP:((xs.getD m 0:Int) == 0)=true:=by rw[hx0];rfl
    have HX:=J hx0;clear hx0;obtain⟨y,hy⟩:∃y,xs.getD m 0=y:=⟨_,rfl⟩;rw[hy]at hx uP;clear hy
    go_wp2
    go_round
    case rel=>exact⟨m,by omega,by go_num,fun i hi=>by
     rcases qam m i with h1|h1
     ·exact HZ.o i h1
     ·obtain rfl:i=m:=by omega
      exact HX.o⟩
    case measure=>simp[intOf]
   ·have uP:((xs.getD m 0:Int) == 0)=false:=by rw[beq_eq_false_iff_ne];omega
    have hs:=I4 xs (m+1) hk HZ.o (fun _=>hx0);have HS:=J hs;clear hs;generalize xs.getD m 0=y at *;clear hx0
    go_wp2
    go_ret;rw[HS.o];exact⟨rfl,rfl⟩
theorem Rb(w:World)(v:Value)(xs:List Nat)(h:Arr w v xs)(hn:xs.length<=1073741824):
  Calls Tryz.prog 222 #[v] w fun e w'=>∃v',e= .returned v'/\Own w.heap.size w' v' xs/\Ext w w':=by
 have HA:=J h;obtain⟨an,A,c,rfl,hc,hm,aa⟩:=h.open;have HM:=J hm;have HN:=J hn;have HC:=J aa;clear h hm hn aa;obtain⟨i0,hi,aR,hz1,aU⟩:=info_parts JH;rcases A with _|a
 ·have h0:xs=[]:=by
   rcases qar xs.length with h|h
   ·exact qau h
   ·obtain⟨b,o,he,_⟩:=HC.o h;cases he
  subst h0;have hE:=fun W c=>Lib.run_eql_slice_nil (P:=Tryz.prog) W 22 183 none 0 c 0 0 Tryz.underlying22
  go_enter Tryz.func222,Tryz.ntmps222
  go_wp2
  go_ret;exact⟨_,rfl,Own.none_ _ _,Ext.refl _⟩
 ·have hE:=fun W n c=>Lib.run_eql_slice_nil (P:=Tryz.prog) W 22 183 (some a) n c 0 0 Tryz.underlying22
  go_enter Tryz.func222,Tryz.ntmps222;have hn0:([]:List Nat).length+xs.length<=2147483648:=by have:=HN.o;simp;omega
  have ji:=J hn0;clear hn0;go_wp2_with (at_builtin;go_must (refine Be rfl _ _ rfl rfl (Own.empty w.heap.size _ _) rfl (HA.o.ext ((Ext.refl _).alloc _)) ji.o (by simp) ?_;intro v' w' ac hgr hb));go_ret;exact⟨_,rfl,ac,((Ext.refl w).alloc _).more hb⟩
theorem B4(w:World)(v:Value)(xs:List Nat)(h:Arr w v xs)(hn:xs.length<=1073741824):
  Calls Tryz.prog 188 #[v] w fun e w'=>∃v',e= .returned v'/\Own w.heap.size w' v' (Af (val xs))/\Ext w w':=by
 have HS:=J (Ee w v xs h);have hle:=size_le xs;have HT:=J (Dt h.ok);have HA:=J h;have HN:=J hn;obtain⟨an,A,c,rfl,hc,hm,aa⟩:=h.open;have HM:=J hm;clear h hn aa hm;go_enter Tryz.func188,Tryz.ntmps188;go_wp2_with fail;refine HS.o.mono ?_
 rintro e w' ⟨rfl,rfl⟩;go_wp2_with fail;obtain⟨A',c',he,ha⟩:=HA.o.take (size xs) hle;injection he with he1 he2 he3
 subst he1 he3;rw[HT.o]at ha;have hc:=Rb w _ _ ha (qaf (AG an) HN.o);refine hc.mono ?_
 rintro e w' ⟨v',rfl,ho,hx⟩;go_wp2_with fail;go_ret;exact⟨_,rfl,ho,hx⟩
def d8(b:UInt8):Value:= .int .u8 (b.toNat:Int)
def str(l:List UInt8):Value:= .string ⟨l.toArray⟩
section
variable {w w':World} {v:Value} {bs:List UInt8} {B B':Nat}
end
end Big
end Go.Proofs.YtkoaogkknnelaaaGreatDoor
