import Derived.Test.YtaccjdbbkmhanaaGreatDoorM4
import Derived.Test.YtaccjdbbkmhanaaGreatDoorM9
import Derived.Test.YtaccjdbbkmhanaaGreatDoorM5
import Derived.Deep.CutBlock
namespace Go.Proofs.YtaccjdbbkmhanaaGreatDoor
namespace Big
def plainT (x:Nd):Bool:=if x.kind=1 then code7 x.text == 0 else if x.kind=2 then nameB x.text else x.text == []
def plainM (x:Nd):Bool:=if x.kind=10 then decide (-64≤x.n∧x.n≤64) else x.n == 0
def plainB (x:Nd):Bool:=plainT x && plainM x
def szStep (S D:List Nat) (x:Nd):Option (Nat × Nat):=
 if operI x.kind<0∨plainB x=false∨(operI x.kind<1∧x.a≠0)∨(operI x.kind<2∧x.b≠0) then none
 else if operI x.kind=0 then some (1,1)
 else if operI x.kind=1 then
  (if x.a≠(S.length:Int)-1∨x.a<0 then none else some (S.getD x.a.toNat 0+1,max 1 (D.getD x.a.toNat 0+1)))
 else if x.b≠(S.length:Int)-1∨x.b<0 then none
 else if x.a≠(S.length:Int)-((S.getD x.b.toNat 0+1:Nat):Int)∨x.a<0 then none
 else some (S.getD x.b.toNat 0+1+S.getD x.a.toNat 0,max (max 1 (D.getD x.b.toNat 0+1)) (D.getD x.a.toNat 0+1))
def szGo:List Nat→List Nat→List Nd→Option (List Nat × List Nat)
 |S,D,[]=>some (S,D)
 |S,D,x::t=>match szStep S D x with
  |none=>none
  |some (s,d)=>szGo (S++[s]) (D++[d]) t
def szAll (l:List Nd):Option (List Nat × List Nat):=match szGo [] [] l with
 |none=>none
 |some (S,D)=>if l.length=0∨S.getD (l.length-1) 0≠l.length then none else some (S,D)
def validB (l:List Nd):Bool:=decide (1≤l.length∧l.length≤200) && match szAll l with
 |none=>false
 |some (_,D)=>decide (D.getD (l.length-1) 0≤40)
theorem szGo_append (l m:List Nd):∀S D,szGo S D (l++m)=(match szGo S D l with|none=>none|some (S',D')=>szGo S' D' m):=by
 induction l with
 |nil=>intro S D;rfl
 |cons x t ih=>
  intro S D
  rw [List.cons_append,szGo,szGo]
  cases szStep S D x with
  |none=>rfl
  |some p=>exact ih _ _
def szE:Ex→List Nat
 | .leaf _ _=>[1]
 | .un _ _ x=>szE x++[x.size+1]
 | .bin _ x y=>szE x++szE y++[x.size+y.size+1]
def dpE:Ex→List Nat
 | .leaf _ _=>[1]
 | .un _ _ x=>dpE x++[x.depth+1]
 | .bin _ x y=>dpE x++dpE y++[max x.depth y.depth+1]
theorem szE_len (e:Ex):(szE e).length=e.size:=by
 induction e with
 |leaf k t=>rfl
 |un k n x ih=>rw [szE,List.length_append,ih];rfl
 |bin k x y ihx ihy=>rw [szE,List.length_append,List.length_append,ihx,ihy];rfl
theorem dpE_len (e:Ex):(dpE e).length=e.size:=by
 induction e with
 |leaf k t=>rfl
 |un k n x ih=>rw [dpE,List.length_append,ih];rfl
 |bin k x y ihx ihy=>rw [dpE,List.length_append,List.length_append,ihx,ihy];rfl
theorem getD_last {L M:List Nat} {x:Nat} {i:Nat} (h:i=L.length+M.length):(L++(M++[x])).getD i 0=x:=by
 subst h
 rw [List.getD_eq_getElem?_getD,List.getElem?_append_right (by omega),Nat.add_sub_cancel_left,List.getElem?_append_right (Nat.le_refl _),Nat.sub_self]
 rfl
theorem szE_last (e:Ex) (L:List Nat) (i:Nat) (h:i+1=L.length+e.size):(L++szE e).getD i 0=e.size:=by
 cases e with
 |leaf k t=>exact getD_last (M:=[]) (by have h2:i+1=L.length+1:=h;simp;omega)
 |un k n x=>rw [szE];have:=szE_len x;exact getD_last (by have h2:i+1=L.length+(x.size+1):=h;omega)
 |bin k x y=>rw [szE];have:=szE_len x;have:=szE_len y;exact getD_last (by have h2:i+1=L.length+(x.size+y.size+1):=h;rw [List.length_append];omega)
theorem dpE_last (e:Ex) (L:List Nat) (i:Nat) (h:i+1=L.length+e.size):(L++dpE e).getD i 0=e.depth:=by
 cases e with
 |leaf k t=>exact getD_last (M:=[]) (by have h2:i+1=L.length+1:=h;simp;omega)
 |un k n x=>rw [dpE];have:=dpE_len x;exact getD_last (by have h2:i+1=L.length+(x.size+1):=h;omega)
 |bin k x y=>rw [dpE];have:=dpE_len x;have:=dpE_len y;exact getD_last (by have h2:i+1=L.length+(x.size+y.size+1):=h;rw [List.length_append];omega)
theorem getD_left {L M:List Nat} {i:Nat} (h:i<L.length):(L++M).getD i 0=L.getD i 0:=by
 rw [List.getD_eq_getElem?_getD,List.getD_eq_getElem?_getD,List.getElem?_append_left h]
theorem plain_un {k:Nat} {n:Int} {x:Ex} (h:(Ex.un k n x).Good) (a b:Int):plainB ⟨(k:Int),a,b,n,[]⟩=true:=by
 obtain ⟨h1,h2,h3,h4,_⟩:=h
 unfold plainB plainT plainM
 rw [if_neg (by simp only;omega),if_neg (by simp only;omega)]
 by_cases hk:k=10
 ·subst hk
  simp
  omega
 ·rw [if_neg (by simp only;omega)]
  simp [h2 hk]
theorem szGo_flat (e:Ex) (hg:e.Good):∀S D:List Nat,D.length=S.length→szGo S D (flat S.length e)=some (S++szE e,D++dpE e):=by
 induction e with
 |leaf k t=>
  intro S D hD
  have h1:szStep S D ⟨(k:Int),0,0,0,t⟩=some (1,1):=by
   have hk:1≤k∧k≤4:=by unfold Ex.Good at hg;omega
   have ho:operI (k:Int)=0:=by unfold operI;rw [if_neg (by omega),if_pos (by omega)]
   have hp:plainB ⟨(k:Int),0,0,0,t⟩=true:=by
    unfold plainB plainT plainM
    rw [if_neg (c:=(k:Int)=10) (by omega)]
    rcases hg with ⟨rfl,h,_⟩|⟨rfl,h⟩|⟨h,rfl⟩
    ·simp [h]
    ·simp [h]
    ·rw [if_neg (by simp only;omega),if_neg (by simp only;omega)];rfl
   unfold szStep
   rw [ho,hp]
   simp
  rw [flat,szGo,h1]
  rfl
 |un k n x ih=>
  intro S D hD
  have hx:=hg.2.2.2.2
  have hz:=x.size_pos
  have hk:=hg.1
  have ho:operI (k:Int)=1:=by unfold operI;rw [if_neg (by omega),if_neg (by omega),if_neg (by omega)]
  rw [flat,szGo_append,ih hx S D hD]
  have h1:szStep (S++szE x) (D++dpE x) ⟨(k:Int),((S.length+x.size-1:Nat):Int),0,n,[]⟩=some (x.size+1,x.depth+1):=by
   have h2:=szE_last x S (S.length+x.size-1) (by omega)
   have h3:=dpE_last x D (S.length+x.size-1) (by omega)
   unfold szStep
   simp only [ho,plain_un hg,Int.toNat_natCast,h2,h3,List.length_append,szE_len]
   rw [if_neg (by simp),if_neg (by decide),if_pos trivial,if_neg (by omega),Nat.max_eq_right (by omega)]
  simp only [szGo,h1]
  simp [szE,dpE]
 |bin k x y ihx ihy=>
  intro S D hD
  have hx:=hg.2.1
  have hy:=hg.2.2
  have hz:=x.size_pos
  have hz2:=y.size_pos
  have hk:=hg.1
  have ho:operI (k:Int)=2:=by unfold operI;rw [if_neg (by omega),if_neg (by omega),if_pos (by omega)]
  have hp:plainB ⟨(k:Int),((S.length+x.size-1:Nat):Int),((S.length+x.size+y.size-1:Nat):Int),0,[]⟩=true:=by
   unfold plainB plainT plainM
   rw [if_neg (by simp only;omega),if_neg (by simp only;omega),if_neg (by simp only;omega)]
   rfl
  have hl:S.length+x.size=(S++szE x).length:=by rw [List.length_append,szE_len]
  have hl2:D.length+x.size=(D++dpE x).length:=by rw [List.length_append,dpE_len]
  have h0:=ihy hy (S++szE x) (D++dpE x) (by rw [←hl,←hl2,hD])
  rw [flat,szGo_append,ihx hx S D hD]
  simp only
  rw [szGo_append,hl,h0,←hl]
  have h1:szStep ((S++szE x)++szE y) ((D++dpE x)++dpE y) ⟨(k:Int),((S.length+x.size-1:Nat):Int),((S.length+x.size+y.size-1:Nat):Int),0,[]⟩=some (x.size+y.size+1,max x.depth y.depth+1):=by
   have h2:=szE_last y (S++szE x) (S.length+x.size+y.size-1) (by omega)
   have h3:=dpE_last y (D++dpE x) (S.length+x.size+y.size-1) (by omega)
   have h4:=(getD_left (L:=S++szE x) (M:=szE y) (i:=S.length+x.size-1) (by omega)).trans (szE_last x S (S.length+x.size-1) (by omega))
   have h5:=(getD_left (L:=D++dpE x) (M:=dpE y) (i:=S.length+x.size-1) (by omega)).trans (dpE_last x D (S.length+x.size-1) (by omega))
   unfold szStep
   simp only [ho,hp,Int.toNat_natCast,h2,h3,h4,h5]
   rw [if_neg (by simp),if_neg (by decide),if_neg (by decide),if_neg (by rw [List.length_append,←hl,szE_len];omega),if_neg (by rw [List.length_append,←hl,szE_len];omega)]
   congr 2
   ·omega
   ·omega
  simp only [szGo,h1]
  simp [szE,dpE]
theorem validB_flat (e:Ex) (hg:e.Good):validB (flat 0 e)=decide (e.size≤200∧e.depth≤40):=by
 have h:=szGo_flat e hg [] [] rfl
 have hz:=e.size_pos
 have h1:=szE_last e [] (e.size-1) (by simp;omega)
 have h2:=dpE_last e [] (e.size-1) (by simp;omega)
 rw [List.nil_append] at h h1 h2
 rw [List.nil_append,List.length_nil] at h
 unfold validB szAll
 rw [h,flat_len]
 simp only [h1]
 rw [if_neg (by omega)]
 simp only [h2]
 rw [←Bool.decide_and,decide_eq_decide]
 omega
structure SzOk (S D:List Nat):Prop where
 len:D.length=S.length
 size:∀j,j<S.length→S.getD j 0≤j+1
 depth:∀j,j<S.length→D.getD j 0≤j+1
theorem SzOk.nil:SzOk [] []:=⟨rfl,fun j h=>by simp at h,fun j h=>by simp at h⟩
theorem SzOk.step {S D:List Nat} {x:Nd} {s d:Nat} (h:SzOk S D) (hs:szStep S D x=some (s,d)):s≤S.length+1∧d≤S.length+1∧SzOk (S++[s]) (D++[d]):=by
 have key:s≤S.length+1∧d≤S.length+1:=by
  unfold szStep at hs
  split at hs
  ·cases hs
  ·split at hs
   ·injection hs with hs;injection hs with h1 h2;omega
   ·split at hs
    ·split at hs
     ·cases hs
     ·rename_i hc
      injection hs with hs
      injection hs with h1 h2
      have:=h.size x.a.toNat (by omega)
      have:=h.depth x.a.toNat (by omega)
      omega
    ·split at hs
     ·cases hs
     ·rename_i hc
      have q1:=h.size x.b.toNat (by omega)
      have q2:=h.depth x.b.toNat (by omega)
      split at hs
      ·cases hs
      ·rename_i hc2
       injection hs with hs
       injection hs with h1 h2
       have q3:=h.size x.a.toNat (by omega)
       have q4:=h.depth x.a.toNat (by omega)
       omega
 refine ⟨key.1,key.2,?_,fun j hj=> ?_,fun j hj=> ?_⟩
 ·rw [List.length_append,List.length_append,h.len];rfl
 ·rw [List.length_append,List.length_singleton] at hj
  rcases Nat.lt_or_ge j S.length with h1|h1
  ·rw [getD_left h1];exact h.size j h1
  ·have h2:=getD_last (L:=S) (M:=[]) (x:=s) (i:=j) (by simp;omega)
   rw [List.nil_append] at h2
   rw [h2];omega
 ·rw [List.length_append,List.length_singleton] at hj
  rcases Nat.lt_or_ge j S.length with h1|h1
  ·rw [getD_left (by rw [h.len];exact h1)];exact h.depth j h1
  ·have h2:=getD_last (L:=D) (M:=[]) (x:=d) (i:=j) (by rw [h.len];simp;omega)
   rw [List.nil_append] at h2
   rw [h2];omega
end Big
end Go.Proofs.YtaccjdbbkmhanaaGreatDoor
namespace Go.Proofs.YtaccjdbbkmhanaaGreatDoor
namespace Big
open Go.RowKit
@[go_sem high] theorem cells_match_str2 (l:List UInt8):Value.cells.match_1 (fun _=>Array Value) (str l) (fun cs=>cs) (fun v=> #[v])= #[str l]:=rfl
end Big
end Go.Proofs.YtaccjdbbkmhanaaGreatDoor
namespace Go.Proofs.YtaccjdbbkmhanaaGreatDoor
namespace Big
open Go.RowKit
def PartPost (B g:Nat) (w:World) (L:Value) (l:List Int) (xs:List Nd) (d:Nat) (e:Ending) (w':World):Prop:=
 ∃(x:Ex) (v':Value) (a':Nat),e= .returned v'∧x.Good∧x.size+1≤2 ^ d∧x.depth≤d∧OwnNd B w' v' (xs++flat xs.length x)∧TapeAt B g w' L l a'∧KB B g w w'
theorem newsL (w:World) (ty:TypeId) (cs:List Value):∀(j:Nat) (u:Value),cs[j]? =some u→(w.alloc (.cells cs.toArray ty)).cell? ((⟨w.heap.size,0,none⟩:Addr).add j)=some u:=fun j u hj=>by
 have h1:=(Blk.new w ty cs.toArray).cell j
 have h2:(⟨w.heap.size,0,none⟩:Addr).add j=⟨w.heap.size,j,none⟩:=by
  unfold Addr.add
  split
  ·rename_i h;subst h;rfl
  ·simp
 rw [h2,h1,←hj,List.getElem?_toArray]
theorem nd_after {B n:Nat} {W W':World} {xs:List Nd} {nd:Nd} {v v':Value} (hn:n=xs.length) (ho:Obj) (hrow:OwnNd B W v xs) (hB:B≤W.heap.size)
  (hown:W'.ownsRow B 50 5 v' (n+1) (ndsC xs++ndC nd)) (hgr:(W.alloc ho).grownBy W' v.ownBlock):OwnNd B W' v' (xs++[nd])∧Below B W W':=by
 refine ⟨?_,?_⟩
 ·unfold OwnNd
  rw [ndsC_append,ndsC_one,List.length_append,List.length_singleton,←hn]
  exact hown
 ·exact Below.grown ((Below.refl B W).alloc hB ho) hgr (by simp;omega) (fun k hk=>ownsRow_block hrow k hk)
theorem OwnNd.kbx {B g:Nat} {w w':World} {v:Value} {l:List Nd} (h:OwnNd B w v l) (hg:g<B) (hk:∀B',KB B' g w w'):OwnNd B w' v l:=
 h.kept (fun k h1 h2=>(hk w.heap.size).block k h2 (by omega))
theorem OwnNd.kbs {B g:Nat} {w w':World} {v:Value} {l:List Nd} (h:OwnNd B w v l) (hg:g<B) (hk:KB w.heap.size g w w'):OwnNd B w' v l:=
 h.kept (fun k h1 h2=>hk.block k h2 (by omega))
theorem OwnNd.ext {B:Nat} {w w':World} {v:Value} {l:List Nd} (h:OwnNd B w v l) (hk:Ext w w'):OwnNd B w' v l:=
 h.kept (fun k _h1 h2=>hk.block k h2)
theorem names_get {x:Int} (h0:0≤x) (h1:x<5):∃t,∃h:x.toNat<names5.length,names5[x.toNat]=t∧nameB t=true∧t.length≤5:=by
 obtain ⟨n,rfl⟩:=Int.eq_ofNat_of_zero_le h0
 have hn:n<names5.length:=by show n<5;omega
 refine ⟨names5[n],hn,rfl,?_⟩
 have hall:∀t∈names5,nameB t=true∧t.length≤5:=by decide+kernel
 exact hall _ (List.getElem_mem hn)
theorem Dr.belowN {w w':World} (h:Dr w w') (B:Nat):Below B w w':=by
 have h1:=h.grown none
 exact ⟨h1.os,h1.tape,h1.output,h1.size,fun g _=>by rw [h.heap]⟩
theorem OwnNd.shape3 {B:Nat} {w:World} {v:Value} {l:List Nd} (h:OwnNd B w v l):∃A c n,v= .slice A n c∧n=l.length:=by
 obtain ⟨A,c,h1⟩:=h.shape
 exact ⟨A,c,_,h1,rfl⟩
theorem pow_two_le {d:Nat} (h:1≤d):2≤2 ^ d:=by
 calc 2=2 ^ 1:=rfl
  _≤2 ^ d:=Nat.pow_le_pow_right (by omega) h
end Big
end Go.Proofs.YtaccjdbbkmhanaaGreatDoor
namespace Go.Proofs.YtaccjdbbkmhanaaGreatDoor
namespace Big
open Go.RowKit
end Big
end Go.Proofs.YtaccjdbbkmhanaaGreatDoor
