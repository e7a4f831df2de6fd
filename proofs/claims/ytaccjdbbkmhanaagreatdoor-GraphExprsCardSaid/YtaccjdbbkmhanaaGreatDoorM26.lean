import Derived.Test.YtaccjdbbkmhanaaGreatDoorM25
import Derived.Test.YtaccjdbbkmhanaaGreatDoorM18
import Derived.Test.YtaccjdbbkmhanaaGreatDoorM5
import Derived.Test.YtaccjdbbkmhanaaGreatDoorM3
namespace Go.Proofs.YtaccjdbbkmhanaaGreatDoor
namespace Big
def ktT (t:Tok):Nat × List UInt8:=(t.kind,t.text)
def KP (b:Bool) (l:List (Nat × List UInt8)):List (Nat × List UInt8):=if b then (3,[40])::(l++[(3,[41])]) else l
def sgnT (k:Nat):List UInt8:=if k=6 then [43] else if k=7 then [45] else if k=8 then [42] else [47]
def KN (n:Int):List (Nat × List UInt8):=if n<0 then [(3,[45]),(1,dec n.natAbs)] else [(1,dec n.natAbs)]
def KE:Ex→List (Nat × List UInt8)
 | .leaf k t=>if k=3 then [(2,[112,105])] else if k=4 then [(2,[101])] else [(k,t)]
 | .un k n x=>if k=5 then (3,[45])::KP (decide (levelK x.kind<3)) (KE x)
   else if k=10 then KP (decide (levelK x.kind<5)) (KE x)++((3,[94])::KN n)
   else (2,funcT k)::(3,[40])::(KE x++[(3,[41])])
 | .bin k x y=>KP (decide (levelK x.kind<levelK k)) (KE x)++((3,sgnT k)::KP (decide (levelK y.kind<levelK k+1)) (KE y))
def MT (ts:List Tok):Nat→List (Nat × List UInt8)→Prop
 |_,[]=>True
 |a,x::l=>(ts[a]?).map ktT=some x∧MT ts (a+1) l
theorem MT.is {ts:List Tok} {a:Nat} {k:Nat} {t:List UInt8} {l:List (Nat × List UInt8)} (h:MT ts a ((k,t)::l)) (c:List UInt8):isS ts a c=(k == 3 && t == c):=by
 have h1:=h.1
 unfold isS
 cases ht:ts[a]? with
 |none=>rw [ht] at h1;cases h1
 |some x=>
  rw [ht] at h1
  have h2:ktT x=(k,t):=Option.some.inj h1
  injection h2 with h3 h4
  simp only [h3,h4]
theorem MT.yes {ts:List Tok} {a:Nat} {t:List UInt8} {l:List (Nat × List UInt8)} (h:MT ts a ((3,t)::l)):isS ts a t=true:=by
 rw [h.is]
 simp
theorem MT.tok {ts:List Tok} {a:Nat} {k:Nat} {t:List UInt8} {l:List (Nat × List UInt8)} (h:MT ts a ((k,t)::l)):∃x,ts[a]? =some x∧x.kind=k∧x.text=t:=by
 have h1:=h.1
 cases ht:ts[a]? with
 |none=>rw [ht] at h1;cases h1
 |some x=>
  rw [ht] at h1
  have h2:ktT x=(k,t):=Option.some.inj h1
  injection h2 with h3 h4
  exact ⟨x,rfl,h3,h4⟩
section
variable {ts:List Tok} {p:Nat→Option Ex × Nat} {a b:Nat} {x:Ex}
theorem atom_up (h:pAtom p ts a=(some x,b)) (hn:isS ts b [94]=false):pPower p ts a=(some x,b):=by
 unfold pPower
 rw [h]
 simp only
 rw [if_neg (by rw [hn];simp)]
theorem minusRun_zero (f:Nat) (h:isS ts a [45]=false):minusRun ts f a=0:=by
 cases f with
 |zero=>rfl
 |succ f=>unfold minusRun;rw [if_neg (by rw [h];simp)]
theorem minusRun_more:∀(f g a:Nat),ts.length≤a+f→ts.length≤a+g→minusRun ts f a=minusRun ts g a:=by
 intro f
 induction f with
 |zero=>
  intro g a h1 h2
  have:isS ts a [45]=false:=by
   cases hs:isS ts a [45] with
   |false=>rfl
   |true=>have:=isS_lt hs;omega
  rw [minusRun_zero _ this,minusRun_zero _ this]
 |succ f ih=>
  intro g a h1 h2
  cases hs:isS ts a [45] with
  |false=>rw [minusRun_zero _ hs,minusRun_zero _ hs]
  |true=>
   have hl:=isS_lt hs
   obtain ⟨g',rfl⟩:∃g',g=g'+1:=⟨g-1,by omega⟩
   rw [minusRun,minusRun,if_pos hs,if_pos hs,ih g' (a+1) (by omega) (by omega)]
theorem negs_succ (n:Nat):∀x:Ex,negs (n+1) x= .un 5 0 (negs n x):=by
 induction n with
 |zero=>intro x;rfl
 |succ n ih=>intro x;rw [negs,ih];rfl
theorem chainGo_stop {op:Nat→Option Ex × Nat} {c1 c2:List UInt8} {k1 k2:Nat} (f:Nat) (h1:isS ts a c1=false) (h2:isS ts a c2=false):chainGo op ts c1 c2 k1 k2 f x a=(some x,a):=by
 cases f with
 |zero=>rfl
 |succ f=>unfold chainGo;rw [if_neg (by rw [h1];simp),if_neg (by rw [h2];simp)]
end
structure RD (ts:List Tok) (e:Ex) (f a:Nat):Prop where
 atom:5≤levelK e.kind→pAtom (pSum ts f) ts a=(some e,a+(KE e).length)
 power:4≤levelK e.kind→isS ts (a+(KE e).length) [94]=false→pPower (pSum ts f) ts a=(some e,a+(KE e).length)
 minus:3≤levelK e.kind→isS ts (a+(KE e).length) [94]=false→pMinus (pSum ts f) ts a=(some e,a+(KE e).length)
 prod:2≤levelK e.kind→isS ts (a+(KE e).length) [94]=false→∃m,m≤(KE e).length∧chainP (pMinus (pSum ts f) ts) ts [42] [47] 8 9 a=chainGo (pMinus (pSum ts f) ts) ts [42] [47] 8 9 (ts.length-m) e (a+(KE e).length)
 sum:isS ts (a+(KE e).length) [94]=false→isS ts (a+(KE e).length) [42]=false→isS ts (a+(KE e).length) [47]=false→
  ∃m,m≤(KE e).length∧chainP (pProd (pSum ts f) ts) ts [43] [45] 6 7 a=chainGo (pProd (pSum ts f) ts) ts [43] [45] 6 7 (ts.length-m) e (a+(KE e).length)
theorem RD.whole {ts:List Tok} {e:Ex} {f a:Nat} (h:RD ts e f a) (h1:isS ts (a+(KE e).length) [94]=false) (h2:isS ts (a+(KE e).length) [42]=false) (h3:isS ts (a+(KE e).length) [47]=false)
  (h4:isS ts (a+(KE e).length) [43]=false) (h5:isS ts (a+(KE e).length) [45]=false):pSum ts (f+1) a=(some e,a+(KE e).length):=by
 obtain ⟨m,_,h6⟩:=h.sum h1 h2 h3
 rw [pSum,h6,chainGo_stop _ h4 h5]
end Big
end Go.Proofs.YtaccjdbbkmhanaaGreatDoor
namespace Go.Proofs.YtaccjdbbkmhanaaGreatDoor
namespace Big
open Go.RowKit
theorem flat_bin (off k:Nat) (x y:Ex):flat off (.bin k x y)=(flat off x++flat (off+x.size) y)++[⟨(k:Int),((off+x.size-1:Nat):Int),((off+x.size+y.size-1:Nat):Int),0,[]⟩]:=by
 rw [flat,List.append_assoc]
theorem nds_len {ns:List Nd} {x:Ex}:(ns++flat ns.length x).length=ns.length+x.size:=by rw [List.length_append,flat_len]
theorem Blk.two' {w:World} {g:Nat} {t:TypeId} {a b:Value} (h:Blk w g t #[a,b]):w.cell? ⟨g,0,none⟩=some a∧w.cell? ⟨g,1,none⟩=some b:=⟨h.cell 0,h.cell 1⟩
def chTail (op:Nat→Option Ex × Nat) (ts:List Tok) (s1 s2:List UInt8) (k1 k2 f k:Nat) (x:Ex):Option Ex × Nat→Option Ex × Nat
 |(none,b)=>(none,b)
 |(some y,b)=>chainGo op ts s1 s2 k1 k2 f (.bin k x y) b
theorem chainGo_one {op:Nat→Option Ex × Nat} {ts:List Tok} {s1 s2:List UInt8} {k1 k2 f b:Nat} {x:Ex} (hf:1≤f) (h:isS ts b s1=true):chainGo op ts s1 s2 k1 k2 f x b=chTail op ts s1 s2 k1 k2 (f-1) k1 x (op (b+1)):=by
 obtain ⟨f',rfl⟩:∃f',f=f'+1:=⟨f-1,by omega⟩
 rw [chainGo,if_pos h,Nat.add_sub_cancel]
 rcases op (b+1) with ⟨_|y,b'⟩<;>rfl
theorem chainGo_two {op:Nat→Option Ex × Nat} {ts:List Tok} {s1 s2:List UInt8} {k1 k2 f b:Nat} {x:Ex} (hf:1≤f) (h1:isS ts b s1=false) (h:isS ts b s2=true):chainGo op ts s1 s2 k1 k2 f x b=chTail op ts s1 s2 k1 k2 (f-1) k2 x (op (b+1)):=by
 obtain ⟨f',rfl⟩:∃f',f=f'+1:=⟨f-1,by omega⟩
 rw [chainGo,if_neg (by rw [h1];simp),if_pos h,Nat.add_sub_cancel]
 rcases op (b+1) with ⟨_|y,b'⟩<;>rfl
end Big
end Go.Proofs.YtaccjdbbkmhanaaGreatDoor
namespace Go.Proofs.YtaccjdbbkmhanaaGreatDoor
namespace Big
open Go.RowKit
theorem RArr.set {w:World} {g o n c i:Nat} {vs:List Value} {u:Value} (h:RArr w (.slice (some ⟨g,o,none⟩) n c) vs) (hi:i<vs.length):
  RArr (w.setCell ⟨g,o+i,none⟩ u) (.slice (some ⟨g,o,none⟩) n c) (vs.set i u):=by
 obtain ⟨A,c',he,h2,h3,h4⟩:=h
 injection he with he1 he2 he3
 subst he1
 subst he3
 subst he2
 refine ⟨_,c,by rw [List.length_set],by rw [List.length_set];exact h2,h3,fun hp=> ?_⟩
 obtain ⟨b,o',ha,hlt,hc⟩:=h4 (by omega)
 injection ha with ha
 injection ha with ha1 ha2 _
 subst ha1
 subst ha2
 refine ⟨g,o,rfl,by simpa [World.setCell] using hlt,fun j v hj=> ?_⟩
 rw [List.getElem?_set] at hj
 by_cases hij:i=j
 ·subst hij
  rw [if_pos rfl,if_pos hi] at hj
  injection hj with hj
  subst hj
  exact World.cell?_setCell_same _ _ _ (hc i _ (List.getElem?_eq_getElem hi))
 ·rw [if_neg hij] at hj
  rw [World.cell?_setCell_other _ _ _ _ (fun e=>hij (by injection e with _ e _;omega))]
  exact hc j v hj
theorem Arr8.set {w:World} {g n c i:Nat} {l:List UInt8} {b:UInt8} (h:Arr8 w (.slice (some ⟨g,0,none⟩) n c) l) (hi:i<l.length):
  Arr8 (w.setCell ⟨g,i,none⟩ (d8 b)) (.slice (some ⟨g,0,none⟩) n c) (l.set i b):=by
 have h1:=RArr.set (u:=d8 b) h (i:=i) (by simpa using hi)
 rw [Nat.zero_add] at h1
 unfold Arr8
 rw [List.map_set]
 exact h1
theorem Arr8.kept {w w' wa:World} {g n c B:Nat} {l:List UInt8} {t:TypeId} {u:Value} {us:List Value} (h:Arr8 w (.slice (some ⟨g,0,none⟩) n c) l) (k:ROwn t B wa u us) (hg:wa.heap.size≤g) (hgr:w.grownBy w' (rowOf u)):
  Arr8 w' (.slice (some ⟨g,0,none⟩) n c) l:=by
 obtain ⟨A,c',he,h2,h3,h4⟩:=h
 injection he with he1 he2 he3
 subst he1
 subst he3
 subst he2
 refine ⟨_,c,rfl,h2,h3,fun hp=> ?_⟩
 obtain ⟨b,o,hbo,hlt,hc⟩:=h4 hp
 injection hbo with hbo
 injection hbo with hb ho _
 subst hb
 subst ho
 have hne:some g≠rowOf u:=by
  obtain ⟨A',c',rfl,k2,k3,k4⟩:=k
  rcases k4 with ⟨_,rfl⟩|⟨g',cur',rfl,_,kblk,_,_⟩
  ·rcases A' with _|a<;>simp [rowOf]
  ·simp only [rowOf]
   split
   ·simp
   ·intro he
    injection he with he
    have:=kblk.lt
    omega
 exact ⟨g,0,rfl,Nat.lt_of_lt_of_le hlt hgr.size,fun j v hj=>(World.cell?_of_block (w:=w) (a:=⟨g,0+j,none⟩) (hgr.block g hlt hne)).trans (hc j v hj)⟩
end Big
end Go.Proofs.YtaccjdbbkmhanaaGreatDoor
namespace Go.Proofs.YtaccjdbbkmhanaaGreatDoor
namespace Big
def Cov (x:List UInt8):Nat→List Tok→Prop
 |a,[]=>a≤x.length∧∀i,a≤i→i<x.length→x[i]? =some 32
 |a,t::ts=>a≤t.at_∧t.text≠[]∧t.at_+t.text.length≤x.length∧(x.drop t.at_).take t.text.length=t.text∧(∀i,a≤i→i<t.at_→x[i]? =some 32)∧Cov x (t.at_+t.text.length) ts
theorem Cov.space {x:List UInt8} {a:Nat} {ts:List Tok} (hc:x[a]? =some 32) (h:Cov x (a+1) ts):Cov x a ts:=by
 cases ts with
 |nil=>
  refine ⟨by have:=h.1;omega,fun i h1 h2=> ?_⟩
  rcases Nat.eq_or_lt_of_le h1 with h3|h3
  ·rw [←h3];exact hc
  ·exact h.2 i h3 h2
 |cons t ts=>
  obtain ⟨h1,h2,h3,h4,h5,h6⟩:=h
  refine ⟨by omega,h2,h3,h4,fun i q1 q2=> ?_,h6⟩
  rcases Nat.eq_or_lt_of_le q1 with q3|q3
  ·rw [←q3];exact hc
  ·exact h5 i q3 q2
def TokOk (t:Tok):Prop:=∀rest:List UInt8,(rest=[]∨∃r,rest=32::r)→tokLen (t.text++rest)=some (t.kind,t.text.length)
theorem TokOk.at {t:Tok} {a:Nat} (h:TokOk t):TokOk ⟨t.kind,a,t.text⟩:=h
def joinG (g:List UInt8):List Tok→List UInt8
 |[]=>[]
 |t::ts=>g++(t.text++joinG g ts)
end Big
end Go.Proofs.YtaccjdbbkmhanaaGreatDoor
