import Derived.Test.YtaccjdbbkmhanaaGreatDoorM26
import Derived.Test.YtaccjdbbkmhanaaGreatDoorM15
import Derived.Test.YtaccjdbbkmhanaaGreatDoorM25
import Derived.Test.YtaccjdbbkmhanaaGreatDoorM10
import Derived.Test.YtaccjdbbkmhanaaGreatDoorM16
import Derived.Test.YtaccjdbbkmhanaaGreatDoorM18
namespace Go.Proofs.YtaccjdbbkmhanaaGreatDoor
namespace Big
def endB (c:UInt8):Bool:= !(wordN c.toNat) && !(numN c.toNat)
theorem run_halt2 (p:Nat→Bool) (m:List UInt8) (rest:List UInt8) (hr:∀c r,rest=c::r→p c.toNat=false):runLen p (m.take (runLen p m)++rest)=runLen p m:=by
 have h0:runLen p rest=0:=by
  cases rest with
  |nil=>rfl
  |cons c r=>rw [runLen,if_neg (by rw [hr c r rfl];simp)]
 induction m with
 |nil=>exact h0
 |cons c t ih=>
  rw [runLen]
  by_cases hc:p c.toNat=true
  ·rw [if_pos hc,List.take_succ_cons,List.cons_append,runLen,if_pos hc,ih]
  ·rw [if_neg hc]
   exact h0
def TokFine (t:Tok):Prop:=
 (t.kind=1∧code7 t.text=0∧runLen numN t.text=t.text.length∧digN (t.text.getD 0 0).toNat=true∧1≤t.text.length)∨
 (t.kind=2∧runLen wordN t.text=t.text.length∧letN (t.text.getD 0 0).toNat=true∧1≤t.text.length∧t.text.length≤24)∨
 (t.kind=3∧∃c:UInt8,t.text=[c]∧signN c.toNat=true)
theorem take_run (p:Nat→Bool) (m:List UInt8):runLen p (m.take (runLen p m))=(m.take (runLen p m)).length:=by
 have h1:=run_halt2 p m [] (fun c r h=>by cases h)
 rw [List.append_nil] at h1
 have:=runLen_le p m
 rw [h1,List.length_take]
 omega
theorem tokLen_fine {m:List UInt8} {k n:Nat} (h:tokLen m=some (k,n)) (a:Nat):TokFine ⟨k,a,m.take n⟩:=by
 have hn:=tokLen_pos h
 unfold tokLen at h
 split at h
 ·cases h
 ·rename_i c t
  split at h
  ·rename_i hc
   split at h
   ·rename_i h24
    injection h with h
    injection h with h1 h2
    subst h1
    subst h2
    refine .inr (.inl ⟨rfl,take_run _ _,?_,?_,?_⟩)
    ·obtain ⟨n',hn'⟩:∃n',runLen wordN (c::t)=n'+1:=⟨runLen wordN (c::t)-1,by omega⟩
     simp only
     rw [hn',List.take_succ_cons]
     exact hc
    ·simp only;rw [List.length_take];omega
    ·simp only;rw [List.length_take];omega
   ·cases h
  ·split at h
   ·rename_i hd
    split at h
    ·rename_i h7
     injection h with h
     injection h with h1 h2
     subst h1
     subst h2
     refine .inl ⟨rfl,h7,take_run _ _,?_,?_⟩
     ·obtain ⟨n',hn'⟩:∃n',runLen numN (c::t)=n'+1:=⟨runLen numN (c::t)-1,by omega⟩
      simp only
      rw [hn',List.take_succ_cons]
      exact hd
     ·simp only;rw [List.length_take];omega
    ·cases h
   ·split at h
    ·rename_i hs
     injection h with h
     injection h with h1 h2
     subst h1
     subst h2
     exact .inr (.inr ⟨rfl,c,rfl,hs⟩)
    ·cases h
theorem scanF_fine (f:Nat) (l:List UInt8):∀(a:Nat) (ts:List Tok),(∀t∈ts,TokFine t)→∀t∈(scanF f l a ts).1,TokFine t:=by
 induction f with
 |zero=>intro a ts _ t h;cases h
 |succ f ih=>
  intro a ts hts t h
  unfold scanF at h
  split at h
  ·exact hts t h
  ·split at h
   ·exact ih _ _ hts t h
   ·split at h
    ·cases h
    ·rename_i k n ht
     refine ih _ _ (fun x hx=> ?_) t h
     rcases List.mem_append.1 hx with hx|hx
     ·exact hts x hx
     ·rw [List.mem_singleton] at hx
      subst hx
      exact tokLen_fine ht a
theorem scanT_fine (l:List UInt8):∀t∈(scanT l).1,TokFine t:=by
 unfold scanT
 split
 ·intro t h;cases h
 ·exact scanF_fine _ l 0 [] (fun t h=>by cases h)
def rend (e:Nat):List (Nat × Tok)→List UInt8
 |[]=>List.replicate e 32
 |(g,t)::l=>List.replicate g 32++(t.text++rend e l)
def RendOk:List (Nat × Tok)→Prop
 |[]=>True
 |[(_,t)]=>TokFine t
 |(_,t)::(g,u)::l=>TokFine t∧(1≤g∨t.kind=3∨u.kind=3)∧RendOk ((g,u)::l)
theorem RendOk.head {g:Nat} {t:Tok} {l:List (Nat × Tok)} (h:RendOk ((g,t)::l)):TokFine t∧RendOk l:=by
 cases l with
 |nil=>exact ⟨h,trivial⟩
 |cons p l=>exact ⟨h.1,h.2.2⟩
end Big
end Go.Proofs.YtaccjdbbkmhanaaGreatDoor
namespace Go.Proofs.YtaccjdbbkmhanaaGreatDoor
namespace Big
def tkS (t:List UInt8):Tok:=⟨3,0,t⟩
def parW (b:Bool) (g:Nat) (q:Nat→List (Nat × Tok)):List (Nat × Tok):=if b then (g,tkS [40])::(q 0++[(0,tkS [41])]) else q g
def pcN (n:Int):List (Nat × Tok):=if n<0 then [(0,tkS [45]),(0,⟨1,0,dec n.natAbs⟩)] else [(0,⟨1,0,dec n.natAbs⟩)]
def pcs:Ex→Nat→List (Nat × Tok)
 | .leaf k t,g=>if k=3 then [(g,⟨2,0,[112,105]⟩)] else if k=4 then [(g,⟨2,0,[101]⟩)] else [(g,⟨k,0,t⟩)]
 | .un k n x,g=>if k=5 then (g,tkS [45])::parW (decide (levelK x.kind<3)) 0 (pcs x)
   else if k=10 then parW (decide (levelK x.kind<5)) g (pcs x)++((0,tkS [94])::pcN n)
   else (g,⟨2,0,funcT k⟩)::(0,tkS [40])::(pcs x 0++[(0,tkS [41])])
 | .bin k x y,g=>parW (decide (levelK x.kind<levelK k)) g (pcs x)++((1,tkS (sgnT k))::parW (decide (levelK y.kind<levelK k+1)) 1 (pcs y))
end Big
end Go.Proofs.YtaccjdbbkmhanaaGreatDoor
namespace Go.Proofs.YtaccjdbbkmhanaaGreatDoor
namespace Big
def Ex.Well:Ex→Prop
 | .leaf k t=>(k=1∧code7 t=0)∨(k=2∧nameB t=true)∨((k=3∨k=4)∧t=[])
 | .un k n x=>(k=5∨(10≤k∧k≤16))∧(k≠10→n=0)∧-99≤n∧n≤99∧x.Well
 | .bin k x y=>(6≤k∧k≤9)∧x.Well∧y.Well
def Ex.big:Ex→Bool
 | .leaf _ _=>false
 | .un k n x=>(k == 10 && !(decide (-64≤n∧n≤64))) || x.big
 | .bin _ x y=>x.big || y.big
theorem code7_le {t:List UInt8} (h:code7 t=0):t.length≤400:=by
 unfold code7 at h
 split at h
 ·cases h
 ·omega
theorem Ex.Well.good {e:Ex} (h:e.Well) (hb:e.big=false):e.Good:=by
 induction e with
 |leaf k t=>
  rcases h with ⟨h1,h2⟩|h|h
  ·exact .inl ⟨h1,h2,code7_le h2⟩
  ·exact .inr (.inl h)
  ·exact .inr (.inr h)
 |un k n x ih=>
  obtain ⟨h1,h2,h3,h4,h5⟩:=h
  unfold Ex.big at hb
  rw [Bool.or_eq_false_iff] at hb
  have h6: -64≤n∧n≤64:=by
   by_cases hk:k=10
   ·subst hk
    have:=hb.1
    simpa using this
   ·rw [h2 hk];omega
  exact ⟨h1,h2,h6.1,h6.2,ih h5 hb.2⟩
 |bin k x y ihx ihy=>
  obtain ⟨h1,h2,h3⟩:=h
  unfold Ex.big at hb
  rw [Bool.or_eq_false_iff] at hb
  exact ⟨h1,ihx h2 hb.1,ihy h3 hb.2⟩
theorem Ex.Good.well {e:Ex} (h:e.Good):e.Well∧e.big=false:=by
 induction e with
 |leaf k t=>
  refine ⟨?_,rfl⟩
  rcases h with ⟨h1,h2,_⟩|h|h
  ·exact .inl ⟨h1,h2⟩
  ·exact .inr (.inl h)
  ·exact .inr (.inr h)
 |un k n x ih=>
  obtain ⟨h1,h2,h3,h4,h5⟩:=h
  refine ⟨⟨h1,h2,by omega,by omega,(ih h5).1⟩,?_⟩
  unfold Ex.big
  rw [(ih h5).2,decide_eq_true (And.intro h3 h4)]
  simp
 |bin k x y ihx ihy=>
  obtain ⟨h1,h2,h3⟩:=h
  refine ⟨⟨h1,(ihx h2).1,(ihy h3).1⟩,?_⟩
  unfold Ex.big
  rw [(ihx h2).2,(ihy h3).2]
  rfl
theorem funcK_range (t:List UInt8) (h:funcK t≠0):11≤funcK t∧funcK t≤16:=by
 unfold funcK at h ⊢
 (repeat' split)<;>first|omega|(exfalso;revert h;simp_all)
theorem digits2_le {t:List UInt8} {n:Nat} (h:digits2 t=some n):n≤99:=by
 unfold digits2 at h
 split at h
 ·rename_i hc
  injection h with h
  obtain ⟨h1,h2⟩:=hc
  have hd:∀c:UInt8,digN c.toNat=true→c.toNat-48≤9:=fun c hc=>by
   unfold digN at hc
   simp only [Bool.and_eq_true,decide_eq_true_eq] at hc
   omega
  match t,h1,h2,h with
  |[],_,_,h=>simp at h;omega
  |[c],_,h2,h=>
   simp only [List.all_cons,List.all_nil,Bool.and_true] at h2
   have:=hd c h2
   simp at h
   omega
  |[c,d],_,h2,h=>
   simp only [List.all_cons,List.all_nil,Bool.and_true,Bool.and_eq_true] at h2
   have:=hd c h2.1
   have:=hd d h2.2
   simp at h
   omega
  |c::d::e::r,h1,_,_=>simp at h1
 ·cases h
theorem expo_le {ts:List Tok} {a n:Nat} (h:expo ts a=some n):n≤99:=by
 unfold expo at h
 split at h
 ·split at h
  ·exact digits2_le h
  ·cases h
 ·cases h
theorem word_nameB {t:Tok} (h:TokFine t) (hk1:t.kind≠1) (hk3:t.kind≠3) (hf:funcK t.text=0) (h1:t.text≠[112,105]) (h2:t.text≠[101]):nameB t.text=true:=by
 rcases h with ⟨hk,_⟩|⟨hk,q1,q2,q3,q4⟩|⟨hk,_⟩
 ·omega
 ·have hr:reservedB t.text=false:=by
   unfold reservedB
   simp [h1,h2,hf]
  have hw:wordB t.text=true:=by
   rw [wordB_ref]
   have hne:(t.text == [])=false:=by
    rw [beq_eq_false_iff_ne]
    intro he
    rw [he] at q3
    simp at q3
   have href:refWord t.text=t.text.length:=by
    unfold refWord
    have:letN (byteAt t.text 0)=true:=q2
    rw [this,if_pos rfl]
    exact q1
   rw [hne,href]
   simp [q4]
  unfold nameB
  rw [hw]
  rw [reservedB_mem] at hr
  have:([[112,105],[101],[115,113,114,116],[101,120,112],[108,110],[115,105,110],[99,111,115],[97,116,97,110]]:List (List UInt8)).contains t.text=false:=hr
  rw [this]
  rfl
 ·omega
def PW (p:Nat→Option Ex × Nat):Prop:=∀a x b,p a=(some x,b)→x.Well
section
variable {ts:List Tok} {p:Nat→Option Ex × Nat}
theorem pAtom_well (ht:∀t∈ts,TokFine t) (hp:PW p):PW (pAtom p ts):=by
 intro a x b h
 unfold pAtom at h
 split at h
 ·cases h
 ·rename_i t hta
  have hf:=ht t (List.mem_of_getElem? hta)
  split at h
  ·split at h
   ·split at h
    ·cases h
    ·rename_i y c hy
     split at h
     ·injection h with h1 _
      injection h1 with h1
      subst h1
      exact hp _ _ _ hy
     ·cases h
   ·cases h
  ·rename_i h3
   split at h
   ·rename_i h1
    injection h with h4 _
    injection h4 with h4
    subst h4
    rcases hf with ⟨_,hc,_⟩|⟨hk,_⟩|⟨hk,_⟩
    ·exact .inl ⟨rfl,hc⟩
    ·omega
    ·omega
   ·rename_i h1
    split at h
    ·rename_i hfk
     split at h
     ·split at h
      ·cases h
      ·rename_i y c hy
       split at h
       ·injection h with h4 _
        injection h4 with h4
        subst h4
        have:=funcK_range _ hfk
        exact ⟨.inr ⟨by omega,this.2⟩,fun _=>rfl,by omega,by omega,hp _ _ _ hy⟩
       ·cases h
     ·cases h
    ·rename_i hfk
     split at h
     ·injection h with h4 _
      injection h4 with h4
      subst h4
      exact .inr (.inr ⟨.inl rfl,rfl⟩)
     ·rename_i hpi
      split at h
      ·injection h with h4 _
       injection h4 with h4
       subst h4
       exact .inr (.inr ⟨.inr rfl,rfl⟩)
      ·rename_i he
       injection h with h4 _
       injection h4 with h4
       subst h4
       exact .inr (.inl ⟨rfl,word_nameB hf h1 h3 (by omega) hpi he⟩)
theorem pPower_well (ht:∀t∈ts,TokFine t) (hp:PW p):PW (pPower p ts):=by
 intro a x b h
 unfold pPower at h
 split at h
 ·cases h
 ·rename_i y c hy
  have hw:=pAtom_well ht hp _ _ _ hy
  split at h
  ·split at h
   ·split at h
    ·rename_i n hn
     have:=expo_le hn
     injection h with h4 _
     injection h4 with h4
     subst h4
     exact ⟨.inr ⟨by omega,by omega⟩,fun h=>absurd rfl h,by omega,by omega,hw⟩
    ·cases h
   ·split at h
    ·rename_i n hn
     have:=expo_le hn
     injection h with h4 _
     injection h4 with h4
     subst h4
     exact ⟨.inr ⟨by omega,by omega⟩,fun h=>absurd rfl h,by omega,by omega,hw⟩
    ·cases h
  ·injection h with h4 _
   injection h4 with h4
   subst h4
   exact hw
theorem negs_well (n:Nat):∀x:Ex,x.Well→(negs n x).Well:=by
 induction n with
 |zero=>intro x h;exact h
 |succ n ih=>intro x h;exact ih _ ⟨.inl rfl,fun _=>rfl,by omega,by omega,h⟩
theorem pMinus_well (ht:∀t∈ts,TokFine t) (hp:PW p):PW (pMinus p ts):=by
 intro a x b h
 unfold pMinus at h
 split at h
 ·cases h
 ·rename_i y c hy
  injection h with h4 _
  injection h4 with h4
  subst h4
  exact negs_well _ _ (pPower_well ht hp _ _ _ hy)
theorem chainGo_well {op:Nat→Option Ex × Nat} {c1 c2:List UInt8} {k1 k2:Nat} (h1:6≤k1∧k1≤9) (h2:6≤k2∧k2≤9) (ho:PW op):∀(f:Nat) (e:Ex) (a:Nat),e.Well→∀x b,chainGo op ts c1 c2 k1 k2 f e a=(some x,b)→x.Well:=by
 intro f
 induction f with
 |zero=>
  intro e a he x b h
  unfold chainGo at h
  injection h with h4 _
  injection h4 with h4
  subst h4
  exact he
 |succ f ih=>
  intro e a he x b h
  unfold chainGo at h
  split at h
  ·split at h
   ·cases h
   ·rename_i y c hy
    exact ih _ _ (show (Ex.bin k1 e y).Well from ⟨h1,he,ho _ _ _ hy⟩) _ _ h
  ·split at h
   ·split at h
    ·cases h
    ·rename_i y c hy
     exact ih _ _ (show (Ex.bin k2 e y).Well from ⟨h2,he,ho _ _ _ hy⟩) _ _ h
   ·injection h with h4 _
    injection h4 with h4
    subst h4
    exact he
theorem chainP_well {op:Nat→Option Ex × Nat} {c1 c2:List UInt8} {k1 k2:Nat} (h1:6≤k1∧k1≤9) (h2:6≤k2∧k2≤9) (ho:PW op):PW (chainP op ts c1 c2 k1 k2):=by
 intro a x b h
 unfold chainP at h
 split at h
 ·cases h
 ·rename_i y c hy
  exact chainGo_well h1 h2 ho _ _ _ (ho _ _ _ hy) _ _ h
theorem pSum_well (ht:∀t∈ts,TokFine t):∀f,PW (pSum ts f):=by
 intro f
 induction f with
 |zero=>intro a x b h;cases h
 |succ f ih=>exact chainP_well (by omega) (by omega) (chainP_well (by omega) (by omega) (pMinus_well ht ih))
end
def prStep (i:Nat) (st:List (Nat × Nat)) (x:Nd):Option ((Nat × Nat) × List (Nat × Nat)):=
 if operI x.kind<0∨(st.length:Int)<operI x.kind∨plainB x=false then none
 else if operI x.kind=0 then (if x.a=0∧x.b=0 then some ((i,1),st++[(i,1)]) else none)
 else if operI x.kind=1 then
  (if x.a=(i:Int)-1∧x.b=0 then some (((st.getD (st.length-1) (0,0)).1,(st.getD (st.length-1) (0,0)).2+1),st.take (st.length-1)++[((st.getD (st.length-1) (0,0)).1,(st.getD (st.length-1) (0,0)).2+1)]) else none)
 else (if x.a=((st.getD (st.length-1) (0,0)).1:Int)-1∧x.b=(i:Int)-1 then
   some (((st.getD (st.length-2) (0,0)).1,max ((st.getD (st.length-1) (0,0)).2+1) ((st.getD (st.length-2) (0,0)).2+1)),st.take (st.length-2)++[((st.getD (st.length-2) (0,0)).1,max ((st.getD (st.length-1) (0,0)).2+1) ((st.getD (st.length-2) (0,0)).2+1))]) else none)
def prGo:Nat→List (Nat × Nat)→List (Nat × Nat)→List Nd→List (Nat × Nat) × Nat
 |_,all,st,[]=>(all,st.length)
 |i,all,st,x::t=>match prStep i st x with
  |none=>(all,0)
  |some (p,st')=>prGo (i+1) (all++[p]) st' t
def prAll (l:List Nd):List (Nat × Nat) × Nat:=prGo 0 [] [] l
def ptE:Nat→Ex→List (Nat × Nat)
 |off,.leaf _ _=>[(off,1)]
 |off,.un _ _ x=>ptE off x++[(off,x.depth+1)]
 |off,.bin _ x y=>ptE off x++(ptE (off+x.size) y++[(off,max x.depth y.depth+1)])
theorem ptE_len (e:Ex):∀off,(ptE off e).length=e.size:=by
 induction e with
 |leaf k t=>intro off;rfl
 |un k n x ih=>intro off;rw [ptE,List.length_append,ih];rfl
 |bin k x y ihx ihy=>intro off;rw [ptE,List.length_append,List.length_append,ihx,ihy,List.length_singleton,Ex.size];omega
theorem plain_un_big {k:Nat} {n:Int} {x:Ex} (h:(Ex.un k n x).Well) (a b:Int):plainB ⟨(k:Int),a,b,n,[]⟩= !(k == 10 && !(decide (-64≤n∧n≤64))):=by
 obtain ⟨h1,h2,h3,h4,_⟩:=h
 unfold plainB plainT plainM
 rw [if_neg (by simp only;omega),if_neg (by simp only;omega)]
 by_cases hk:k=10
 ·subst hk
  simp
 ·rw [if_neg (by simp only;omega)]
  simp [h2 hk]
theorem getD_end {L:List (Nat × Nat)} {x:Nat × Nat} {i:Nat} (h:i=L.length):(L++[x]).getD i (0,0)=x:=by
 subst h
 rw [List.getD_eq_getElem?_getD,List.getElem?_append_right (Nat.le_refl _),Nat.sub_self]
 rfl
theorem prGo_flat (e:Ex) (hw:e.Well):∀(off:Nat) (all st:List (Nat × Nat)) (t:List Nd),prGo off all st (flat off e++t)=if e.big then ((prGo off all st (flat off e++t)).1,0) else prGo (off+e.size) (all++ptE off e) (st++[(off,e.depth)]) t:=by
 induction e with
 |leaf k t'=>
  intro off all st t
  have hk:1≤k∧k≤4:=by unfold Ex.Well at hw;omega
  have ho:operI (k:Int)=0:=by unfold operI;rw [if_neg (by omega),if_pos (by omega)]
  have hp:plainB ⟨(k:Int),0,0,0,t'⟩=true:=by
   unfold plainB plainT plainM
   rw [if_neg (c:=(k:Int)=10) (by omega)]
   rcases hw with ⟨rfl,h⟩|⟨rfl,h⟩|⟨h,rfl⟩
   ·simp [h]
   ·simp [h]
   ·rw [if_neg (by simp only;omega),if_neg (by simp only;omega)];rfl
  have hs:prStep off st ⟨(k:Int),0,0,0,t'⟩=some ((off,1),st++[(off,1)]):=by
   unfold prStep
   simp only [ho,hp]
   rw [if_neg (by first|(simp;done)|(simp;omega))]
   simp
  rw [Ex.big,if_neg (by simp),flat,List.singleton_append,prGo,hs]
  rfl
 |un k n x ih=>
  intro off all st t
  have hx:=hw.2.2.2.2
  have hz:=x.size_pos
  have hk:=hw.1
  have ho:operI (k:Int)=1:=by unfold operI;rw [if_neg (by omega),if_neg (by omega),if_neg (by omega)]
  have h1:=ih hx off all st ([⟨(k:Int),((off+x.size-1:Nat):Int),0,n,[]⟩]++t)
  have hfl:flat off (.un k n x)++t=flat off x++([⟨(k:Int),((off+x.size-1:Nat):Int),0,n,[]⟩]++t):=by rw [flat,List.append_assoc]
  rw [hfl]
  cases hb:x.big
  ·rw [hb,if_neg (by simp)] at h1
   rw [h1,List.singleton_append,prGo]
   have hpl:=plain_un_big hw ((off+x.size-1:Nat):Int) 0
   cases hb2:(k == 10 && !(decide (-64≤n∧n≤64)))
   ·rw [hb2] at hpl
    have hs:prStep (off+x.size) (st++[(off,x.depth)]) ⟨(k:Int),((off+x.size-1:Nat):Int),0,n,[]⟩=some ((off,x.depth+1),st++[(off,x.depth+1)]):=by
     unfold prStep
     simp only [ho,hpl]
     rw [if_neg (by first|(simp;done)|(simp;omega)),if_neg (by decide),if_pos trivial,if_pos (by first|omega|(refine ⟨?_,trivial⟩;omega))]
     rw [getD_end (by simp),List.take_left' (by simp)]
    rw [hs]
    have hbb:(Ex.un k n x).big=false:=by rw [Ex.big,hb2,hb];rfl
    rw [hbb,if_neg (by simp)]
    simp only [ptE,Ex.size,Ex.depth,List.append_assoc]
    rfl
   ·rw [hb2] at hpl
    have hs:prStep (off+x.size) (st++[(off,x.depth)]) ⟨(k:Int),((off+x.size-1:Nat):Int),0,n,[]⟩=none:=by
     unfold prStep
     rw [if_pos (.inr (.inr hpl))]
    rw [hs]
    have hbb:(Ex.un k n x).big=true:=by rw [Ex.big,hb2];rfl
    rw [hbb,if_pos rfl]
  ·rw [hb,if_pos rfl] at h1
   have hbb:(Ex.un k n x).big=true:=by rw [Ex.big,hb];simp
   rw [hbb,if_pos rfl]
   exact h1
 |bin k x y ihx ihy=>
  intro off all st t
  have hx:=hw.2.1
  have hy:=hw.2.2
  have hz:=x.size_pos
  have hz2:=y.size_pos
  have hk:=hw.1
  have ho:operI (k:Int)=2:=by unfold operI;rw [if_neg (by omega),if_neg (by omega),if_pos (by omega)]
  have hfl:flat off (.bin k x y)++t=flat off x++(flat (off+x.size) y++([⟨(k:Int),((off+x.size-1:Nat):Int),((off+x.size+y.size-1:Nat):Int),0,[]⟩]++t)):=by rw [flat];simp only [List.append_assoc]
  rw [hfl]
  have h1:=ihx hx off all st (flat (off+x.size) y++([⟨(k:Int),((off+x.size-1:Nat):Int),((off+x.size+y.size-1:Nat):Int),0,[]⟩]++t))
  cases hb:x.big
  ·rw [hb,if_neg (by simp)] at h1
   rw [h1]
   have h2:=ihy hy (off+x.size) (all++ptE off x) (st++[(off,x.depth)]) ([⟨(k:Int),((off+x.size-1:Nat):Int),((off+x.size+y.size-1:Nat):Int),0,[]⟩]++t)
   cases hb2:y.big
   ·rw [hb2,if_neg (by simp)] at h2
    rw [h2,List.singleton_append,prGo]
    have hp:plainB ⟨(k:Int),((off+x.size-1:Nat):Int),((off+x.size+y.size-1:Nat):Int),0,[]⟩=true:=by
     unfold plainB plainT plainM
     rw [if_neg (by simp only;omega),if_neg (by simp only;omega),if_neg (by simp only;omega)]
     rfl
    have hs:prStep (off+x.size+y.size) (st++[(off,x.depth)]++[(off+x.size,y.depth)]) ⟨(k:Int),((off+x.size-1:Nat):Int),((off+x.size+y.size-1:Nat):Int),0,[]⟩=some ((off,max x.depth y.depth+1),st++[(off,max x.depth y.depth+1)]):=by
     unfold prStep
     simp only [ho,hp]
     have e1:(st++[(off,x.depth)]++[(off+x.size,y.depth)]).getD ((st++[(off,x.depth)]++[(off+x.size,y.depth)]).length-1) (0,0)=(off+x.size,y.depth):=getD_end (by simp)
     have e2:(st++[(off,x.depth)]++[(off+x.size,y.depth)]).getD ((st++[(off,x.depth)]++[(off+x.size,y.depth)]).length-2) (0,0)=(off,x.depth):=by
      rw [List.getD_eq_getElem?_getD,List.append_assoc,List.getElem?_append_right (by simp)]
      simp
     have e3:(st++[(off,x.depth)]++[(off+x.size,y.depth)]).take ((st++[(off,x.depth)]++[(off+x.size,y.depth)]).length-2)=st:=by
      rw [List.append_assoc,List.take_left' (by simp)]
     rw [if_neg (by first|(simp;done)|(simp;omega)),if_neg (by decide),if_neg (by decide),e1,e2,e3,if_pos (by simp only;omega)]
     have e4:max (y.depth+1) (x.depth+1)=max x.depth y.depth+1:=by omega
     rw [e4]
    rw [hs]
    have hbb:(Ex.bin k x y).big=false:=by rw [Ex.big,hb,hb2];rfl
    rw [hbb,if_neg (by simp)]
    simp only [ptE,Ex.size,Ex.depth,List.append_assoc]
    rw [show off+(x.size+y.size+1)=off+x.size+y.size+1 by omega]
   ·rw [hb2,if_pos rfl] at h2
    have hbb:(Ex.bin k x y).big=true:=by rw [Ex.big,hb2];simp
    rw [hbb,if_pos rfl]
    exact h2
  ·rw [hb,if_pos rfl] at h1
   have hbb:(Ex.bin k x y).big=true:=by rw [Ex.big,hb];simp
   rw [hbb,if_pos rfl]
   exact h1
def validP (l:List Nd):Bool:=decide (1≤l.length∧l.length≤200) && (decide ((prAll l).2=1) && decide (((prAll l).1.getD (l.length-1) (0,0)).2≤40))
theorem ptE_last (e:Ex) (off:Nat):(ptE off e).getD (e.size-1) (0,0)=(off,e.depth):=by
 cases e with
 |leaf k t=>rfl
 |un k n x=>rw [ptE];exact getD_end (by rw [ptE_len];rfl)
 |bin k x y=>rw [ptE,←List.append_assoc];exact getD_end (by rw [List.length_append,ptE_len,ptE_len];rfl)
theorem validP_flat (e:Ex) (hw:e.Well):validP (flat 0 e)=(!e.big && decide (e.size≤200∧e.depth≤40)):=by
 have h:=prGo_flat e hw 0 [] [] []
 have hz:=e.size_pos
 rw [List.append_nil] at h
 cases hb:e.big
 ·rw [hb,if_neg (by simp)] at h
  have hp:prAll (flat 0 e)=(ptE 0 e,1):=h
  have hl:=ptE_last e 0
  unfold validP
  rw [hp,flat_len]
  simp only [hl]
  simp only [decide_true,Bool.true_and,Bool.not_false]
  rw [←Bool.decide_and,decide_eq_decide]
  omega
 ·rw [hb,if_pos rfl] at h
  have hp:(prAll (flat 0 e)).2=0:=by
   unfold prAll
   rw [h]
  unfold validP
  rw [hp]
  simp
end Big
end Go.Proofs.YtaccjdbbkmhanaaGreatDoor
namespace Go.Proofs.YtaccjdbbkmhanaaGreatDoor
namespace Big
open Go.RowKit
def grpR (p:Nat→Option Ex × Nat) (ts:List Tok) (a:Nat):Option Ex × Nat:=
 if isS ts a [40] then (match p (a+1) with
  |(none,b)=>(none,b)
  |(some x,b)=>if isS ts b [41] then (some x,b+1) else (none,b))
 else (none,a)
theorem grpR_no {p:Nat→Option Ex × Nat} {ts:List Tok} {a:Nat} (h:isS ts a [40]=false):grpR p ts a=(none,a):=by unfold grpR;rw [if_neg (by rw [h];simp)]
theorem grpR_none {p:Nat→Option Ex × Nat} {ts:List Tok} {a b:Nat} (h:isS ts a [40]=true) (hp:p (a+1)=(none,b)):grpR p ts a=(none,b):=by unfold grpR;rw [if_pos h,hp]
theorem grpR_bad {p:Nat→Option Ex × Nat} {ts:List Tok} {a b:Nat} {x:Ex} (h:isS ts a [40]=true) (hp:p (a+1)=(some x,b)) (h2:isS ts b [41]=false):grpR p ts a=(none,b):=by
 unfold grpR;rw [if_pos h,hp];simp only;rw [if_neg (by rw [h2];simp)]
theorem grpR_ok {p:Nat→Option Ex × Nat} {ts:List Tok} {a b:Nat} {x:Ex} (h:isS ts a [40]=true) (hp:p (a+1)=(some x,b)) (h2:isS ts b [41]=true):grpR p ts a=(some x,b+1):=by
 unfold grpR;rw [if_pos h,hp];simp only;rw [if_pos h2]
def dval (t:List UInt8):Nat:=t.foldl (fun n c=>10*n+(c.toNat-48)) 0
theorem dval_step (t:List UInt8) (i:Nat) (hi:i<t.length):dval (t.take (i+1))=10*dval (t.take i)+(t[i].toNat-48):=by
 unfold dval
 rw [List.take_succ_eq_append_getElem hi,List.foldl_append]
 rfl
theorem dval_le {t:List UInt8} (i:Nat) (h:(t.take i).all (fun c=>digN c.toNat)=true) (hl:t.length≤2):dval (t.take i)≤99:=by
 refine digits2_le (t:=t.take i) ?_
 unfold digits2 dval
 rw [if_pos ⟨by rw [List.length_take];omega,h⟩]
def DigPost (w:World) (r:Option Nat) (e:Ending) (w':World):Prop:=Ext w w'∧match r with
 |some n=>e= .returned (.tuple #[.int .i64 (n:Int),.bool true])
 |none=>e= .returned (.tuple #[.int .i64 0,.bool false])
end Big
end Go.Proofs.YtaccjdbbkmhanaaGreatDoor
