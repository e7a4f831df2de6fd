import Derived.Test.YtaccjdbbkmhanaaGreatDoorM8
import Derived.Test.YtaccjdbbkmhanaaGreatDoorM6
import Derived.Deep.RegionLaw
import Derived.Laws.AppendOwn
import Derived.Test.YtaccjdbbkmhanaaGreatDoorM4
import Derived.Test.YtaccjdbbkmhanaaGreatDoorM7
import Derived.Test.YtaccjdbbkmhanaaGreatDoorM5
namespace Go.Proofs.YtaccjdbbkmhanaaGreatDoor
namespace Big
open Go.RowKit
def tokC (t:Tok):List Value:=[.int .i64 (t.kind:Int),.int .i64 (t.at_:Int),str t.text]
def toksC (ts:List Tok):List Value:=ts.flatMap tokC
theorem toksC_snoc (ts:List Tok) (t:Tok):toksC (ts++[t])=toksC ts++tokC t:=by simp [toksC]
theorem info_tok:(Tryz.prog.info? 92).map (fun i=>(i.zero,i.size,i.bytes))=some (some (.agg #[.int .i64 0,.int .i64 0,.string ⟨#[]⟩]),3,32):=by kernel_rfl
theorem ownsRow_below {w w':World} {base:Nat} {e:TypeId} {size n:Nat} {v:Value} {xs:List Value} (h:w.ownsRow base e size v n xs) (hb:∀g,base≤g→g<w.heap.size→w'.heap[g]? =w.heap[g]?):w'.ownsRow base e size v n xs:=by
 obtain ⟨h1,h2⟩:=h
 refine ⟨h1,?_⟩
 rcases h2 with h2|⟨g,cap,cur,rfl,hg,hh,r1,r2,r3,r4⟩
 ·exact .inl h2
 ·refine .inr ⟨g,cap,cur,rfl,hg,?_,r1,r2,r3,r4⟩
  have hlt:g<w.heap.size:=by
   rcases Nat.lt_or_ge g w.heap.size with h|h
   ·exact h
   ·rw [Array.getElem?_eq_none h] at hh;cases hh
  rw [hb g hg hlt,hh]
theorem ownsRow_block {w:World} {base:Nat} {e:TypeId} {size n:Nat} {v:Value} {xs:List Value} (h:w.ownsRow base e size v n xs):∀k,v.ownBlock=some k→base≤k:=by
 obtain ⟨h1,h2⟩:=h
 rcases h2 with ⟨rfl,_⟩|⟨g,cap,cur,rfl,hg,_⟩
 ·intro k hk;simp [Value.ownBlock] at hk
 ·intro k hk
  simp only [Value.ownBlock,Option.some.injEq] at hk
  omega
theorem ownsRow_shape {w:World} {base:Nat} {e:TypeId} {size n:Nat} {v:Value} {xs:List Value} (h:w.ownsRow base e size v n xs):∃A c,v= .slice A n c:=by
 obtain ⟨h1,h2⟩:=h
 rcases h2 with ⟨rfl,rfl⟩|⟨g,cap,cur,rfl,_⟩
 ·exact ⟨_,_,rfl⟩
 ·exact ⟨_,_,rfl⟩
end Big
end Go.Proofs.YtaccjdbbkmhanaaGreatDoor
namespace Go.Proofs.YtaccjdbbkmhanaaGreatDoor
namespace Big
open Go.RowKit
def ndC (x:Nd):List Value:=[.int .i64 x.kind,.int .i64 x.a,.int .i64 x.b,.int .i64 x.n,str x.text]
def ndsC (l:List Nd):List Value:=l.flatMap ndC
theorem ndsC_length (l:List Nd):(ndsC l).length=l.length*5:=by
 induction l with
 |nil=>rfl
 |cons t ts ih=>
  unfold ndsC at *
  rw [List.flatMap_cons,List.length_append,ih,List.length_cons]
  simp [ndC]
  omega
theorem ndsC_append (l m:List Nd):ndsC (l++m)=ndsC l++ndsC m:=by simp [ndsC]
theorem ndsC_one (x:Nd):ndsC [x]=ndC x:=by simp [ndsC]
theorem ndsC_get (ts:List Nd) (i j:Nat) (hi:i<ts.length) (hj:j<5):(ndsC ts)[i*5+j]? =(ndC ts[i])[j]? :=by
 induction ts generalizing i with
 |nil=>simp at hi
 |cons t ts ih=>
  have hl:(ndC t).length=5:=rfl
  unfold ndsC at *
  rw [List.flatMap_cons]
  cases i with
  |zero=>
   rw [Nat.zero_mul,Nat.zero_add,List.getElem?_append_left (by omega)]
   rfl
  |succ i=>
   rw [List.getElem?_append_right (by omega),hl,show (i+1)*5+j-5=i*5+j by omega,ih i (by simpa using hi)]
   rfl
def NdAt (w:World) (b o:Nat) (x:Nd):Prop:=
 w.cell? ⟨b,o,none⟩=some (.int .i64 x.kind)∧w.cell? ⟨b,o+1,none⟩=some (.int .i64 x.a)∧w.cell? ⟨b,o+2,none⟩=some (.int .i64 x.b)∧w.cell? ⟨b,o+3,none⟩=some (.int .i64 x.n)∧w.cell? ⟨b,o+4,none⟩=some (str x.text)
def RNd (w:World) (v:Value) (l:List Nd):Prop:=
 ∃A c,v= .slice A l.length c∧(0<l.length→∃b o,A=some ⟨b,o,none⟩∧b<w.heap.size∧∀i (hi:i<l.length),NdAt w b (o+i*5) l[i])
theorem NdAt.ext {w w':World} {b o:Nat} {x:Nd} (h:NdAt w b o x) (hx:Ext w w') (hb:b<w.heap.size):NdAt w' b o x:=by
 obtain ⟨h0,h1,h2,h3,h4⟩:=h
 exact ⟨(hx.cell hb).trans h0,(hx.cell hb).trans h1,(hx.cell hb).trans h2,(hx.cell hb).trans h3,(hx.cell hb).trans h4⟩
theorem RNd.ext {w w':World} {v:Value} {l:List Nd} (h:RNd w v l) (hx:Ext w w'):RNd w' v l:=by
 obtain ⟨A,c,rfl,h2⟩:=h
 refine ⟨A,c,rfl,fun hp=> ?_⟩
 obtain ⟨b,o,rfl,hb,hc⟩:=h2 hp
 exact ⟨b,o,rfl,Nat.lt_of_lt_of_le hb hx.size,fun i hi=>(hc i hi).ext hx hb⟩
def OwnNd (B:Nat) (w:World) (v:Value) (l:List Nd):Prop:=w.ownsRow B 50 5 v l.length (ndsC l)
theorem OwnNd.nil (B:Nat) (w:World):OwnNd B w (.slice none 0 0) []:=World.ownsRow_nil w B _ 5
theorem OwnNd.read {B:Nat} {w:World} {v:Value} {l:List Nd} (h:OwnNd B w v l):RNd w v l:=by
 unfold OwnNd at h
 rcases h.2 with ⟨h1,h2⟩|⟨g,cap,cur,rfl,hg,hh,_⟩
 ·exact ⟨none,0,by rw [h1,h2],fun h3=>by omega⟩
 ·refine ⟨_,_,rfl,fun _=>⟨g,0,rfl,?_,fun i hi=> ?_⟩⟩
  ·rcases Nat.lt_or_ge g w.heap.size with h|h
   ·exact h
   ·rw [Array.getElem?_eq_none h] at hh;cases hh
  ·have hk:∀j,j<5→w.cell? ⟨g,0+i*5+j,none⟩=(ndC l[i])[j]? :=fun j hj=>by
    rw [Nat.zero_add,h.cellAt (i*5+j) (by omega),ndsC_get l i j hi hj]
   exact ⟨hk 0 (by omega),hk 1 (by omega),hk 2 (by omega),hk 3 (by omega),hk 4 (by omega)⟩
theorem OwnNd.shape {B:Nat} {w:World} {v:Value} {l:List Nd} (h:OwnNd B w v l):∃A c,v= .slice A l.length c:=ownsRow_shape h
theorem OwnNd.mono {B B':Nat} {w:World} {v:Value} {l:List Nd} (h:OwnNd B w v l) (hB:B'≤B):OwnNd B' w v l:=by
 obtain ⟨h1,h2⟩:=h
 exact ⟨h1,h2.imp id (fun ⟨g,cap,cur,q1,q2,q3⟩=>⟨g,cap,cur,q1,by omega,q3⟩)⟩
theorem OwnNd.kept {B:Nat} {w w':World} {v:Value} {l:List Nd} (h:OwnNd B w v l) (hk:∀k,B≤k→k<w.heap.size→w'.heap[k]? =w.heap[k]?):OwnNd B w' v l:=ownsRow_below h hk
theorem info_node:(Tryz.prog.info? 50).map (fun i=>(i.zero,i.size,i.bytes))=some (some (.agg #[.int .i64 0,.int .i64 0,.int .i64 0,.int .i64 0,.string ⟨#[]⟩]),5,48):=by kernel_rfl
end Big
end Go.Proofs.YtaccjdbbkmhanaaGreatDoor
namespace Go.Proofs.YtaccjdbbkmhanaaGreatDoor
namespace Big
open Go.RowKit
theorem info_str:(Tryz.prog.info? 9).map (fun i=>(i.zero,i.size,i.bytes))=some (some (.string ⟨#[]⟩),1,16):=by kernel_rfl
def ArrS (w:World) (v:Value) (ls:List (List UInt8)):Prop:=RArr w v (ls.map str)
def OwnS (B:Nat) (w:World) (v:Value) (ls:List (List UInt8)):Prop:=ROwn 9 B w v (ls.map str)
section
variable {w w':World} {v:Value} {ls:List (List UInt8)} {B B':Nat}
theorem ArrS.ext (h:ArrS w v ls) (hb:Ext w w'):ArrS w' v ls:=RArr.ext h hb
theorem OwnS.ext (h:OwnS B w v ls) (hb:Ext w w'):OwnS B w' v ls:=ROwn.ext h hb
theorem OwnS.mono (h:OwnS B w v ls) (hB:B'≤B):OwnS B' w v ls:=ROwn.mono h hB
theorem OwnS.arr (h:OwnS B w v ls):ArrS w v ls:=ROwn.arr h
theorem OwnS.none_ (B:Nat) (w:World):OwnS B w (.slice none 0 0) []:=ROwn.none_ _ B w
theorem map_str_get {j:Nat} (hj:j<ls.length):(ls.map str)[j]? =some (str ls[j]):=by
 rw [List.getElem?_map,List.getElem?_eq_getElem hj];rfl
theorem ArrS.open (h:ArrS w v ls):∃A c,v= .slice A ls.length c∧ls.length≤c∧c≤maxLen∧
  (0<ls.length→∃b o,A=some ⟨b,o,none⟩∧b<w.heap.size∧∀j (hj:j<ls.length),w.cell? ⟨b,o+j,none⟩=some (str ls[j])):=by
 obtain ⟨A,c,rfl,h2,h3,h4⟩:=h
 rw [List.length_map] at h2 h4
 refine ⟨A,c,by rw [List.length_map],h2,h3,fun hp=> ?_⟩
 obtain ⟨b,o,rfl,hlt,hc⟩:=h4 hp
 exact ⟨b,o,rfl,hlt,fun j hj=>hc j _ (map_str_get hj)⟩
theorem ArrS.shape (h:ArrS w v ls):∃n A c,v= .slice A n c:=RArr.shape h
theorem ArrS.len {n c:Nat} {A:Option Addr} (h:ArrS w (.slice A n c) ls):n=ls.length:=by
 obtain ⟨A',c',he,_⟩:=h
 injection he with _ h2 _
 rw [h2,List.length_map]
theorem ones_str:∀u∈ls.map str,u.oneCell'=true:=fun u hu=>by
 obtain ⟨x,_,rfl⟩:=List.mem_map.1 hu
 rfl
theorem OwnS.block {g:Nat} (h:Blk w g 9 (ls.map str).toArray) (hg:B≤g) (hm:ls.length≤2147483648):OwnS B w (.slice (some ⟨g,0,none⟩) ls.length ls.length) ls:=by
 refine ⟨some ⟨g,0,none⟩,ls.length,by rw [List.length_map],by rw [List.length_map];omega,by unfold maxLen;omega,.inr ⟨g,_,rfl,hg,h,by simp,?_⟩⟩
 rw [List.length_map]
 show (ls.map str).take ls.length=_
 rw [List.take_of_length_le (by simp)]
end
theorem wpList_appendS {w:World} {v src:Value} {xs ys:List (List UInt8)} {B:Nat} {ops:Array Oper} {rest:List Oper} {o:Oper} {a:Act} {Q:Exit→Act→World→Prop} (hgd:o.guard=none) (s x:Operand)
  (ho:o.op= .call { callee:= .builtin .append,args:= #[s,x],argTypes:= #[77,77] })
  (hs:a.eval s=v) (hown:OwnS B w v xs) (hx:a.eval x=src) (hsrc:ArrS w src ys) (hn:xs.length+ys.length≤2147483648) (hbase:B≤w.heap.size)
  (h:∀v' w',OwnS B w' v' (xs++ys)→w.grownBy w' (rowOf v)→Below B w w'→wpList Tryz.prog ops Q rest (a.put o.dst v') w'):wpList Tryz.prog ops Q (o::rest) a w:=by
 obtain ⟨i0,hi,hz0,hz1,hz2⟩:=info_parts info_str
 refine wpList_append_any hgd s x 77 ho 9 i0 _ 16 Tryz.underlying77 hi hz0 hz1 hz2 rfl hs hown hx hsrc ones_str (by simp only [List.length_map];unfold maxLen;omega) (by simp only [List.length_map];omega) hbase (fun v' w' h1 h2 h3=>h v' w' ?_ h2 h3)
 unfold OwnS
 rw [List.map_append]
 exact h1
theorem ArrS.fresh1 (w:World) (l:List UInt8):ArrS (w.alloc (.cells #[str l] 9)) (.slice (some ⟨w.heap.size,0,none⟩) 1 1) [l]:=RArr.one (by simp)
theorem take_step {ls ms:List (List UInt8)} {k:Nat} (h:ls.take k=ms.take k) (h1:k<ls.length) (h2:k<ms.length) (he:ls[k]=ms[k]):ls.take (k+1)=ms.take (k+1):=by
 rw [List.take_succ_eq_append_getElem h1,List.take_succ_eq_append_getElem h2,h,he]
end Big
end Go.Proofs.YtaccjdbbkmhanaaGreatDoor
namespace Go.Proofs.YtaccjdbbkmhanaaGreatDoor
namespace Big
open Go.RowKit
def names5:List (List UInt8):=[[97],[98],[99],[120,49],[89,95,50]]
def decs14:List (List UInt8):=[[48],[49],[50],[51],[48,46,53],[49,46,50,53],[55],[49,48],[48,46,49],[49,50,46,55,53],[49,48,48],[51,46,49,52],[54,52],[48,46,48,48,49]]
theorem names_any (w:World):Calls Tryz.prog 54 #[] w fun e w'=>e= .returned (.slice (some ⟨w.heap.size,0,none⟩) 5 5)∧Blk w' w.heap.size 9 (names5.map str).toArray∧Ext w w':=by
 go_enter Tryz.func54,Tryz.ntmps54
 go_wp2_with fail
 go_ret
 exact ⟨rfl,Blk.new w 9 _,(Ext.refl w).alloc _⟩
theorem decs_get {x:Int} (h0:0≤x) (h1:x<14):∃t,decs14[x.toNat]? =some t∧code7 t=0∧t.length≤5:=by
 obtain ⟨n,rfl⟩:=Int.eq_ofNat_of_zero_le h0
 have hn:n<decs14.length:=by show n<14;omega
 refine ⟨decs14[n],by simp,?_⟩
 have hall:∀t∈decs14,code7 t=0∧t.length≤5:=by decide+kernel
 exact hall _ (List.getElem_mem hn)
set_option maxRecDepth 100000 in
theorem number_any (B g:Nat) (w:World) (L:Value) (l:List Int) (a:Nat) (h:TapeAt B g w L l a) (hB:B≤w.heap.size):Calls Tryz.prog 55 #[.pointer (some ⟨g,0,none⟩)] w fun e w'=>∃t,e= .returned (str t)∧code7 t=0∧t.length≤5∧TapeAt B g w' L l (nextA l a)∧KB w.heap.size g w w':=by
 have hcs:(decs14.map str).toArray= #[.string ⟨#[48]⟩,.string ⟨#[49]⟩,.string ⟨#[50]⟩,.string ⟨#[51]⟩,.string ⟨#[48,46,53]⟩,.string ⟨#[49,46,50,53]⟩,.string ⟨#[55]⟩,.string ⟨#[49,48]⟩,.string ⟨#[48,46,49]⟩,.string ⟨#[49,50,46,55,53]⟩,.string ⟨#[49,48,48]⟩,.string ⟨#[51,46,49,52]⟩,.string ⟨#[54,52]⟩,.string ⟨#[48,46,48,48,49]⟩]:=rfl
 have hb1:=Blk.new w 9 (decs14.map str).toArray
 have hx1:=(Ext.refl w).alloc (.cells (decs14.map str).toArray 9)
 have hs1:(w.alloc (.cells (decs14.map str).toArray 9)).heap.size=w.heap.size+1:=by simp
 have ht1:=h.below (Below.mono hx1 hB)
 rw [hcs] at hb1 hx1 ht1 hs1
 have HN:=Lib.hid (next_any B g _ L l a 14 ht1 (by decide) (by decide))
 have HB1:=Lib.hid hb1
 have HX1:=Lib.hid hx1
 have hg:=h.blk.lt
 have HG:Hid (g≠w.heap.size):=Lib.hid (by omega)
 have hr:=nextV_range (l:=l) (a:=a) (n:=14) (by decide)
 obtain ⟨t,ht,hc,htl⟩:=decs_get hr.1 hr.2
 obtain ⟨h0,h1⟩:=hr
 have HTT:=Lib.hid ht
 have HC:=Lib.hid (And.intro hc htl)
 generalize nextV l a 14=x at *
 clear h hb1 hx1 ht1 hcs ht hc htl
 go_enter Tryz.func55,Tryz.ntmps55
 go_wp2_with fail
 refine HN.out.mono ?_
 rintro e w2 ⟨rfl,htp,hk⟩
 have hb2:=(hk (w.heap.size+1)).blk HB1.out (by omega) (fun e=>HG.out e.symm)
 have hst:=hb2.cell x.toNat
 have hget:(decs14.map str)[x.toNat]? =some (str t):=by rw [List.getElem?_map,HTT.out];rfl
 have hget2:((decs14.map str).toArray)[x.toNat]? =some (str t):=by rw [List.getElem?_toArray];exact hget
 replace hst:=hst.trans hget2
 have HTP:=Lib.hid htp
 have HK:=Lib.hid (((KB.refl w.heap.size g w).ext HX1.out (Nat.le_refl _)).trans (hk w.heap.size))
 clear htp hk hb2 hget hget2
 go_wp2_with fail
 go_ret
 exact ⟨t,rfl,HC.out.1,HC.out.2,HTP.out,HK.out⟩
def operI (k:Int):Int:=if k<1∨16<k then-1 else if k≤4 then 0 else if 6≤k∧k≤9 then 2 else 1
theorem operands_any (w:World) (k:Int):Calls Tryz.prog 56 #[.int .i64 k] w fun e w'=>e= .returned (.int .i64 (operI k))∧w=w':=by
 have key:(k<1∧operI k= -1)∨(¬k<1∧16<k∧operI k= -1)∨(¬k<1∧¬16<k∧k≤4∧operI k=0)∨(¬k<1∧¬16<k∧¬k≤4∧6≤k∧k≤9∧operI k=2)∨(¬k<1∧¬16<k∧¬k≤4∧¬6≤k∧operI k=1)∨(¬k<1∧¬16<k∧¬k≤4∧6≤k∧¬k≤9∧operI k=1):=by
  unfold operI
  by_cases h1:k<1
  ·simp [h1]
  by_cases h2:16<k
  ·simp [h1,h2]
  by_cases h3:k≤4
  ·simp [h1,h2,h3]
  by_cases h4:6≤k
  ·by_cases h5:k≤9
   ·simp [h1,h2,h3,h4,h5]
   ·simp [h1,h2,h3,h4,h5]
  ·simp [h1,h2,h3,h4]
 rcases key with ⟨h1,h⟩|⟨h1,h2,h⟩|⟨h1,h2,h3,h⟩|⟨h1,h2,h3,h4,h5,h⟩|⟨h1,h2,h3,h4,h⟩|⟨h1,h2,h3,h4,h5,h⟩
 all_goals
  have H:=Lib.hid h
  clear h
  go_enter Tryz.func56,Tryz.ntmps56
  go_wp2_with fail
  go_ret
  exact ⟨by rw [H.out];rfl,rfl⟩
end Big
end Go.Proofs.YtaccjdbbkmhanaaGreatDoor
