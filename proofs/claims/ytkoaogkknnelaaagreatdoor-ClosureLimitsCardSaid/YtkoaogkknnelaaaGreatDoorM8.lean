import Derived.Test.YtkoaogkknnelaaaGreatDoorM7
import Derived.Laws.AppendOwn
set_option linter.unusedVariables false
set_option linter.unusedSimpArgs false
set_option maxRecDepth 100000
namespace Go.Proofs.YtkoaogkknnelaaaGreatDoor
namespace Big
open Lib renaming hid → J
open Go.RowKit
def Su(t:Tok):List Value:=[.int .i64 (t.kind:Int),.int .i64 (t.at_:Int),str t.text]
def Dq(ts:List Tok):List Value:=ts.flatMap Su
theorem Np(ts:List Tok)(t:Tok):Dq (ts++[t])=Dq ts++Su t:=by simp[Dq]
theorem RK:(Tryz.prog.info? 122).map (fun i=>(i.zero,i.size,i.bytes))=some (some (.agg #[.int .i64 0,.int .i64 0,.string ⟨#[]⟩]),3,32):=by kernel_rfl
theorem Ad{w w':World}{base:Nat}{e:TypeId}{size n:Nat}{v:Value}{xs:List Value}(h:w.ownsRow base e size v n xs)(hb:∀g,base<=g->g<w.heap.size->w'.heap[g]? =w.heap[g]?):w'.ownsRow base e size v n xs:=by
 obtain⟨h1,h2⟩:=h;refine⟨h1,?_⟩;rcases h2 with h2|⟨g,cap,cur,rfl,hg,hh,r1,r2,r3,r4⟩
 ·exact .inl h2
 ·refine .inr ⟨g,cap,cur,rfl,hg,?_,r1,r2,r3,r4⟩;have hlt:g<w.heap.size:=by
   rcases Nat.lt_or_ge g w.heap.size with h|h
   ·exact h
   ·rw[Array.getElem?_eq_none h]at hh;cases hh
  rw[hb g hg hlt,hh]
theorem AC{w:World}{base:Nat}{e:TypeId}{size n:Nat}{v:Value}{xs:List Value}(h:w.ownsRow base e size v n xs):∀k,v.ownBlock=some k->base<=k:=by
 obtain⟨h1,h2⟩:=h;rcases h2 with ⟨rfl,_⟩|⟨g,cap,cur,rfl,hg,_⟩
 ·intro k hk;simp[Value.ownBlock]at hk
 ·intro k hk;simp only[Value.ownBlock,Option.some.injEq]at hk;omega
theorem Am{w:World}{base:Nat}{e:TypeId}{size n:Nat}{v:Value}{xs:List Value}(h:w.ownsRow base e size v n xs):∃A c,v= .slice A n c:=by
 obtain⟨h1,h2⟩:=h;rcases h2 with ⟨rfl,rfl⟩|⟨g,cap,cur,rfl,_⟩
 ·exact⟨_,_,rfl⟩
 ·exact⟨_,_,rfl⟩
def ndC(x:Nd):List Value:=[.int .i64 x.kind,.int .i64 x.a,.int .i64 x.b,.int .i64 x.n,str x.text]
def Bm(l:List Nd):List Value:=l.flatMap ndC
theorem EK(l:List Nd):(Bm l).length=l.length*5:=by
 induction l with
 |nil=>rfl
 |cons t ts ih=>
  unfold Bm at *;rw[List.flatMap_cons,List.length_append,ih,List.length_cons];simp[ndC];omega
theorem Cz(l m:List Nd):Bm (l++m)=Bm l++Bm m:=by simp[Bm]
theorem EY(x:Nd):Bm [x]=ndC x:=by simp[Bm]
theorem Rz(ts:List Nd)(i j:Nat)(hi:i<ts.length)(hj:j<5):(Bm ts)[i*5+j]? =(ndC ts[i])[j]? :=by
 induction ts generalizing i with
 |nil=>simp at hi
 |cons t ts ih=>
  have hl:(ndC t).length=5:=rfl;unfold Bm at *;rw[List.flatMap_cons];cases i with
  |zero=>
   rw[Nat.zero_mul,Nat.zero_add,List.getElem?_append_left (by omega)];rfl
  |succ i=>
   rw[List.getElem?_append_right (by omega),hl,show (i+1)*5+j-5=i*5+j by omega,ih i (by simpa using hi)];rfl
def OM(w:World)(b o:Nat)(x:Nd):Prop:=
 w.cell? ⟨b,o,none⟩=some (.int .i64 x.kind)/\w.cell? ⟨b,o+1,none⟩=some (.int .i64 x.a)/\w.cell? ⟨b,o+2,none⟩=some (.int .i64 x.b)/\w.cell? ⟨b,o+3,none⟩=some (.int .i64 x.n)/\w.cell? ⟨b,o+4,none⟩=some (str x.text)
def RNd(w:World)(v:Value)(l:List Nd):Prop:=
 ∃A c,v= .slice A l.length c/\(0<l.length->∃b o,A=some ⟨b,o,none⟩/\b<w.heap.size/\∀i (hi:i<l.length),OM w b (o+i*5) l[i])
theorem OM.ext{w w':World}{b o:Nat}{x:Nd}(h:OM w b o x)(hx:Ext w w')(hb:b<w.heap.size):OM w' b o x:=by
 obtain⟨h0,h1,h2,h3,h4⟩:=h;exact⟨(hx.cell hb).trans h0,(hx.cell hb).trans h1,(hx.cell hb).trans h2,(hx.cell hb).trans h3,(hx.cell hb).trans h4⟩
theorem RNd.ext{w w':World}{v:Value}{l:List Nd}(h:RNd w v l)(hx:Ext w w'):RNd w' v l:=by
 obtain⟨A,c,rfl,h2⟩:=h;refine⟨A,c,rfl,fun hp=> ?_⟩;obtain⟨b,o,rfl,hb,hc⟩:=h2 hp;exact⟨b,o,rfl,Nat.lt_of_lt_of_le hb hx.size,fun i hi=>(hc i hi).ext hx hb⟩
def Ak(B:Nat)(w:World)(v:Value)(l:List Nd):Prop:=w.ownsRow B 95 5 v l.length (Bm l)
theorem Ak.nil(B:Nat)(w:World):Ak B w (.slice none 0 0) []:=World.ownsRow_nil w B _ 5
theorem Ak.read{B:Nat}{w:World}{v:Value}{l:List Nd}(h:Ak B w v l):RNd w v l:=by
 unfold Ak at h;rcases h.2 with ⟨h1,h2⟩|⟨g,cap,cur,rfl,hg,hh,_⟩
 ·exact⟨none,0,by rw[h1,h2],fun h3=>by omega⟩
 ·refine⟨_,_,rfl,fun _=>⟨g,0,rfl,?_,fun i hi=> ?_⟩⟩
  ·rcases Nat.lt_or_ge g w.heap.size with h|h
   ·exact h
   ·rw[Array.getElem?_eq_none h]at hh;cases hh
  ·have hk:∀j,j<5->w.cell? ⟨g,0+i*5+j,none⟩=(ndC l[i])[j]? :=fun j hj=>by
    rw[Nat.zero_add,h.cellAt (i*5+j) (by omega),Rz l i j hi hj]
   exact⟨hk 0 (by omega),hk 1 (by omega),hk 2 (by omega),hk 3 (by omega),hk 4 (by omega)⟩
theorem Ak.shape{B:Nat}{w:World}{v:Value}{l:List Nd}(h:Ak B w v l):∃A c,v= .slice A l.length c:=Am h
theorem Ak.mono{B B':Nat}{w:World}{v:Value}{l:List Nd}(h:Ak B w v l)(hB:B'<=B):Ak B' w v l:=by
 obtain⟨h1,h2⟩:=h;exact⟨h1,h2.imp id (fun ⟨g,cap,cur,q1,q2,q3⟩=>⟨g,cap,cur,q1,by omega,q3⟩)⟩
theorem Ak.kept{B:Nat}{w w':World}{v:Value}{l:List Nd}(h:Ak B w v l)(hk:∀k,B<=k->k<w.heap.size->w'.heap[k]? =w.heap[k]?):Ak B w' v l:=Ad h hk
theorem Dj:(Tryz.prog.info? 95).map (fun i=>(i.zero,i.size,i.bytes))=some (some (.agg #[.int .i64 0,.int .i64 0,.int .i64 0,.int .i64 0,.string ⟨#[]⟩]),5,48):=by kernel_rfl
theorem E0:(Tryz.prog.info? 9).map (fun i=>(i.zero,i.size,i.bytes))=some (some (.string ⟨#[]⟩),1,16):=by kernel_rfl
def Bl(w:World)(v:Value)(ls:List (List UInt8)):Prop:=BS w v (ls.map str)
def BP(B:Nat)(w:World)(v:Value)(ls:List (List UInt8)):Prop:=BJ 9 B w v (ls.map str)
section
variable {w w':World} {v:Value} {ls:List (List UInt8)} {B B':Nat}
theorem Bl.ext(h:Bl w v ls)(hb:Ext w w'):Bl w' v ls:=BS.ext h hb
theorem BP.ext(h:BP B w v ls)(hb:Ext w w'):BP B w' v ls:=BJ.ext h hb
theorem BP.mono(h:BP B w v ls)(hB:B'<=B):BP B' w v ls:=BJ.mono h hB
theorem BP.arr(h:BP B w v ls):Bl w v ls:=BJ.arr h
theorem BP.none_(B:Nat)(w:World):BP B w (.slice none 0 0) []:=BJ.none_ _ B w
theorem MH{j:Nat}(hj:j<ls.length):(ls.map str)[j]? =some (str ls[j]):=by
 rw[List.getElem?_map,List.getElem?_eq_getElem hj];rfl
theorem Bl.open(h:Bl w v ls):∃A c,v= .slice A ls.length c/\ls.length<=c/\c<=maxLen/\
  (0<ls.length->∃b o,A=some ⟨b,o,none⟩/\b<w.heap.size/\∀j (hj:j<ls.length),w.cell? ⟨b,o+j,none⟩=some (str ls[j])):=by
 obtain⟨A,c,rfl,h2,h3,h4⟩:=h;rw[List.length_map]at h2 h4;refine⟨A,c,by rw[List.length_map],h2,h3,fun hp=> ?_⟩;obtain⟨b,o,rfl,hlt,hc⟩:=h4 hp;exact⟨b,o,rfl,hlt,fun j hj=>hc j _ (MH hj)⟩
theorem Bl.shape(h:Bl w v ls):∃n A c,v= .slice A n c:=BS.shape h
theorem Bl.len{n c:Nat}{A:Option Addr}(h:Bl w (.slice A n c) ls):n=ls.length:=by
 obtain⟨A',c',he,_⟩:=h;injection he with _ h2 _
 rw[h2,List.length_map]
theorem My:∀u∈ls.map str,u.oneCell'=true:=fun u hu=>by
 obtain⟨x,_,rfl⟩:=List.mem_map.1 hu;rfl
theorem BP.block{g:Nat}(h:Blk w g 9 (ls.map str).toArray)(hg:B<=g)(hm:ls.length<=2147483648):BP B w (.slice (some ⟨g,0,none⟩) ls.length ls.length) ls:=by
 refine⟨some ⟨g,0,none⟩,ls.length,by rw[List.length_map],by rw[List.length_map];omega,by unfold maxLen;omega,.inr ⟨g,_,rfl,hg,h,by simp,?_⟩⟩;rw[List.length_map];show (ls.map str).take ls.length=_;rw[List.take_of_length_le (by simp)]
end
theorem Cu {w:World} {v src:Value} {xs ys:List (List UInt8)} {B:Nat} {ops:Array Oper} {rest:List Oper} {o:Oper} {a:Act} {Q:Exit->Act->World->Prop} (eT:o.guard=none) (s x:Operand)
  (ho:o.op= .call { callee:= .builtin .append,args:= #[s,x],argTypes:= #[30,30] })
  (hs:a.eval s=v) (ag:BP B w v xs) (hx:a.eval x=src) (eo:Bl w src ys) (hn:xs.length+ys.length<=2147483648) (bj:B<=w.heap.size)
  (h:∀v' w',BP B w' v' (xs++ys)->w.grownBy w' (Ea v)->Below B w w'->wpList Tryz.prog ops Q rest (a.put o.dst v') w'):wpList Tryz.prog ops Q (o::rest) a w:=by
 obtain⟨i0,hi,aU,hz1,a9⟩:=info_parts E0;refine Do eT s x 30 ho 9 i0 _ 16 Tryz.underlying30 hi aU hz1 a9 rfl hs ag hx eo My (by simp only[List.length_map];unfold maxLen;omega) (by simp only[List.length_map];omega) bj (fun v' w' h1 h2 h3=>h v' w' ?_ h2 h3);unfold BP;rw[List.map_append];exact h1
theorem Bl.fresh1(w:World)(l:List UInt8):Bl (w.alloc (.cells #[str l] 9)) (.slice (some ⟨w.heap.size,0,none⟩) 1 1) [l]:=BS.one (by simp)
theorem Pr{ls ms:List (List UInt8)}{k:Nat}(h:ls.take k=ms.take k)(h1:k<ls.length)(h2:k<ms.length)(he:ls[k]=ms[k]):ls.take (k+1)=ms.take (k+1):=by
 rw[List.take_succ_eq_append_getElem h1,List.take_succ_eq_append_getElem h2,h,he]
def DK:List (List UInt8):=[[97],[98],[99],[120,49],[89,95,50]]
def EP:List (List UInt8):=[[48],[49],[50],[51],[48,46,53],[49,46,50,53],[55],[49,48],[48,46,49],[49,50,46,55,53],[49,48,48],[51,46,49,52],[54,52],[48,46,48,48,49]]
theorem HH(w:World):Calls Tryz.prog 92 #[] w fun e w'=>e= .returned (.slice (some ⟨w.heap.size,0,none⟩) 5 5)/\Blk w' w.heap.size 9 (DK.map str).toArray/\Ext w w':=by
 go_enter Tryz.func92,Tryz.ntmps92;go_wp2_with fail;go_ret;exact⟨rfl,Blk.new w 9 _,(Ext.refl w).alloc _⟩
theorem RV{x:Int}(h0:0<=x)(h1:x<14):∃t,EP[x.toNat]? =some t/\Bs t=0/\t.length<=5:=by
 obtain⟨n,rfl⟩:=Int.eq_ofNat_of_zero_le h0;have hn:n<EP.length:=by show n<14;omega
 refine⟨EP[n],by simp,?_⟩;have hall:∀t∈EP,Bs t=0/\t.length<=5:=by decide+kernel
 exact hall _ (List.getElem_mem hn)
theorem N2(B g:Nat)(w:World)(L:Value)(l:List Int)(a:Nat)(h:BI B g w L l a)(hB:B<=w.heap.size):Calls Tryz.prog 137 #[.pointer (some ⟨g,0,none⟩)] w fun e w'=>∃t,e= .returned (str t)/\Bs t=0/\t.length<=5/\BI B g w' L l (CT l a)/\KB w.heap.size g w w':=by
 have pQ:(EP.map str).toArray= #[.string ⟨#[48]⟩,.string ⟨#[49]⟩,.string ⟨#[50]⟩,.string ⟨#[51]⟩,.string ⟨#[48,46,53]⟩,.string ⟨#[49,46,50,53]⟩,.string ⟨#[55]⟩,.string ⟨#[49,48]⟩,.string ⟨#[48,46,49]⟩,.string ⟨#[49,50,46,55,53]⟩,.string ⟨#[49,48,48]⟩,.string ⟨#[51,46,49,52]⟩,.string ⟨#[54,52]⟩,.string ⟨#[48,46,48,48,49]⟩]:=rfl;have aX:=Blk.new w 9 (EP.map str).toArray;have am:=(Ext.refl w).alloc (.cells (EP.map str).toArray 9);have eF:(w.alloc (.cells (EP.map str).toArray 9)).heap.size=w.heap.size+1:=by simp
 have xG:=h.below (Below.mono am hB);rw[pQ]at aX am xG eF;have HN:=J (DU B g _ L l a 14 xG (by decide) (by decide));have aM:=J aX;have ah:=J am;have hg:=h.blk.lt;have HG:Hid (g≠w.heap.size):=J (by omega);have hr:=BV (l:=l) (a:=a) (n:=14) (by decide);obtain⟨t,ht,hc,gj⟩:=RV hr.1 hr.2;obtain⟨h0,h1⟩:=hr;have mt:=J ht;have HC:=J (And.intro hc gj);generalize Cd l a 14=x at *;clear h aX am xG pQ ht hc gj;go_enter Tryz.func137,Tryz.ntmps137;go_wp2_with fail;refine HN.o.mono ?_
 rintro e w2 ⟨rfl,mQ,hk⟩;have hb2:=(hk (w.heap.size+1)).blk aM.o (by omega) (fun e=>HG.o e.symm);have ai:=hb2.cell x.toNat;have jM:(EP.map str)[x.toNat]? =some (str t):=by rw[List.getElem?_map,mt.o];rfl
 have qF:((EP.map str).toArray)[x.toNat]? =some (str t):=by rw[List.getElem?_toArray];exact jM
 replace ai:=ai.trans qF
 have UO:=J mQ;have HK:=J (((KB.refl w.heap.size g w).ext ah.o (Nat.le_refl _)).trans (hk w.heap.size));clear mQ hk hb2 jM qF;go_wp2_with fail;go_ret;exact⟨t,rfl,HC.o.1,HC.o.2,UO.o,HK.o⟩
def Ap(k:Int):Int:=if k<1\/16<k then-1 else if k<=4 then 0 else if 6<=k/\k<=9 then 2 else 1
theorem Bx(w:World)(k:Int):Calls Tryz.prog 87 #[.int .i64 k] w fun e w'=>e= .returned (.int .i64 (Ap k))/\w=w':=by
 have key:(k<1/\Ap k= -1)\/(¬k<1/\16<k/\Ap k= -1)\/(¬k<1/\¬16<k/\k<=4/\Ap k=0)\/(¬k<1/\¬16<k/\¬k<=4/\6<=k/\k<=9/\Ap k=2)\/(¬k<1/\¬16<k/\¬k<=4/\¬6<=k/\Ap k=1)\/(¬k<1/\¬16<k/\¬k<=4/\6<=k/\¬k<=9/\Ap k=1):=by
  unfold Ap;by_cases h1:k<1
  ·simp[h1]
  by_cases h2:16<k
  ·simp[h1,h2]
  by_cases h3:k<=4
  ·simp[h1,h2,h3]
  by_cases h4:6<=k
  ·by_cases h5:k<=9
   ·simp[h1,h2,h3,h4,h5]
   ·simp[h1,h2,h3,h4,h5]
  ·simp[h1,h2,h3,h4]
 rcases key with ⟨h1,h⟩|⟨h1,h2,h⟩|⟨h1,h2,h3,h⟩|⟨h1,h2,h3,h4,h5,h⟩|⟨h1,h2,h3,h4,h⟩|⟨h1,h2,h3,h4,h5,h⟩
 all_goals
  have H:=J h;clear h;go_enter Tryz.func87,Tryz.ntmps87;go_wp2_with fail;go_ret;exact⟨by rw[H.o];rfl,rfl⟩
def Ch(x:Nd):Bool:=if x.kind=1 then Bs x.text == 0 else if x.kind=2 then Cs x.text else x.text == []
def B4(x:Nd):Bool:=if x.kind=10 then decide (-64<=x.n/\x.n<=64) else x.n == 0
def Ay(x:Nd):Bool:=Ch x && B4 x
def AW(S D:List Nat)(x:Nd):Option (Nat × Nat):=
 if Ap x.kind<0\/Ay x=false\/(Ap x.kind<1/\x.a≠0)\/(Ap x.kind<2/\x.b≠0) then none
 else if Ap x.kind=0 then some (1,1)
 else if Ap x.kind=1 then
  (if x.a≠(S.length:Int)-1\/x.a<0 then none else some (S.getD x.a.toNat 0+1,max 1 (D.getD x.a.toNat 0+1)))
 else if x.b≠(S.length:Int)-1\/x.b<0 then none
 else if x.a≠(S.length:Int)-((S.getD x.b.toNat 0+1:Nat):Int)\/x.a<0 then none
 else some (S.getD x.b.toNat 0+1+S.getD x.a.toNat 0,max (max 1 (D.getD x.b.toNat 0+1)) (D.getD x.a.toNat 0+1))
def GC:List Nat->List Nat->List Nd->Option (List Nat × List Nat)
 |S,D,[]=>some (S,D)
 |S,D,x::t=>match AW S D x with
  |none=>none
  |some (s,d)=>GC (S++[s]) (D++[d]) t
def EG(l:List Nd):Option (List Nat × List Nat):=match GC [] [] l with
 |none=>none
 |some (S,D)=>if l.length=0\/S.getD (l.length-1) 0≠l.length then none else some (S,D)
def Gy(l:List Nd):Bool:=decide (1<=l.length/\l.length<=200) && match EG l with
 |none=>false
 |some (_,D)=>decide (D.getD (l.length-1) 0<=40)
theorem FE(l m:List Nd):∀S D,GC S D (l++m)=(match GC S D l with|none=>none|some (S',D')=>GC S' D' m):=by
 induction l with
 |nil=>intro S D;rfl
 |cons x t ih=>
  intro S D;rw[List.cons_append,GC,GC];cases AW S D x with
  |none=>rfl
  |some p=>exact ih _ _
def szE:Ex->List Nat
 | .leaf _ _=>[1]
 | .un _ _ x=>szE x++[x.size+1]
 | .bin _ x y=>szE x++szE y++[x.size+y.size+1]
def dpE:Ex->List Nat
 | .leaf _ _=>[1]
 | .un _ _ x=>dpE x++[x.depth+1]
 | .bin _ x y=>dpE x++dpE y++[max x.depth y.depth+1]
theorem Fb(e:Ex):(szE e).length=e.size:=by
 induction e with
 |leaf k t=>rfl
 |un k n x ih=>rw[szE,List.length_append,ih];rfl
 |bin k x y ihx ihy=>rw[szE,List.length_append,List.length_append,ihx,ihy];rfl
theorem IY(e:Ex):(dpE e).length=e.size:=by
 induction e with
 |leaf k t=>rfl
 |un k n x ih=>rw[dpE,List.length_append,ih];rfl
 |bin k x y ihx ihy=>rw[dpE,List.length_append,List.length_append,ihx,ihy];rfl
theorem Dm{L M:List Nat}{x:Nat}{i:Nat}(h:i=L.length+M.length):(L++(M++[x])).getD i 0=x:=by
 subst h;rw[List.getD_eq_getElem?_getD,List.getElem?_append_right (by omega),Nat.add_sub_cancel_left,List.getElem?_append_right (Nat.le_refl _),Nat.sub_self];rfl
theorem GT(e:Ex)(L:List Nat)(i:Nat)(h:i+1=L.length+e.size):(L++szE e).getD i 0=e.size:=by
 cases e with
 |leaf k t=>exact Dm (M:=[]) (by have h2:i+1=L.length+1:=h;simp;omega)
 |un k n x=>rw[szE];have:=Fb x;exact Dm (by have h2:i+1=L.length+(x.size+1):=h;omega)
 |bin k x y=>rw[szE];have:=Fb x;have:=Fb y;exact Dm (by have h2:i+1=L.length+(x.size+y.size+1):=h;rw[List.length_append];omega)
theorem Hd(e:Ex)(L:List Nat)(i:Nat)(h:i+1=L.length+e.size):(L++dpE e).getD i 0=e.depth:=by
 cases e with
 |leaf k t=>exact Dm (M:=[]) (by have h2:i+1=L.length+1:=h;simp;omega)
 |un k n x=>rw[dpE];have:=IY x;exact Dm (by have h2:i+1=L.length+(x.size+1):=h;omega)
 |bin k x y=>rw[dpE];have:=IY x;have:=IY y;exact Dm (by have h2:i+1=L.length+(x.size+y.size+1):=h;rw[List.length_append];omega)
theorem Ge{L M:List Nat}{i:Nat}(h:i<L.length):(L++M).getD i 0=L.getD i 0:=by
 rw[List.getD_eq_getElem?_getD,List.getD_eq_getElem?_getD,List.getElem?_append_left h]
theorem Rr{k:Nat}{n:Int}{x:Ex}(h:(Ex.un k n x).Good)(a b:Int):Ay ⟨(k:Int),a,b,n,[]⟩=true:=by
 obtain⟨h1,h2,h3,h4,_⟩:=h;unfold Ay Ch B4;rw[if_neg (by simp only;omega),if_neg (by simp only;omega)];by_cases hk:k=10
 ·subst hk;simp;omega
 ·rw[if_neg (by simp only;omega)];simp[h2 hk]
theorem Ps(e:Ex)(hg:e.Good):∀S D:List Nat,D.length=S.length->GC S D (Ag S.length e)=some (S++szE e,D++dpE e):=by
 induction e with
 |leaf k t=>
  intro S D hD;have h1:AW S D ⟨(k:Int),0,0,0,t⟩=some (1,1):=by
   have hk:1<=k/\k<=4:=by unfold Ex.Good at hg;omega
   have ho:Ap (k:Int)=0:=by unfold Ap;rw[if_neg (by omega),if_pos (by omega)]
   have hp:Ay ⟨(k:Int),0,0,0,t⟩=true:=by
    unfold Ay Ch B4;rw[if_neg (c:=(k:Int)=10) (by omega)];rcases hg with ⟨rfl,h,_⟩|⟨rfl,h⟩|⟨h,rfl⟩
    ·simp[h]
    ·simp[h]
    ·rw[if_neg (by simp only;omega),if_neg (by simp only;omega)];rfl
   unfold AW;rw[ho,hp];simp
  rw[Ag,GC,h1];rfl
 |un k n x ih=>
  intro S D hD;have hx:=hg.2.2.2.2;have hz:=x.size_pos;have hk:=hg.1;have ho:Ap (k:Int)=1:=by unfold Ap;rw[if_neg (by omega),if_neg (by omega),if_neg (by omega)]
  rw[Ag,FE,ih hx S D hD];have h1:AW (S++szE x) (D++dpE x) ⟨(k:Int),((S.length+x.size-1:Nat):Int),0,n,[]⟩=some (x.size+1,x.depth+1):=by
   have h2:=GT x S (S.length+x.size-1) (by omega);have h3:=Hd x D (S.length+x.size-1) (by omega);unfold AW;simp only[ho,Rr hg,Int.toNat_natCast,h2,h3,List.length_append,Fb];rw[if_neg (by simp),if_neg (by decide),if_pos trivial,if_neg (by omega),Nat.max_eq_right (by omega)]
  simp only[GC,h1];simp[szE,dpE]
 |bin k x y ihx ihy=>
  intro S D hD;have hx:=hg.2.1;have hy:=hg.2.2;have hz:=x.size_pos;have a9:=y.size_pos;have hk:=hg.1;have ho:Ap (k:Int)=2:=by unfold Ap;rw[if_neg (by omega),if_neg (by omega),if_pos (by omega)]
  have hp:Ay ⟨(k:Int),((S.length+x.size-1:Nat):Int),((S.length+x.size+y.size-1:Nat):Int),0,[]⟩=true:=by
   unfold Ay Ch B4;rw[if_neg (by simp only;omega),if_neg (by simp only;omega),if_neg (by simp only;omega)];rfl
  have hl:S.length+x.size=(S++szE x).length:=by rw[List.length_append,Fb]
  have hl2:D.length+x.size=(D++dpE x).length:=by rw[List.length_append,IY]
  have h0:=ihy hy (S++szE x) (D++dpE x) (by rw[<-hl,<-hl2,hD]);rw[Ag,FE,ihx hx S D hD];simp only;rw[FE,hl,h0,<-hl];have h1:AW ((S++szE x)++szE y) ((D++dpE x)++dpE y) ⟨(k:Int),((S.length+x.size-1:Nat):Int),((S.length+x.size+y.size-1:Nat):Int),0,[]⟩=some (x.size+y.size+1,max x.depth y.depth+1):=by
   have h2:=GT y (S++szE x) (S.length+x.size+y.size-1) (by omega);have h3:=Hd y (D++dpE x) (S.length+x.size+y.size-1) (by omega);have h4:=(Ge (L:=S++szE x) (M:=szE y) (i:=S.length+x.size-1) (by omega)).trans (GT x S (S.length+x.size-1) (by omega));have h5:=(Ge (L:=D++dpE x) (M:=dpE y) (i:=S.length+x.size-1) (by omega)).trans (Hd x D (S.length+x.size-1) (by omega));unfold AW;simp only[ho,hp,Int.toNat_natCast,h2,h3,h4,h5];rw[if_neg (by simp),if_neg (by decide),if_neg (by decide),if_neg (by rw[List.length_append,<-hl,Fb];omega),if_neg (by rw[List.length_append,<-hl,Fb];omega)]
   congr 2
   ·omega
   ·omega
  simp only[GC,h1];simp[szE,dpE]
theorem Ii(e:Ex)(hg:e.Good):Gy (Ag 0 e)=decide (e.size<=200/\e.depth<=40):=by
 have h:=Ps e hg [] [] rfl;have hz:=e.size_pos;have h1:=GT e [] (e.size-1) (by simp;omega);have h2:=Hd e [] (e.size-1) (by simp;omega);rw[List.nil_append]at h h1 h2;rw[List.nil_append,List.length_nil]at h;unfold Gy EG;rw[h,AF];simp only[h1];rw[if_neg (by omega)];simp only[h2];rw[<-Bool.decide_and,decide_eq_decide];omega
structure OJ (S D:List Nat):Prop where
 len:D.length=S.length
 size:∀j,j<S.length->S.getD j 0<=j+1
 depth:∀j,j<S.length->D.getD j 0<=j+1
theorem OJ.nil:OJ [] []:=⟨rfl,fun j h=>by simp at h,fun j h=>by simp at h⟩
theorem OJ.step{S D:List Nat}{x:Nd}{s d:Nat}(h:OJ S D)(hs:AW S D x=some (s,d)):s<=S.length+1/\d<=S.length+1/\OJ (S++[s]) (D++[d]):=by
 have key:s<=S.length+1/\d<=S.length+1:=by
  unfold AW at hs;split at hs
  ·cases hs
  ·split at hs
   ·injection hs with hs;injection hs with h1 h2;omega
   ·split at hs
    ·split at hs
     ·cases hs
     ·rename_i hc;injection hs with hs
      injection hs with h1 h2
      have:=h.size x.a.toNat (by omega);have:=h.depth x.a.toNat (by omega);omega
    ·split at hs
     ·cases hs
     ·rename_i hc;have q1:=h.size x.b.toNat (by omega);have q2:=h.depth x.b.toNat (by omega);split at hs
      ·cases hs
      ·rename_i hc2;injection hs with hs
       injection hs with h1 h2
       have q3:=h.size x.a.toNat (by omega);have q4:=h.depth x.a.toNat (by omega);omega
 refine⟨key.1,key.2,?_,fun j hj=> ?_,fun j hj=> ?_⟩
 ·rw[List.length_append,List.length_append,h.len];rfl
 ·rw[List.length_append,List.length_singleton]at hj;rcases Nat.lt_or_ge j S.length with h1|h1
  ·rw[Ge h1];exact h.size j h1
  ·have h2:=Dm (L:=S) (M:=[]) (x:=s) (i:=j) (by simp;omega);rw[List.nil_append]at h2;rw[h2];omega
 ·rw[List.length_append,List.length_singleton]at hj;rcases Nat.lt_or_ge j S.length with h1|h1
  ·rw[Ge (by rw[h.len];exact h1)];exact h.depth j h1
  ·have h2:=Dm (L:=D) (M:=[]) (x:=d) (i:=j) (by rw[h.len];simp;omega);rw[List.nil_append]at h2;rw[h2];omega
end Big
end Go.Proofs.YtkoaogkknnelaaaGreatDoor
