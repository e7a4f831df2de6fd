import Derived.Test.YtkoaogkknnelaaaGreatDoorM10
import Derived.Laws.AppendOwn
set_option linter.unusedVariables false
set_option linter.unusedSimpArgs false
namespace Go.Proofs.YtkoaogkknnelaaaGreatDoor
namespace Big
open Lib (hid)
open Go.RowKit
def SX(t:Tok):List Value:=[.int .i64 (t.kind:Int),.int .i64 (t.at_:Int),str t.text]
def C7(ts:List Tok):List Value:=ts.flatMap SX
theorem M7(ts:List Tok)(t:Tok):C7 (ts++[t])=C7 ts++SX t:=by simp[C7]
theorem BT {P:Program} {ops:Array Oper} {o:Oper} {a:Act} {w:World} {K:Act->World->Prop} {Q:Exit->Act->World->Prop} {E:Prop}
  (hg:o.guard=none) (s x:Operand) (t:TypeId) (aS:o.op=Op.call { callee:=Callee.builtin Builtin.append,args:= #[s,x],argTypes:= #[t,t] })
  (dL:Nat) (e:TypeId) (i:TypeInfo) (z:Value) (size bytes:Nat) (h1:P.underlying t=some (.slice e)) (h2:P.info? e=some i) (h3:i.zero=some z) (h4:i.size=size) (h5:i.bytes=bytes) (h6:z.cells.size=size) (h7:0<size)
  (v:Value) (n:Nat) (xs:List Value) (hs:a.eval s=v) (aG:w.ownsRow dL e size v n xs)
  (ad:Addr) (m c:Nat) (mZ:List Value) (hx:a.eval x= .slice (some ad) m c) (hn:mZ.length=m*size) (hc:∀j u,mZ[j]? =some u->w.cell? (ad.add j)=some u) (Vn:∀u∈mZ,u.oneCell'=true)
  (b1:n+m<=maxLen) (b2:(n+m)*bytes<=140737488355328) (b3:dL<=w.heap.size)
  (hK:∀v' w',w'.ownsRow dL e size v' (n+m) (xs++mZ)->w.grownBy w' v.ownBlock->K (a.put o.dst v') w'):
  if Region.wanted o (yielded ops a.tmps)=true then Oper.wp P o a w K Q else E:=by
 have hw:Region.wanted o (yielded ops a.tmps)=true:=by simp[Region.wanted,hg]
 rw[if_pos hw];obtain⟨v',w',fp,r1,r2,_⟩:=run_append_own (P:=P) w dL t o.type e i z size bytes h1 h2 h3 h4 h5 h6 h7 v n xs aG ad m c mZ hn hc Vn b1 b2 b3;unfold Oper.wp;simp[execOp,aS,resolve,invoke,builtin,hs,hx,fp,Result.andThen];exact hK v' w' r1 r2
theorem RZ:(Tryz.prog.info? 122).map (fun i=>(i.zero,i.size,i.bytes))=some (some (.agg #[.int .i64 0,.int .i64 0,.string ⟨#[]⟩]),3,32):=by kernel_rfl
theorem Aj{w w':World}{dL:Nat}{e:TypeId}{size n:Nat}{v:Value}{xs:List Value}(h:w.ownsRow dL e size v n xs)(hb:∀g,dL<=g->g<w.heap.size->w'.heap[g]? =w.heap[g]?):w'.ownsRow dL e size v n xs:=by
 obtain⟨h1,h2⟩:=h;refine⟨h1,?_⟩;rcases h2 with h2|⟨g,cap,cur,rfl,hg,hh,r1,r2,r3,r4⟩
 ·exact .inl h2
 ·refine .inr ⟨g,cap,cur,rfl,hg,?_,r1,r2,r3,r4⟩;have hlt:g<w.heap.size:=by
   rcases Nat.lt_or_ge g w.heap.size with h|h
   ·exact h
   ·rw[Array.getElem?_eq_none h]at hh;cases hh
  rw[hb g hg hlt,hh]
theorem AW{w:World}{dL:Nat}{e:TypeId}{size n:Nat}{v:Value}{xs:List Value}(h:w.ownsRow dL e size v n xs):∀k,v.ownBlock=some k->dL<=k:=by
 obtain⟨h1,h2⟩:=h;rcases h2 with ⟨rfl,_⟩|⟨g,cap,cur,rfl,hg,_⟩
 ·intro k hk;simp[Value.ownBlock]at hk
 ·intro k hk;simp only[Value.ownBlock,Option.some.injEq]at hk;omega
theorem AN{w:World}{dL:Nat}{e:TypeId}{size n:Nat}{v:Value}{xs:List Value}(h:w.ownsRow dL e size v n xs):∃A c,v= .slice A n c:=by
 obtain⟨h1,h2⟩:=h;rcases h2 with ⟨rfl,rfl⟩|⟨g,cap,cur,rfl,_⟩
 ·exact⟨_,_,rfl⟩
 ·exact⟨_,_,rfl⟩
def ndC(x:Nd):List Value:=[.int .i64 x.kind,.int .i64 x.a,.int .i64 x.b,.int .i64 x.n,str x.text]
def C6(l:List Nd):List Value:=l.flatMap ndC
theorem Ih(l:List Nd):(C6 l).length=l.length*5:=by
 induction l with
 |nil=>rfl
 |cons t ts ih=>
  unfold C6 at *;rw[List.flatMap_cons,List.length_append,ih,List.length_cons];simp[ndC];omega
theorem Dx(l m:List Nd):C6 (l++m)=C6 l++C6 m:=by simp[C6]
theorem Fm(x:Nd):C6 [x]=ndC x:=by simp[C6]
theorem RG(ts:List Nd)(i j:Nat)(hi:i<ts.length)(hj:j<5):(C6 ts)[i*5+j]? =(ndC ts[i])[j]? :=by
 induction ts generalizing i with
 |nil=>simp at hi
 |cons t ts ih=>
  have hl:(ndC t).length=5:=rfl;unfold C6 at *;rw[List.flatMap_cons];cases i with
  |zero=>
   rw[Nat.zero_mul,Nat.zero_add,List.getElem?_append_left (by omega)];rfl
  |succ i=>
   rw[List.getElem?_append_right (by omega),hl,show (i+1)*5+j-5=i*5+j by omega,ih i (by simpa using hi)];rfl
def Oe(w:World)(b o:Nat)(x:Nd):Prop:=
 w.cell? ⟨b,o,none⟩=some (.int .i64 x.kind)/\w.cell? ⟨b,o+1,none⟩=some (.int .i64 x.a)/\w.cell? ⟨b,o+2,none⟩=some (.int .i64 x.b)/\w.cell? ⟨b,o+3,none⟩=some (.int .i64 x.n)/\w.cell? ⟨b,o+4,none⟩=some (str x.text)
def RNd(w:World)(v:Value)(l:List Nd):Prop:=
 ∃A c,v= .slice A l.length c/\(0<l.length->∃b o,A=some ⟨b,o,none⟩/\b<w.heap.size/\∀i (hi:i<l.length),Oe w b (o+i*5) l[i])
theorem Oe.ext{w w':World}{b o:Nat}{x:Nd}(h:Oe w b o x)(hx:Ext w w')(hb:b<w.heap.size):Oe w' b o x:=by
 obtain⟨h0,h1,h2,h3,h4⟩:=h;exact⟨(hx.cell hb).trans h0,(hx.cell hb).trans h1,(hx.cell hb).trans h2,(hx.cell hb).trans h3,(hx.cell hb).trans h4⟩
theorem RNd.ext{w w':World}{v:Value}{l:List Nd}(h:RNd w v l)(hx:Ext w w'):RNd w' v l:=by
 obtain⟨A,c,rfl,h2⟩:=h;refine⟨A,c,rfl,fun hp=> ?_⟩;obtain⟨b,o,rfl,hb,hc⟩:=h2 hp;exact⟨b,o,rfl,Nat.lt_of_lt_of_le hb hx.size,fun i hi=>(hc i hi).ext hx hb⟩
def AU(B:Nat)(w:World)(v:Value)(l:List Nd):Prop:=w.ownsRow B 95 5 v l.length (C6 l)
theorem AU.nil(B:Nat)(w:World):AU B w (.slice none 0 0) []:=World.ownsRow_nil w B _ 5
theorem AU.read{B:Nat}{w:World}{v:Value}{l:List Nd}(h:AU B w v l):RNd w v l:=by
 unfold AU at h;rcases h.2 with ⟨h1,h2⟩|⟨g,cap,cur,rfl,hg,hh,_⟩
 ·exact⟨none,0,by rw[h1,h2],fun h3=>by omega⟩
 ·refine⟨_,_,rfl,fun _=>⟨g,0,rfl,?_,fun i hi=> ?_⟩⟩
  ·rcases Nat.lt_or_ge g w.heap.size with h|h
   ·exact h
   ·rw[Array.getElem?_eq_none h]at hh;cases hh
  ·have hk:∀j,j<5->w.cell? ⟨g,0+i*5+j,none⟩=(ndC l[i])[j]? :=fun j hj=>by
    rw[Nat.zero_add,h.cellAt (i*5+j) (by omega),RG l i j hi hj]
   exact⟨hk 0 (by omega),hk 1 (by omega),hk 2 (by omega),hk 3 (by omega),hk 4 (by omega)⟩
theorem AU.shape{B:Nat}{w:World}{v:Value}{l:List Nd}(h:AU B w v l):∃A c,v= .slice A l.length c:=AN h
theorem AU.kept{B:Nat}{w w':World}{v:Value}{l:List Nd}(h:AU B w v l)(hk:∀k,B<=k->k<w.heap.size->w'.heap[k]? =w.heap[k]?):AU B w' v l:=Aj h hk
theorem FJ:(Tryz.prog.info? 95).map (fun i=>(i.zero,i.size,i.bytes))=some (some (.agg #[.int .i64 0,.int .i64 0,.int .i64 0,.int .i64 0,.string ⟨#[]⟩]),5,48):=by kernel_rfl
def UG(w:World)(v:Value)(ls:List (List UInt8)):Prop:=Eb w v (ls.map str)
def QF(B:Nat)(w:World)(v:Value)(ls:List (List UInt8)):Prop:=CQ 9 B w v (ls.map str)
section
variable {w w':World} {v:Value} {ls:List (List UInt8)} {B B':Nat}
theorem QF.arr(h:QF B w v ls):UG w v ls:=CQ.arr h
theorem Mq{j:Nat}(hj:j<ls.length):(ls.map str)[j]? =some (str ls[j]):=by
 rw[List.getElem?_map,List.getElem?_eq_getElem hj];rfl
theorem UG.open(h:UG w v ls):∃A c,v= .slice A ls.length c/\ls.length<=c/\c<=maxLen/\
  (0<ls.length->∃b o,A=some ⟨b,o,none⟩/\b<w.heap.size/\∀j (hj:j<ls.length),w.cell? ⟨b,o+j,none⟩=some (str ls[j])):=by
 obtain⟨A,c,rfl,h2,h3,h4⟩:=h;rw[List.length_map]at h2 h4;refine⟨A,c,by rw[List.length_map],h2,h3,fun hp=> ?_⟩;obtain⟨b,o,rfl,hlt,hc⟩:=h4 hp;exact⟨b,o,rfl,hlt,fun j hj=>hc j _ (Mq hj)⟩
theorem QF.block{g:Nat}(h:Blk w g 9 (ls.map str).toArray)(hg:B<=g)(hm:ls.length<=2147483648):QF B w (.slice (some ⟨g,0,none⟩) ls.length ls.length) ls:=by
 refine⟨some ⟨g,0,none⟩,ls.length,by rw[List.length_map],by rw[List.length_map];omega,by unfold maxLen;omega,.inr ⟨g,_,rfl,hg,h,by simp,?_⟩⟩;rw[List.length_map];show (ls.map str).take ls.length=_;rw[List.take_of_length_le (by simp)]
end
def Ay(k:Int):Int:=if k<1\/16<k then-1 else if k<=4 then 0 else if 6<=k/\k<=9 then 2 else 1
theorem BB(w:World)(k:Int):Calls Tryz.prog 87 #[.int .i64 k] w fun e w'=>e= .returned (.int .i64 (Ay k))/\w=w':=by
 have key:(k<1/\Ay k= -1)\/(¬k<1/\16<k/\Ay k= -1)\/(¬k<1/\¬16<k/\k<=4/\Ay k=0)\/(¬k<1/\¬16<k/\¬k<=4/\6<=k/\k<=9/\Ay k=2)\/(¬k<1/\¬16<k/\¬k<=4/\¬6<=k/\Ay k=1)\/(¬k<1/\¬16<k/\¬k<=4/\6<=k/\¬k<=9/\Ay k=1):=by
  unfold Ay;by_cases h1:k<1
  ·simp[h1]
  by_cases h2:16<k
  ·simp[h1,h2]
  by_cases h3:k<=4
  ·simp[h1,h2,h3]
  by_cases h4:6<=k
  ·by_cases h5:k<=9
   ·simp[h1,h2,h3,h4,h5]
   ·simp[h1,h2,h3,h4,h5]
  ·simp[h1,h2,h3,h4]
 rcases key with ⟨h1,h⟩|⟨h1,h2,h⟩|⟨h1,h2,h3,h⟩|⟨h1,h2,h3,h4,h5,h⟩|⟨h1,h2,h3,h4,h⟩|⟨h1,h2,h3,h4,h5,h⟩
 all_goals
  have H:=hid h;clear h;go_enter Tryz.func87,Tryz.ntmps87;go_wp2_with fail;go_ret;exact⟨by rw[H.out];rfl,rfl⟩
def Ch(x:Nd):Bool:=if x.kind=1 then Bm x.text == 0 else if x.kind=2 then Ej x.text else x.text == []
def B5(x:Nd):Bool:=if x.kind=10 then decide (-64<=x.n/\x.n<=64) else x.n == 0
def Az(x:Nd):Bool:=Ch x && B5 x
def Ba(S D:List Nat)(x:Nd):Option (Nat × Nat):=
 if Ay x.kind<0\/Az x=false\/(Ay x.kind<1/\x.a≠0)\/(Ay x.kind<2/\x.b≠0) then none
 else if Ay x.kind=0 then some (1,1)
 else if Ay x.kind=1 then
  (if x.a≠(S.length:Int)-1\/x.a<0 then none else some (S.getD x.a.toNat 0+1,max 1 (D.getD x.a.toNat 0+1)))
 else if x.b≠(S.length:Int)-1\/x.b<0 then none
 else if x.a≠(S.length:Int)-((S.getD x.b.toNat 0+1:Nat):Int)\/x.a<0 then none
 else some (S.getD x.b.toNat 0+1+S.getD x.a.toNat 0,max (max 1 (D.getD x.b.toNat 0+1)) (D.getD x.a.toNat 0+1))
def F1:List Nat->List Nat->List Nd->Option (List Nat × List Nat)
 |S,D,[]=>some (S,D)
 |S,D,x::t=>match Ba S D x with
  |none=>none
  |some (s,d)=>F1 (S++[s]) (D++[d]) t
def Ef(l:List Nd):Option (List Nat × List Nat):=match F1 [] [] l with
 |none=>none
 |some (S,D)=>if l.length=0\/S.getD (l.length-1) 0≠l.length then none else some (S,D)
def FZ(l:List Nd):Bool:=decide (1<=l.length/\l.length<=200) && match Ef l with
 |none=>false
 |some (_,D)=>decide (D.getD (l.length-1) 0<=40)
theorem E9(l m:List Nd):∀S D,F1 S D (l++m)=(match F1 S D l with|none=>none|some (S',D')=>F1 S' D' m):=by
 induction l with
 |nil=>intro S D;rfl
 |cons x t ih=>
  intro S D;rw[List.cons_append,F1,F1];cases Ba S D x with
  |none=>rfl
  |some p=>exact ih _ _
def szE:Ex->List Nat
 | .leaf _ _=>[1]
 | .un _ _ x=>szE x++[x.size+1]
 | .bin _ x y=>szE x++szE y++[x.size+y.size+1]
def dpE:Ex->List Nat
 | .leaf _ _=>[1]
 | .un _ _ x=>dpE x++[x.depth+1]
 | .bin _ x y=>dpE x++dpE y++[max x.depth y.depth+1]
theorem EI(e:Ex):(szE e).length=e.size:=by
 induction e with
 |leaf k t=>rfl
 |un k n x ih=>rw[szE,List.length_append,ih];rfl
 |bin k x y ihx ihy=>rw[szE,List.length_append,List.length_append,ihx,ihy];rfl
theorem IQ(e:Ex):(dpE e).length=e.size:=by
 induction e with
 |leaf k t=>rfl
 |un k n x ih=>rw[dpE,List.length_append,ih];rfl
 |bin k x y ihx ihy=>rw[dpE,List.length_append,List.length_append,ihx,ihy];rfl
theorem C5{L M:List Nat}{x:Nat}{i:Nat}(h:i=L.length+M.length):(L++(M++[x])).getD i 0=x:=by
 subst h;rw[List.getD_eq_getElem?_getD,List.getElem?_append_right (by omega),Nat.add_sub_cancel_left,List.getElem?_append_right (Nat.le_refl _),Nat.sub_self];rfl
theorem Gn(e:Ex)(L:List Nat)(i:Nat)(h:i+1=L.length+e.size):(L++szE e).getD i 0=e.size:=by
 cases e with
 |leaf k t=>exact C5 (M:=[]) (by have h2:i+1=L.length+1:=h;simp;omega)
 |un k n x=>rw[szE];have:=EI x;exact C5 (by have h2:i+1=L.length+(x.size+1):=h;omega)
 |bin k x y=>rw[szE];have:=EI x;have:=EI y;exact C5 (by have h2:i+1=L.length+(x.size+y.size+1):=h;rw[List.length_append];omega)
theorem GO(e:Ex)(L:List Nat)(i:Nat)(h:i+1=L.length+e.size):(L++dpE e).getD i 0=e.depth:=by
 cases e with
 |leaf k t=>exact C5 (M:=[]) (by have h2:i+1=L.length+1:=h;simp;omega)
 |un k n x=>rw[dpE];have:=IQ x;exact C5 (by have h2:i+1=L.length+(x.size+1):=h;omega)
 |bin k x y=>rw[dpE];have:=IQ x;have:=IQ y;exact C5 (by have h2:i+1=L.length+(x.size+y.size+1):=h;rw[List.length_append];omega)
theorem FK{L M:List Nat}{i:Nat}(h:i<L.length):(L++M).getD i 0=L.getD i 0:=by
 rw[List.getD_eq_getElem?_getD,List.getD_eq_getElem?_getD,List.getElem?_append_left h]
theorem Ry{k:Nat}{n:Int}{x:Ex}(h:(Ex.un k n x).Good)(a b:Int):Az ⟨(k:Int),a,b,n,[]⟩=true:=by
 obtain⟨h1,h2,h3,h4,_⟩:=h;unfold Az Ch B5;rw[if_neg (by simp only;omega),if_neg (by simp only;omega)];by_cases hk:k=10
 ·subst hk;simp;omega
 ·rw[if_neg (by simp only;omega)];simp[h2 hk]
theorem O7(e:Ex)(hg:e.Good):∀S D:List Nat,D.length=S.length->F1 S D (Ak S.length e)=some (S++szE e,D++dpE e):=by
 induction e with
 |leaf k t=>
  intro S D hD;have h1:Ba S D ⟨(k:Int),0,0,0,t⟩=some (1,1):=by
   have hk:1<=k/\k<=4:=by unfold Ex.Good at hg;omega
   have ho:Ay (k:Int)=0:=by unfold Ay;rw[if_neg (by omega),if_pos (by omega)]
   have hp:Az ⟨(k:Int),0,0,0,t⟩=true:=by
    unfold Az Ch B5;rw[if_neg (c:=(k:Int)=10) (by omega)];rcases hg with ⟨rfl,h,_⟩|⟨rfl,h⟩|⟨h,rfl⟩
    ·simp[h]
    ·simp[h]
    ·rw[if_neg (by simp only;omega),if_neg (by simp only;omega)];rfl
   unfold Ba;rw[ho,hp];simp
  rw[Ak,F1,h1];rfl
 |un k n x ih=>
  intro S D hD;have hx:=hg.2.2.2.2;have hz:=x.size_pos;have hk:=hg.1;have ho:Ay (k:Int)=1:=by unfold Ay;rw[if_neg (by omega),if_neg (by omega),if_neg (by omega)]
  rw[Ak,E9,ih hx S D hD];have h1:Ba (S++szE x) (D++dpE x) ⟨(k:Int),((S.length+x.size-1:Nat):Int),0,n,[]⟩=some (x.size+1,x.depth+1):=by
   have h2:=Gn x S (S.length+x.size-1) (by omega);have h3:=GO x D (S.length+x.size-1) (by omega);unfold Ba;simp only[ho,Ry hg,Int.toNat_natCast,h2,h3,List.length_append,EI];rw[if_neg (by simp),if_neg (by decide),if_pos trivial,if_neg (by omega),Nat.max_eq_right (by omega)]
  simp only[F1,h1];simp[szE,dpE]
 |bin k x y ihx ihy=>
  intro S D hD;have hx:=hg.2.1;have hy:=hg.2.2;have hz:=x.size_pos;have ba:=y.size_pos;have hk:=hg.1;have ho:Ay (k:Int)=2:=by unfold Ay;rw[if_neg (by omega),if_neg (by omega),if_pos (by omega)]
  have hp:Az ⟨(k:Int),((S.length+x.size-1:Nat):Int),((S.length+x.size+y.size-1:Nat):Int),0,[]⟩=true:=by
   unfold Az Ch B5;rw[if_neg (by simp only;omega),if_neg (by simp only;omega),if_neg (by simp only;omega)];rfl
  have hl:S.length+x.size=(S++szE x).length:=by rw[List.length_append,EI]
  have hl2:D.length+x.size=(D++dpE x).length:=by rw[List.length_append,IQ]
  have h0:=ihy hy (S++szE x) (D++dpE x) (by rw[<-hl,<-hl2,hD]);rw[Ak,E9,ihx hx S D hD];simp only;rw[E9,hl,h0,<-hl];have h1:Ba ((S++szE x)++szE y) ((D++dpE x)++dpE y) ⟨(k:Int),((S.length+x.size-1:Nat):Int),((S.length+x.size+y.size-1:Nat):Int),0,[]⟩=some (x.size+y.size+1,max x.depth y.depth+1):=by
   have h2:=Gn y (S++szE x) (S.length+x.size+y.size-1) (by omega);have h3:=GO y (D++dpE x) (S.length+x.size+y.size-1) (by omega);have h4:=(FK (L:=S++szE x) (M:=szE y) (i:=S.length+x.size-1) (by omega)).trans (Gn x S (S.length+x.size-1) (by omega));have h5:=(FK (L:=D++dpE x) (M:=dpE y) (i:=S.length+x.size-1) (by omega)).trans (GO x D (S.length+x.size-1) (by omega));unfold Ba;simp only[ho,hp,Int.toNat_natCast,h2,h3,h4,h5];rw[if_neg (by simp),if_neg (by decide),if_neg (by decide),if_neg (by rw[List.length_append,<-hl,EI];omega),if_neg (by rw[List.length_append,<-hl,EI];omega)]
   congr 2
   ·omega
   ·omega
  simp only[F1,h1];simp[szE,dpE]
theorem Hx(e:Ex)(hg:e.Good):FZ (Ak 0 e)=decide (e.size<=200/\e.depth<=40):=by
 have h:=O7 e hg [] [] rfl;have hz:=e.size_pos;have h1:=Gn e [] (e.size-1) (by simp;omega);have h2:=GO e [] (e.size-1) (by simp;omega);rw[List.nil_append]at h h1 h2;rw[List.nil_append,List.length_nil]at h;unfold FZ Ef;rw[h,AO];simp only[h1];rw[if_neg (by omega)];simp only[h2];rw[<-Bool.decide_and,decide_eq_decide];omega
structure Oc (S D:List Nat):Prop where
 len:D.length=S.length
 size:∀j,j<S.length->S.getD j 0<=j+1
 depth:∀j,j<S.length->D.getD j 0<=j+1
theorem Oc.nil:Oc [] []:=⟨rfl,fun j h=>by simp at h,fun j h=>by simp at h⟩
theorem Oc.step{S D:List Nat}{x:Nd}{s d:Nat}(h:Oc S D)(hs:Ba S D x=some (s,d)):s<=S.length+1/\d<=S.length+1/\Oc (S++[s]) (D++[d]):=by
 have key:s<=S.length+1/\d<=S.length+1:=by
  unfold Ba at hs;split at hs
  ·cases hs
  ·split at hs
   ·injection hs with hs;injection hs with h1 h2;omega
   ·split at hs
    ·split at hs
     ·cases hs
     ·rename_i hc;injection hs with hs
      injection hs with h1 h2
      have:=h.size x.a.toNat (by omega);have:=h.depth x.a.toNat (by omega);omega
    ·split at hs
     ·cases hs
     ·rename_i hc;have q1:=h.size x.b.toNat (by omega);have q2:=h.depth x.b.toNat (by omega);split at hs
      ·cases hs
      ·rename_i cW;injection hs with hs
       injection hs with h1 h2
       have q3:=h.size x.a.toNat (by omega);have q4:=h.depth x.a.toNat (by omega);omega
 refine⟨key.1,key.2,?_,fun j hj=> ?_,fun j hj=> ?_⟩
 ·rw[List.length_append,List.length_append,h.len];rfl
 ·rw[List.length_append,List.length_singleton]at hj;rcases Nat.lt_or_ge j S.length with h1|h1
  ·rw[FK h1];exact h.size j h1
  ·have h2:=C5 (L:=S) (M:=[]) (x:=s) (i:=j) (by simp;omega);rw[List.nil_append]at h2;rw[h2];omega
 ·rw[List.length_append,List.length_singleton]at hj;rcases Nat.lt_or_ge j S.length with h1|h1
  ·rw[FK (by rw[h.len];exact h1)];exact h.depth j h1
  ·have h2:=C5 (L:=D) (M:=[]) (x:=d) (i:=j) (by rw[h.len];simp;omega);rw[List.nil_append]at h2;rw[h2];omega
end Big
end Go.Proofs.YtkoaogkknnelaaaGreatDoor
