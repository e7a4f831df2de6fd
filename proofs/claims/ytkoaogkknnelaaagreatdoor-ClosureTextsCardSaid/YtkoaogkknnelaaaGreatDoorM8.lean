import Derived.Test.YtkoaogkknnelaaaGreatDoorM7
import Derived.Laws.AppendOwn
set_option linter.unusedVariables false
set_option linter.unusedSimpArgs false
set_option maxRecDepth 100000
namespace Go.Proofs.YtkoaogkknnelaaaGreatDoor
namespace Big
open Lib renaming hid → J
open Go.RowKit
def Te(t:Tok):List Value:=[.int .i64 (t.kind:Int),.int .i64 (t.at_:Int),str t.text]
def Dk(ts:List Tok):List Value:=ts.flatMap Te
theorem NF(ts:List Tok)(t:Tok):Dk (ts++[t])=Dk ts++Te t:=by simp[Dk]
theorem Sx:(Tryz.prog.info? 122).map (fun i=>(i.zero,i.size,i.bytes))=some (some (.agg #[.int .i64 0,.int .i64 0,.string ⟨#[]⟩]),3,32):=by kernel_rfl
theorem Ac{w w':World}{base:Nat}{e:TypeId}{size n:Nat}{v:Value}{xs:List Value}(h:w.ownsRow base e size v n xs)(hb:∀g,base<=g->g<w.heap.size->w'.heap[g]? =w.heap[g]?):w'.ownsRow base e size v n xs:=by
 obtain⟨h1,h2⟩:=h;refine⟨h1,?_⟩;rcases h2 with h2|⟨g,cap,cur,rfl,hg,hh,r1,r2,r3,r4⟩
 ·exact .inl h2
 ·refine .inr ⟨g,cap,cur,rfl,hg,?_,r1,r2,r3,r4⟩;have hlt:g<w.heap.size:=by
   rcases qam g w.heap.size with h|h
   ·exact h
   ·rw[qba h]at hh;cases hh
  rw[hb g hg hlt,hh]
theorem Ay{w:World}{base:Nat}{e:TypeId}{size n:Nat}{v:Value}{xs:List Value}(h:w.ownsRow base e size v n xs):∀k,v.ownBlock=some k->base<=k:=by
 obtain⟨h1,h2⟩:=h;rcases h2 with ⟨rfl,_⟩|⟨g,cap,cur,rfl,hg,_⟩
 ·intro k hk;simp[Value.ownBlock]at hk
 ·intro k hk;simp only[Value.ownBlock,qaw]at hk;omega
theorem Ao{w:World}{base:Nat}{e:TypeId}{size n:Nat}{v:Value}{xs:List Value}(h:w.ownsRow base e size v n xs):∃A c,v= .slice A n c:=by
 obtain⟨h1,h2⟩:=h;rcases h2 with ⟨rfl,rfl⟩|⟨g,cap,cur,rfl,_⟩
 ·exact⟨_,_,rfl⟩
 ·exact⟨_,_,rfl⟩
def ndC(x:Nd):List Value:=[.int .i64 x.kind,.int .i64 x.a,.int .i64 x.b,.int .i64 x.n,str x.text]
def AN(l:List Nd):List Value:=l.flatMap ndC
theorem ED(l:List Nd):(AN l).length=l.length*5:=by
 induction l with
 |nil=>rfl
 |cons t ts ih=>
  unfold AN at *;rw[qbM,qab,ih,qat];simp[ndC];omega
theorem Bl(l m:List Nd):AN (l++m)=AN l++AN m:=by simp[AN]
theorem Bw(x:Nd):AN [x]=ndC x:=by simp[AN]
theorem Sn(ts:List Nd)(i j:Nat)(hi:i<ts.length)(hj:j<5):(AN ts)[i*5+j]? =(ndC ts[i])[j]? :=by
 induction ts generalizing i with
 |nil=>simp at hi
 |cons t ts ih=>
  have hl:(ndC t).length=5:=rfl;unfold AN at *;rw[qbM];cases i with
  |zero=>
   rw[Nat.zero_mul,qaF,qaC (by omega)];rfl
  |succ i=>
   rw[qao (by omega),hl,show (i+1)*5+j-5=i*5+j by omega,ih i (by simpa using hi)];rfl
def Hj(w:World)(b o:Nat)(x:Nd):Prop:=
 w.cell? ⟨b,o,none⟩=some (.int .i64 x.kind)/\w.cell? ⟨b,o+1,none⟩=some (.int .i64 x.a)/\w.cell? ⟨b,o+2,none⟩=some (.int .i64 x.b)/\w.cell? ⟨b,o+3,none⟩=some (.int .i64 x.n)/\w.cell? ⟨b,o+4,none⟩=some (str x.text)
def RNd(w:World)(v:Value)(l:List Nd):Prop:=
 ∃A c,v= .slice A l.length c/\(0<l.length->∃b o,A=some ⟨b,o,none⟩/\b<w.heap.size/\∀i (hi:i<l.length),Hj w b (o+i*5) l[i])
theorem Hj.ext{w w':World}{b o:Nat}{x:Nd}(h:Hj w b o x)(hx:Ext w w')(hb:b<w.heap.size):Hj w' b o x:=by
 obtain⟨h0,h1,h2,h3,h4⟩:=h;exact⟨(hx.cell hb).trans h0,(hx.cell hb).trans h1,(hx.cell hb).trans h2,(hx.cell hb).trans h3,(hx.cell hb).trans h4⟩
theorem RNd.ext{w w':World}{v:Value}{l:List Nd}(h:RNd w v l)(hx:Ext w w'):RNd w' v l:=by
 obtain⟨A,c,rfl,h2⟩:=h;refine⟨A,c,rfl,fun hp=> ?_⟩;obtain⟨b,o,rfl,hb,hc⟩:=h2 hp;exact⟨b,o,rfl,qaj hb hx.size,fun i hi=>(hc i hi).ext hx hb⟩
def Ai(B:Nat)(w:World)(v:Value)(l:List Nd):Prop:=w.ownsRow B 95 5 v l.length (AN l)
theorem Ai.nil(B:Nat)(w:World):Ai B w (.slice none 0 0) []:=World.ownsRow_nil w B _ 5
theorem Ai.read{B:Nat}{w:World}{v:Value}{l:List Nd}(h:Ai B w v l):RNd w v l:=by
 unfold Ai at h;rcases h.2 with ⟨h1,h2⟩|⟨g,cap,cur,rfl,hg,hh,_⟩
 ·exact⟨none,0,by rw[h1,h2],fun h3=>by omega⟩
 ·refine⟨_,_,rfl,fun _=>⟨g,0,rfl,?_,fun i hi=> ?_⟩⟩
  ·rcases qam g w.heap.size with h|h
   ·exact h
   ·rw[qba h]at hh;cases hh
  ·have hk:∀j,j<5->w.cell? ⟨g,0+i*5+j,none⟩=(ndC l[i])[j]? :=fun j hj=>by
    rw[qaF,h.cellAt (i*5+j) (by omega),Sn l i j hi hj]
   exact⟨hk 0 (by omega),hk 1 (by omega),hk 2 (by omega),hk 3 (by omega),hk 4 (by omega)⟩
theorem Ai.shape{B:Nat}{w:World}{v:Value}{l:List Nd}(h:Ai B w v l):∃A c,v= .slice A l.length c:=Ao h
theorem Ai.mono{B B':Nat}{w:World}{v:Value}{l:List Nd}(h:Ai B w v l)(hB:B'<=B):Ai B' w v l:=by
 obtain⟨h1,h2⟩:=h;exact⟨h1,h2.imp id (fun ⟨g,cap,cur,q1,q2,q3⟩=>⟨g,cap,cur,q1,by omega,q3⟩)⟩
theorem Ai.kept{B:Nat}{w w':World}{v:Value}{l:List Nd}(h:Ai B w v l)(hk:∀k,B<=k->k<w.heap.size->w'.heap[k]? =w.heap[k]?):Ai B w' v l:=Ac h hk
theorem BI:(Tryz.prog.info? 95).map (fun i=>(i.zero,i.size,i.bytes))=some (some (.agg #[.int .i64 0,.int .i64 0,.int .i64 0,.int .i64 0,.string ⟨#[]⟩]),5,48):=by kernel_rfl
theorem ES:(Tryz.prog.info? 9).map (fun i=>(i.zero,i.size,i.bytes))=some (some (.string ⟨#[]⟩),1,16):=by kernel_rfl
def BB(w:World)(v:Value)(ls:List (List UInt8)):Prop:=CX w v (ls.map str)
def Ce(B:Nat)(w:World)(v:Value)(ls:List (List UInt8)):Prop:=Cp 9 B w v (ls.map str)
section
variable {w w':World} {v:Value} {ls:List (List UInt8)} {B B':Nat}
theorem BB.ext(h:BB w v ls)(hb:Ext w w'):BB w' v ls:=CX.ext h hb
theorem Ce.ext(h:Ce B w v ls)(hb:Ext w w'):Ce B w' v ls:=Cp.ext h hb
theorem Ce.mono(h:Ce B w v ls)(hB:B'<=B):Ce B' w v ls:=Cp.mono h hB
theorem Ce.arr(h:Ce B w v ls):BB w v ls:=Cp.arr h
theorem Ce.none_(B:Nat)(w:World):Ce B w (.slice none 0 0) []:=Cp.none_ _ B w
theorem MN{j:Nat}(hj:j<ls.length):(ls.map str)[j]? =some (str ls[j]):=by
 rw[qaD,qaa hj];rfl
theorem BB.open(h:BB w v ls):∃A c,v= .slice A ls.length c/\ls.length<=c/\c<=maxLen/\
  (0<ls.length->∃b o,A=some ⟨b,o,none⟩/\b<w.heap.size/\∀j (hj:j<ls.length),w.cell? ⟨b,o+j,none⟩=some (str ls[j])):=by
 obtain⟨A,c,rfl,h2,h3,h4⟩:=h;rw[qag]at h2 h4;refine⟨A,c,by rw[qag],h2,h3,fun hp=> ?_⟩;obtain⟨b,o,rfl,hlt,hc⟩:=h4 hp;exact⟨b,o,rfl,hlt,fun j hj=>hc j _ (MN hj)⟩
theorem BB.shape(h:BB w v ls):∃n A c,v= .slice A n c:=CX.shape h
theorem BB.len{n c:Nat}{A:Option Addr}(h:BB w (.slice A n c) ls):n=ls.length:=by
 obtain⟨A',c',he,_⟩:=h;injection he with _ h2 _
 rw[h2,qag]
theorem MG:∀u∈ls.map str,u.oneCell'=true:=fun u hu=>by
 obtain⟨x,_,rfl⟩:=qbJ.1 hu;rfl
theorem Ce.block{g:Nat}(h:Blk w g 9 (ls.map str).toArray)(hg:B<=g)(hm:ls.length<=2147483648):Ce B w (.slice (some ⟨g,0,none⟩) ls.length ls.length) ls:=by
 refine⟨some ⟨g,0,none⟩,ls.length,by rw[qag],by rw[qag];omega,by unfold maxLen;omega,.inr ⟨g,_,rfl,hg,h,by simp,?_⟩⟩;rw[qag];show (ls.map str).take ls.length=_;rw[qak (by simp)]
end
theorem Dh {w:World} {v src:Value} {xs ys:List (List UInt8)} {B:Nat} {ii:Array Oper} {rest:List Oper} {o:Oper} {a:Act} {Q:Exit->Act->World->Prop} (be:o.guard=none) (s x:Operand)
  (ho:o.op= .call { callee:= .builtin .append,args:= #[s,x],argTypes:= #[30,30] })
  (hs:a.eval s=v) (ac:Ce B w v xs) (hx:a.eval x=src) (fr:BB w src ys) (hn:xs.length+ys.length<=2147483648) (bx:B<=w.heap.size)
  (h:∀v' w',Ce B w' v' (xs++ys)->w.grownBy w' (Im v)->Below B w w'->wpList Tryz.prog ii Q rest (a.put o.dst v') w'):wpList Tryz.prog ii Q (o::rest) a w:=by
 obtain⟨i0,hi,aR,hz1,aU⟩:=info_parts ES;refine Dg be s x 30 ho 9 i0 _ 16 Tryz.underlying30 hi aR hz1 aU rfl hs ac hx fr MG (by simp only[qag];unfold maxLen;omega) (by simp only[qag];omega) bx (fun v' w' h1 h2 h3=>h v' w' ?_ h2 h3);unfold Ce;rw[qaB];exact h1
theorem BB.fresh1(w:World)(l:List UInt8):BB (w.alloc (.cells #[str l] 9)) (.slice (some ⟨w.heap.size,0,none⟩) 1 1) [l]:=CX.one (by simp)
theorem PP{ls ms:List (List UInt8)}{k:Nat}(h:ls.take k=ms.take k)(h1:k<ls.length)(h2:k<ms.length)(he:ls[k]=ms[k]):ls.take (k+1)=ms.take (k+1):=by
 rw[qah h1,qah h2,h,he]
def DA:List (List UInt8):=[[97],[98],[99],[120,49],[89,95,50]]
def EK:List (List UInt8):=[[48],[49],[50],[51],[48,46,53],[49,46,50,53],[55],[49,48],[48,46,49],[49,50,46,55,53],[49,48,48],[51,46,49,52],[54,52],[48,46,48,48,49]]
theorem Hx(w:World):Calls Tryz.prog 92 #[] w fun e w'=>e= .returned (.slice (some ⟨w.heap.size,0,none⟩) 5 5)/\Blk w' w.heap.size 9 (DA.map str).toArray/\Ext w w':=by
 go_enter Tryz.func92,Tryz.ntmps92;go_wp2_with fail;go_ret;exact⟨rfl,Blk.new w 9 _,(Ext.refl w).alloc _⟩
theorem SI{x:Int}(h0:0<=x)(h1:x<14):∃t,EK[x.toNat]? =some t/\Bz t=0/\t.length<=5:=by
 obtain⟨n,rfl⟩:=qcv h0;have hn:n<EK.length:=by show n<14;omega
 refine⟨EK[n],by simp,?_⟩;have hall:∀t∈EK,Bz t=0/\t.length<=5:=by decide+kernel
 exact hall _ (qap hn)
theorem Og(B g:Nat)(w:World)(L:Value)(l:List Int)(a:Nat)(h:BR B g w L l a)(hB:B<=w.heap.size):Calls Tryz.prog 137 #[.pointer (some ⟨g,0,none⟩)] w fun e w'=>∃t,e= .returned (str t)/\Bz t=0/\t.length<=5/\BR B g w' L l (CP l a)/\KB w.heap.size g w w':=by
 have qI:(EK.map str).toArray= #[.string ⟨#[48]⟩,.string ⟨#[49]⟩,.string ⟨#[50]⟩,.string ⟨#[51]⟩,.string ⟨#[48,46,53]⟩,.string ⟨#[49,46,50,53]⟩,.string ⟨#[55]⟩,.string ⟨#[49,48]⟩,.string ⟨#[48,46,49]⟩,.string ⟨#[49,50,46,55,53]⟩,.string ⟨#[49,48,48]⟩,.string ⟨#[51,46,49,52]⟩,.string ⟨#[54,52]⟩,.string ⟨#[48,46,48,48,49]⟩]:=rfl;have av:=Blk.new w 9 (EK.map str).toArray;have ar:=(Ext.refl w).alloc (.cells (EK.map str).toArray 9);have dU:(w.alloc (.cells (EK.map str).toArray 9)).heap.size=w.heap.size+1:=by simp
 have rr:=h.below (Below.mono ar hB);rw[qI]at av ar rr dU;have HN:=J (DH B g _ L l a 14 rr (by decide) (by decide));have aA:=J av;have ah:=J ar;have hg:=h.blk.lt;have HG:Hid (g≠w.heap.size):=J (by omega);have hr:=B5 (l:=l) (a:=a) (n:=14) (by decide);obtain⟨t,ht,hc,gT⟩:=SI hr.1 hr.2;obtain⟨h0,h1⟩:=hr;have k7:=J ht;have HC:=J (And.intro hc gT);generalize Cm l a 14=x at *;clear h av ar rr qI ht hc gT;go_enter Tryz.func137,Tryz.ntmps137;go_wp2_with fail;refine HN.o.mono ?_
 rintro e w2 ⟨rfl,ny,hk⟩;have hb2:=(hk (w.heap.size+1)).blk aA.o (by omega) (fun e=>HG.o e.symm);have af:=hb2.cell x.toNat;have ko:(EK.map str)[x.toNat]? =some (str t):=by rw[qaD,k7.o];rfl
 have rI:((EK.map str).toArray)[x.toNat]? =some (str t):=by rw[qbL];exact ko
 replace af:=af.trans rI
 have HTP:=J ny;have HK:=J (((KB.refl w.heap.size g w).ext ah.o (qad _)).trans (hk w.heap.size));clear ny hk hb2 ko rI;go_wp2_with fail;go_ret;exact⟨t,rfl,HC.o.1,HC.o.2,HTP.o,HK.o⟩
def Al(k:Int):Int:=if k<1\/16<k then-1 else if k<=4 then 0 else if 6<=k/\k<=9 then 2 else 1
theorem Bf(w:World)(k:Int):Calls Tryz.prog 87 #[.int .i64 k] w fun e w'=>e= .returned (.int .i64 (Al k))/\w=w':=by
 have key:(k<1/\Al k= -1)\/(¬k<1/\16<k/\Al k= -1)\/(¬k<1/\¬16<k/\k<=4/\Al k=0)\/(¬k<1/\¬16<k/\¬k<=4/\6<=k/\k<=9/\Al k=2)\/(¬k<1/\¬16<k/\¬k<=4/\¬6<=k/\Al k=1)\/(¬k<1/\¬16<k/\¬k<=4/\6<=k/\¬k<=9/\Al k=1):=by
  unfold Al;by_cases h1:k<1
  ·simp[h1]
  by_cases h2:16<k
  ·simp[h1,h2]
  by_cases h3:k<=4
  ·simp[h1,h2,h3]
  by_cases h4:6<=k
  ·by_cases h5:k<=9
   ·simp[h1,h2,h3,h4,h5]
   ·simp[h1,h2,h3,h4,h5]
  ·simp[h1,h2,h3,h4]
 rcases key with ⟨h1,h⟩|⟨h1,h2,h⟩|⟨h1,h2,h3,h⟩|⟨h1,h2,h3,h4,h5,h⟩|⟨h1,h2,h3,h4,h⟩|⟨h1,h2,h3,h4,h5,h⟩
 all_goals
  have H:=J h;clear h;go_enter Tryz.func87,Tryz.ntmps87;go_wp2_with fail;go_ret;exact⟨by rw[H.o];rfl,rfl⟩
def Cr(x:Nd):Bool:=if x.kind=1 then Bz x.text == 0 else if x.kind=2 then CQ x.text else x.text == []
def Cb(x:Nd):Bool:=if x.kind=10 then decide (-64<=x.n/\x.n<=64) else x.n == 0
def AA(x:Nd):Bool:=Cr x && Cb x
def AU(S D:List Nat)(x:Nd):Option (Nat × Nat):=
 if Al x.kind<0\/AA x=false\/(Al x.kind<1/\x.a≠0)\/(Al x.kind<2/\x.b≠0) then none
 else if Al x.kind=0 then some (1,1)
 else if Al x.kind=1 then
  (if x.a≠(S.length:Int)-1\/x.a<0 then none else some (S.getD x.a.toNat 0+1,max 1 (D.getD x.a.toNat 0+1)))
 else if x.b≠(S.length:Int)-1\/x.b<0 then none
 else if x.a≠(S.length:Int)-((S.getD x.b.toNat 0+1:Nat):Int)\/x.a<0 then none
 else some (S.getD x.b.toNat 0+1+S.getD x.a.toNat 0,max (max 1 (D.getD x.b.toNat 0+1)) (D.getD x.a.toNat 0+1))
def Gw:List Nat->List Nat->List Nd->Option (List Nat × List Nat)
 |S,D,[]=>some (S,D)
 |S,D,x::t=>match AU S D x with
  |none=>none
  |some (s,d)=>Gw (S++[s]) (D++[d]) t
def Ez(l:List Nd):Option (List Nat × List Nat):=match Gw [] [] l with
 |none=>none
 |some (S,D)=>if l.length=0\/S.getD (l.length-1) 0≠l.length then none else some (S,D)
def FA(l:List Nd):Bool:=decide (1<=l.length/\l.length<=200) && match Ez l with
 |none=>false
 |some (_,D)=>decide (D.getD (l.length-1) 0<=40)
theorem FB(l m:List Nd):∀S D,Gw S D (l++m)=(match Gw S D l with|none=>none|some (S',D')=>Gw S' D' m):=by
 induction l with
 |nil=>intro S D;rfl
 |cons x t ih=>
  intro S D;rw[qbt,Gw,Gw];cases AU S D x with
  |none=>rfl
  |some p=>exact ih _ _
def szE:Ex->List Nat
 | .leaf _ _=>[1]
 | .un _ _ x=>szE x++[x.size+1]
 | .bin _ x y=>szE x++szE y++[x.size+y.size+1]
def dpE:Ex->List Nat
 | .leaf _ _=>[1]
 | .un _ _ x=>dpE x++[x.depth+1]
 | .bin _ x y=>dpE x++dpE y++[max x.depth y.depth+1]
theorem E8(e:Ex):(szE e).length=e.size:=by
 induction e with
 |leaf k t=>rfl
 |un k n x ih=>rw[szE,qab,ih];rfl
 |bin k x y ihx ihy=>rw[szE,qab,qab,ihx,ihy];rfl
theorem IS(e:Ex):(dpE e).length=e.size:=by
 induction e with
 |leaf k t=>rfl
 |un k n x ih=>rw[dpE,qab,ih];rfl
 |bin k x y ihx ihy=>rw[dpE,qab,qab,ihx,ihy];rfl
theorem Df{L M:List Nat}{x:Nat}{i:Nat}(h:i=L.length+M.length):(L++(M++[x])).getD i 0=x:=by
 subst h;rw[qac,qao (by omega),qbq,qao (qad _),qaX];rfl
theorem GN(e:Ex)(L:List Nat)(i:Nat)(h:i+1=L.length+e.size):(L++szE e).getD i 0=e.size:=by
 cases e with
 |leaf k t=>exact Df (M:=[]) (by have h2:i+1=L.length+1:=h;simp;omega)
 |un k n x=>rw[szE];have:=E8 x;exact Df (by have h2:i+1=L.length+(x.size+1):=h;omega)
 |bin k x y=>rw[szE];have:=E8 x;have:=E8 y;exact Df (by have h2:i+1=L.length+(x.size+y.size+1):=h;rw[qab];omega)
theorem G8(e:Ex)(L:List Nat)(i:Nat)(h:i+1=L.length+e.size):(L++dpE e).getD i 0=e.depth:=by
 cases e with
 |leaf k t=>exact Df (M:=[]) (by have h2:i+1=L.length+1:=h;simp;omega)
 |un k n x=>rw[dpE];have:=IS x;exact Df (by have h2:i+1=L.length+(x.size+1):=h;omega)
 |bin k x y=>rw[dpE];have:=IS x;have:=IS y;exact Df (by have h2:i+1=L.length+(x.size+y.size+1):=h;rw[qab];omega)
theorem Ga{L M:List Nat}{i:Nat}(h:i<L.length):(L++M).getD i 0=L.getD i 0:=by
 rw[qac,qac,qaC h]
theorem R7{k:Nat}{n:Int}{x:Ex}(h:(Ex.un k n x).Good)(a b:Int):AA ⟨(k:Int),a,b,n,[]⟩=true:=by
 obtain⟨h1,h2,h3,h4,_⟩:=h;unfold AA Cr Cb;rw[if_neg (by simp only;omega),if_neg (by simp only;omega)];by_cases hk:k=10
 ·subst hk;simp;omega
 ·rw[if_neg (by simp only;omega)];simp[h2 hk]
theorem PQ(e:Ex)(hg:e.Good):∀S D:List Nat,D.length=S.length->Gw S D (Ag S.length e)=some (S++szE e,D++dpE e):=by
 induction e with
 |leaf k t=>
  intro S D hD;have h1:AU S D ⟨(k:Int),0,0,0,t⟩=some (1,1):=by
   have hk:1<=k/\k<=4:=by unfold Ex.Good at hg;omega
   have ho:Al (k:Int)=0:=by unfold Al;rw[if_neg (by omega),if_pos (by omega)]
   have hp:AA ⟨(k:Int),0,0,0,t⟩=true:=by
    unfold AA Cr Cb;rw[if_neg (c:=(k:Int)=10) (by omega)];rcases hg with ⟨rfl,h,_⟩|⟨rfl,h⟩|⟨h,rfl⟩
    ·simp[h]
    ·simp[h]
    ·rw[if_neg (by simp only;omega),if_neg (by simp only;omega)];rfl
   unfold AU;rw[ho,hp];simp
  rw[Ag,Gw,h1];rfl
 |un k n x ih=>
  intro S D hD;have hx:=hg.2.2.2.2;have hz:=x.size_pos;have hk:=hg.1;have ho:Al (k:Int)=1:=by unfold Al;rw[if_neg (by omega),if_neg (by omega),if_neg (by omega)]
  rw[Ag,FB,ih hx S D hD];have h1:AU (S++szE x) (D++dpE x) ⟨(k:Int),((S.length+x.size-1:Nat):Int),0,n,[]⟩=some (x.size+1,x.depth+1):=by
   have h2:=GN x S (S.length+x.size-1) (by omega);have h3:=G8 x D (S.length+x.size-1) (by omega);unfold AU;simp only[ho,R7 hg,qaq,h2,h3,qab,E8];rw[if_neg (by simp),if_neg (by decide),if_pos trivial,if_neg (by omega),Nat.max_eq_right (by omega)]
  simp only[Gw,h1];simp[szE,dpE]
 |bin k x y ihx ihy=>
  intro S D hD;have hx:=hg.2.1;have hy:=hg.2.2;have hz:=x.size_pos;have aU:=y.size_pos;have hk:=hg.1;have ho:Al (k:Int)=2:=by unfold Al;rw[if_neg (by omega),if_neg (by omega),if_pos (by omega)]
  have hp:AA ⟨(k:Int),((S.length+x.size-1:Nat):Int),((S.length+x.size+y.size-1:Nat):Int),0,[]⟩=true:=by
   unfold AA Cr Cb;rw[if_neg (by simp only;omega),if_neg (by simp only;omega),if_neg (by simp only;omega)];rfl
  have hl:S.length+x.size=(S++szE x).length:=by rw[qab,E8]
  have hl2:D.length+x.size=(D++dpE x).length:=by rw[qab,IS]
  have h0:=ihy hy (S++szE x) (D++dpE x) (by rw[<-hl,<-hl2,hD]);rw[Ag,FB,ihx hx S D hD];simp only;rw[FB,hl,h0,<-hl];have h1:AU ((S++szE x)++szE y) ((D++dpE x)++dpE y) ⟨(k:Int),((S.length+x.size-1:Nat):Int),((S.length+x.size+y.size-1:Nat):Int),0,[]⟩=some (x.size+y.size+1,max x.depth y.depth+1):=by
   have h2:=GN y (S++szE x) (S.length+x.size+y.size-1) (by omega);have h3:=G8 y (D++dpE x) (S.length+x.size+y.size-1) (by omega);have h4:=(Ga (L:=S++szE x) (M:=szE y) (i:=S.length+x.size-1) (by omega)).trans (GN x S (S.length+x.size-1) (by omega));have h5:=(Ga (L:=D++dpE x) (M:=dpE y) (i:=S.length+x.size-1) (by omega)).trans (G8 x D (S.length+x.size-1) (by omega));unfold AU;simp only[ho,hp,qaq,h2,h3,h4,h5];rw[if_neg (by simp),if_neg (by decide),if_neg (by decide),if_neg (by rw[qab,<-hl,E8];omega),if_neg (by rw[qab,<-hl,E8];omega)]
   congr 2
   ·omega
   ·omega
  simp only[Gw,h1];simp[szE,dpE]
theorem Ew(e:Ex)(hg:e.Good):FA (Ag 0 e)=decide (e.size<=200/\e.depth<=40):=by
 have h:=PQ e hg [] [] rfl;have hz:=e.size_pos;have h1:=GN e [] (e.size-1) (by simp;omega);have h2:=G8 e [] (e.size-1) (by simp;omega);rw[qaG]at h h1 h2;rw[qaG,qaE]at h;unfold FA Ez;rw[h,Ak];simp only[h1];rw[if_neg (by omega)];simp only[h2];rw[<-Bool.decide_and,decide_eq_decide];omega
structure O3 (S D:List Nat):Prop where
 len:D.length=S.length
 size:∀j,j<S.length->S.getD j 0<=j+1
 depth:∀j,j<S.length->D.getD j 0<=j+1
theorem O3.nil:O3 [] []:=⟨rfl,fun j h=>by simp at h,fun j h=>by simp at h⟩
theorem O3.step{S D:List Nat}{x:Nd}{s d:Nat}(h:O3 S D)(hs:AU S D x=some (s,d)):s<=S.length+1/\d<=S.length+1/\O3 (S++[s]) (D++[d]):=by
 have key:s<=S.length+1/\d<=S.length+1:=by
  unfold AU at hs;split at hs
  ·cases hs
  ·split at hs
   ·injection hs with hs;injection hs with h1 h2;omega
   ·split at hs
    ·split at hs
     ·cases hs
     ·rename_i hc;injection hs with hs
      injection hs with h1 h2
      have:=h.size x.a.toNat (by omega);have:=h.depth x.a.toNat (by omega);omega
    ·split at hs
     ·cases hs
     ·rename_i hc;have q1:=h.size x.b.toNat (by omega);have q2:=h.depth x.b.toNat (by omega);split at hs
      ·cases hs
      ·rename_i dG;injection hs with hs
       injection hs with h1 h2
       have q3:=h.size x.a.toNat (by omega);have q4:=h.depth x.a.toNat (by omega);omega
 refine⟨key.1,key.2,?_,fun j hj=> ?_,fun j hj=> ?_⟩
 ·rw[qab,qab,h.len];rfl
 ·rw[qab,qae]at hj;rcases qam j S.length with h1|h1
  ·rw[Ga h1];exact h.size j h1
  ·have h2:=Df (L:=S) (M:=[]) (x:=s) (i:=j) (by simp;omega);rw[qaG]at h2;rw[h2];omega
 ·rw[qab,qae]at hj;rcases qam j S.length with h1|h1
  ·rw[Ga (by rw[h.len];exact h1)];exact h.depth j h1
  ·have h2:=Df (L:=D) (M:=[]) (x:=d) (i:=j) (by rw[h.len];simp;omega);rw[qaG]at h2;rw[h2];omega
end Big
end Go.Proofs.YtkoaogkknnelaaaGreatDoor
