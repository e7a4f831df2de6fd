import Derived.Lib.SlicesCompact
import Derived.Test.YtkoaogkknnelaaaGreatDoorM26
set_option linter.unusedVariables false
set_option linter.unusedSimpArgs false
set_option maxHeartbeats 4000000
set_option maxRecDepth 100000
namespace Go.Proofs.YtkoaogkknnelaaaGreatDoor
namespace Big
open Lib renaming hid → J
abbrev Tx:=List UInt8
theorem Bt(a:Tx):¬a<a:=List.lt_irrefl a
theorem Ep{a b c:Tx}(h:a<b)(h':b<c):a<c:=List.lt_trans h h'
theorem L3{a b:Tx}(h:a<b):¬b<a:=fun h'=>Bt a (Ep h h')
theorem Dp{a b:Tx}(h:a<=b)(hne:a≠b):a<b:=by
 rcases Decidable.em (a<b) with h1|h1
 ·exact h1
 ·exact absurd (List.le_antisymm h (List.not_lt.1 h1)) hne
def Asc(l:List Tx):Prop:=l.Pairwise (·<·)
theorem Hl:∀{l m:List Tx},Asc l->Asc m->(∀x,x∈l↔x∈m)->l=m
 |[],[],_,_,_=>rfl
 |[],y::m,_,_,h=>absurd ((h y).2 (by simp)) (by simp)
 |x::l,[],_,_,h=>absurd ((h x).1 (by simp)) (by simp)
 |x::l,y::m,hl,hm,h=>by
  unfold Asc at hl hm;rw[List.pairwise_cons]at hl hm;have e:x=y:=by
   rcases List.mem_cons.1 ((h x).1 (by simp)) with e|e
   ·exact e
   ·rcases List.mem_cons.1 ((h y).2 (by simp)) with e'|e'
    ·exact e'.symm
    ·exact absurd (hm.1 x e) (L3 (hl.1 y e'))
  subst e;refine congrArg (x::·) (Hl hl.2 hm.2 fun z=>⟨fun hz=> ?_,fun hz=> ?_⟩)
  ·rcases List.mem_cons.1 ((h z).1 (List.mem_cons_of_mem _ hz)) with e|e
   ·exact absurd (hl.1 z hz) (by rw[e];exact Bt x)
   ·exact e
  ·rcases List.mem_cons.1 ((h z).2 (List.mem_cons_of_mem _ hz)) with e|e
   ·exact absurd (hm.1 z hz) (by rw[e];exact Bt x)
   ·exact e
def Eg(s:Tx):List Tx->List Tx
 |[]=>[s]
 |x::xs=>if x<s then x::Eg s xs else if x=s then x::xs else s::x::xs
theorem JE{s z:Tx}:∀{l:List Tx},z∈Eg s l↔z=s\/z∈l
 |[]=>by simp[Eg]
 |x::xs=>by
  unfold Eg;split
  ·rw[List.mem_cons,JE,List.mem_cons];constructor
   ·rintro(h|h|h)<;>simp[h]
   ·rintro(h|h|h)<;>simp[h]
  ·split
   ·rename_i h;subst h;constructor
    ·intro h;exact .inr h
    ·rintro(h|h)
     ·rw[h];simp
     ·exact h
   ·simp[List.mem_cons]
theorem Ng{s:Tx}:∀{l:List Tx},Asc l->Asc (Eg s l)
 |[],_=>by simp[Eg,Asc]
 |x::xs,h=>by
  unfold Asc at h;rw[List.pairwise_cons]at h;unfold Eg;split
  ·rename_i hx;unfold Asc;rw[List.pairwise_cons];refine⟨fun z hz=> ?_,Ng h.2⟩;rcases JE.1 hz with rfl|hz
   ·exact hx
   ·exact h.1 z hz
  ·split
   ·unfold Asc;rw[List.pairwise_cons];exact h
   ·rename_i h1 h2;have hlt:s<x:=Dp (List.not_lt.1 h1) (fun e=>h2 e.symm);unfold Asc;rw[List.pairwise_cons,List.pairwise_cons];refine⟨fun z hz=> ?_,h⟩;rcases List.mem_cons.1 hz with rfl|hz
    ·exact hlt
    ·exact Ep hlt (h.1 z hz)
def BQ(l:List Tx):List Tx:=l.foldl (fun out s=>Eg s out) []
theorem K3{l:List Tx}:∀{out:List Tx},Asc out->Asc (l.foldl (fun out s=>Eg s out) out)/\∀z,z∈l.foldl (fun out s=>Eg s out) out↔z∈l\/z∈out:=by
 induction l with
 |nil=>intro out h;exact⟨h,fun z=>by simp⟩
 |cons x l ih=>
  intro out h;obtain⟨h1,h2⟩:=ih (Ng (s:=x) h);refine⟨h1,fun z=> ?_⟩;rw[List.foldl_cons,h2,JE,List.mem_cons];constructor
  ·rintro(h|h|h)<;>simp[h]
  ·rintro((h|h)|h)<;>simp[h]
theorem Gj(l:List Tx):Asc (BQ l):=(K3 (l:=l) (out:=[]) (by simp[Asc])).1
theorem Ce{l:List Tx}{z:Tx}:z∈BQ l↔z∈l:=by
 have:=(K3 (l:=l) (out:=[]) (by simp[Asc])).2 z;unfold BQ
 simpa using this
theorem GV(l:List Tx):(l.mergeSort fun x y=>decide (x<=y)).Pairwise (·<=·):=by
 have:=List.pairwise_mergeSort (le:=fun x y:Tx=>decide (x<=y)) (fun a b c h1 h2=>decide_eq_true (List.le_trans (of_decide_eq_true h1) (of_decide_eq_true h2))) (fun a b=>by
  rcases List.le_total a b with h|h
  ·simp[h]
  ·simp[h]) l
 exact this.imp fun h=>of_decide_eq_true h
def Cf(x:Nd):List Nat:=if x.kind<5 then [] else if 6<=x.kind/\x.kind<=9 then [x.a.toNat,x.b.toNat] else [x.a.toNat]
def B7(ns:List Nd)(i:Nat):List Nat:=match ns[i]? with
 |some x=>Cf x
 |none=>[]
theorem Aw.args_lt{ns:List Nd}(hs:Aw ns){i a:Nat}(h:a∈B7 ns i):a<i:=by
 unfold B7 at h;cases hx:ns[i]? with
 |none=>rw[hx]at h;cases h
 |some x=>
  rw[hx]at h;simp only at h;rcases hs.2 i x hx with ⟨k,t,rfl,ho⟩|⟨k,n,j,rfl,ho,hj⟩|⟨k,j,q,rfl,hk,hj,hq⟩
  ·unfold Cf at h;rw[if_pos (by rcases ho with ⟨h,_⟩|⟨h,_⟩|⟨h,_⟩<;>simp only<;>omega)]at h;cases h
  ·unfold Cf at h;have:=ho.1;rw[if_neg (by simp only;omega),if_neg (by simp only;omega)]at h;simp only[Int.toNat_natCast,List.mem_singleton]at h;omega
  ·unfold Cf at h;rw[if_neg (by simp only;omega),if_pos (by simp only;omega)]at h;simp only[Int.toNat_natCast,List.mem_cons,List.not_mem_nil,or_false]at h;omega
inductive Bj (ns:List Nd) (i:Nat):Nat->Prop where
 |here:Bj ns i i
 |down {j a:Nat}:Bj ns i j->a∈B7 ns j->Bj ns i a
theorem Bj.le{ns:List Nd}(hs:Aw ns){i j:Nat}(h:Bj ns i j):j<=i:=by
 induction h with
 |here=>exact Nat.le_refl _
 |down _ ha ih=>have:=hs.args_lt ha;omega
theorem Bj.trans{ns:List Nd}{i j q:Nat}(h:Bj ns i j)(k:Bj ns j q):Bj ns i q:=by
 induction k with
 |here=>exact h
 |down _ ha ih=>exact ih.down ha
def BL(F:List Bool):List Nat->List Bool
 |[]=>F
 |a::l=>BL (F.set a true) l
theorem C7(l:List Nat):∀F:List Bool,(BL F l).length=F.length:=by
 induction l with
 |nil=>intro F;rfl
 |cons a l ih=>intro F;rw[BL,ih,List.length_set]
theorem H6(F:List Bool)(a j:Nat):(F.set a true).getD j false=(decide (j=a/\a<F.length) || F.getD j false):=by
 rw[List.getD_eq_getElem?_getD,List.getD_eq_getElem?_getD,List.getElem?_set];by_cases h:a=j
 ·subst h;rw[if_pos rfl];by_cases hl:a<F.length
  ·simp[hl]
  ·rw[if_neg hl,List.getElem?_eq_none (by omega)];simp[hl]
 ·rw[if_neg h];simp[Ne.symm h]
theorem IC(l:List Nat):∀(F:List Bool) (j:Nat),j<F.length->(BL F l).getD j false=(decide (j∈l) || F.getD j false):=by
 induction l with
 |nil=>intro F j _;simp[BL]
 |cons a l ih=>
  intro F j hj;rw[BL,ih _ j (by rw[List.length_set];exact hj),H6];by_cases h1:j=a
  ·subst h1;simp[hj]
  ·simp[h1]
def Gv(ns:List Nd)(i:Nat)(F:List Bool):List Bool:=if F.getD i false then BL F (B7 ns i) else F
theorem HJ(ns:List Nd)(i:Nat)(F:List Bool):(Gv ns i F).length=F.length:=by
 unfold Gv;split
 ·exact C7 _ _
 ·rfl
def CR(ns:List Nd)(i m:Nat)(F:List Bool):Prop:=i<F.length/\F.length<=ns.length/\∀j,j<F.length->(F.getD j false=true↔j=i\/∃q,m<=q/\Bj ns i q/\j∈B7 ns q)
theorem CR.start{ns:List Nd}(hs:Aw ns){i:Nat}{F:List Bool}(hi:i<F.length)(hF:F.length<=ns.length)(h:∀j,j<F.length->(F.getD j false=true↔j=i)):CR ns i (i+1) F:=
 ⟨hi,hF,fun j hj=>(h j hj).trans ⟨.inl,fun h=>by
  rcases h with h|⟨q,hq,hr,_⟩
  ·exact h
  ·have:=hr.le hs;omega⟩⟩
theorem CR.here{ns:List Nd}(hs:Aw ns){i m:Nat}{F:List Bool}(h:CR ns i (m+1) F)(hm:m<F.length):F.getD m false=true↔Bj ns i m:=by
 rw[h.2.2 m hm];constructor
 ·rintro(rfl|⟨q,_,hr,ha⟩)
  ·exact .here
  ·exact hr.down ha
 ·intro hr;cases hr with
  |here=>exact .inl rfl
  | @down j _ hr ha=>exact .inr ⟨j,by have:=hs.args_lt ha;omega,hr,ha⟩
theorem CR.step{ns:List Nd}(hs:Aw ns){i m:Nat}{F:List Bool}(h:CR ns i (m+1) F)(hm:m<F.length):CR ns i m (Gv ns m F):=by
 have hh:=h.here hs hm;refine⟨by rw[HJ];exact h.1,by rw[HJ];exact h.2.1,fun j hj=> ?_⟩;rw[HJ]at hj;unfold Gv;by_cases hr:Bj ns i m
 ·rw[if_pos (hh.2 hr),IC _ _ _ hj,Bool.or_eq_true,decide_eq_true_eq,h.2.2 j hj];constructor
  ·rintro(ha|ha|⟨q,hq,hr2,ha⟩)
   ·exact .inr ⟨m,Nat.le_refl _,hr,ha⟩
   ·exact .inl ha
   ·exact .inr ⟨q,by omega,hr2,ha⟩
  ·rintro(ha|⟨q,hq,hr2,ha⟩)
   ·exact .inr (.inl ha)
   ·rcases Nat.eq_or_lt_of_le hq with e|e
    ·subst e;exact .inl ha
    ·exact .inr (.inr ⟨q,e,hr2,ha⟩)
 ·have hf:F.getD m false=false:=by
   cases hc:F.getD m false with
   |false=>rfl
   |true=>exact absurd (hh.1 hc) hr
  rw[hf];simp only[Bool.false_eq_true,if_false];rw[h.2.2 j hj];constructor
  ·rintro(ha|⟨q,hq,hr2,ha⟩)
   ·exact .inl ha
   ·exact .inr ⟨q,by omega,hr2,ha⟩
  ·rintro(ha|⟨q,hq,hr2,ha⟩)
   ·exact .inl ha
   ·rcases Nat.eq_or_lt_of_le hq with e|e
    ·subst e;exact absurd hr2 hr
    ·exact .inr ⟨q,e,hr2,ha⟩
theorem CR.done{ns:List Nd}{i:Nat}{F:List Bool}(h:CR ns i 0 F):∀j,j<F.length->(F.getD j false=true↔Bj ns i j):=by
 intro j hj;rw[h.2.2 j hj];constructor
 ·rintro(rfl|⟨q,_,hr,ha⟩)
  ·exact .here
  ·exact hr.down ha
 ·intro hr;cases hr with
  |here=>exact .inl rfl
  | @down q _ hr ha=>exact .inr ⟨q,Nat.zero_le _,hr,ha⟩
def AB(ns:List Nd)(i:Nat)(t:Tx):Prop:=∃j x,Bj ns i j/\ns[j]? =some x/\x.kind=2/\x.text=t
def Cr:Ex->List Tx
 | .leaf k t=>if k=2 then [t] else []
 | .un _ _ x=>Cr x
 | .bin _ x y=>Cr x++Cr y
theorem QK{ns:List Nd}{i k:Nat}{t:Tx}(h:ns[i]? =some ⟨(k:Int),0,0,0,t⟩)(hk:k<5):B7 ns i=[]:=by
 unfold B7;rw[h];simp only[Cf];rw[if_pos (by omega)]
theorem Pg{ns:List Nd}{i j k:Nat}{n:Int}(h:ns[i]? =some ⟨(k:Int),(j:Int),0,n,[]⟩)(hk:k=5\/(10<=k/\k<=16)):B7 ns i=[j]:=by
 unfold B7;rw[h];simp only[Cf];rw[if_neg (by omega),if_neg (by omega),Int.toNat_natCast]
theorem J3{ns:List Nd}{i j q k:Nat}(h:ns[i]? =some ⟨(k:Int),(j:Int),(q:Int),0,[]⟩)(hk:6<=k/\k<=9):B7 ns i=[j,q]:=by
 unfold B7;rw[h];simp only[Cf];rw[if_neg (by omega),if_pos (by omega),Int.toNat_natCast,Int.toNat_natCast]
theorem Bj.split{ns:List Nd}{i j:Nat}:Bj ns i j↔i=j\/∃a∈B7 ns i,Bj ns a j:=by
 constructor
 ·intro h
  induction h with
  |here=>exact .inl rfl
  | @down p b hp hb ih=>
    rcases ih with rfl|⟨a,ha,hr⟩
    ·exact .inr ⟨b,hb,.here⟩
    ·exact .inr ⟨a,ha,hr.down hb⟩
 ·rintro(rfl|⟨a,ha,hr⟩)
  ·exact .here
  ·exact(Bj.here.down ha).trans hr
theorem DL{ns:List Nd}{t:Tx}:∀{e:Ex} {i:Nat},e.Good->Rep ns i e->(AB ns i t↔t∈Cr e):=by
 intro e
 induction e with
 |leaf k u=>
  intro i hg hr;have hk:k<5:=by rcases hg with ⟨h,_⟩|⟨h,_⟩|⟨h,_⟩<;>omega
  have hx:ns[i]? =some ⟨(k:Int),0,0,0,u⟩:=hr
  have ha:=QK hx hk;unfold AB Cr;constructor
  ·rintro⟨j,x,hj,au,hk2,rfl⟩;rcases Bj.split.1 hj with rfl|⟨a,ha2,_⟩
   ·rw[hx]at au;injection au with au
    subst au;simp only at hk2;rw[if_pos (by omega)];simp
   ·rw[ha]at ha2;cases ha2
  ·intro h;split at h
   ·rename_i hk2;rw[List.mem_singleton]at h;subst h;exact⟨i,_,.here,hx,by simp only;omega,rfl⟩
   ·cases h
 |un k n x ih=>
  intro i hg hr;obtain⟨j,hj,hx⟩:=hr;have ha:=Pg hx hg.1;rw[Cr,<-ih hg.2.2.2.2 hj];unfold AB;constructor
  ·rintro⟨q,y,hq,hy,hk2,rfl⟩;rcases Bj.split.1 hq with rfl|⟨a,ha2,hr2⟩
   ·rw[hx]at hy;injection hy with hy
    subst hy;simp only at hk2;have:=hg.1;omega
   ·rw[ha,List.mem_singleton]at ha2;subst ha2;exact⟨q,y,hr2,hy,hk2,rfl⟩
  ·rintro⟨q,y,hq,hy,hk2,rfl⟩;exact⟨q,y,Bj.split.2 (.inr ⟨j,by rw[ha];simp,hq⟩),hy,hk2,rfl⟩
 |bin k x y ihx ihy=>
  intro i hg hr;obtain⟨j,p,hj,hp,hx⟩:=hr;have ha:=J3 hx hg.1;rw[Cr,List.mem_append,<-ihx hg.2.1 hj,<-ihy hg.2.2 hp];unfold AB;constructor
  ·rintro⟨q,z,hq,hz,hk2,rfl⟩;rcases Bj.split.1 hq with rfl|⟨a,ha2,hr2⟩
   ·rw[hx]at hz;injection hz with hz
    subst hz;simp only at hk2;have:=hg.1;omega
   ·rw[ha]at ha2;simp only[List.mem_cons,List.not_mem_nil,or_false]at ha2;rcases ha2 with rfl|rfl
    ·exact .inl ⟨q,z,hr2,hz,hk2,rfl⟩
    ·exact .inr ⟨q,z,hr2,hz,hk2,rfl⟩
  ·rintro(⟨q,z,hq,hz,hk2,rfl⟩|⟨q,z,hq,hz,hk2,rfl⟩)
   ·exact⟨q,z,Bj.split.2 (.inr ⟨j,by rw[ha];simp,hq⟩),hz,hk2,rfl⟩
   ·exact⟨q,z,Bj.split.2 (.inr ⟨p,by rw[ha];simp,hq⟩),hz,hk2,rfl⟩
theorem Aw.load{ns:List Nd}(h:Aw ns){i:Nat}(hi:i<ns.length):AN (ns.take i) ns[i]=(i,ns.take (i+1)):=by
 have hno:ns[i]∉ns.take i:=by
  intro hm;obtain⟨j,hj,he⟩:=List.getElem_of_mem hm;rw[List.length_take]at hj;rw[List.getElem_take]at he;have:=KO h.1 (by omega) hi he;omega
 unfold AN;rw[if_neg hno,List.length_take,Nat.min_eq_left (by omega),List.take_append_getElem hi]
theorem Aw.take{ns:List Nd}(h:Aw ns)(i:Nat):Aw (ns.take i):=h.pre (List.take_prefix i ns)
theorem CP.plain{i:Nat}{x:Nd}(h:CP i x):Ay x=true:=by
 rcases h with ⟨k,t,rfl,ho⟩|⟨k,n,j,rfl,ho,hj⟩|⟨k,j,q,rfl,hk,hj,hq⟩
 ·have hk:1<=k/\k<=4:=by rcases ho with ⟨h,_⟩|⟨h,_⟩|⟨h,_⟩<;>omega
  unfold Ay Ch B4;rw[if_neg (c:=(k:Int)=10) (by omega)];rcases ho with ⟨rfl,h,_⟩|⟨rfl,h⟩|⟨h,rfl⟩
  ·simp[h]
  ·simp[h]
  ·rw[if_neg (by simp only;omega),if_neg (by simp only;omega)];rfl
 ·obtain⟨h1,h2,h3,h4⟩:=ho;unfold Ay Ch B4;rw[if_neg (by simp only;omega),if_neg (by simp only;omega)];by_cases hk:k=10
  ·subst hk;simp[h3,h4]
  ·rw[if_neg (by simp only;omega)];simp[h2 hk]
 ·unfold Ay Ch B4;rw[if_neg (by simp only;omega),if_neg (by simp only;omega),if_neg (by simp only;omega)];rfl
theorem Lz{x:Nd}{l:List Nd}{i:Nat}(hi:i<l.length)(hx:l[i]=x)(h:∀j (hj:j<l.length),j<i->l[j]≠x):Cq x l=i:=by
 induction l generalizing i with
 |nil=>simp at hi
 |cons y l ih=>
  rw[FM];cases i with
  |zero=>
   simp only[List.getElem_cons_zero]at hx;rw[if_pos hx]
  |succ i=>
   have h0:=h 0 (by simp) (by omega);simp only[List.getElem_cons_zero]at h0;rw[if_neg h0,ih (by simpa using hi) (by simpa using hx) (fun j hj r7=>by
    have:=h (j+1) (by simpa using hj) (by omega)
    simpa using this)]
def Dw(ns:List Nd)(i:Nat)(l:List Tx):Prop:=Asc l/\∀t,t∈l↔AB ns i t
theorem Dw.uniq{ns:List Nd}{i:Nat}{l m:List Tx}(h:Dw ns i l)(h':Dw ns i m):l=m:=
 Hl h.1 h'.1 (fun t=>(h.2 t).trans (h'.2 t).symm)
open Go.RowKit
structure GrR (B g:Nat) (w:World) (ns:List Nd) (rv:Value):Prop where
 blk:Blk w g 71 #[rv]
 row:Ak B w rv ns
 lo:B<=g
 ok:Aw ns
 few:ns.length<=4096
theorem GrR.lt{B g:Nat}{w:World}{ns:List Nd}{rv:Value}(h:GrR B g w ns rv):g<w.heap.size:=h.blk.lt
theorem GrR.keep{B g:Nat}{w w':World}{ns:List Nd}{rv:Value}(h:GrR B g w ns rv)(hx:Ext w w'):GrR B g w' ns rv:=
 ⟨h.blk.ext hx,h.row.ext hx,h.lo,h.ok,h.few⟩
theorem GrR.apart2{B g:Nat}{w:World}{ns:List Nd}{rv:Value}(h:GrR B g w ns rv):rv.ownBlock≠some g:=by
 intro e;have hb:=h.blk;have hr:=h.row;unfold Ak at hr;unfold Blk at hb;rcases hr.2 with ⟨rfl,_⟩|⟨q,cap,cur,rfl,_,hh,_⟩
 ·cases e
 ·simp only[Value.ownBlock,Option.some.injEq]at e;subst e;rw[hb]at hh;injection hh with hh
  injection hh with _ hh _
  exact absurd hh (by decide)
theorem KG.belowR{B g:Nat}{n1 n2:Value}{w w':World}{ns:List Nd}(h:KG g g n1 n2 w w')(hr:GrR B g w ns n1):Below B w w':=
 ⟨h.os,h.tape,h.output,h.size,fun k hk=>by
  have h1:=hr.blk.lt;have h2:=hr.lo;exact h.block k (by omega) (by omega) (by omega) (fun e=>by have:=AC hr.row k e;omega)⟩
theorem Blk.oneG{w:World}{g:Nat}{t:TypeId}{a:Value}(h:Blk w g t #[a]):w.cell? ⟨g,0,none⟩=some a/\w.frozen? ⟨g,0,none⟩=false/\g<w.heap.size:=
 ⟨h.cell 0,h.frozen 0,h.lt⟩
theorem Cg.newR{B g:Nat}{rv:Value}{w0 w:World}{v:Value}{l ns:List Nd}(h:Ak w0.heap.size w v l)(hg:GrR B g w0 ns rv):Cg g g rv w v l:=by
 obtain⟨A,c,hv,h1⟩:=h.read;refine⟨A,c,hv,fun hp=> ?_⟩;obtain⟨q,o,rfl,hq,hc⟩:=h1 hp;have dU:=AC h q (by rw[hv];rfl);have h2:=hg.lt;exact⟨q,o,rfl,hq,by omega,by omega,fun e=>by have:=Ax hg.row e;omega,hc⟩
theorem OH(w:World)(k a b n:Int)(s:ByteArray)(hk:Ap k=0):
  Calls Tryz.prog 85 #[.agg #[.int .i64 k,.int .i64 a,.int .i64 b,.int .i64 n,.string s]] w fun e w'=>e= .returned (.slice none 0 0)/\Ext w w':=by
 have HO:=J (fun W=>Bx W k);rw[hk]at HO;clear hk;go_enter Tryz.func85,Tryz.ntmps85;go_wp2_with fail;refine(HO.o _).mono ?_
 rintro e w1 ⟨rfl,rfl⟩;go_wp2_with fail;go_ret;exact⟨rfl,(Ext.refl w).alloc _⟩
theorem R9(w:World)(k a b n:Int)(s:ByteArray)(hk:Ap k=1):
  Calls Tryz.prog 85 #[.agg #[.int .i64 k,.int .i64 a,.int .i64 b,.int .i64 n,.string s]] w fun e w'=>∃b,e= .returned (.slice (some ⟨b,0,none⟩) 1 1)/\w'.cell? ⟨b,0,none⟩=some (.int .i64 a)/\w.heap.size<=b/\b<w'.heap.size/\Ext w w':=by
 have HO:=J (fun W=>Bx W k);rw[hk]at HO;clear hk;go_enter Tryz.func85,Tryz.ntmps85;go_wp2_with fail;refine(HO.o _).mono ?_
 rintro e w1 ⟨rfl,rfl⟩;go_wp2_with fail;go_ret;exact⟨_,rfl,Dg _ _ _ _ 0,by simp,by simp,((Ext.refl w).alloc _).alloc _⟩
theorem QL(w:World)(k a b n:Int)(s:ByteArray)(hk:Ap k=2):
  Calls Tryz.prog 85 #[.agg #[.int .i64 k,.int .i64 a,.int .i64 b,.int .i64 n,.string s]] w fun e w'=>∃c,e= .returned (.slice (some ⟨c,0,none⟩) 2 2)/\w'.cell? ⟨c,0,none⟩=some (.int .i64 a)/\w'.cell? ⟨c,1,none⟩=some (.int .i64 b)/\w.heap.size<=c/\c<w'.heap.size/\Ext w w':=by
 have HO:=J (fun W=>Bx W k);rw[hk]at HO;clear hk;go_enter Tryz.func85,Tryz.ntmps85;go_wp2_with fail;refine(HO.o _).mono ?_
 rintro e w1 ⟨rfl,rfl⟩;go_wp2_with fail;go_ret;exact⟨_,rfl,Dg _ _ _ _ 0,Dg _ _ _ _ 1,by simp,by simp,((Ext.refl w).alloc _).alloc _⟩
def Sl(zs:List Nat)(w:World)(e:Ending)(w':World):Prop:=
 ∃A c,e= .returned (.slice A zs.length c)/\Ext w w'/\(0<zs.length->∃b,A=some ⟨b,0,none⟩/\w.heap.size<=b/\b<w'.heap.size/\∀i (ZF:i<zs.length),w'.cell? ⟨b,i,none⟩=some (.int .i64 ((zs.getD i 0:Nat):Int)))
theorem Dd{k:Nat}{t:Tx}(h:ES k t):Cf ⟨(k:Int),0,0,0,t⟩=[]:=by
 unfold Cf;rw[if_pos (by rcases h with ⟨h,_⟩|⟨h,_⟩|⟨h,_⟩<;>simp only<;>omega)]
theorem D2{k:Nat}{n:Int}{j:Nat}(h:OI k n):Cf ⟨(k:Int),(j:Int),0,n,[]⟩=[j]:=by
 unfold Cf;have:=h.1;rw[if_neg (by simp only;omega),if_neg (by simp only;omega)];rfl
theorem CN{k j q:Nat}(hk:6<=k/\k<=9):Cf ⟨(k:Int),(j:Int),(q:Int),0,[]⟩=[j,q]:=by
 unfold Cf;rw[if_neg (by simp only;omega),if_pos (by simp only;omega)];rfl
theorem CP.args_lt{i:Nat}{x:Nd}(h:CP i x):∀a∈Cf x,a<i:=by
 rcases h with ⟨k,t,rfl,ho⟩|⟨k,n,j,rfl,ho,hj⟩|⟨k,j,q,rfl,hk,hj,hq⟩
 ·rw[Dd ho];intro a ha;cases ha
 ·rw[D2 ho];intro a ha;simp only[List.mem_singleton]at ha;omega
 ·rw[CN hk];intro a ha;simp only[List.mem_cons,List.not_mem_nil,or_false]at ha;omega
theorem CP.args_len{i:Nat}{x:Nd}(h:CP i x):(Cf x).length<=2:=by
 rcases h with ⟨k,t,rfl,ho⟩|⟨k,n,j,rfl,ho,hj⟩|⟨k,j,q,rfl,hk,hj,hq⟩
 ·rw[Dd ho];simp
 ·rw[D2 ho];simp
 ·rw[CN hk];simp
theorem CP.oper{i:Nat}{x:Nd}(h:CP i x):Ap x.kind=((Cf x).length:Int):=by
 rcases h with ⟨k,t,rfl,ho⟩|⟨k,n,j,rfl,ho,hj⟩|⟨k,j,q,rfl,hk,hj,hq⟩
 ·rw[Dd ho];have hk:1<=k/\k<=4:=by rcases ho with ⟨h,_⟩|⟨h,_⟩|⟨h,_⟩<;>omega
  unfold Ap;rw[if_neg (by simp only;omega),if_pos (by simp only;omega)];rfl
 ·rw[D2 ho];have:=ho.1;unfold Ap;rw[if_neg (by simp only;omega),if_neg (by simp only;omega),if_neg (by simp only;omega)];rfl
 ·rw[CN hk];unfold Ap;rw[if_neg (by simp only;omega),if_neg (by simp only;omega),if_pos (by simp only;omega)];rfl
theorem EU(w:World)(x:Nd){m:Nat}(h:CP m x):Calls Tryz.prog 85 #[ndV x] w (Sl (Cf x) w):=by
 have ho:=h.oper;rcases h with ⟨k,t,rfl,hk⟩|⟨k,n,j,rfl,hk,hj⟩|⟨k,j,q,rfl,hk,hj,hq⟩
 ·rw[Dd hk]at ho ⊢;refine(OH w k 0 0 0 ⟨(t:List UInt8).toArray⟩ ho).mono ?_
  rintro e w' ⟨rfl,hx⟩;exact⟨_,_,rfl,hx,fun hp=>absurd hp (by decide)⟩
 ·rw[D2 hk]at ho ⊢;refine(R9 w k j 0 n ⟨([]:List UInt8).toArray⟩ ho).mono ?_
  rintro e w' ⟨b,rfl,hc,h1,h2,hx⟩;refine⟨_,_,rfl,hx,fun _=>⟨b,rfl,h1,h2,fun i hi=> ?_⟩⟩;simp only[List.length_singleton]at hi;obtain rfl:i=0:=by omega
  exact hc
 ·rw[CN hk]at ho ⊢;refine(QL w k j q 0 ⟨([]:List UInt8).toArray⟩ ho).mono ?_
  rintro e w' ⟨b,rfl,hc,hc2,h1,h2,hx⟩;refine⟨_,_,rfl,hx,fun _=>⟨b,rfl,h1,h2,fun i hi=> ?_⟩⟩;simp only[List.length_cons,List.length_nil]at hi;obtain rfl|rfl:i=0\/i=1:=by omega
  ·exact hc
  ·exact hc2
def Si(zs:List Nat)(w:World)(e:Ending)(w':World):Prop:=
 ∃A c,e= .returned (.tuple #[.slice A zs.length c,.bool true])/\Ext w w'/\(0<zs.length->∃b,A=some ⟨b,0,none⟩/\w.heap.size<=b/\b<w'.heap.size/\∀i (ZF:i<zs.length),w'.cell? ⟨b,i,none⟩=some (.int .i64 ((zs.getD i 0:Nat):Int)))
theorem RM(w:World)(x:Nd){m:Nat}(h:CP m x):Calls Tryz.prog 107 #[ndV x] w (Si (Cf x) w):=by
 rcases h with ⟨k,t,rfl,hk⟩|⟨k,n,j,rfl,hk,hj⟩|⟨k,j,q,rfl,hk,hj,hq⟩
 ·rw[Dd hk];refine(C2 w k 0 0 0 ⟨(t:List UInt8).toArray⟩ (by rcases hk with ⟨h,_⟩|⟨h,_⟩|⟨h,_⟩<;>omega)).mono ?_
  rintro e w' ⟨rfl,hx⟩;exact⟨_,_,rfl,hx,fun hp=>absurd hp (by decide)⟩
 ·rw[D2 hk];refine(EI w k j 0 n ⟨([]:List UInt8).toArray⟩ (by have:=hk.1;omega)).mono ?_
  rintro e w' ⟨b,rfl,hc,h1,h2,hx⟩;refine⟨_,_,rfl,hx,fun _=>⟨b,rfl,h1,h2,fun i hi=> ?_⟩⟩;simp only[List.length_singleton]at hi;obtain rfl:i=0:=by omega
  exact hc
 ·rw[CN hk];refine(Fi w k j q 0 ⟨([]:List UInt8).toArray⟩ (by omega)).mono ?_
  rintro e w' ⟨b,rfl,hc,hc2,h1,h2,hx⟩;refine⟨_,_,rfl,hx,fun _=>⟨b,rfl,h1,h2,fun i hi=> ?_⟩⟩;simp only[List.length_cons,List.length_nil]at hi;obtain rfl|rfl:i=0\/i=1:=by omega
  ·exact hc
  ·exact hc2
theorem G9(B g:Nat)(w:World)(ns:List Nd)(rv:Value)(h:GrR B g w ns rv)(i:Int):
  Calls Tryz.prog 89 #[.pointer (some ⟨g,0,none⟩),.int .i64 i] w fun e w'=>e= .returned (.bool (decide (0<=i/\i<(ns.length:Int))))/\Ext w w':=by
 obtain⟨k0,_,hg⟩:=h.blk.oneG;obtain⟨A2,c2,rfl⟩:=h.row.shape;clear h;by_cases h0:0<=i
 ·by_cases h1:i<(ns.length:Int)
  ·have hd:decide (0<=i/\i<(ns.length:Int))=true:=decide_eq_true ⟨h0,h1⟩;rw[hd];clear hd;go_enter Tryz.func89,Tryz.ntmps89;go_wp2_with fail;go_ret;exact⟨rfl,Ext.refl w⟩
  ·have hd:decide (0<=i/\i<(ns.length:Int))=false:=decide_eq_false (fun h=>h1 h.2);rw[hd];clear hd;go_enter Tryz.func89,Tryz.ntmps89;go_wp2_with fail;go_ret;exact⟨rfl,Ext.refl w⟩
 ·have hd:decide (0<=i/\i<(ns.length:Int))=false:=decide_eq_false (fun h=>h0 h.1);rw[hd];clear hd;go_enter Tryz.func89,Tryz.ntmps89;go_wp2_with fail;go_ret;exact⟨rfl,Ext.refl w⟩
theorem KF(B g:Nat)(w:World)(ns:List Nd)(rv:Value)(h:GrR B g w ns rv)(x:Nd)(hx:CP ns.length x):
  Calls Tryz.prog 180 #[.pointer (some ⟨g,0,none⟩),ndV x] w fun e w'=>e= .returned (.bool true)/\Ext w w':=by
 have bF:=J (fun W=>KJ W x (by have:=hx.text;omega));rw[hx.plain]at bF;have aK:=J (fun W=>Bx W x.kind);rw[hx.oper]at aK;have iC:=J (fun W=>EU W x hx);have hlt:=hx.args_lt;have kc:=J (fun W h (a:Nat) (ha:a<ns.length)=>(decide_eq_true (⟨by omega,by omega⟩:0<=(a:Int)/\(a:Int)<(ns.length:Int))) ▸ G9 B g W ns rv h (a:Int));have HG:=J h;have hal:=hx.args_len;have hz1:(Cf x).length<1->x.a=0:=by
  intro hl;rcases hx with ⟨k,t,rfl,ho⟩|⟨k,n,j,rfl,ho,hj⟩|⟨k,j,q,rfl,hk,hj,hq⟩
  ·rfl
  ·rw[D2 ho]at hl;simp at hl
  ·rw[CN hk]at hl;simp at hl
 have a9:(Cf x).length<2->x.b=0:=by
  intro hl;rcases hx with ⟨k,t,rfl,ho⟩|⟨k,n,j,rfl,ho,hj⟩|⟨k,j,q,rfl,hk,hj,hq⟩
  ·rfl
  ·rfl
  ·rw[CN hk]at hl;simp at hl
 have aW:Hid (∀i,i<(Cf x).length->(Cf x).getD i 0<ns.length):=J (fun i hi=>by
  rw[List.getD_eq_getElem?_getD,List.getElem?_eq_getElem hi];exact hlt _ (List.getElem_mem hi))
 clear hlt hx;generalize Cf x=zs at *;obtain⟨k,a,d,n,t⟩:=x;simp only[ndV]at bF aK iC hz1 a9 ⊢;obtain⟨s,hs⟩:∃s:ByteArray,s=⟨t.toArray⟩:=⟨_,rfl⟩;have ai:str t= .string s:=by rw[hs];rfl
 rw[ai]at bF iC ⊢;clear hs ai;obtain⟨A,c,rfl⟩:=h.row.shape;clear h;have aM:=J (Blk.new w 95 #[.int .i64 k,.int .i64 a,.int .i64 d,.int .i64 n,.string s]);have ah:=J ((Ext.refl w).alloc (.cells #[.int .i64 k,.int .i64 a,.int .i64 d,.int .i64 n,.string s] 95));obtain⟨w1,aL⟩:∃w1,w1=w.alloc (.cells #[.int .i64 k,.int .i64 a,.int .i64 d,.int .i64 n,.string s] 95):=⟨_,rfl⟩;rw[<-aL]at aM ah;have q0:=aM.o.five;obtain⟨m,hm⟩:∃m,m=zs.length:=⟨_,rfl⟩;rw[<-hm]at aK hz1 a9 hal aW;have mD:=J hm;clear hm;have h3:(m=0/\a=0/\d=0)\/(m=1/\d=0)\/m=2:=by
  have:m=0\/m=1\/m=2:=by omega
  rcases this with h|h|h
  ·exact .inl ⟨h,hz1 (by omega),a9 (by omega)⟩
  ·exact .inr (.inl ⟨h,a9 (by omega)⟩)
  ·exact .inr (.inr h)
 clear hz1 a9 hal;rcases h3 with ⟨rfl,rfl,rfl⟩|⟨rfl,rfl⟩|rfl
 ·rw[show ((0:Nat):Int)=0 from rfl]at aK;go_enter Tryz.func180,Tryz.ntmps180;go_upto_region 1 with fail;rw[<-aL];clear aL;go_wp2_with fail;refine(aK.o _).mono ?_
  rintro e w2 ⟨rfl,rfl⟩;go_wp2_with fail;refine(bF.o _).mono ?_
  rintro e w2 ⟨rfl,au⟩;have aq:=J (ah.o.trans au);have aP:=J (aM.o.ext au);clear q0 au;have q0:=aP.o.five;go_wp2_with fail;refine(iC.o _).mono ?_
  rintro e w3 ⟨A3,c3,rfl,ae,i1⟩;have aj:=J (aq.o.trans ae);have pm:=J i1;rw[<-mD.o]at pm ⊢;clear q0 ae i1;go_wp2_with fail;go_loopw [39] (fun i8 wr=>∃i:Nat,i<=0/\i8= .int .i64 (i:Int)/\Ext w3 wr) (fun i8 _=>0-(intOf i8).toNat)
  case atStart=>exact⟨0,Nat.zero_le _,rfl,Ext.refl w3⟩
  case round=>
   obtain⟨i,hi,rfl,hx⟩:=hrel;have HX:=J hx;have lr:IntKind.i64.wrap ((i:Int)+1)=(i:Int)+1:=IntWalk.i64_in _ (by omega);by_cases hlt:i<0
   ·obtain⟨b3,rfl,hb0,aX,dg⟩:=pm.o (by omega);have ac:=(hx.cell aX).trans (dg i hlt);have hz:=aW.o i hlt;generalize zs.getD i 0=za at *;have gA:(0:Int)<=(i:Int):=by omega
    have hil:(i:Int)<0:=by omega
    clear hx dg;go_wp2_with fail;refine(kc.o _ (HG.o.keep (aj.o.trans HX.o)) za hz).mono ?_
    rintro e w4 ⟨rfl,aR⟩;have aE:=J (HX.o.trans aR);clear aR ac;go_wp2_with fail;go_roundw
    case rel=>exact⟨i+1,hlt,by go_num,aE.o⟩
    case measure=>simp[intOf];omega
   ·go_wp2_with fail;go_ret;exact⟨rfl,aj.o.trans HX.o⟩
 ·rw[show ((1:Nat):Int)=1 from rfl]at aK;go_enter Tryz.func180,Tryz.ntmps180;go_upto_region 1 with fail;rw[<-aL];clear aL;go_wp2_with fail;refine(aK.o _).mono ?_
  rintro e w2 ⟨rfl,rfl⟩;go_wp2_with fail;refine(bF.o _).mono ?_
  rintro e w2 ⟨rfl,au⟩;have aq:=J (ah.o.trans au);have aP:=J (aM.o.ext au);clear q0 au;have q0:=aP.o.five;go_wp2_with fail;refine(iC.o _).mono ?_
  rintro e w3 ⟨A3,c3,rfl,ae,i1⟩;have aj:=J (aq.o.trans ae);have pm:=J i1;rw[<-mD.o]at pm ⊢;clear q0 ae i1;go_wp2_with fail;go_loopw [39] (fun i8 wr=>∃i:Nat,i<=1/\i8= .int .i64 (i:Int)/\Ext w3 wr) (fun i8 _=>1-(intOf i8).toNat)
  case atStart=>exact⟨0,Nat.zero_le _,rfl,Ext.refl w3⟩
  case round=>
   obtain⟨i,hi,rfl,hx⟩:=hrel;have HX:=J hx;have lr:IntKind.i64.wrap ((i:Int)+1)=(i:Int)+1:=IntWalk.i64_in _ (by omega);by_cases hlt:i<1
   ·obtain⟨b3,rfl,hb0,aX,dg⟩:=pm.o (by omega);have ac:=(hx.cell aX).trans (dg i hlt);have hz:=aW.o i hlt;generalize zs.getD i 0=za at *;have gA:(0:Int)<=(i:Int):=by omega
    have hil:(i:Int)<1:=by omega
    clear hx dg;go_wp2_with fail;refine(kc.o _ (HG.o.keep (aj.o.trans HX.o)) za hz).mono ?_
    rintro e w4 ⟨rfl,aR⟩;have aE:=J (HX.o.trans aR);clear aR ac;go_wp2_with fail;go_roundw
    case rel=>exact⟨i+1,hlt,by go_num,aE.o⟩
    case measure=>simp[intOf];omega
   ·go_wp2_with fail;go_ret;exact⟨rfl,aj.o.trans HX.o⟩
 ·rw[show ((2:Nat):Int)=2 from rfl]at aK;go_enter Tryz.func180,Tryz.ntmps180;go_upto_region 1 with fail;rw[<-aL];clear aL;go_wp2_with fail;refine(aK.o _).mono ?_
  rintro e w2 ⟨rfl,rfl⟩;go_wp2_with fail;refine(bF.o _).mono ?_
  rintro e w2 ⟨rfl,au⟩;have aq:=J (ah.o.trans au);have aP:=J (aM.o.ext au);clear q0 au;have q0:=aP.o.five;go_wp2_with fail;refine(iC.o _).mono ?_
  rintro e w3 ⟨A3,c3,rfl,ae,i1⟩;have aj:=J (aq.o.trans ae);have pm:=J i1;rw[<-mD.o]at pm ⊢;clear q0 ae i1;go_wp2_with fail;go_loopw [39] (fun i8 wr=>∃i:Nat,i<=2/\i8= .int .i64 (i:Int)/\Ext w3 wr) (fun i8 _=>2-(intOf i8).toNat)
  case atStart=>exact⟨0,Nat.zero_le _,rfl,Ext.refl w3⟩
  case round=>
   obtain⟨i,hi,rfl,hx⟩:=hrel;have HX:=J hx;have lr:IntKind.i64.wrap ((i:Int)+1)=(i:Int)+1:=IntWalk.i64_in _ (by omega);by_cases hlt:i<2
   ·obtain⟨b3,rfl,hb0,aX,dg⟩:=pm.o (by omega);have ac:=(hx.cell aX).trans (dg i hlt);have hz:=aW.o i hlt;generalize zs.getD i 0=za at *;have gA:(0:Int)<=(i:Int):=by omega
    have hil:(i:Int)<2:=by omega
    clear hx dg;go_wp2_with fail;refine(kc.o _ (HG.o.keep (aj.o.trans HX.o)) za hz).mono ?_
    rintro e w4 ⟨rfl,aR⟩;have aE:=J (HX.o.trans aR);clear aR ac;go_wp2_with fail;go_roundw
    case rel=>exact⟨i+1,hlt,by go_num,aE.o⟩
    case measure=>simp[intOf];omega
   ·go_wp2_with fail;go_ret;exact⟨rfl,aj.o.trans HX.o⟩
end Big
end Go.Proofs.YtkoaogkknnelaaaGreatDoor
