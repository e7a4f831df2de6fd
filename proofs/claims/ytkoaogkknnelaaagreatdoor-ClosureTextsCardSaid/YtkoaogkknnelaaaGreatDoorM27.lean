import Derived.Lib.SlicesCompact
import Derived.Test.YtkoaogkknnelaaaGreatDoorM26
set_option linter.unusedVariables false
set_option linter.unusedSimpArgs false
set_option maxHeartbeats 4000000
set_option maxRecDepth 100000
namespace Go.Proofs.YtkoaogkknnelaaaGreatDoor
namespace Big
open Lib renaming hid → J
abbrev Tx:=List UInt8
theorem Ds(a:Tx):¬a<a:=List.lt_irrefl a
theorem I0{a b c:Tx}(h:a<b)(h':b<c):a<c:=List.lt_trans h h'
theorem Rr{a b:Tx}(h:a<b):¬b<a:=fun h'=>Ds a (I0 h h')
theorem Eb{a b:Tx}(h:a<=b)(hne:a≠b):a<b:=by
 rcases Decidable.em (a<b) with h1|h1
 ·exact h1
 ·exact absurd (List.le_antisymm h (List.not_lt.1 h1)) hne
def Asc(l:List Tx):Prop:=l.Pairwise (·<·)
theorem Nq:∀{l m:List Tx},Asc l->Asc m->(∀x,x∈l↔x∈m)->l=m
 |[],[],_,_,_=>rfl
 |[],y::m,_,_,h=>absurd ((h y).2 (by simp)) (by simp)
 |x::l,[],_,_,h=>absurd ((h x).1 (by simp)) (by simp)
 |x::l,y::m,hl,hm,h=>by
  unfold Asc at hl hm;rw[qbG]at hl hm;have e:x=y:=by
   rcases qay.1 ((h x).1 (by simp)) with e|e
   ·exact e
   ·rcases qay.1 ((h y).2 (by simp)) with e'|e'
    ·exact e'.symm
    ·exact absurd (hm.1 x e) (Rr (hl.1 y e'))
  subst e;refine congrArg (x::·) (Nq hl.2 hm.2 fun z=>⟨fun hz=> ?_,fun hz=> ?_⟩)
  ·rcases qay.1 ((h z).1 (qbs _ hz)) with e|e
   ·exact absurd (hl.1 z hz) (by rw[e];exact Ds x)
   ·exact e
  ·rcases qay.1 ((h z).2 (qbs _ hz)) with e|e
   ·exact absurd (hm.1 z hz) (by rw[e];exact Ds x)
   ·exact e
def DY(s:Tx):List Tx->List Tx
 |[]=>[s]
 |x::xs=>if x<s then x::DY s xs else if x=s then x::xs else s::x::xs
theorem Jy{s z:Tx}:∀{l:List Tx},z∈DY s l↔z=s\/z∈l
 |[]=>by simp[DY]
 |x::xs=>by
  unfold DY;split
  ·rw[qay,Jy,qay];constructor
   ·rintro(h|h|h)<;>simp[h]
   ·rintro(h|h|h)<;>simp[h]
  ·split
   ·rename_i h;subst h;constructor
    ·intro h;exact .inr h
    ·rintro(h|h)
     ·rw[h];simp
     ·exact h
   ·simp[qay]
theorem Ns{s:Tx}:∀{l:List Tx},Asc l->Asc (DY s l)
 |[],_=>by simp[DY,Asc]
 |x::xs,h=>by
  unfold Asc at h;rw[qbG]at h;unfold DY;split
  ·rename_i hx;unfold Asc;rw[qbG];refine⟨fun z hz=> ?_,Ns h.2⟩;rcases Jy.1 hz with rfl|hz
   ·exact hx
   ·exact h.1 z hz
  ·split
   ·unfold Asc;rw[qbG];exact h
   ·rename_i h1 h2;have hlt:s<x:=Eb (List.not_lt.1 h1) (fun e=>h2 e.symm);unfold Asc;rw[qbG,qbG];refine⟨fun z hz=> ?_,h⟩;rcases qay.1 hz with rfl|hz
    ·exact hlt
    ·exact I0 hlt (h.1 z hz)
def BZ(l:List Tx):List Tx:=l.foldl (fun out s=>DY s out) []
theorem K1{l:List Tx}:∀{out:List Tx},Asc out->Asc (l.foldl (fun out s=>DY s out) out)/\∀z,z∈l.foldl (fun out s=>DY s out) out↔z∈l\/z∈out:=by
 induction l with
 |nil=>intro out h;exact⟨h,fun z=>by simp⟩
 |cons x l ih=>
  intro out h;obtain⟨h1,h2⟩:=ih (Ns (s:=x) h);refine⟨h1,fun z=> ?_⟩;rw[qbd,h2,Jy,qay];constructor
  ·rintro(h|h|h)<;>simp[h]
  ·rintro((h|h)|h)<;>simp[h]
theorem Gg(l:List Tx):Asc (BZ l):=(K1 (l:=l) (out:=[]) (by simp[Asc])).1
theorem Cn{l:List Tx}{z:Tx}:z∈BZ l↔z∈l:=by
 have:=(K1 (l:=l) (out:=[]) (by simp[Asc])).2 z;unfold BZ
 simpa using this
theorem GP(l:List Tx):(l.mergeSort fun x y=>decide (x<=y)).Pairwise (·<=·):=by
 have:=List.pairwise_mergeSort (le:=fun x y:Tx=>decide (x<=y)) (fun a b c h1 h2=>decide_eq_true (List.le_trans (of_decide_eq_true h1) (of_decide_eq_true h2))) (fun a b=>by
  rcases List.le_total a b with h|h
  ·simp[h]
  ·simp[h]) l
 exact this.imp fun h=>of_decide_eq_true h
def BA(x:Nd):List Nat:=if x.kind<5 then [] else if 6<=x.kind/\x.kind<=9 then [x.a.toNat,x.b.toNat] else [x.a.toNat]
def BQ(ns:List Nd)(i:Nat):List Nat:=match ns[i]? with
 |some x=>BA x
 |none=>[]
theorem Ax.args_lt{ns:List Nd}(hs:Ax ns){i a:Nat}(h:a∈BQ ns i):a<i:=by
 unfold BQ at h;cases hx:ns[i]? with
 |none=>rw[hx]at h;cases h
 |some x=>
  rw[hx]at h;simp only at h;rcases hs.2 i x hx with ⟨k,t,rfl,ho⟩|⟨k,n,j,rfl,ho,hj⟩|⟨k,j,q,rfl,hk,hj,hq⟩
  ·unfold BA at h;rw[if_pos (by rcases ho with ⟨h,_⟩|⟨h,_⟩|⟨h,_⟩<;>simp only<;>omega)]at h;cases h
  ·unfold BA at h;have:=ho.1;rw[if_neg (by simp only;omega),if_neg (by simp only;omega)]at h;simp only[qaq,qav]at h;omega
  ·unfold BA at h;rw[if_neg (by simp only;omega),if_pos (by simp only;omega)]at h;simp only[qaq,qay,qbP,or_false]at h;omega
inductive Bn (ns:List Nd) (i:Nat):Nat->Prop where
 |here:Bn ns i i
 |down {j a:Nat}:Bn ns i j->a∈BQ ns j->Bn ns i a
theorem Bn.le{ns:List Nd}(hs:Ax ns){i j:Nat}(h:Bn ns i j):j<=i:=by
 induction h with
 |here=>exact qad _
 |down _ ha ih=>have:=hs.args_lt ha;omega
theorem Bn.trans{ns:List Nd}{i j q:Nat}(h:Bn ns i j)(k:Bn ns j q):Bn ns i q:=by
 induction k with
 |here=>exact h
 |down _ ha ih=>exact ih.down ha
def BP(F:List Bool):List Nat->List Bool
 |[]=>F
 |a::l=>BP (F.set a true) l
theorem C8(l:List Nat):∀F:List Bool,(BP F l).length=F.length:=by
 induction l with
 |nil=>intro F;rfl
 |cons a l ih=>intro F;rw[BP,ih,qbX]
theorem H4(F:List Bool)(a j:Nat):(F.set a true).getD j false=(decide (j=a/\a<F.length) || F.getD j false):=by
 rw[qac,qac,List.getElem?_set];by_cases h:a=j
 ·subst h;rw[if_pos rfl];by_cases hl:a<F.length
  ·simp[hl]
  ·rw[if_neg hl,qaz (by omega)];simp[hl]
 ·rw[if_neg h];simp[Ne.symm h]
theorem Ix(l:List Nat):∀(F:List Bool) (j:Nat),j<F.length->(BP F l).getD j false=(decide (j∈l) || F.getD j false):=by
 induction l with
 |nil=>intro F j _;simp[BP]
 |cons a l ih=>
  intro F j hj;rw[BP,ih _ j (by rw[qbX];exact hj),H4];by_cases h1:j=a
  ·subst h1;simp[hj]
  ·simp[h1]
def Gs(ns:List Nd)(i:Nat)(F:List Bool):List Bool:=if F.getD i false then BP F (BQ ns i) else F
theorem Hy(ns:List Nd)(i:Nat)(F:List Bool):(Gs ns i F).length=F.length:=by
 unfold Gs;split
 ·exact C8 _ _
 ·rfl
def CN(ns:List Nd)(i m:Nat)(F:List Bool):Prop:=i<F.length/\F.length<=ns.length/\∀j,j<F.length->(F.getD j false=true↔j=i\/∃q,m<=q/\Bn ns i q/\j∈BQ ns q)
theorem CN.start{ns:List Nd}(hs:Ax ns){i:Nat}{F:List Bool}(hi:i<F.length)(hF:F.length<=ns.length)(h:∀j,j<F.length->(F.getD j false=true↔j=i)):CN ns i (i+1) F:=
 ⟨hi,hF,fun j hj=>(h j hj).trans ⟨.inl,fun h=>by
  rcases h with h|⟨q,hq,hr,_⟩
  ·exact h
  ·have:=hr.le hs;omega⟩⟩
theorem CN.here{ns:List Nd}(hs:Ax ns){i m:Nat}{F:List Bool}(h:CN ns i (m+1) F)(hm:m<F.length):F.getD m false=true↔Bn ns i m:=by
 rw[h.2.2 m hm];constructor
 ·rintro(rfl|⟨q,_,hr,ha⟩)
  ·exact .here
  ·exact hr.down ha
 ·intro hr;cases hr with
  |here=>exact .inl rfl
  | @down j _ hr ha=>exact .inr ⟨j,by have:=hs.args_lt ha;omega,hr,ha⟩
theorem CN.step{ns:List Nd}(hs:Ax ns){i m:Nat}{F:List Bool}(h:CN ns i (m+1) F)(hm:m<F.length):CN ns i m (Gs ns m F):=by
 have hh:=h.here hs hm;refine⟨by rw[Hy];exact h.1,by rw[Hy];exact h.2.1,fun j hj=> ?_⟩;rw[Hy]at hj;unfold Gs;by_cases hr:Bn ns i m
 ·rw[if_pos (hh.2 hr),Ix _ _ _ hj,Bool.or_eq_true,decide_eq_true_eq,h.2.2 j hj];constructor
  ·rintro(ha|ha|⟨q,hq,hr2,ha⟩)
   ·exact .inr ⟨m,qad _,hr,ha⟩
   ·exact .inl ha
   ·exact .inr ⟨q,by omega,hr2,ha⟩
  ·rintro(ha|⟨q,hq,hr2,ha⟩)
   ·exact .inr (.inl ha)
   ·rcases Nat.eq_or_lt_of_le hq with e|e
    ·subst e;exact .inl ha
    ·exact .inr (.inr ⟨q,e,hr2,ha⟩)
 ·have hf:F.getD m false=false:=by
   cases hc:F.getD m false with
   |false=>rfl
   |true=>exact absurd (hh.1 hc) hr
  rw[hf];simp only[qbg,if_false];rw[h.2.2 j hj];constructor
  ·rintro(ha|⟨q,hq,hr2,ha⟩)
   ·exact .inl ha
   ·exact .inr ⟨q,by omega,hr2,ha⟩
  ·rintro(ha|⟨q,hq,hr2,ha⟩)
   ·exact .inl ha
   ·rcases Nat.eq_or_lt_of_le hq with e|e
    ·subst e;exact absurd hr2 hr
    ·exact .inr ⟨q,e,hr2,ha⟩
theorem CN.done{ns:List Nd}{i:Nat}{F:List Bool}(h:CN ns i 0 F):∀j,j<F.length->(F.getD j false=true↔Bn ns i j):=by
 intro j hj;rw[h.2.2 j hj];constructor
 ·rintro(rfl|⟨q,_,hr,ha⟩)
  ·exact .here
  ·exact hr.down ha
 ·intro hr;cases hr with
  |here=>exact .inl rfl
  | @down q _ hr ha=>exact .inr ⟨q,qal _,hr,ha⟩
def AK(ns:List Nd)(i:Nat)(t:Tx):Prop:=∃j x,Bn ns i j/\ns[j]? =some x/\x.kind=2/\x.text=t
def BV:Ex->List Tx
 | .leaf k t=>if k=2 then [t] else []
 | .un _ _ x=>BV x
 | .bin _ x y=>BV x++BV y
theorem Rg{ns:List Nd}{i k:Nat}{t:Tx}(h:ns[i]? =some ⟨(k:Int),0,0,0,t⟩)(hk:k<5):BQ ns i=[]:=by
 unfold BQ;rw[h];simp only[BA];rw[if_pos (by omega)]
theorem LT{ns:List Nd}{i j k:Nat}{n:Int}(h:ns[i]? =some ⟨(k:Int),(j:Int),0,n,[]⟩)(hk:k=5\/(10<=k/\k<=16)):BQ ns i=[j]:=by
 unfold BQ;rw[h];simp only[BA];rw[if_neg (by omega),if_neg (by omega),qaq]
theorem Hf{ns:List Nd}{i j q k:Nat}(h:ns[i]? =some ⟨(k:Int),(j:Int),(q:Int),0,[]⟩)(hk:6<=k/\k<=9):BQ ns i=[j,q]:=by
 unfold BQ;rw[h];simp only[BA];rw[if_neg (by omega),if_pos (by omega),qaq,qaq]
theorem Bn.split{ns:List Nd}{i j:Nat}:Bn ns i j↔i=j\/∃a∈BQ ns i,Bn ns a j:=by
 constructor
 ·intro h
  induction h with
  |here=>exact .inl rfl
  | @down p b hp hb ih=>
    rcases ih with rfl|⟨a,ha,hr⟩
    ·exact .inr ⟨b,hb,.here⟩
    ·exact .inr ⟨a,ha,hr.down hb⟩
 ·rintro(rfl|⟨a,ha,hr⟩)
  ·exact .here
  ·exact(Bn.here.down ha).trans hr
theorem GD{ns:List Nd}{t:Tx}:∀{e:Ex} {i:Nat},e.Good->Rep ns i e->(AK ns i t↔t∈BV e):=by
 intro e
 induction e with
 |leaf k u=>
  intro i hg hr;have hk:k<5:=by rcases hg with ⟨h,_⟩|⟨h,_⟩|⟨h,_⟩<;>omega
  have hx:ns[i]? =some ⟨(k:Int),0,0,0,u⟩:=hr
  have ha:=Rg hx hk;unfold AK BV;constructor
  ·rintro⟨j,x,hj,al,hk2,rfl⟩;rcases Bn.split.1 hj with rfl|⟨a,lA,_⟩
   ·rw[hx]at al;injection al with al
    subst al;simp only at hk2;rw[if_pos (by omega)];simp
   ·rw[ha]at lA;cases lA
  ·intro h;split at h
   ·rename_i hk2;rw[qav]at h;subst h;exact⟨i,_,.here,hx,by simp only;omega,rfl⟩
   ·cases h
 |un k n x ih=>
  intro i hg hr;obtain⟨j,hj,hx⟩:=hr;have ha:=LT hx hg.1;rw[BV,<-ih hg.2.2.2.2 hj];unfold AK;constructor
  ·rintro⟨q,y,hq,hy,hk2,rfl⟩;rcases Bn.split.1 hq with rfl|⟨a,lA,hr2⟩
   ·rw[hx]at hy;injection hy with hy
    subst hy;simp only at hk2;have:=hg.1;omega
   ·rw[ha,qav]at lA;subst lA;exact⟨q,y,hr2,hy,hk2,rfl⟩
  ·rintro⟨q,y,hq,hy,hk2,rfl⟩;exact⟨q,y,Bn.split.2 (.inr ⟨j,by rw[ha];simp,hq⟩),hy,hk2,rfl⟩
 |bin k x y ihx ihy=>
  intro i hg hr;obtain⟨j,p,hj,hp,hx⟩:=hr;have ha:=Hf hx hg.1;rw[BV,qax,<-ihx hg.2.1 hj,<-ihy hg.2.2 hp];unfold AK;constructor
  ·rintro⟨q,z,hq,hz,hk2,rfl⟩;rcases Bn.split.1 hq with rfl|⟨a,lA,hr2⟩
   ·rw[hx]at hz;injection hz with hz
    subst hz;simp only at hk2;have:=hg.1;omega
   ·rw[ha]at lA;simp only[qay,qbP,or_false]at lA;rcases lA with rfl|rfl
    ·exact .inl ⟨q,z,hr2,hz,hk2,rfl⟩
    ·exact .inr ⟨q,z,hr2,hz,hk2,rfl⟩
  ·rintro(⟨q,z,hq,hz,hk2,rfl⟩|⟨q,z,hq,hz,hk2,rfl⟩)
   ·exact⟨q,z,Bn.split.2 (.inr ⟨j,by rw[ha];simp,hq⟩),hz,hk2,rfl⟩
   ·exact⟨q,z,Bn.split.2 (.inr ⟨p,by rw[ha];simp,hq⟩),hz,hk2,rfl⟩
theorem Ax.load{ns:List Nd}(h:Ax ns){i:Nat}(hi:i<ns.length):Bc (ns.take i) ns[i]=(i,ns.take (i+1)):=by
 have hno:ns[i]∉ns.take i:=by
  intro hm;obtain⟨j,hj,he⟩:=qby hm;rw[qas]at hj;rw[List.getElem_take]at he;have:=KQ h.1 (by omega) hi he;omega
 unfold Bc;rw[if_neg hno,qas,qaV (by omega),List.take_append_getElem hi]
theorem Ax.take{ns:List Nd}(h:Ax ns)(i:Nat):Ax (ns.take i):=h.pre (List.take_prefix i ns)
theorem CA.plain{i:Nat}{x:Nd}(h:CA i x):AA x=true:=by
 rcases h with ⟨k,t,rfl,ho⟩|⟨k,n,j,rfl,ho,hj⟩|⟨k,j,q,rfl,hk,hj,hq⟩
 ·have hk:1<=k/\k<=4:=by rcases ho with ⟨h,_⟩|⟨h,_⟩|⟨h,_⟩<;>omega
  unfold AA Cr Cb;rw[if_neg (c:=(k:Int)=10) (by omega)];rcases ho with ⟨rfl,h,_⟩|⟨rfl,h⟩|⟨h,rfl⟩
  ·simp[h]
  ·simp[h]
  ·rw[if_neg (by simp only;omega),if_neg (by simp only;omega)];rfl
 ·obtain⟨h1,h2,h3,h4⟩:=ho;unfold AA Cr Cb;rw[if_neg (by simp only;omega),if_neg (by simp only;omega)];by_cases hk:k=10
  ·subst hk;simp[h3,h4]
  ·rw[if_neg (by simp only;omega)];simp[h2 hk]
 ·unfold AA Cr Cb;rw[if_neg (by simp only;omega),if_neg (by simp only;omega),if_neg (by simp only;omega)];rfl
theorem Lz{x:Nd}{l:List Nd}{i:Nat}(hi:i<l.length)(hx:l[i]=x)(h:∀j (hj:j<l.length),j<i->l[j]≠x):Cz x l=i:=by
 induction l generalizing i with
 |nil=>simp at hi
 |cons y l ih=>
  rw[FM];cases i with
  |zero=>
   simp only[qbA]at hx;rw[if_pos hx]
  |succ i=>
   have h0:=h 0 (by simp) (by omega);simp only[qbA]at h0;rw[if_neg h0,ih (by simpa using hi) (by simpa using hx) (fun j hj jQ=>by
    have:=h (j+1) (by simpa using hj) (by omega)
    simpa using this)]
def EF(ns:List Nd)(i:Nat)(l:List Tx):Prop:=Asc l/\∀t,t∈l↔AK ns i t
open Go.RowKit
structure GrR (B g:Nat) (w:World) (ns:List Nd) (rv:Value):Prop where
 blk:Blk w g 71 #[rv]
 row:Ai B w rv ns
 lo:B<=g
 ok:Ax ns
 few:ns.length<=4096
theorem GrR.lt{B g:Nat}{w:World}{ns:List Nd}{rv:Value}(h:GrR B g w ns rv):g<w.heap.size:=h.blk.lt
theorem GrR.keep{B g:Nat}{w w':World}{ns:List Nd}{rv:Value}(h:GrR B g w ns rv)(hx:Ext w w'):GrR B g w' ns rv:=
 ⟨h.blk.ext hx,h.row.ext hx,h.lo,h.ok,h.few⟩
theorem GrR.apart2{B g:Nat}{w:World}{ns:List Nd}{rv:Value}(h:GrR B g w ns rv):rv.ownBlock≠some g:=by
 intro e;have hb:=h.blk;have hr:=h.row;unfold Ai at hr;unfold Blk at hb;rcases hr.2 with ⟨rfl,_⟩|⟨q,cap,cur,rfl,_,hh,_⟩
 ·cases e
 ·simp only[Value.ownBlock,qaw]at e;subst e;rw[hb]at hh;injection hh with hh
  injection hh with _ hh _
  exact absurd hh (by decide)
theorem KG.belowR{B g:Nat}{n1 n2:Value}{w w':World}{ns:List Nd}(h:KG g g n1 n2 w w')(hr:GrR B g w ns n1):Below B w w':=
 ⟨h.os,h.tape,h.output,h.size,fun k hk=>by
  have h1:=hr.blk.lt;have h2:=hr.lo;exact h.block k (by omega) (by omega) (by omega) (fun e=>by have:=Ay hr.row k e;omega)⟩
theorem Blk.oneG{w:World}{g:Nat}{t:TypeId}{a:Value}(h:Blk w g t #[a]):w.cell? ⟨g,0,none⟩=some a/\w.frozen? ⟨g,0,none⟩=false/\g<w.heap.size:=
 ⟨h.cell 0,h.frozen 0,h.lt⟩
theorem CS.newR{B g:Nat}{rv:Value}{w0 w:World}{v:Value}{l ns:List Nd}(h:Ai w0.heap.size w v l)(hg:GrR B g w0 ns rv):CS g g rv w v l:=by
 obtain⟨A,c,hv,h1⟩:=h.read;refine⟨A,c,hv,fun hp=> ?_⟩;obtain⟨q,o,rfl,hq,hc⟩:=h1 hp;have fh:=Ay h q (by rw[hv];rfl);have h2:=hg.lt;exact⟨q,o,rfl,hq,by omega,by omega,fun e=>by have:=Aj hg.row e;omega,hc⟩
theorem O1(w:World)(k a b n:Int)(s:ByteArray)(hk:Al k=0):
  Calls Tryz.prog 85 #[.agg #[.int .i64 k,.int .i64 a,.int .i64 b,.int .i64 n,.string s]] w fun e w'=>e= .returned (.slice none 0 0)/\Ext w w':=by
 have HO:=J (fun W=>Bf W k);rw[hk]at HO;clear hk;go_enter Tryz.func85,Tryz.ntmps85;go_wp2_with fail;refine(HO.o _).mono ?_
 rintro e w1 ⟨rfl,rfl⟩;go_wp2_with fail;go_ret;exact⟨rfl,(Ext.refl w).alloc _⟩
theorem SV(w:World)(k a b n:Int)(s:ByteArray)(hk:Al k=1):
  Calls Tryz.prog 85 #[.agg #[.int .i64 k,.int .i64 a,.int .i64 b,.int .i64 n,.string s]] w fun e w'=>∃b,e= .returned (.slice (some ⟨b,0,none⟩) 1 1)/\w'.cell? ⟨b,0,none⟩=some (.int .i64 a)/\w.heap.size<=b/\b<w'.heap.size/\Ext w w':=by
 have HO:=J (fun W=>Bf W k);rw[hk]at HO;clear hk;go_enter Tryz.func85,Tryz.ntmps85;go_wp2_with fail;refine(HO.o _).mono ?_
 rintro e w1 ⟨rfl,rfl⟩;go_wp2_with fail;go_ret;exact⟨_,rfl,De _ _ _ _ 0,by simp,by simp,((Ext.refl w).alloc _).alloc _⟩
theorem Rh(w:World)(k a b n:Int)(s:ByteArray)(hk:Al k=2):
  Calls Tryz.prog 85 #[.agg #[.int .i64 k,.int .i64 a,.int .i64 b,.int .i64 n,.string s]] w fun e w'=>∃c,e= .returned (.slice (some ⟨c,0,none⟩) 2 2)/\w'.cell? ⟨c,0,none⟩=some (.int .i64 a)/\w'.cell? ⟨c,1,none⟩=some (.int .i64 b)/\w.heap.size<=c/\c<w'.heap.size/\Ext w w':=by
 have HO:=J (fun W=>Bf W k);rw[hk]at HO;clear hk;go_enter Tryz.func85,Tryz.ntmps85;go_wp2_with fail;refine(HO.o _).mono ?_
 rintro e w1 ⟨rfl,rfl⟩;go_wp2_with fail;go_ret;exact⟨_,rfl,De _ _ _ _ 0,De _ _ _ _ 1,by simp,by simp,((Ext.refl w).alloc _).alloc _⟩
def Hm(zs:List Nat)(w:World)(e:Ending)(w':World):Prop:=
 ∃A c,e= .returned (.slice A zs.length c)/\Ext w w'/\(0<zs.length->∃b,A=some ⟨b,0,none⟩/\w.heap.size<=b/\b<w'.heap.size/\∀i (_hi:i<zs.length),w'.cell? ⟨b,i,none⟩=some (.int .i64 ((zs.getD i 0:Nat):Int)))
theorem Cd{k:Nat}{t:Tx}(h:Es k t):BA ⟨(k:Int),0,0,0,t⟩=[]:=by
 unfold BA;rw[if_pos (by rcases h with ⟨h,_⟩|⟨h,_⟩|⟨h,_⟩<;>simp only<;>omega)]
theorem CG{k:Nat}{n:Int}{j:Nat}(h:Nv k n):BA ⟨(k:Int),(j:Int),0,n,[]⟩=[j]:=by
 unfold BA;have:=h.1;rw[if_neg (by simp only;omega),if_neg (by simp only;omega)];rfl
theorem B0{k j q:Nat}(hk:6<=k/\k<=9):BA ⟨(k:Int),(j:Int),(q:Int),0,[]⟩=[j,q]:=by
 unfold BA;rw[if_neg (by simp only;omega),if_pos (by simp only;omega)];rfl
theorem CA.args_lt{i:Nat}{x:Nd}(h:CA i x):∀a∈BA x,a<i:=by
 rcases h with ⟨k,t,rfl,ho⟩|⟨k,n,j,rfl,ho,hj⟩|⟨k,j,q,rfl,hk,hj,hq⟩
 ·rw[Cd ho];intro a ha;cases ha
 ·rw[CG ho];intro a ha;simp only[qav]at ha;omega
 ·rw[B0 hk];intro a ha;simp only[qay,qbP,or_false]at ha;omega
theorem CA.args_len{i:Nat}{x:Nd}(h:CA i x):(BA x).length<=2:=by
 rcases h with ⟨k,t,rfl,ho⟩|⟨k,n,j,rfl,ho,hj⟩|⟨k,j,q,rfl,hk,hj,hq⟩
 ·rw[Cd ho];simp
 ·rw[CG ho];simp
 ·rw[B0 hk];simp
theorem CA.oper{i:Nat}{x:Nd}(h:CA i x):Al x.kind=((BA x).length:Int):=by
 rcases h with ⟨k,t,rfl,ho⟩|⟨k,n,j,rfl,ho,hj⟩|⟨k,j,q,rfl,hk,hj,hq⟩
 ·rw[Cd ho];have hk:1<=k/\k<=4:=by rcases ho with ⟨h,_⟩|⟨h,_⟩|⟨h,_⟩<;>omega
  unfold Al;rw[if_neg (by simp only;omega),if_pos (by simp only;omega)];rfl
 ·rw[CG ho];have:=ho.1;unfold Al;rw[if_neg (by simp only;omega),if_neg (by simp only;omega),if_neg (by simp only;omega)];rfl
 ·rw[B0 hk];unfold Al;rw[if_neg (by simp only;omega),if_neg (by simp only;omega),if_pos (by simp only;omega)];rfl
theorem D4(w:World)(x:Nd){m:Nat}(h:CA m x):Calls Tryz.prog 85 #[ndV x] w (Hm (BA x) w):=by
 have ho:=h.oper;rcases h with ⟨k,t,rfl,hk⟩|⟨k,n,j,rfl,hk,hj⟩|⟨k,j,q,rfl,hk,hj,hq⟩
 ·rw[Cd hk]at ho ⊢;refine(O1 w k 0 0 0 ⟨(t:List UInt8).toArray⟩ ho).mono ?_
  rintro e w' ⟨rfl,hx⟩;exact⟨_,_,rfl,hx,fun hp=>absurd hp (by decide)⟩
 ·rw[CG hk]at ho ⊢;refine(SV w k j 0 n ⟨([]:List UInt8).toArray⟩ ho).mono ?_
  rintro e w' ⟨b,rfl,hc,h1,h2,hx⟩;refine⟨_,_,rfl,hx,fun _=>⟨b,rfl,h1,h2,fun i hi=> ?_⟩⟩;simp only[qae]at hi;obtain rfl:i=0:=by omega
  exact hc
 ·rw[B0 hk]at ho ⊢;refine(Rh w k j q 0 ⟨([]:List UInt8).toArray⟩ ho).mono ?_
  rintro e w' ⟨b,rfl,hc,dG,h1,h2,hx⟩;refine⟨_,_,rfl,hx,fun _=>⟨b,rfl,h1,h2,fun i hi=> ?_⟩⟩;simp only[qat,qaE]at hi;obtain rfl|rfl:i=0\/i=1:=by omega
  ·exact hc
  ·exact dG
def Hk(zs:List Nat)(w:World)(e:Ending)(w':World):Prop:=
 ∃A c,e= .returned (.tuple #[.slice A zs.length c,.bool true])/\Ext w w'/\(0<zs.length->∃b,A=some ⟨b,0,none⟩/\w.heap.size<=b/\b<w'.heap.size/\∀i (_hi:i<zs.length),w'.cell? ⟨b,i,none⟩=some (.int .i64 ((zs.getD i 0:Nat):Int)))
theorem FU(w:World)(x:Nd){m:Nat}(h:CA m x):Calls Tryz.prog 107 #[ndV x] w (Hk (BA x) w):=by
 rcases h with ⟨k,t,rfl,hk⟩|⟨k,n,j,rfl,hk,hj⟩|⟨k,j,q,rfl,hk,hj,hq⟩
 ·rw[Cd hk];refine(C0 w k 0 0 0 ⟨(t:List UInt8).toArray⟩ (by rcases hk with ⟨h,_⟩|⟨h,_⟩|⟨h,_⟩<;>omega)).mono ?_
  rintro e w' ⟨rfl,hx⟩;exact⟨_,_,rfl,hx,fun hp=>absurd hp (by decide)⟩
 ·rw[CG hk];refine(EB w k j 0 n ⟨([]:List UInt8).toArray⟩ (by have:=hk.1;omega)).mono ?_
  rintro e w' ⟨b,rfl,hc,h1,h2,hx⟩;refine⟨_,_,rfl,hx,fun _=>⟨b,rfl,h1,h2,fun i hi=> ?_⟩⟩;simp only[qae]at hi;obtain rfl:i=0:=by omega
  exact hc
 ·rw[B0 hk];refine(Ff w k j q 0 ⟨([]:List UInt8).toArray⟩ (by omega)).mono ?_
  rintro e w' ⟨b,rfl,hc,dG,h1,h2,hx⟩;refine⟨_,_,rfl,hx,fun _=>⟨b,rfl,h1,h2,fun i hi=> ?_⟩⟩;simp only[qat,qaE]at hi;obtain rfl|rfl:i=0\/i=1:=by omega
  ·exact hc
  ·exact dG
theorem Fh(B g:Nat)(w:World)(ns:List Nd)(rv:Value)(h:GrR B g w ns rv)(i:Int):
  Calls Tryz.prog 89 #[.pointer (some ⟨g,0,none⟩),.int .i64 i] w fun e w'=>e= .returned (.bool (decide (0<=i/\i<(ns.length:Int))))/\Ext w w':=by
 obtain⟨k0,_,hg⟩:=h.blk.oneG;obtain⟨A2,c2,rfl⟩:=h.row.shape;clear h;by_cases h0:0<=i
 ·by_cases h1:i<(ns.length:Int)
  ·have hd:decide (0<=i/\i<(ns.length:Int))=true:=decide_eq_true ⟨h0,h1⟩;rw[hd];clear hd;go_enter Tryz.func89,Tryz.ntmps89;go_wp2_with fail;go_ret;exact⟨rfl,Ext.refl w⟩
  ·have hd:decide (0<=i/\i<(ns.length:Int))=false:=decide_eq_false (fun h=>h1 h.2);rw[hd];clear hd;go_enter Tryz.func89,Tryz.ntmps89;go_wp2_with fail;go_ret;exact⟨rfl,Ext.refl w⟩
 ·have hd:decide (0<=i/\i<(ns.length:Int))=false:=decide_eq_false (fun h=>h0 h.1);rw[hd];clear hd;go_enter Tryz.func89,Tryz.ntmps89;go_wp2_with fail;go_ret;exact⟨rfl,Ext.refl w⟩
theorem KC(B g:Nat)(w:World)(ns:List Nd)(rv:Value)(h:GrR B g w ns rv)(x:Nd)(hx:CA ns.length x):
  Calls Tryz.prog 180 #[.pointer (some ⟨g,0,none⟩),ndV x] w fun e w'=>e= .returned (.bool true)/\Ext w w':=by
 have bI:=J (fun W=>KJ W x (by have:=hx.text;omega));rw[hx.plain]at bI;have az:=J (fun W=>Bf W x.kind);rw[hx.oper]at az;have uM:=J (fun W=>D4 W x hx);have hlt:=hx.args_lt;have ig:=J (fun W h (a:Nat) (ha:a<ns.length)=>(decide_eq_true (⟨by omega,by omega⟩:0<=(a:Int)/\(a:Int)<(ns.length:Int))) ▸ Fh B g W ns rv h (a:Int));have HG:=J h;have hal:=hx.args_len;have hz1:(BA x).length<1->x.a=0:=by
  intro hl;rcases hx with ⟨k,t,rfl,ho⟩|⟨k,n,j,rfl,ho,hj⟩|⟨k,j,q,rfl,hk,hj,hq⟩
  ·rfl
  ·rw[CG ho]at hl;simp at hl
  ·rw[B0 hk]at hl;simp at hl
 have aU:(BA x).length<2->x.b=0:=by
  intro hl;rcases hx with ⟨k,t,rfl,ho⟩|⟨k,n,j,rfl,ho,hj⟩|⟨k,j,q,rfl,hk,hj,hq⟩
  ·rfl
  ·rfl
  ·rw[B0 hk]at hl;simp at hl
 have bD:Hid (∀i,i<(BA x).length->(BA x).getD i 0<ns.length):=J (fun i hi=>by
  rw[qac,qaa hi];exact hlt _ (qap hi))
 clear hlt hx;generalize BA x=zs at *;obtain⟨k,a,d,n,t⟩:=x;simp only[ndV]at bI az uM hz1 aU ⊢;obtain⟨s,hs⟩:∃s:ByteArray,s=⟨t.toArray⟩:=⟨_,rfl⟩;have af:str t= .string s:=by rw[hs];rfl
 rw[af]at bI uM ⊢;clear hs af;obtain⟨A,c,rfl⟩:=h.row.shape;clear h;have aA:=J (Blk.new w 95 #[.int .i64 k,.int .i64 a,.int .i64 d,.int .i64 n,.string s]);have ah:=J ((Ext.refl w).alloc (.cells #[.int .i64 k,.int .i64 a,.int .i64 d,.int .i64 n,.string s] 95));obtain⟨w1,aB⟩:∃w1,w1=w.alloc (.cells #[.int .i64 k,.int .i64 a,.int .i64 d,.int .i64 n,.string s] 95):=⟨_,rfl⟩;rw[<-aB]at aA ah;have q0:=aA.o.five;obtain⟨m,hm⟩:∃m,m=zs.length:=⟨_,rfl⟩;rw[<-hm]at az hz1 aU hal bD;have jj:=J hm;clear hm;have h3:(m=0/\a=0/\d=0)\/(m=1/\d=0)\/m=2:=by
  have:m=0\/m=1\/m=2:=by omega
  rcases this with h|h|h
  ·exact .inl ⟨h,hz1 (by omega),aU (by omega)⟩
  ·exact .inr (.inl ⟨h,aU (by omega)⟩)
  ·exact .inr (.inr h)
 clear hz1 aU hal;rcases h3 with ⟨rfl,rfl,rfl⟩|⟨rfl,rfl⟩|rfl
 ·rw[show ((0:Nat):Int)=0 from rfl]at az;go_enter Tryz.func180,Tryz.ntmps180;go_upto_region 1 with fail;rw[<-aB];clear aB;go_wp2_with fail;refine(az.o _).mono ?_
  rintro e w2 ⟨rfl,rfl⟩;go_wp2_with fail;refine(bI.o _).mono ?_
  rintro e w2 ⟨rfl,al⟩;have am:=J (ah.o.trans al);have aF:=J (aA.o.ext al);clear q0 al;have q0:=aF.o.five;go_wp2_with fail;refine(uM.o _).mono ?_
  rintro e w3 ⟨A3,c3,rfl,ae,bO⟩;have ag:=J (am.o.trans ae);have qf:=J bO;rw[<-jj.o]at qf ⊢;clear q0 ae bO;go_wp2_with fail;go_loopw [39] (fun jm wr=>∃i:Nat,i<=0/\jm= .int .i64 (i:Int)/\Ext w3 wr) (fun jm _=>0-(intOf jm).toNat)
  case atStart=>exact⟨0,qal _,rfl,Ext.refl w3⟩
  case round=>
   obtain⟨i,hi,rfl,hx⟩:=hrel;have HX:=J hx;have lS:IntKind.i64.wrap ((i:Int)+1)=(i:Int)+1:=IntWalk.i64_in _ (by omega);by_cases hlt:i<0
   ·obtain⟨b3,rfl,hb0,av,fK⟩:=qf.o (by omega);have aa:=(hx.cell av).trans (fK i hlt);have hz:=bD.o i hlt;generalize zs.getD i 0=za at *;have dW:(0:Int)<=(i:Int):=by omega
    have hil:(i:Int)<0:=by omega
    clear hx fK;go_wp2_with fail;refine(ig.o _ (HG.o.keep (ag.o.trans HX.o)) za hz).mono ?_
    rintro e w4 ⟨rfl,aJ⟩;have aD:=J (HX.o.trans aJ);clear aJ aa;go_wp2_with fail;go_roundw
    case rel=>exact⟨i+1,hlt,by go_num,aD.o⟩
    case measure=>simp[intOf];omega
   ·go_wp2_with fail;go_ret;exact⟨rfl,ag.o.trans HX.o⟩
 ·rw[show ((1:Nat):Int)=1 from rfl]at az;go_enter Tryz.func180,Tryz.ntmps180;go_upto_region 1 with fail;rw[<-aB];clear aB;go_wp2_with fail;refine(az.o _).mono ?_
  rintro e w2 ⟨rfl,rfl⟩;go_wp2_with fail;refine(bI.o _).mono ?_
  rintro e w2 ⟨rfl,al⟩;have am:=J (ah.o.trans al);have aF:=J (aA.o.ext al);clear q0 al;have q0:=aF.o.five;go_wp2_with fail;refine(uM.o _).mono ?_
  rintro e w3 ⟨A3,c3,rfl,ae,bO⟩;have ag:=J (am.o.trans ae);have qf:=J bO;rw[<-jj.o]at qf ⊢;clear q0 ae bO;go_wp2_with fail;go_loopw [39] (fun jm wr=>∃i:Nat,i<=1/\jm= .int .i64 (i:Int)/\Ext w3 wr) (fun jm _=>1-(intOf jm).toNat)
  case atStart=>exact⟨0,qal _,rfl,Ext.refl w3⟩
  case round=>
   obtain⟨i,hi,rfl,hx⟩:=hrel;have HX:=J hx;have lS:IntKind.i64.wrap ((i:Int)+1)=(i:Int)+1:=IntWalk.i64_in _ (by omega);by_cases hlt:i<1
   ·obtain⟨b3,rfl,hb0,av,fK⟩:=qf.o (by omega);have aa:=(hx.cell av).trans (fK i hlt);have hz:=bD.o i hlt;generalize zs.getD i 0=za at *;have dW:(0:Int)<=(i:Int):=by omega
    have hil:(i:Int)<1:=by omega
    clear hx fK;go_wp2_with fail;refine(ig.o _ (HG.o.keep (ag.o.trans HX.o)) za hz).mono ?_
    rintro e w4 ⟨rfl,aJ⟩;have aD:=J (HX.o.trans aJ);clear aJ aa;go_wp2_with fail;go_roundw
    case rel=>exact⟨i+1,hlt,by go_num,aD.o⟩
    case measure=>simp[intOf];omega
   ·go_wp2_with fail;go_ret;exact⟨rfl,ag.o.trans HX.o⟩
 ·rw[show ((2:Nat):Int)=2 from rfl]at az;go_enter Tryz.func180,Tryz.ntmps180;go_upto_region 1 with fail;rw[<-aB];clear aB;go_wp2_with fail;refine(az.o _).mono ?_
  rintro e w2 ⟨rfl,rfl⟩;go_wp2_with fail;refine(bI.o _).mono ?_
  rintro e w2 ⟨rfl,al⟩;have am:=J (ah.o.trans al);have aF:=J (aA.o.ext al);clear q0 al;have q0:=aF.o.five;go_wp2_with fail;refine(uM.o _).mono ?_
  rintro e w3 ⟨A3,c3,rfl,ae,bO⟩;have ag:=J (am.o.trans ae);have qf:=J bO;rw[<-jj.o]at qf ⊢;clear q0 ae bO;go_wp2_with fail;go_loopw [39] (fun jm wr=>∃i:Nat,i<=2/\jm= .int .i64 (i:Int)/\Ext w3 wr) (fun jm _=>2-(intOf jm).toNat)
  case atStart=>exact⟨0,qal _,rfl,Ext.refl w3⟩
  case round=>
   obtain⟨i,hi,rfl,hx⟩:=hrel;have HX:=J hx;have lS:IntKind.i64.wrap ((i:Int)+1)=(i:Int)+1:=IntWalk.i64_in _ (by omega);by_cases hlt:i<2
   ·obtain⟨b3,rfl,hb0,av,fK⟩:=qf.o (by omega);have aa:=(hx.cell av).trans (fK i hlt);have hz:=bD.o i hlt;generalize zs.getD i 0=za at *;have dW:(0:Int)<=(i:Int):=by omega
    have hil:(i:Int)<2:=by omega
    clear hx fK;go_wp2_with fail;refine(ig.o _ (HG.o.keep (ag.o.trans HX.o)) za hz).mono ?_
    rintro e w4 ⟨rfl,aJ⟩;have aD:=J (HX.o.trans aJ);clear aJ aa;go_wp2_with fail;go_roundw
    case rel=>exact⟨i+1,hlt,by go_num,aD.o⟩
    case measure=>simp[intOf];omega
   ·go_wp2_with fail;go_ret;exact⟨rfl,ag.o.trans HX.o⟩
end Big
end Go.Proofs.YtkoaogkknnelaaaGreatDoor
