import Derived.Test.YtkoaogkknnelaaaGreatDoorM9
import Derived.Deep.RegionLaw
set_option linter.unusedVariables false
set_option linter.unusedSimpArgs false
set_option maxRecDepth 100000
namespace Go.Proofs.YtkoaogkknnelaaaGreatDoor
namespace Big
open Lib renaming hid → J
def BN(x:Nd):List Nat:=if x.kind<5 then [] else if 6<=x.kind/\x.kind<=9 then [x.a.toNat,x.b.toNat] else [x.a.toNat]
def CQ(ns:List Nd)(i:Nat):List Nat:=match ns[i]? with
 |some x=>BN x
 |none=>[]
theorem AK.args_lt{ns:List Nd}(hs:AK ns){i a:Nat}(h:a∈CQ ns i):a<i:=by
 unfold CQ at h;cases hx:ns[i]? with
 |none=>rw[hx]at h;cases h
 |some x=>
  rw[hx]at h;simp only at h;rcases hs.2 i x hx with ⟨k,t,rfl,ho⟩|⟨k,n,j,rfl,ho,hj⟩|⟨k,j,q,rfl,hk,hj,hq⟩
  ·unfold BN at h;rw[if_pos (by rcases ho with ⟨h,_⟩|⟨h,_⟩|⟨h,_⟩<;>simp only<;>omega)]at h;cases h
  ·unfold BN at h;have:=ho.1;rw[if_neg (by simp only;omega),if_neg (by simp only;omega)]at h;simp only[qaq,qaQ]at h;omega
  ·unfold BN at h;rw[if_neg (by simp only;omega),if_pos (by simp only;omega)]at h;simp only[qaq,qbl,qbi,or_false]at h;omega
inductive CS (ns:List Nd) (i:Nat):Nat->Prop where
 |here:CS ns i i
 |down {j a:Nat}:CS ns i j->a∈CQ ns j->CS ns i a
theorem CS.le{ns:List Nd}(hs:AK ns){i j:Nat}(h:CS ns i j):j<=i:=by
 induction h with
 |here=>exact qab _
 |down _ ha ih=>have:=hs.args_lt ha;omega
theorem CS.trans{ns:List Nd}{i j q:Nat}(h:CS ns i j)(k:CS ns j q):CS ns i q:=by
 induction k with
 |here=>exact h
 |down _ ha ih=>exact ih.down ha
def Fr(F:List Bool):List Nat->List Bool
 |[]=>F
 |a::l=>Fr (F.set a true) l
theorem Nx(l:List Nat):∀F:List Bool,(Fr F l).length=F.length:=by
 induction l with
 |nil=>intro F;rfl
 |cons a l ih=>intro F;rw[Fr,ih,qbm]
theorem K1(F:List Bool)(a j:Nat):(F.set a true).getD j false=(decide (j=a/\a<F.length) || F.getD j false):=by
 rw[qaa,qaa,List.getElem?_set];by_cases h:a=j
 ·subst h;rw[if_pos rfl];by_cases hl:a<F.length
  ·simp[hl]
  ·rw[if_neg hl,qav (by omega)];simp[hl]
 ·rw[if_neg h];simp[Ne.symm h]
theorem MP(l:List Nat):∀(F:List Bool) (j:Nat),j<F.length->(Fr F l).getD j false=(decide (j∈l) || F.getD j false):=by
 induction l with
 |nil=>intro F j _;simp[Fr]
 |cons a l ih=>
  intro F j hj;rw[Fr,ih _ j (by rw[qbm];exact hj),K1];by_cases h1:j=a
  ·subst h1;simp[hj]
  ·simp[h1]
def IB(ns:List Nd)(i:Nat)(F:List Bool):List Bool:=if F.getD i false then Fr F (CQ ns i) else F
theorem H6(ns:List Nd)(i:Nat)(F:List Bool):(IB ns i F).length=F.length:=by
 unfold IB;split
 ·exact Nx _ _
 ·rfl
def Dj(ns:List Nd)(i m:Nat)(F:List Bool):Prop:=i<F.length/\F.length<=ns.length/\∀j,j<F.length->(F.getD j false=true↔j=i\/∃q,m<=q/\CS ns i q/\j∈CQ ns q)
theorem Dj.start{ns:List Nd}(hs:AK ns){i:Nat}{F:List Bool}(hi:i<F.length)(hF:F.length<=ns.length)(h:∀j,j<F.length->(F.getD j false=true↔j=i)):Dj ns i (i+1) F:=
 ⟨hi,hF,fun j hj=>(h j hj).trans ⟨.inl,fun h=>by
  rcases h with h|⟨q,hq,hr,_⟩
  ·exact h
  ·have:=hr.le hs;omega⟩⟩
theorem Dj.here{ns:List Nd}(hs:AK ns){i m:Nat}{F:List Bool}(h:Dj ns i (m+1) F)(hm:m<F.length):F.getD m false=true↔CS ns i m:=by
 rw[h.2.2 m hm];constructor
 ·rintro(rfl|⟨q,_,hr,ha⟩)
  ·exact .here
  ·exact hr.down ha
 ·intro hr;cases hr with
  |here=>exact .inl rfl
  | @down j _ hr ha=>exact .inr ⟨j,by have:=hs.args_lt ha;omega,hr,ha⟩
theorem Dj.step{ns:List Nd}(hs:AK ns){i m:Nat}{F:List Bool}(h:Dj ns i (m+1) F)(hm:m<F.length):Dj ns i m (IB ns m F):=by
 have hh:=h.here hs hm;refine⟨by rw[H6];exact h.1,by rw[H6];exact h.2.1,fun j hj=> ?_⟩;rw[H6]at hj;unfold IB;by_cases hr:CS ns i m
 ·rw[if_pos (hh.2 hr),MP _ _ _ hj,Bool.or_eq_true,decide_eq_true_eq,h.2.2 j hj];constructor
  ·rintro(ha|ha|⟨q,hq,hr2,ha⟩)
   ·exact .inr ⟨m,qab _,hr,ha⟩
   ·exact .inl ha
   ·exact .inr ⟨q,by omega,hr2,ha⟩
  ·rintro(ha|⟨q,hq,hr2,ha⟩)
   ·exact .inr (.inl ha)
   ·rcases Nat.eq_or_lt_of_le hq with e|e
    ·subst e;exact .inl ha
    ·exact .inr (.inr ⟨q,e,hr2,ha⟩)
 ·have hf:F.getD m false=false:=by
   cases hc:F.getD m false with
   |false=>rfl
   |true=>exact absurd (hh.1 hc) hr
  rw[hf];simp only[qbk,if_false];rw[h.2.2 j hj];constructor
  ·rintro(ha|⟨q,hq,hr2,ha⟩)
   ·exact .inl ha
   ·exact .inr ⟨q,by omega,hr2,ha⟩
  ·rintro(ha|⟨q,hq,hr2,ha⟩)
   ·exact .inl ha
   ·rcases Nat.eq_or_lt_of_le hq with e|e
    ·subst e;exact absurd hr2 hr
    ·exact .inr ⟨q,e,hr2,ha⟩
theorem Dj.done{ns:List Nd}{i:Nat}{F:List Bool}(h:Dj ns i 0 F):∀j,j<F.length->(F.getD j false=true↔CS ns i j):=by
 intro j hj;rw[h.2.2 j hj];constructor
 ·rintro(rfl|⟨q,_,hr,ha⟩)
  ·exact .here
  ·exact hr.down ha
 ·intro hr;cases hr with
  |here=>exact .inl rfl
  | @down q _ hr ha=>exact .inr ⟨q,qaj _,hr,ha⟩
def S2(ns:List Nd)(i:Nat)(t:Tx):Prop:=∃j x,CS ns i j/\ns[j]? =some x/\x.kind=2/\x.text=t
theorem CS.split{ns:List Nd}{i j:Nat}:CS ns i j↔i=j\/∃a∈CQ ns i,CS ns a j:=by
 constructor
 ·intro h
  induction h with
  |here=>exact .inl rfl
  | @down p b hp hb ih=>
    rcases ih with rfl|⟨a,ha,hr⟩
    ·exact .inr ⟨b,hb,.here⟩
    ·exact .inr ⟨a,ha,hr.down hb⟩
 ·rintro(rfl|⟨a,ha,hr⟩)
  ·exact .here
  ·exact(CS.here.down ha).trans hr
noncomputable def EJ(R:Nat->Bool)(T:List X2)(n:Nd):List X2:=T++[if R T.length then Bj n (T.getD n.a.toNat X2.O) (T.getD n.b.toNat X2.O) else X2.O]
noncomputable def CI(R:Nat->Bool)(ns:List Nd):List X2:=ns.foldl (EJ R) []
theorem Pm(R:Nat->Bool)(ns:List Nd)(x:Nd):CI R (ns++[x])=EJ R (CI R ns) x:=by unfold CI;rw[qbx];rfl
theorem DB(R:Nat->Bool)(ns:List Nd):(CI R ns).length=ns.length:=by
 have key:∀(l:List Nd) (D:List X2),(l.foldl (EJ R) D).length=D.length+l.length:=by
  intro l
  induction l with
  |nil=>intro D;rfl
  |cons x l ih=>
   intro D;rw[qbU,ih];simp only[EJ,qac,qaC,qaZ];omega
 have:=key ns [];rw[qaZ,qaW]at this;exact this
theorem Hs(R:Nat->Bool)(ns:List Nd){i:Nat}(hi:i<ns.length):CI R (ns.take (i+1))=EJ R (CI R (ns.take i)) ns[i]:=by
 rw[qaz hi,Pm]
theorem Rg(R:Nat->Bool)(ns ms:List Nd):CI R ns <+: CI R (ns++ms):=by
 have key:∀(l:List Nd) (D:List X2),D <+: l.foldl (EJ R) D:=by
  intro l
  induction l with
  |nil=>intro D;exact List.prefix_refl _
  |cons x l ih=>intro D;exact(List.prefix_append D _).trans (ih _)
 unfold CI;rw[qbx];exact key ms _
theorem Ku(R:Nat->Bool){ns:List Nd}{i:Nat}(YQ:i<=ns.length):∀j,j<i->(CI R (ns.take i)).getD j X2.O=(CI R ns).getD j X2.O:=by
 intro j hj;have h1:=Rg R (ns.take i) (ns.drop i);rw[qbV]at h1;obtain⟨t,ht⟩:=h1;rw[<-ht,Fb _ _ (by rw[DB,qam];omega)]
theorem Th(R:Nat->Bool)(ns:List Nd):∀x∈CI R ns,x.Ok:=by
 have key:∀(l:List Nd) (D:List X2),(∀x∈D,x.Ok)->∀x∈l.foldl (EJ R) D,x.Ok:=by
  intro l
  induction l with
  |nil=>intro D h;exact h
  |cons n l ih=>
   intro D h;rw[qbU];refine ih _ (fun x hx=> ?_);unfold EJ at hx;rcases qbt.1 hx with hx|hx
   ·exact h x hx
   ·rw[qaQ]at hx;subst hx;have hg:∀j,(D.getD j X2.O).Ok:=fun j=>by
     rw[qaa];cases hj:D[j]? with
     |none=>exact X2.O_ok
     |some y=>exact h y (qbf hj)
    split
    ·exact FP n (hg _) (hg _)
    ·exact X2.O_ok
 exact key ns [] (fun x hx=>by cases hx)
theorem Rh(ns:List Nd):CI (fun _=>true) ns=BB ns:=by
 have h:EJ (fun _=>true)=Fq:=by
  funext T n
  unfold EJ Fq;simp
 unfold CI BB;rw[h]
theorem Pn(R:Nat->Bool){ns:List Nd}(hs:AK ns)(hR:∀i a,R i=true->a∈CQ ns i->R a=true):∀i,i<ns.length->R i=true->(CI R ns).getD i X2.O=(BB ns).getD i X2.O:=by
 have key:∀m i,i<m->i<ns.length->R i=true->(CI R ns).getD i X2.O=(BB ns).getD i X2.O:=by
  intro m
  induction m with
  |zero=>intro i hi;omega
  |succ m ih=>
   intro i x7 hi Yv;have hx:ns[i]? =some ns[i]:=qad hi
   rw[IY hs hx,<-Ku R (Nat.succ_le_of_lt hi) i (Nat.lt_succ_self i),Hs R ns hi];unfold EJ;have hl:(CI R (ns.take i)).length=i:=by rw[DB,qam];omega
   rw[Gn _ _ hl.symm,hl,if_pos Yv];have sZ:∀a,a∈CQ ns i->(CI R (ns.take i)).getD a X2.O=(BB ns).getD a X2.O:=fun a ha=>by
    have hai:=hs.args_lt ha;rw[Ku R (qaK hi) a hai];exact ih a (by omega) (by omega) (hR i a Yv ha)
   generalize hnx:ns[i]=x at *;rcases hs.2 i x hx with ⟨k,t,rfl,ho⟩|⟨k,n,j,rfl,ho,hj⟩|⟨k,j,q,rfl,hk,hj,hq⟩
   ·have:k<5:=by rcases ho with ⟨h,_⟩|⟨h,_⟩|⟨h,_⟩<;>omega
    exact EH (by simp only;omega) _ _ _ _
   ·have h5:=ho.1;have ha:j∈CQ ns i:=by
     unfold CQ;rw[hx];simp only[BN];rw[if_neg (by omega),if_neg (by omega)];simp
    simp only[qaq];rw[sZ j ha];exact GB (by simp only;omega) (by simp only;omega) _ _ _
   ·have ha:j∈CQ ns i/\q∈CQ ns i:=by
     unfold CQ;rw[hx];simp only[BN];rw[if_neg (by omega),if_pos (by omega)];simp
    simp only[qaq];rw[sZ j ha.1,sZ q ha.2]
 intro i;exact key (i+1) i (Nat.lt_succ_self i)
theorem Pl{ns:List Nd}{i j:Nat}(hi:i<=ns.length)(hj:j<i):(BB (ns.take i)).getD j X2.O=(BB ns).getD j X2.O:=D3 hi j hj
open Go.RowKit
def di(x:Int):Value:= .int .i64 x
def UI(l:List Int):Prop:=∀x∈l,-9223372036854775808<=x/\x<=9223372036854775807
def EU(w:World)(v:Value)(l:List Int):Prop:=UI l/\DX w v (l.map di)
structure KB (B g:Nat) (w w':World):Prop where
 os:w'.os=w.os
 tape:w'.tape=w.tape
 output:w'.output=w.output
 size:w.heap.size<=w'.heap.size
 block:∀k,k<B->k≠g->w'.heap[k]? =w.heap[k]?
section
variable {w w' w'':World} {B B' g:Nat} {v:Value} {l:List Int}
theorem KB.refl(B g:Nat)(w:World):KB B g w w:=⟨rfl,rfl,rfl,qab _,fun _ _ _=>rfl⟩
theorem KB.trans(h:KB B g w w')(k:KB B g w' w''):KB B g w w'':=
 ⟨k.os.trans h.os,k.tape.trans h.tape,k.output.trans h.output,qae h.size k.size,fun i h1 h2=>(k.block i h1 h2).trans (h.block i h1 h2)⟩
theorem KB.mono(h:KB B g w w')(hB:B'<=B):KB B' g w w':=⟨h.os,h.tape,h.output,h.size,fun k h1 h2=>h.block k (by omega) h2⟩
theorem KB.below(h:KB B g w w')(k:Below B w' w''):KB B g w w'':=h.trans ⟨k.os,k.tape,k.output,k.size,fun i h1 _=>k.block i h1⟩
theorem KB.ext(h:KB B g w w')(k:Ext w' w'')(hB:B<=w'.heap.size):KB B g w w'':=h.below (Below.mono k hB)
theorem KB.to_ext{w0:World}(h:KB B g w w')(k:Ext w0 w)(hB:w0.heap.size<=B)(hg:w0.heap.size<=g):Ext w0 w':=
 ⟨h.os.trans k.os,h.tape.trans k.tape,h.output.trans k.output,qae k.size h.size,fun i hi=>(h.block i (by omega) (by omega)).trans (k.block i hi)⟩
theorem KB.blk{t:TypeId}{cs:Array Value}{b:Nat}(h:KB B g w w')(hb:Blk w b t cs)(h1:b<B)(h2:b≠g):Blk w' b t cs:=(h.block b h1 h2).trans hb
theorem KB.set{p:Addr}(hp:p.block=g)(u:Value):KB B g w (w.setCell p u):=
 ⟨rfl,rfl,rfl,by simp[World.setCell],fun k _ h2=>Below.heap_setCell w p u k (by rw[hp];exact h2)⟩
theorem KB.drewN(h:KB B g w w')(n:Nat):KB B g w (w'.drewN n):=⟨h.os,h.tape,h.output,h.size,h.block⟩
theorem DX.kb{vs:List Value}(h:DX w v vs)(hk:KB B g w w')(hv:∀b,v.ownBlock=some b->b<B/\b≠g):DX w' v vs:=by
 obtain⟨A,c,rfl,h2,h3,h4⟩:=h;refine⟨A,c,rfl,h2,h3,fun hp=> ?_⟩;obtain⟨b,o,rfl,hlt,hc⟩:=h4 hp;obtain⟨h5,h6⟩:=hv b rfl;refine⟨b,o,rfl,qan hlt hk.size,fun j u hj=> ?_⟩;have h7:=hc j u hj;rw[<-h7];exact World.cell?_of_block (a:=⟨b,o+j,none⟩) (hk.block b h5 h6)
theorem EU.ext(h:EU w v l)(hb:Ext w w'):EU w' v l:=⟨h.1,h.2.ext hb⟩
theorem EU.kb(h:EU w v l)(hk:KB B g w w')(hv:∀b,v.ownBlock=some b->b<B/\b≠g):EU w' v l:=⟨h.1,h.2.kb hk hv⟩
theorem EU.open(h:EU w v l):∃A c,v= .slice A l.length c/\l.length<=c/\c<=maxLen/\
  (0<l.length->∃b o,A=some ⟨b,o,none⟩/\b<w.heap.size/\∀j (hj:j<l.length),w.cell? ⟨b,o+j,none⟩=some (.int .i64 l[j])):=by
 obtain⟨A,c,rfl,h2,h3,h4⟩:=h.2;rw[qas]at h2 h4;refine⟨A,c,by rw[qas],h2,h3,fun hp=> ?_⟩;obtain⟨b,o,rfl,hlt,hc⟩:=h4 hp;exact⟨b,o,rfl,hlt,fun j hj=>hc j _ (by rw[qaP,qad hj];rfl)⟩
theorem EU.lt(h:EU w v l)(hp:0<l.length):∀b,v.ownBlock=some b->b<w.heap.size:=by
 intro b hb;obtain⟨A,c,rfl,_,_,h4⟩:=h.open;obtain⟨b',o,rfl,hlt,_⟩:=h4 hp;simp only[Value.ownBlock,qar]at hb;omega
end
def CM(l:List Int)(a:Nat)(n:Int):Int:=if a<l.length then l.getD a 0 % n else 0
def Dm(l:List Int)(a:Nat):Nat:=if a<l.length then a+1 else a
structure B3 (B g:Nat) (w:World) (L:Value) (l:List Int) (a:Nat):Prop where
 blk:Blk w g 129 #[L,.int .i64 (a:Int)]
 arr:EU w L l
 off:0<l.length->∀b,L.ownBlock=some b->b<B/\b≠g
 lt:g<B
 pos:a<=l.length
 few:l.length<=1000000
theorem Cl{l:List Int}{a:Nat}{n:Int}(hn:1<=n):0<=CM l a n/\CM l a n<n:=by
 unfold CM;split
 ·exact⟨Int.emod_nonneg _ (by omega),Int.emod_lt_of_pos _ (by omega)⟩
 ·exact⟨Int.le_refl _,by omega⟩
theorem EU.nil_kb{w w':World}{v:Value}{l:List Int}(h:EU w v l)(h0:l.length=0)(_hs:w.heap.size<=w'.heap.size):EU w' v l:=by
 refine⟨h.1,?_⟩;obtain⟨A,c,rfl,h2,h3,_⟩:=h.2;exact⟨A,c,rfl,h2,h3,fun hp=>by rw[qas]at hp;omega⟩
theorem B3.kb{B g:Nat}{w w':World}{L:Value}{l:List Int}{a a':Nat}(h:B3 B g w L l a)(hk:KB B g w w')(hb:Blk w' g 129 #[L,.int .i64 (a':Int)])(ha:a'<=l.length):B3 B g w' L l a':=by
 refine⟨hb,?_,h.off,h.lt,ha,h.few⟩;rcases qag l.length with h0|h0
 ·exact h.arr.nil_kb h0 hk.size
 ·exact h.arr.kb hk (h.off h0)
theorem B3.below{B g:Nat}{w w':World}{L:Value}{l:List Int}{a:Nat}(h:B3 B g w L l a)(hk:Below B w w'):B3 B g w' L l a:=
 h.kb ((KB.refl B g w).below hk) ((hk.block g h.lt).trans h.blk) h.pos
theorem B3.mono{B B' g:Nat}{w:World}{L:Value}{l:List Int}{a:Nat}(h:B3 B g w L l a)(hB:B<=B'):B3 B' g w L l a:=
 ⟨h.blk,h.arr,fun h0 b hb=>⟨qan (h.off h0 b hb).1 hB,(h.off h0 b hb).2⟩,qan h.lt hB,h.pos,h.few⟩
theorem Rb(v n:Int)(hn:1<=n):(if v.tmod n<0 then v.tmod n+n else v.tmod n)=v % n:=by
 have h:=Int.tmod_eq_emod (a:=v) (b:=n);have h1:=Int.emod_nonneg v (show n≠0 by omega);have h2:=Int.emod_lt_of_pos v (show 0<n by omega);rw[h];split<;>split<;>omega
theorem TA(w:World)(v n:Int)(_h1: -9223372036854775808<=v)(_h2:v<=9223372036854775807)(hn:1<=n)(hn2:n<=4611686018427387904):
  Calls Tryz.prog 14 #[.int .i64 v,.int .i64 n] w fun e w'=>e= .returned (.int .i64 (v % n))/\w=w':=by
 have hT:=Rb v n hn;have hne:(n == 0)=false:=by rw[beq_eq_false_iff_ne];omega
 obtain⟨r,hr⟩:∃r,v.tmod n=r:=⟨_,rfl⟩;rw[hr]at hT;have im:=Int.emod_nonneg v (show n≠0 by omega);have mN:=Int.emod_lt_of_pos v (show 0<n by omega);by_cases h0:r<0
 ·rw[if_pos h0]at hT;have am: -n<=r:=by omega
  have HT:=J hT;clear hT im mN;go_enter Tryz.func14,Tryz.ntmps14;go_wp2_with fail;go_ret;exact⟨congrArg (fun z=>Ending.returned (.int .i64 z)) HT.o,rfl⟩
 ·rw[if_neg h0]at hT;have am:r<n:=by omega
  have HT:=J hT;clear hT im mN;go_enter Tryz.func14,Tryz.ntmps14;go_wp2_with fail;go_ret;exact⟨congrArg (fun z=>Ending.returned (.int .i64 z)) HT.o,rfl⟩
theorem MA(B g:Nat)(w:World)(L:Value)(l:List Int)(a:Nat)(h:B3 B g w L l a):Calls Tryz.prog 76 #[.pointer (some ⟨g,0,none⟩)] w fun e w'=>e= .returned (.bool (decide (a<l.length)))/\Dr w w':=by
 obtain⟨k0,k1,_,_,_⟩:=h.blk.two;obtain⟨A,c,rfl,hc,hm,_⟩:=h.arr.open;have hx:decide ((a:Int)<(l.length:Int))=decide (a<l.length):=by simp
 have HX:=J hx;clear h hc hm hx;go_enter Tryz.func76,Tryz.ntmps76;go_wp2_with fail;go_quiet (fail);go_wp2_with fail;go_ret;exact⟨by rw[<-HX.o];rfl,(Dr.refl w).drewN _⟩
theorem GR(B g:Nat)(w:World)(L:Value)(l:List Int)(a:Nat)(n:Int)(h:B3 B g w L l a)(hn:1<=n)(hn2:n<=4611686018427387904):Calls Tryz.prog 78 #[.pointer (some ⟨g,0,none⟩),.int .i64 n] w fun e w'=>e= .returned (.int .i64 (CM l a n))/\B3 B g w' L l (Dm l a)/\(∀B',KB B' g w w'):=by
 have H:=J h;have k0:=h.blk.two;have lA:=h.pos;have dz:=h.few;obtain⟨A,c,rfl,hc,hm,aa⟩:=h.arr.open;have aA:=h.arr.1;have HC:=J aa;have gN:=J aA;clear h hc hm aA aa;rcases qah a l.length with hlt|fC
 ·have hV:CM l a n=l[a] % n:=by unfold CM;rw[if_pos hlt,qaa,qad hlt];rfl
  have hA:Dm l a=a+1:=if_pos hlt;have hb:=gN.o l[a] (qaw hlt);obtain⟨b,o,rfl,fd,aa⟩:=HC.o (by omega);have sm:=H.o.off (by omega) b rfl;have hst:=aa a hlt;have bF:Hid (∀W:World,KB B g w W->W.cell? ⟨b,o+a,none⟩=some (.int .i64 l[a])):=J (fun W hk=>(World.cell?_of_block (a:=⟨b,o+a,none⟩) (hk.block b sm.1 sm.2)).trans hst);have HV:=J hV;have HA:=J hA;have t3:=J (fun W=>TA W l[a] n hb.1 hb.2 hn hn2);have aT:IntKind.i64.wrap ((a:Int)+1)=(a:Int)+1:=IntWalk.i64_in _ (by omega);have bQ:IntKind.i64.wrap (a:Int)=(a:Int):=IntWalk.i64_in _ (by omega);have uK:=H.o.blk.set_ 1 (.int .i64 ((a:Int)+1));have um:Hid (Blk (w.setCell ⟨g,1,none⟩ (.int .i64 ((a:Int)+1))) g 129 #[.slice (some ⟨b,o,none⟩) l.length c,.int .i64 ((a:Int)+1)]):=J uK;clear hV hA aa hst hb sm uK;generalize l[a]=x at *;go_enter Tryz.func78,Tryz.ntmps78;go_wp2_with fail;go_quiet (fail);go_wp2_with fail;obtain⟨W,hW⟩:∃W,W=(w.drewN nq).setCell ⟨g,1,none⟩ (.int .i64 ((a:Int)+1)):=⟨_,rfl⟩;rw[<-hW];have HK:Hid (∀B',KB B' g w W):=J (fun B'=>by rw[hW];exact((KB.refl B' g w).drewN nq).trans (KB.set (p:=⟨g,1,none⟩) rfl _));have VR:Blk W g 129 #[.slice (some ⟨b,o,none⟩) l.length c,.int .i64 ((a:Int)+1)]:=by
   rw[hW];exact(H.o.blk.drewN nq).set_ 1 (.int .i64 ((a:Int)+1))
  have HBW:=J VR;have m0:=VR.two;have hst:=bF.o W (HK.o B);clear hW VR k0 um;have hlt2:(a:Int)<(l.length:Int):=by omega
  go_region_law (go_simp;go_at_call 14;refine(t3.o _).mono ?_;rintro e w3 ⟨rfl,rfl⟩)
  all_goals
   go_wp2_with fail;go_ret;refine⟨by rw[HV.o];rfl,?_,fun B'=>(HK.o B').drewN _⟩;rw[HA.o];refine H.o.kb ((HK.o B).drewN _) ?_ (by omega)
   rw[qcd];exact HBW.o
 ·have hV:CM l a n=0:=if_neg (by omega);have hA:Dm l a=a:=if_neg (by omega);have HV:=J hV;have HA:=J hA;have qe:¬(a:Int)<(l.length:Int):=by omega
  clear hV hA hn hn2;go_enter Tryz.func78,Tryz.ntmps78;go_wp2_with fail;go_quiet (fail);go_wp2_with fail;go_ret;refine⟨by rw[HV.o];rfl,?_,fun B'=>(KB.refl B' g w).drewN _⟩;rw[HA.o];exact H.o.kb ((KB.refl B g w).drewN _) H.o.blk H.o.pos
theorem KI(B g:Nat)(w:World)(L:Value)(l:List Int)(a:Nat)(lo hi:Int)(h:B3 B g w L l a)(h1:lo<=hi)(h2: -1000000<=lo)(h3:hi<=1000000):Calls Tryz.prog 77 #[.pointer (some ⟨g,0,none⟩),.int .i64 lo,.int .i64 hi] w fun e w'=>e= .returned (.int .i64 (lo+CM l a (hi-lo+1)))/\B3 B g w' L l (Dm l a)/\(∀B',KB B' g w w'):=by
 have HN:=J (GR B g w L l a (hi-lo+1) h (by omega) (by omega));have hr:=Cl (l:=l) (a:=a) (n:=hi-lo+1) (by omega);have dE:IntKind.i64.wrap (hi-lo)=hi-lo:=IntWalk.i64_in _ (by omega);have aT:IntKind.i64.wrap (hi-lo+1)=hi-lo+1:=IntWalk.i64_in _ (by omega);generalize CM l a (hi-lo+1)=x at *;have bQ:IntKind.i64.wrap (lo+x)=lo+x:=IntWalk.i64_in _ (by omega);clear h;go_enter Tryz.func77,Tryz.ntmps77;go_wp2_with fail;refine HN.o.mono ?_
 rintro e w2 ⟨rfl,ht,hk⟩;have mW:=J ht;have HK:=J hk;clear ht hk;go_wp2_with fail;go_ret;exact⟨rfl,mW.o,HK.o⟩
theorem Tw(w:World)(v:Value)(l:List Int)(h:EU w v l)(hn:l.length<=1000000):Calls Tryz.prog 23 #[v] w fun e w'=>e= .returned (.pointer (some ⟨w.heap.size,0,none⟩))/\B3 (w.heap.size+1) w.heap.size w' v l 0/\Ext w w'/\w'.heap.size=w.heap.size+1:=by
 have H:=J h;obtain⟨A,c,rfl,_⟩:=h.open;clear h;go_enter Tryz.func23,Tryz.ntmps23;go_wp2_with fail;go_ret;refine⟨rfl,⟨Blk.new w _ _,H.o.ext ((Ext.refl w).alloc _),fun h0 b hb=> ?_,by omega,qaj _,hn⟩,(Ext.refl w).alloc _,by simp⟩;have:=H.o.lt h0 b hb;omega
theorem Qp(w:World)(v:Value)(l:List Int)(h:EU w v l):Calls Tryz.prog 21 #[v] w fun e w'=>e= .returned (.bool (decide (l.length<=120)))/\w=w':=by
 obtain⟨A,c,rfl,_⟩:=h.open;have hx:decide ((l.length:Int)<=120)=decide (l.length<=120):=by
  rw[decide_eq_decide];omega
 have HX:=J hx;clear h hx;go_enter Tryz.func21,Tryz.ntmps21;go_wp2_with fail;go_ret;exact⟨by rw[<-HX.o];rfl,rfl⟩
end Big
end Go.Proofs.YtkoaogkknnelaaaGreatDoor
