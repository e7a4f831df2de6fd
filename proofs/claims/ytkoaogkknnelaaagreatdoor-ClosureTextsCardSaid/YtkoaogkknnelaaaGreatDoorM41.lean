import Derived.Test.YtkoaogkknnelaaaGreatDoorM40
set_option linter.unusedVariables false
set_option linter.unusedSimpArgs false
set_option maxHeartbeats 16000000
set_option maxRecDepth 100000
namespace Go.Proofs.YtkoaogkknnelaaaGreatDoor
namespace Big
open Lib renaming hid → J
open Go.RowKit
theorem Qu(l:List Nd):∀u∈AN l,u.oneCell'=true:=fun u hu=>by
 unfold AN at hu;obtain⟨x,_,hu⟩:=List.mem_flatMap.1 hu;simp only[ndC,qay,qbP,or_false]at hu;rcases hu with rfl|rfl|rfl|rfl|rfl<;>rfl
def S6(ns:List Nd)(i:Int)(w:World)(e:Ending)(w':World):Prop:=∃v L c,e= .returned (.tuple #[v,.int .i64 c])/\Ai w.heap.size w' v L/\C4 ns i L c/\L.length<=200/\Ext w w'
theorem Jd(B g:Nat)(w:World)(ns:List Nd)(rv:Value)(h:GrR B g w ns rv)(i:Int):
  Calls Tryz.prog 53 #[.pointer (some ⟨g,0,none⟩),.int .i64 i] w (S6 ns i w):=by
 have ig:=J (Fh B g w ns rv h i);by_cases hi:0<=i/\i<(ns.length:Int)
 ·rw[decide_eq_true hi]at ig;obtain⟨k,rfl⟩:∃k:Nat,(k:Int)=i:=⟨i.toNat,by omega⟩;have hk:k<ns.length:=by omega
  obtain⟨e,be,bX⟩:=h.ok.rep k hk;have uE:=J (fun W (hx:Ext w W)=>N3 B g W ns rv (h.keep hx) (k:Int));rw[K8 hk,K9 h.ok be bX]at uE;have zG:=J (fun W (hx:Ext w W)=>NE B g w ns rv h e k W (.slice none 0 0) [] be bX hx (Ai.nil _ _) (by decide));have bV:=J (fun h1 h2=>C4.ok hk be bX h1 h2);have vn:=J (fun h1=>C4.big hk be bX h1);clear h be bX hi;by_cases h2:e.depth<=40
  ·have rr:decide ((e.depth:Int)>40)=false:=decide_eq_false (by omega);have fI:decide ((40:Int)<(e.depth:Int))=false:=decide_eq_false (by omega);have jN:decide (40<e.depth)=false:=decide_eq_false (by omega);go_enter Tryz.func53,Tryz.ntmps53;go_wp2_with fail;refine ig.o.mono ?_
   rintro r w1 ⟨rfl,ar⟩;have ah:=J ar;clear ar;go_wp2_with fail;refine(uE.o _ ah.o).mono ?_
   rintro r w2 ⟨rfl,al⟩;have am:=J (ah.o.trans al);clear al;go_wp2_with fail;refine(zG.o _ am.o).mono ?_
   rintro r w3 (⟨hl,v3,rfl,ho,dq⟩|⟨hl,A3,n3,c3,rfl,ae⟩)
   ·rw[qaG,qaE]at ho;have XU:e.size<=200:=by rw[qaE]at hl;omega
    have kH:=J ho;have ag:=J (dq.ext am.o (Ai.nil _ _) (l:=[]));have yt:=J (bV.o XU h2);obtain⟨A3,c3,rfl⟩:=ho.shape;clear ho dq hl;go_wp2_with fail;go_ret2;exact⟨_,_,0,rfl,kH.o,yt.o,by rw[Ak];exact XU,ag.o⟩
   ·have ag:=J ae;have my:=J (vn.o (fun h=>by rw[qaE]at hl;omega));clear ae hl;go_wp2_with fail;go_ret2;exact⟨_,[],7,rfl,Ai.nil _ _,my.o,by decide,ag.o⟩
  ·have rr:decide ((e.depth:Int)>40)=true:=decide_eq_true (by omega);have fI:decide ((40:Int)<(e.depth:Int))=true:=decide_eq_true (by omega);have jN:decide (40<e.depth)=true:=decide_eq_true (by omega);have my:=J (vn.o (fun h=>h2 h.2));clear zG bV vn h2;go_enter Tryz.func53,Tryz.ntmps53;go_wp2_with fail;refine ig.o.mono ?_
   rintro r w1 ⟨rfl,ar⟩;have ah:=J ar;clear ar;go_wp2_with fail;refine(uE.o _ ah.o).mono ?_
   rintro r w2 ⟨rfl,al⟩;have am:=J (ah.o.trans al);clear al;go_wp2_with fail;go_ret2;exact⟨_,[],7,rfl,Ai.nil _ _,my.o,by decide,am.o⟩
 ·rw[decide_eq_false hi]at ig;have HO:=J (C4.o (ns:=ns) (i:=i) (by omega));clear h hi;go_enter Tryz.func53,Tryz.ntmps53;go_wp2_with fail;refine ig.o.mono ?_
  rintro r w1 ⟨rfl,ar⟩;have ah:=J ar;clear ar;go_wp2_with fail;go_ret2;exact⟨_,[],1,rfl,Ai.nil _ _,HO.o,by decide,ah.o⟩
theorem Ci {w:World} {v:Value} {xs:List Nd} {y:Nd} {B:Nat} {ii:Array Oper} {rest:List Oper} {o:Oper} {a:Act} {Q:Exit->Act->World->Prop} (be:o.guard=none) (s x:Operand)
  (ho:o.op= .call { callee:= .builtin .append,args:= #[s,x],argTypes:= #[32,32] })
  (hs:a.eval s=v) (ac:Ai B w v xs) (ad:Addr) (c:Nat) (hx:a.eval x= .slice (some ad) 1 c) (fu:∀j u,(AN [y])[j]? =some u->w.cell? (ad.add j)=some u) (hn:xs.length<=1000000) (bx:B<=w.heap.size)
  (h:∀g cap w',Ai B w' (.slice (some ⟨g,0,none⟩) (xs.length+1) cap) (xs++[y])->w.grownBy w' v.ownBlock->(v.ownBlock=some g\/g=w.heap.size)->wpList Tryz.prog ii Q rest (a.put o.dst (.slice (some ⟨g,0,none⟩) (xs.length+1) cap)) w'):wpList Tryz.prog ii Q (o::rest) a w:=by
 obtain⟨i0,hi,aR,hz1,aU⟩:=info_parts BI;refine wpList_append_lies w be s x 32 ho B 95 i0 _ 5 48 Tryz.underlying32 hi aR hz1 aU rfl (by decide) v xs.length (AN xs) hs ac ad 1 c (AN [y]) hx (ED [y]) fu (Qu [y]) (by decide) (by unfold maxLen;omega) (by omega) bx _ rfl (fun g cap w' h1 h2 h3 _=>h g cap w' ?_ h2 h3);unfold Ai;rw[Bl,qab];exact h1
def Nz(B:Nat)(w:World)(v:Value)(l:List Nat):Prop:=w.ownsRow B 3 1 v l.length (l.map din)
theorem Di {w:World} {v:Value} {xs:List Nat} {y:Nat} {B:Nat} {ii:Array Oper} {rest:List Oper} {o:Oper} {a:Act} {Q:Exit->Act->World->Prop} (be:o.guard=none) (s x:Operand)
  (ho:o.op= .call { callee:= .builtin .append,args:= #[s,x],argTypes:= #[41,41] })
  (hs:a.eval s=v) (ac:Nz B w v xs) (ad:Addr) (c:Nat) (hx:a.eval x= .slice (some ad) 1 c) (fu:∀j u,([y].map din)[j]? =some u->w.cell? (ad.add j)=some u) (hn:xs.length<=1000000) (bx:B<=w.heap.size)
  (h:∀g cap w',Nz B w' (.slice (some ⟨g,0,none⟩) (xs.length+1) cap) (xs++[y])->w.grownBy w' v.ownBlock->wpList Tryz.prog ii Q rest (a.put o.dst (.slice (some ⟨g,0,none⟩) (xs.length+1) cap)) w'):wpList Tryz.prog ii Q (o::rest) a w:=by
 obtain⟨i0,hi,aR,hz1,aU⟩:=info_parts DJ;refine wpList_append_lies w be s x 41 ho B 3 i0 _ 1 8 Tryz.underlying41 hi aR hz1 aU rfl (by decide) v xs.length (xs.map din) hs ac ad 1 c ([y].map din) hx rfl fu MH (by decide) (by unfold maxLen;omega) (by omega) bx _ rfl (fun g cap w' h1 h2 h3 _=>h g cap w' ?_ h2);unfold Nz;rw[qaB,qab];exact h1
theorem Mm{W W':World}{B1 B2:Nat}{t1 t2:TypeId}{m1 m2 n1 n2:Nat}{v1 v2:Value}{bW eX:List Value}(h1:W.ownsRow B1 t1 m1 v1 n1 bW)(h2:W.ownsRow B2 t2 m2 v2 n2 eX)(ht:t2≠t1)(hg:W.grownBy W' v1.ownBlock):W'.ownsRow B2 t2 m2 v2 n2 eX:=
 AD h2 (fun k hk=>hg.block k (Aj h2 hk) (fun e=>Jc h2 h1 ht hk e.symm))
structure EE (w0 w:World) (v7 v8:Value) (ids:List Nat) (out:List Nd):Prop where
 e:Ext w0 w
 o:Ai w0.heap.size w v7 out
 i:Nz w0.heap.size w v8 ids
section
variable {w0 w w':World} {v7 v8 v':Value} {ids ids':List Nat} {out out':List Nd}
theorem EE.ext(h:EE w0 w v7 v8 ids out)(hx:Ext w w'):EE w0 w' v7 v8 ids out:=⟨h.e.trans hx,h.o.ext hx,Ac h.i (fun k _ hk=>hx.block k hk)⟩
theorem EE.row(h:EE w0 w v7 v8 ids out)(hg:w.grownBy w' v7.ownBlock)(ho:Ai w0.heap.size w' v' out'):EE w0 w' v' v8 ids out':=
 ⟨h.e.grown hg (Ay h.o),ho,Mm h.o h.i (by decide) hg⟩
theorem EE.col(h:EE w0 w v7 v8 ids out)(hg:w.grownBy w' v8.ownBlock)(ho:Nz w0.heap.size w' v' ids'):EE w0 w' v7 v' ids' out:=
 ⟨h.e.grown hg (Ay h.i),Mm h.i h.o (by decide) hg,ho⟩
theorem EE.far(h:EE w0 w v7 v8 ids out){b:Nat}{cs:Array Value}(hb:Blk w b 95 cs)(h0:w0.heap.size<=b)(h7:v7.ownBlock≠some b)(j:Nat)(u:Value):EE w0 (w.setCell ⟨b,j,none⟩ u) v7 v8 ids out:=by
 have hk:∀k,k≠b->(w.setCell ⟨b,j,none⟩ u).heap[k]? =w.heap[k]? :=fun k hk=>Below.heap_setCell w ⟨b,j,none⟩ u k hk
 exact⟨h.e.more (Below.setCell (Below.refl _ w) h0 u),AD h.o (fun k hk2=>hk k (fun e=>h7 (e ▸ hk2))),AD h.i (fun k hk2=>hk k (fun e=>Eg h.i hb (by decide) (e ▸ hk2)))⟩
theorem Nz.get{B n c:Nat}{w:World}{A:Option Addr}{l:List Nat}(h:Nz B w (.slice A n c) l){j:Nat}(hj:j<l.length):∃(g a:Nat),A=some ⟨g,0,none⟩/\w.cell? ⟨g,j,none⟩=some (.int .i64 (a:Int))/\l.getD j 0=a:=by
 have h':=h;unfold Nz at h;rcases h.2 with ⟨e,h0⟩|⟨g,cap,cur,e,_⟩
 ·omega
 ·injection e with e1 e2 e3
  subst e1;subst e2;subst e3;refine⟨g,_,rfl,?_,rfl⟩;have:=h'.cellAt j (by omega);rw[this,qaD,qaa hj,qac,qaa hj];rfl
end
def NB(w:World)(q:Nat)(l:List Nd):Prop:=q<w.heap.size/\∀i (hi:i<l.length),Hj w q (i*5) l[i]
theorem NB.same{w w':World}{q:Nat}{l:List Nd}(h:NB w q l)(hs:w.heap.size<=w'.heap.size)(hk:w'.heap[q]? =w.heap[q]?):NB w' q l:=by
 have hc:∀o,w'.cell? ⟨q,o,none⟩=w.cell? ⟨q,o,none⟩:=fun o=>World.cell?_of_block (a:=⟨q,o,none⟩) hk
 refine⟨qaj h.1 hs,fun i hi=> ?_⟩;obtain⟨h0,h1,h2,h3,h4⟩:=h.2 i hi;exact⟨(hc _).trans h0,(hc _).trans h1,(hc _).trans h2,(hc _).trans h3,(hc _).trans h4⟩
theorem Ai.nds{B:Nat}{w:World}{v:Value}{l:List Nd}(h:Ai B w v l)(hp:0<l.length):∃q c,v= .slice (some ⟨q,0,none⟩) l.length c/\B<=q/\NB w q l:=by
 have hr:=h.read;unfold Ai at h;rcases h.2 with ⟨_,h0⟩|⟨q,cap,cur,rfl,hB,hh,_⟩
 ·omega
 ·obtain⟨A,c,he,hc⟩:=hr;injection he with e1
  obtain⟨q',o',hq,hlt,fK⟩:=hc hp;rw[<-e1]at hq;injection hq with hq
  injection hq with e3 e4
  subst e3;subst e4;exact⟨q,cap,rfl,hB,hlt,fun i hi=>by have:=fK i hi;rw[qaF]at this;exact this⟩
noncomputable def GM(ns:List Nd)(env:Env)(t:Tx):Ex:= @dite _ (∃e:Ex,e.Good/\Rep ns (AH env t).toNat e) (Classical.propDecidable _) (fun h=>h.choose) (fun _=> .leaf 3 [])
theorem L6{ns:List Nd}{env:Env}{t:Tx}{e:Ex}(hg:e.Good)(hr:Rep ns (AH env t).toNat e):GM ns env t=e:=by
 have h:∃e:Ex,e.Good/\Rep ns (AH env t).toNat e:=⟨e,hg,hr⟩;unfold GM;rw[dif_pos h];exact Rep.same h.choose_spec.1 hg h.choose_spec.2 hr
theorem GZ:∀(e:Ex) (off:Nat) (t:Tx),t∈BV e->∃x∈Ag off e,x.kind=2/\x.text=t
 | .leaf k u,off,t,h=>by
   rw[BV]at h;split at h
   ·rename_i hk;rw[qav]at h;subst hk;exact⟨⟨2,0,0,0,u⟩,by simp[Ag],rfl,h.symm⟩
   ·cases h
 | .un k n x,off,t,h=>by
   obtain⟨y,h1,h2⟩:=GZ x off t h;exact⟨y,by rw[Ag];exact qaT _ h1,h2⟩
 | .bin k x y,off,t,h=>by
   rw[BV]at h;rcases qax.1 h with h|h
   ·obtain⟨z,h1,h2⟩:=GZ x off t h;exact⟨z,by rw[Ag];exact qaT _ h1,h2⟩
   ·obtain⟨z,h1,h2⟩:=GZ y _ t h;exact⟨z,by rw[Ag];exact qbK _ (qaT _ h1),h2⟩
def J3(f:Tx->Ex)(e:Ex)(w:World)(r:Ending)(w':World):Prop:=∃v',r= .returned v'/\Ext w w'/\
 (v'= .slice none 0 0\/((∃q n c,v'= .slice (some q) n c)/\RNd w' v' (Ag 0 (Bb f e))/\(Bb f e).Good/\(Bb f e).size<=200/\(Bb f e).depth<=40))
theorem Lq(B gr:Nat)(w:World)(ns:List Nd)(rv:Value)(h:GrR B gr w ns rv)(ev:Value)(env:Env)(he:RdE w ev env)(hn:env.length<=100000)(v0:Value)(e:Ex)(h0:RNd w v0 (Ag 0 e))(hg:e.Good)(hsz:e.size<=200):
  Calls Tryz.prog 54 #[.pointer (some ⟨gr,0,none⟩),ev,v0] w (J3 (GM ns env) e w):=by
 have et:=J (fun W (hx:Ext w W) t=>FI W ev env (he.ext hx) hn t);have gA:=J (fun W (hx:Ext w W) i=>Jd B gr W ns rv (h.keep hx) i);unfold S6 at gA;have az:=J (fun W k=>Bf W k);have W3:=J hg;have cS:Hid (∀t L,C4 ns (AH env t) L 0->(GM ns env t).Good/\(GM ns env t).size<=200/\L=Ag 0 (GM ns env t)):=J (fun t L hL=>by
  unfold C4 at hL;split at hL
  ·obtain⟨e',h1,h2,⟨h3,_,h5,_⟩|⟨_,_,h6⟩⟩:=hL
   ·rw[L6 h1 h2];exact⟨h1,h3,h5⟩
   ·cases h6
  ·cases hL.2)
 obtain⟨f,hf⟩:∃f,GM ns env=f:=⟨_,rfl⟩;have rW:Hid (∀i x,(Ag 0 e)[i]? =some x->CA i x):=J (fun i x hx=>by have:=EW e hg 0 i x hx;rwa [qaF]at this);have YZ:Hid ((EV f ([],[]) (Ag 0 e)).2=Ag 0 (Bb f e)):=J (M9 f e hg);have jG:Hid ((∀x∈Ag 0 e,x.kind=2->(f x.text).Good)->(Bb f e).Good):=J (fun hh=>F5 f e hg (fun t ht=>by
  obtain⟨x,h1,h2,rfl⟩:=GZ e 0 t ht;exact hh x h1 h2))
 have gZ:=Ak e 0;unfold J3;rw[hf]at cS ⊢;obtain⟨X,hX⟩:∃X,Ag 0 e=X:=⟨_,rfl⟩;rw[hX]at h0 rW YZ jG gZ;obtain⟨A0,c0,rfl,Yu⟩:=h0;have H0:=J Yu;obtain⟨n,bB⟩:∃n,X.length=n:=⟨_,rfl⟩;have HN:=J bB;have XN:n<=200:=by omega
 rw[bB];clear h he Yu bB gZ hf hX hg hsz hn;go_enter Tryz.func54,Tryz.ntmps54;go_wp2_with fail;go_loopw [7,8,18] (fun s7 s8 s18 wr=>∃(k:Nat) (ids:List Nat) (out:List Nd),k<=n/\s18= .int .i64 (k:Int)/\EE w wr s7 s8 ids out/\EV f ([],[]) (X.take k)=(ids,out)/\out.length<=200*k/\ids.length=k/\(∀x∈X.take k,x.kind=2->(f x.text).Good)) (fun _ _ s18 _=>n-(intOf s18).toNat)
 case atStart=>exact⟨0,[],[],qal _,rfl,⟨Ext.refl w,Ai.nil _ _,⟨rfl,.inl ⟨rfl,rfl⟩⟩⟩,rfl,qal _,rfl,(fun x hx=>by simp at hx)⟩
 case round=>
  obtain⟨k,ids,out,hk,rfl,oh,uY,XC,hiq,be⟩:=hrel;obtain⟨A7,c7,rfl⟩:=oh.o.shape;obtain⟨A8,c8,rfl⟩:=Ao oh.i;by_cases hlt:k<n
  ·have bT:k<X.length:=by rw[HN.o];exact hlt
   have ec:decide ((k:Int)<(n:Int))=true:=decide_eq_true (by omega);have bE:decide (k<n)=true:=decide_eq_true hlt;have hw:IntKind.i64.wrap ((k:Int)+1)=(k:Int)+1:=IntWalk.i64_in _ (by omega);have g3:(0:Int)<=(k:Int):=by omega
   obtain⟨gx,ox,rfl,hJ,hcx⟩:=H0.o (by omega);have hnd:=(hcx k bT).ext oh.e hJ;have qF:gx<wr.heap.size:=qaj hJ oh.e.size;have an:=rW.o k _ (qaa bT);have aP:Hid (EV f ([],[]) (X.take (k+1))=stepR f (ids,out) X[k]):=J ((OH f _ X k bT).trans (by rw[uY]));have nN:Hid ((X[k].kind=2->(f X[k].text).Good)->∀x∈X.take (k+1),x.kind=2->(f x.text).Good):=J (fun hq x hx=>by
    rw[qah bT]at hx;rcases qax.1 hx with hx|hx
    ·exact be x hx
    ·rw[qav]at hx;subst hx;exact hq)
   have bU:=J oh;have lb:=J hiq;have hil:ids.length<=1000000:=by omega
   have sc:=J XC;have U2:out.length<=40000:=by omega
   clear hcx hJ oh uY be XC hiq;generalize X[k]=x at *;clear bT;have aB:IntKind.i64.wrap ((out.length:Int)+1-1)=(out.length:Int):=by rw[Int.add_sub_cancel];exact IntWalk.i64_in _ (by omega)
   have aY:IntKind.i64.wrap (out.length:Int)=(out.length:Int):=IntWalk.i64_in _ (by omega);rcases an with ⟨kk,t,rfl,jt⟩|⟨kk,z,j,rfl,Zx,hj⟩|⟨kk,j,q,rfl,hkk,hj,hq⟩
   ·have hfew:=jt.few;by_cases hk2:kk=2
    ·subst hk2;obtain⟨p0,p1,p2,p3,p4⟩:=hnd;simp only at p0 p1 p2 p3 p4;obtain⟨s,hs⟩:∃s:ByteArray,str t= .string s:=⟨_,rfl⟩;rw[hs]at p4;have i5:=J hs;clear hs;go_upto_region 6 with fail;have fB:Blk (wr.alloc (.cells #[.int .i64 2,.int .i64 0,.int .i64 0,.int .i64 0,.string s] 95)) wr.heap.size 95 #[.int .i64 2,.int .i64 0,.int .i64 0,.int .i64 0,.string s]:=Blk.new wr 95 #[.int .i64 2,.int .i64 0,.int .i64 0,.int .i64 0,.string s];have hx5:=(Ext.refl wr).alloc (.cells #[.int .i64 2,.int .i64 0,.int .i64 0,.int .i64 0,.string s] 95);have de:Hid ((Value.slice A7 out.length c7).ownBlock≠some wr.heap.size/\w.heap.size<=wr.heap.size):=J ⟨(fun e=>by have:=Aj bU.o.o e;omega),bU.o.e.size⟩;generalize wr.alloc (.cells #[.int .i64 2,.int .i64 0,.int .i64 0,.int .i64 0,.string s] 95)=w5 at *;generalize wr.heap.size=nb at *;have cU:=J (bU.o.ext hx5);have cm:Hid (Blk w5 nb 95 #[.int .i64 2,.int .i64 0,.int .i64 0,.int .i64 0,.string s]):=J fB;obtain⟨⟨q0,q1,q2,q3,q4⟩,⟨f1,f2,f3,f4⟩,hnb⟩:=cm.o.five';clear fB hx5 p0 p1 p2 p3 p4 bU qF;have HF:Hid (Calls Tryz.prog 51 #[ev,.string s] w5 fun e w'=>e= .returned (.int .i64 (AH env t))/\Ext w5 w'):=J (by
      have hq:=et.o w5 cU.o.e t;rw[i5.o]at hq;exact hq)
     have k7:=J (cS.o t);generalize AH env t=zf at *;go_wp2_with fail;refine HF.o.mono ?_
     rintro r w6 ⟨rfl,bz⟩;have eD:=J (cU.o.ext bz);have HE:=J (gA.o w6 eD.o.e zf);clear bz HF cU;go_wp2_with fail;refine HE.o.mono ?_
     rintro r w7 ⟨vy,L,c,rfl,U0,pZ,Vb,bG⟩;have jF:=J (eD.o.ext bG);by_cases hc:c=0;rotate_left
     ·have tE:(c != 0)=true:=bne_iff_ne.2 hc;clear U0 pZ Vb;go_wp2_with fail;go_ret;exact⟨_,rfl,jF.o.e,.inl rfl⟩
     subst hc;obtain⟨jS,Vw,rfl⟩:=k7.o L pZ;obtain⟨qy,cy,rfl,ZI,XD⟩:=U0.nds (by rw[Ak];exact(f t).size_pos);have yZ:Hid ((Value.slice A7 out.length c7).ownBlock≠some qy):=J (fun e=>by have:=Aj eD.o.o e;omega);have HYM:=J (show (Ag 0 (f t)).map (Ei out.length)=Ag out.length (f t) by rw[QC _ jS,qaF]);have HYK:Hid (∀j y,(Ag 0 (f t))[j]? =some y->CA j y):=J (fun j y hy=>by have:=EW (f t) jS 0 j y hy;rwa [qaF]at this);have HYL:=J (Ak (f t) 0);have HFG:=J jS;have YR:=J XD;have Yi:(Ag 0 (f t)).length<=200:=Vb;have hY0:0<(Ag 0 (f t)).length:=by rw[Ak];exact(f t).size_pos
     generalize Ag 0 (f t)=Y at *;clear U0 pZ Vb bG ZI XD HE k7 eD jS Vw;go_wp2_with fail;go_loopw [7,40] (fun s7 s40 wr=>∃(j:Nat),j<=Y.length/\s40= .int .i64 (j:Int)/\EE w wr s7 (.slice A8 ids.length c8) ids (out++(Y.take j).map (Ei out.length))/\NB wr qy Y/\s7.ownBlock≠some qy) (fun _ s40 _=>Y.length-(intOf s40).toNat)
     case atStart=>exact⟨0,qal _,rfl,by rw[qaK,qcl,qaW];exact jF.o,YR.o,yZ.o⟩
     case round=>
      obtain⟨j,nA,rfl,ru,wD,xz⟩:=hrel;obtain⟨O,hO⟩:∃O,out++(Y.take j).map (Ei out.length)=O:=⟨_,rfl⟩;rw[hO]at ru;obtain⟨B7,d7,rfl⟩:=ru.o.shape;have k8:=J ru;have gN:=J wD;have qg:=J xz;have UT:=wD.1;have Yk:O.length=out.length+j:=by rw[<-hO,qab,qag,qas];omega
      have sV:O.length<=1000000:=by omega
      have WF:=J Yk;clear ru xz jF YR yZ Yk;by_cases hlt2:j<Y.length
      ·have oR:decide ((j:Int)<(Y.length:Int))=true:=decide_eq_true (by omega);have y9:IntKind.i64.wrap ((j:Int)+1)=(j:Int)+1:=IntWalk.i64_in _ (by omega);have mO:(0:Int)<=(j:Int):=by omega
       have hnd:=wD.2 j hlt2;have an:=HYK.o j _ (qaa hlt2);have fD:Hid (out++(Y.take (j+1)).map (Ei out.length)=O++[Ei out.length Y[j]]):=J (by
        rw[qah hlt2,qaB,<-qan,hO];rfl)
       clear wD hO;generalize Y[j]=y at *;rcases an with ⟨kq,tq,rfl,Z8⟩|⟨kq,zq,jq,rfl,Zw,rG⟩|⟨kq,jq,iq,rfl,hkq,rG,hiq⟩
       ·have hfq:=Z8.few;have ay:Al (kq:Int)=0:=by unfold Al;rw[if_neg (by omega),if_pos (by omega)]
        have jI:Hid (Ei out.length ⟨(kq:Int),0,0,0,tq⟩=⟨(kq:Int),0,0,0,tq⟩):=J (by simp only[Ei];rw[if_neg (by omega),if_neg (by omega)]);rw[jI.o]at fD;obtain⟨p0,p1,p2,p3,p4⟩:=hnd;simp only at p0 p1 p2 p3 p4 fD;obtain⟨s2,cn⟩:∃s2:ByteArray,str tq= .string s2:=⟨_,rfl⟩;rw[cn]at p4;have pk:=J cn;clear cn;go_upto_region 14 with fail;have fB:Blk (wr.alloc (.cells #[.int .i64 (kq:Int),.int .i64 0,.int .i64 0,.int .i64 0,.string s2] 95)) wr.heap.size 95 #[.int .i64 (kq:Int),.int .i64 0,.int .i64 0,.int .i64 0,.string s2]:=Blk.new wr 95 #[.int .i64 (kq:Int),.int .i64 0,.int .i64 0,.int .i64 0,.string s2];have hx5:=(Ext.refl wr).alloc (.cells #[.int .i64 (kq:Int),.int .i64 0,.int .i64 0,.int .i64 0,.string s2] 95);have de:Hid ((Value.slice B7 O.length d7).ownBlock≠some wr.heap.size/\w.heap.size<=wr.heap.size/\qy≠wr.heap.size):=J ⟨(fun e=>by have:=Aj k8.o.o e;omega),k8.o.e.size,by have:=gN.o.1;omega⟩;have md:=J (gN.o.same hx5.size (hx5.block qy gN.o.1));generalize wr.alloc (.cells #[.int .i64 (kq:Int),.int .i64 0,.int .i64 0,.int .i64 0,.string s2] 95)=x5 at *;generalize wr.heap.size=nb2 at *;have cU:=J (k8.o.ext hx5);have cm:Hid (Blk x5 nb2 95 #[.int .i64 (kq:Int),.int .i64 0,.int .i64 0,.int .i64 0,.string s2]):=J fB;obtain⟨⟨q0,q1,q2,q3,q4⟩,⟨f1,f2,f3,f4⟩,hnb⟩:=cm.o.five';clear fB hx5 p0 p1 p2 p3 p4 k8 gN UT;go_wp2_with fail;refine(az.o _ _).mono ?_
        rintro r w6 ⟨rfl,rfl⟩;rw[ay];go_wp2_with fail;refine(az.o _ _).mono ?_
        rintro r w7 ⟨rfl,rfl⟩;rw[ay];have a9:Hid (∀j u,(AN [⟨(kq:Int),0,0,0,tq⟩])[j]? =some u->(x5.alloc (.cells #[.int .i64 (kq:Int),.int .i64 0,.int .i64 0,.int .i64 0,.string s2] 95)).cell? ((⟨x5.heap.size,0,none⟩:Addr).add j)=some u):=J (by
         rw[Bw];unfold ndC;rw[pk.o];exact AS x5 95 [.int .i64 (kq:Int),.int .i64 0,.int .i64 0,.int .i64 0,.string s2])
        have bp:=J (cU.o.ext ((Ext.refl x5).alloc (.cells #[.int .i64 (kq:Int),.int .i64 0,.int .i64 0,.int .i64 0,.string s2] 95)));have rV:=J (md.o.same ((Ext.refl x5).alloc (.cells #[.int .i64 (kq:Int),.int .i64 0,.int .i64 0,.int .i64 0,.string s2] 95)).size (((Ext.refl x5).alloc (.cells #[.int .i64 (kq:Int),.int .i64 0,.int .i64 0,.int .i64 0,.string s2] 95)).block qy md.o.1));have jX:=J bp.o.e.size;have pt:=J md.o.1;clear cU md;go_wp2_with (at_builtin;go_must (refine Ci (B:=w.heap.size) (xs:=O) (y:=⟨(kq:Int),0,0,0,tq⟩) rfl _ _ rfl rfl bp.o.o ⟨x5.heap.size,0,none⟩ 1 rfl a9.o sV jX.o ?_;intro g9 kC w9 ft dr kA));have pr:=J (bp.o.row dr ft);have xU:=J (rV.o.same dr.size (dr.block qy rV.o.1 (fun e=>qg.o e.symm)));have yX:Hid ((Value.slice (some ⟨g9,0,none⟩) (O.length+1) kC).ownBlock≠some qy):=J (fun e=>by
         have e2:g9=qy:=by injection e
         rcases kA with h|h
         ·exact qg.o (by subst e2;exact h)
         ·have:=pt.o;have hs:=World.size_alloc x5 (.cells #[.int .i64 (kq:Int),.int .i64 0,.int .i64 0,.int .i64 0,.string s2] 95);omega)
        clear ft dr kA;go_roundw
        case rel=>exact⟨j+1,by omega,by go_num,by rw[fD.o];exact pr.o,xU.o,yX.o⟩
        case measure=>simp[intOf];omega
       ·have hkq:=Zw.1;have ay:Al (kq:Int)=1:=by unfold Al;rw[if_neg (by omega),if_neg (by omega),if_neg (by omega)]
        have jI:Hid (Ei out.length ⟨(kq:Int),(jq:Int),0,zq,[]⟩=⟨(kq:Int),(jq:Int)+(out.length:Int),0,zq,[]⟩):=J (by simp only[Ei];rw[if_pos (by omega),if_neg (by omega)]);rw[jI.o]at fD;obtain⟨p0,p1,p2,p3,p4⟩:=hnd;simp only at p0 p1 p2 p3 p4 fD;obtain⟨s2,cn⟩:∃s2:ByteArray,str ([]:Tx)= .string s2:=⟨_,rfl⟩;rw[cn]at p4;have pk:=J cn;clear cn;go_upto_region 14 with fail;have fB:Blk (wr.alloc (.cells #[.int .i64 (kq:Int),.int .i64 (jq:Int),.int .i64 0,.int .i64 zq,.string s2] 95)) wr.heap.size 95 #[.int .i64 (kq:Int),.int .i64 (jq:Int),.int .i64 0,.int .i64 zq,.string s2]:=Blk.new wr 95 #[.int .i64 (kq:Int),.int .i64 (jq:Int),.int .i64 0,.int .i64 zq,.string s2];have hx5:=(Ext.refl wr).alloc (.cells #[.int .i64 (kq:Int),.int .i64 (jq:Int),.int .i64 0,.int .i64 zq,.string s2] 95);have de:Hid ((Value.slice B7 O.length d7).ownBlock≠some wr.heap.size/\w.heap.size<=wr.heap.size/\qy≠wr.heap.size):=J ⟨(fun e=>by have:=Aj k8.o.o e;omega),k8.o.e.size,by have:=gN.o.1;omega⟩;have md:=J (gN.o.same hx5.size (hx5.block qy gN.o.1));generalize wr.alloc (.cells #[.int .i64 (kq:Int),.int .i64 (jq:Int),.int .i64 0,.int .i64 zq,.string s2] 95)=x5 at *;generalize wr.heap.size=nb2 at *;have cU:=J (k8.o.ext hx5);have cm:Hid (Blk x5 nb2 95 #[.int .i64 (kq:Int),.int .i64 (jq:Int),.int .i64 0,.int .i64 zq,.string s2]):=J fB;obtain⟨⟨q0,q1,q2,q3,q4⟩,⟨f1,f2,f3,f4⟩,hnb⟩:=cm.o.five';clear fB hx5 p0 p1 p2 p3 p4 k8 gN UT;go_wp2_with fail;refine(az.o _ _).mono ?_
        rintro r w6 ⟨rfl,rfl⟩;rw[ay];have pR:IntKind.i64.wrap ((jq:Int)+(out.length:Int))=(jq:Int)+(out.length:Int):=IntWalk.i64_in _ (by omega);go_upto_region 16 with fail;have eD:=J (cU.o.far cm.o de.o.2.1 de.o.1 1 (.int .i64 ((jq:Int)+(out.length:Int))));have cG:Blk (x5.setCell ⟨nb2,1,none⟩ (.int .i64 ((jq:Int)+(out.length:Int)))) nb2 95 #[.int .i64 (kq:Int),.int .i64 ((jq:Int)+(out.length:Int)),.int .i64 0,.int .i64 zq,.string s2]:=cm.o.set_ 1 _;have tZ:=J (md.o.same (w':=x5.setCell ⟨nb2,1,none⟩ (.int .i64 ((jq:Int)+(out.length:Int)))) (by simp) (Below.heap_setCell x5 ⟨nb2,1,none⟩ _ qy de.o.2.2));generalize x5.setCell ⟨nb2,1,none⟩ (.int .i64 ((jq:Int)+(out.length:Int)))=x6 at *;have bK:=J cG;clear q0 q1 q2 q3 q4 f1 f2 f3 f4 hnb cU cm md pR;obtain⟨⟨q0,q1,q2,q3,q4⟩,⟨f1,f2,f3,f4⟩,hnb⟩:=cG.five';clear cG;go_wp2_with fail;refine(az.o _ _).mono ?_
        rintro r w7 ⟨rfl,rfl⟩;rw[ay];have a9:Hid (∀j u,(AN [⟨(kq:Int),(jq:Int)+(out.length:Int),0,zq,[]⟩])[j]? =some u->(x6.alloc (.cells #[.int .i64 (kq:Int),.int .i64 ((jq:Int)+(out.length:Int)),.int .i64 0,.int .i64 zq,.string s2] 95)).cell? ((⟨x6.heap.size,0,none⟩:Addr).add j)=some u):=J (by
         rw[Bw];unfold ndC;rw[pk.o];exact AS x6 95 [.int .i64 (kq:Int),.int .i64 ((jq:Int)+(out.length:Int)),.int .i64 0,.int .i64 zq,.string s2])
        have bp:=J (eD.o.ext ((Ext.refl x6).alloc (.cells #[.int .i64 (kq:Int),.int .i64 ((jq:Int)+(out.length:Int)),.int .i64 0,.int .i64 zq,.string s2] 95)));have rV:=J (tZ.o.same ((Ext.refl x6).alloc (.cells #[.int .i64 (kq:Int),.int .i64 ((jq:Int)+(out.length:Int)),.int .i64 0,.int .i64 zq,.string s2] 95)).size (((Ext.refl x6).alloc (.cells #[.int .i64 (kq:Int),.int .i64 ((jq:Int)+(out.length:Int)),.int .i64 0,.int .i64 zq,.string s2] 95)).block qy tZ.o.1));have jX:=J bp.o.e.size;have pt:=J tZ.o.1;clear eD tZ;go_wp2_with (at_builtin;go_must (refine Ci (B:=w.heap.size) (xs:=O) (y:=⟨(kq:Int),(jq:Int)+(out.length:Int),0,zq,[]⟩) rfl _ _ rfl rfl bp.o.o ⟨x6.heap.size,0,none⟩ 1 rfl a9.o sV jX.o ?_;intro g9 kC w9 ft dr kA));have pr:=J (bp.o.row dr ft);have xU:=J (rV.o.same dr.size (dr.block qy rV.o.1 (fun e=>qg.o e.symm)));have yX:Hid ((Value.slice (some ⟨g9,0,none⟩) (O.length+1) kC).ownBlock≠some qy):=J (fun e=>by
         have e2:g9=qy:=by injection e
         rcases kA with h|h
         ·exact qg.o (by subst e2;exact h)
         ·have:=pt.o;have hs:=World.size_alloc x6 (.cells #[.int .i64 (kq:Int),.int .i64 ((jq:Int)+(out.length:Int)),.int .i64 0,.int .i64 zq,.string s2] 95);omega)
        clear ft dr kA;go_roundw
        case rel=>exact⟨j+1,by omega,by go_num,by rw[fD.o];exact pr.o,xU.o,yX.o⟩
        case measure=>simp[intOf];omega
       ·have ay:Al (kq:Int)=2:=by unfold Al;rw[if_neg (by omega),if_neg (by omega),if_pos (by omega)]
        have jI:Hid (Ei out.length ⟨(kq:Int),(jq:Int),(iq:Int),0,[]⟩=⟨(kq:Int),(jq:Int)+(out.length:Int),(iq:Int)+(out.length:Int),0,[]⟩):=J (by simp only[Ei];rw[if_pos (by omega),if_pos (by omega)]);rw[jI.o]at fD;obtain⟨p0,p1,p2,p3,p4⟩:=hnd;simp only at p0 p1 p2 p3 p4 fD;obtain⟨s2,cn⟩:∃s2:ByteArray,str ([]:Tx)= .string s2:=⟨_,rfl⟩;rw[cn]at p4;have pk:=J cn;clear cn;go_upto_region 14 with fail;have fB:Blk (wr.alloc (.cells #[.int .i64 (kq:Int),.int .i64 (jq:Int),.int .i64 (iq:Int),.int .i64 0,.string s2] 95)) wr.heap.size 95 #[.int .i64 (kq:Int),.int .i64 (jq:Int),.int .i64 (iq:Int),.int .i64 0,.string s2]:=Blk.new wr 95 #[.int .i64 (kq:Int),.int .i64 (jq:Int),.int .i64 (iq:Int),.int .i64 0,.string s2];have hx5:=(Ext.refl wr).alloc (.cells #[.int .i64 (kq:Int),.int .i64 (jq:Int),.int .i64 (iq:Int),.int .i64 0,.string s2] 95);have de:Hid ((Value.slice B7 O.length d7).ownBlock≠some wr.heap.size/\w.heap.size<=wr.heap.size/\qy≠wr.heap.size):=J ⟨(fun e=>by have:=Aj k8.o.o e;omega),k8.o.e.size,by have:=gN.o.1;omega⟩;have md:=J (gN.o.same hx5.size (hx5.block qy gN.o.1));generalize wr.alloc (.cells #[.int .i64 (kq:Int),.int .i64 (jq:Int),.int .i64 (iq:Int),.int .i64 0,.string s2] 95)=x5 at *;generalize wr.heap.size=nb2 at *;have cU:=J (k8.o.ext hx5);have cm:Hid (Blk x5 nb2 95 #[.int .i64 (kq:Int),.int .i64 (jq:Int),.int .i64 (iq:Int),.int .i64 0,.string s2]):=J fB;obtain⟨⟨q0,q1,q2,q3,q4⟩,⟨f1,f2,f3,f4⟩,hnb⟩:=cm.o.five';clear fB hx5 p0 p1 p2 p3 p4 k8 gN UT;go_wp2_with fail;refine(az.o _ _).mono ?_
        rintro r w6 ⟨rfl,rfl⟩;rw[ay];have pR:IntKind.i64.wrap ((jq:Int)+(out.length:Int))=(jq:Int)+(out.length:Int):=IntWalk.i64_in _ (by omega);go_upto_region 16 with fail;have eD:=J (cU.o.far cm.o de.o.2.1 de.o.1 1 (.int .i64 ((jq:Int)+(out.length:Int))));have cG:Blk (x5.setCell ⟨nb2,1,none⟩ (.int .i64 ((jq:Int)+(out.length:Int)))) nb2 95 #[.int .i64 (kq:Int),.int .i64 ((jq:Int)+(out.length:Int)),.int .i64 (iq:Int),.int .i64 0,.string s2]:=cm.o.set_ 1 _;have tZ:=J (md.o.same (w':=x5.setCell ⟨nb2,1,none⟩ (.int .i64 ((jq:Int)+(out.length:Int)))) (by simp) (Below.heap_setCell x5 ⟨nb2,1,none⟩ _ qy de.o.2.2));generalize x5.setCell ⟨nb2,1,none⟩ (.int .i64 ((jq:Int)+(out.length:Int)))=x6 at *;have bK:=J cG;clear q0 q1 q2 q3 q4 f1 f2 f3 f4 hnb cU cm md pR;obtain⟨⟨q0,q1,q2,q3,q4⟩,⟨f1,f2,f3,f4⟩,hnb⟩:=cG.five';clear cG;go_wp2_with fail;refine(az.o _ _).mono ?_
        rintro r w7 ⟨rfl,rfl⟩;rw[ay];have pR:IntKind.i64.wrap ((iq:Int)+(out.length:Int))=(iq:Int)+(out.length:Int):=IntWalk.i64_in _ (by omega);go_upto_region 18 with fail;have jF:=J (eD.o.far bK.o de.o.2.1 de.o.1 2 (.int .i64 ((iq:Int)+(out.length:Int))));have cG:Blk (x6.setCell ⟨nb2,2,none⟩ (.int .i64 ((iq:Int)+(out.length:Int)))) nb2 95 #[.int .i64 (kq:Int),.int .i64 ((jq:Int)+(out.length:Int)),.int .i64 ((iq:Int)+(out.length:Int)),.int .i64 0,.string s2]:=bK.o.set_ 2 _;have zC:=J (tZ.o.same (w':=x6.setCell ⟨nb2,2,none⟩ (.int .i64 ((iq:Int)+(out.length:Int)))) (by simp) (Below.heap_setCell x6 ⟨nb2,2,none⟩ _ qy de.o.2.2));generalize x6.setCell ⟨nb2,2,none⟩ (.int .i64 ((iq:Int)+(out.length:Int)))=x7 at *;have dD:=J cG;clear q0 q1 q2 q3 q4 f1 f2 f3 f4 hnb eD bK tZ pR;obtain⟨⟨q0,q1,q2,q3,q4⟩,⟨f1,f2,f3,f4⟩,hnb⟩:=cG.five';clear cG;have a9:Hid (∀j u,(AN [⟨(kq:Int),(jq:Int)+(out.length:Int),(iq:Int)+(out.length:Int),0,[]⟩])[j]? =some u->(x7.alloc (.cells #[.int .i64 (kq:Int),.int .i64 ((jq:Int)+(out.length:Int)),.int .i64 ((iq:Int)+(out.length:Int)),.int .i64 0,.string s2] 95)).cell? ((⟨x7.heap.size,0,none⟩:Addr).add j)=some u):=J (by
         rw[Bw];unfold ndC;rw[pk.o];exact AS x7 95 [.int .i64 (kq:Int),.int .i64 ((jq:Int)+(out.length:Int)),.int .i64 ((iq:Int)+(out.length:Int)),.int .i64 0,.string s2])
        have bp:=J (jF.o.ext ((Ext.refl x7).alloc (.cells #[.int .i64 (kq:Int),.int .i64 ((jq:Int)+(out.length:Int)),.int .i64 ((iq:Int)+(out.length:Int)),.int .i64 0,.string s2] 95)));have rV:=J (zC.o.same ((Ext.refl x7).alloc (.cells #[.int .i64 (kq:Int),.int .i64 ((jq:Int)+(out.length:Int)),.int .i64 ((iq:Int)+(out.length:Int)),.int .i64 0,.string s2] 95)).size (((Ext.refl x7).alloc (.cells #[.int .i64 (kq:Int),.int .i64 ((jq:Int)+(out.length:Int)),.int .i64 ((iq:Int)+(out.length:Int)),.int .i64 0,.string s2] 95)).block qy zC.o.1));have jX:=J bp.o.e.size;have pt:=J zC.o.1;clear jF zC;go_wp2_with (at_builtin;go_must (refine Ci (B:=w.heap.size) (xs:=O) (y:=⟨(kq:Int),(jq:Int)+(out.length:Int),(iq:Int)+(out.length:Int),0,[]⟩) rfl _ _ rfl rfl bp.o.o ⟨x7.heap.size,0,none⟩ 1 rfl a9.o sV jX.o ?_;intro g9 kC w9 ft dr kA));have pr:=J (bp.o.row dr ft);have xU:=J (rV.o.same dr.size (dr.block qy rV.o.1 (fun e=>qg.o e.symm)));have yX:Hid ((Value.slice (some ⟨g9,0,none⟩) (O.length+1) kC).ownBlock≠some qy):=J (fun e=>by
         have e2:g9=qy:=by injection e
         rcases kA with h|h
         ·exact qg.o (by subst e2;exact h)
         ·have:=pt.o;have hs:=World.size_alloc x7 (.cells #[.int .i64 (kq:Int),.int .i64 ((jq:Int)+(out.length:Int)),.int .i64 ((iq:Int)+(out.length:Int)),.int .i64 0,.string s2] 95);omega)
        clear ft dr kA;go_roundw
        case rel=>exact⟨j+1,by omega,by go_num,by rw[fD.o];exact pr.o,xU.o,yX.o⟩
        case measure=>simp[intOf];omega
      ·obtain rfl:j=Y.length:=by omega
       have eF:Hid (O=out++Ag out.length (f t)):=J (by rw[<-hO,qak (qad _),HYM.o]);have hO1:1<=O.length:=by have:=WF.o;omega
       have hwo:IntKind.i64.wrap ((O.length:Int)-1)=((O.length-1:Nat):Int):=by
        rw[show ((O.length-1:Nat):Int)=(O.length:Int)-1 by omega];exact IntWalk.i64_in _ (by have:=WF.o;omega)
       have oR:decide ((Y.length:Int)<(Y.length:Int))=false:=decide_eq_false (by omega);have cV:Hid (∀j u,([O.length-1].map din)[j]? =some u->(wr.alloc (.cells #[.int .i64 ((O.length-1:Nat):Int)] 3)).cell? ((⟨wr.heap.size,0,none⟩:Addr).add j)=some u):=J (AS wr 3 [.int .i64 ((O.length-1:Nat):Int)]);have fc:=J (k8.o.ext ((Ext.refl wr).alloc (.cells #[.int .i64 ((O.length-1:Nat):Int)] 3)));have jW:=J fc.o.e.size;have jC:Hid (stepR f (ids,out) ⟨((2:Nat):Int),0,0,0,t⟩=(ids++[O.length-1],O)):=J (by
        simp only[stepR];rw[if_pos (by omega),eF.o,qab,Ak])
       have HLB:Hid (O.length<=200*(k+1)):=J (by have:=sc.o;have:=WF.o;omega);clear wD hO hlt2 nA k8 gN;generalize hol1:O.length-1=o1 at *;have HQ1:=J hol1;clear hol1;go_wp2_with (at_builtin;go_must (refine Di (B:=w.heap.size) (xs:=ids) (y:=o1) rfl _ _ rfl rfl fc.o.i ⟨wr.heap.size,0,none⟩ 1 rfl cV.o hil jW.o ?_;intro We pb dj iw bQ;have lD:=J (fc.o.col bQ iw);clear iw bQ));go_roundw
       case rel=>exact⟨k+1,ids++[o1],O,by omega,by go_num,lD.o,aP.o.trans jC.o,HLB.o,by rw[qab,qae];have:=lb.o;omega,nN.o (fun _=>HFG.o)⟩
       case measure=>simp[intOf];omega
    ·have XW:((kk:Int) == 2)=false:=beq_eq_false_iff_ne.2 (by omega);have ay:Al (kk:Int)=0:=by unfold Al;rw[if_neg (by omega),if_pos (by omega)]
     obtain⟨p0,p1,p2,p3,p4⟩:=hnd;simp only at p0 p1 p2 p3 p4;obtain⟨s,hs⟩:∃s:ByteArray,str t= .string s:=⟨_,rfl⟩;rw[hs]at p4;have i5:=J hs;clear hs;go_upto_region 6 with fail;have fB:Blk (wr.alloc (.cells #[.int .i64 (kk:Int),.int .i64 0,.int .i64 0,.int .i64 0,.string s] 95)) wr.heap.size 95 #[.int .i64 (kk:Int),.int .i64 0,.int .i64 0,.int .i64 0,.string s]:=Blk.new wr 95 #[.int .i64 (kk:Int),.int .i64 0,.int .i64 0,.int .i64 0,.string s];have hx5:=(Ext.refl wr).alloc (.cells #[.int .i64 (kk:Int),.int .i64 0,.int .i64 0,.int .i64 0,.string s] 95);have de:Hid ((Value.slice A7 out.length c7).ownBlock≠some wr.heap.size/\w.heap.size<=wr.heap.size):=J ⟨(fun e=>by have:=Aj bU.o.o e;omega),bU.o.e.size⟩;generalize wr.alloc (.cells #[.int .i64 (kk:Int),.int .i64 0,.int .i64 0,.int .i64 0,.string s] 95)=w5 at *;generalize wr.heap.size=nb at *;have cU:=J (bU.o.ext hx5);have cm:Hid (Blk w5 nb 95 #[.int .i64 (kk:Int),.int .i64 0,.int .i64 0,.int .i64 0,.string s]):=J fB;obtain⟨⟨q0,q1,q2,q3,q4⟩,⟨f1,f2,f3,f4⟩,hnb⟩:=cm.o.five';clear fB hx5 p0 p1 p2 p3 p4 bU qF;go_wp2_with fail;refine(az.o _ _).mono ?_
     rintro r w6 ⟨rfl,rfl⟩;rw[ay];go_wp2_with fail;refine(az.o _ _).mono ?_
     rintro r w6 ⟨rfl,rfl⟩;rw[ay];have a9:Hid (∀j u,(AN [⟨(kk:Int),0,0,0,t⟩])[j]? =some u->(w5.alloc (.cells #[.int .i64 (kk:Int),.int .i64 0,.int .i64 0,.int .i64 0,.string s] 95)).cell? ((⟨w5.heap.size,0,none⟩:Addr).add j)=some u):=J (by
      rw[Bw];unfold ndC;rw[i5.o];exact AS w5 95 [.int .i64 (kk:Int),.int .i64 0,.int .i64 0,.int .i64 0,.string s])
     have bp:=J (cU.o.ext ((Ext.refl w5).alloc (.cells #[.int .i64 (kk:Int),.int .i64 0,.int .i64 0,.int .i64 0,.string s] 95)));have jX:=J bp.o.e.size;have kh:out.length<=1000000:=by omega
     clear cU;go_wp2_with (at_builtin;go_must (first
      |(refine Ci (B:=w.heap.size) (xs:=out) (y:=⟨(kk:Int),0,0,0,t⟩) rfl _ _ rfl rfl bp.o.o ⟨w5.heap.size,0,none⟩ 1 rfl a9.o kh jX.o ?_;intro g9 kC w9 ft dr _;have pr:=J (bp.o.row dr ft);have cV:Hid (∀j u,([out.length].map din)[j]? =some u->(w9.alloc (.cells #[.int .i64 (out.length:Int)] 3)).cell? ((⟨w9.heap.size,0,none⟩:Addr).add j)=some u):=J (AS w9 3 [.int .i64 (out.length:Int)]);have fc:=J (pr.o.ext ((Ext.refl w9).alloc (.cells #[.int .i64 (out.length:Int)] 3)));have jW:=J fc.o.e.size;clear ft dr)
      |(refine Di (B:=w.heap.size) (xs:=ids) (y:=out.length) rfl _ _ rfl rfl fc.o.i ⟨w9.heap.size,0,none⟩ 1 rfl cV.o hil jW.o ?_;intro We pb dj iw bQ;have lD:=J (fc.o.col bQ iw);clear iw bQ)))
     go_roundw
     case rel=>exact⟨k+1,ids++[out.length],out++[⟨(kk:Int),0,0,0,t⟩],by omega,by go_num,lD.o,aP.o.trans (by simp only[stepR];rw[if_neg (by omega),if_neg (by omega),if_neg (by omega)]),by rw[qab,qae];have:=sc.o;omega,by rw[qab,qae];have:=lb.o;omega,nN.o (fun h=>absurd h (show ¬((kk:Int)=2) by omega))⟩
     case measure=>simp[intOf];omega
   ·have hkk:=Zx.1;have XW:((kk:Int) == 2)=false:=beq_eq_false_iff_ne.2 (by omega);have ay:Al (kk:Int)=1:=by unfold Al;rw[if_neg (by omega),if_neg (by omega),if_neg (by omega)]
    obtain⟨p0,p1,p2,p3,p4⟩:=hnd;simp only at p0 p1 p2 p3 p4;obtain⟨s,hs⟩:∃s:ByteArray,str ([]:Tx)= .string s:=⟨_,rfl⟩;rw[hs]at p4;have i5:=J hs;clear hs;go_upto_region 6 with fail;have fB:Blk (wr.alloc (.cells #[.int .i64 (kk:Int),.int .i64 (j:Int),.int .i64 0,.int .i64 z,.string s] 95)) wr.heap.size 95 #[.int .i64 (kk:Int),.int .i64 (j:Int),.int .i64 0,.int .i64 z,.string s]:=Blk.new wr 95 #[.int .i64 (kk:Int),.int .i64 (j:Int),.int .i64 0,.int .i64 z,.string s];have hx5:=(Ext.refl wr).alloc (.cells #[.int .i64 (kk:Int),.int .i64 (j:Int),.int .i64 0,.int .i64 z,.string s] 95);have de:Hid ((Value.slice A7 out.length c7).ownBlock≠some wr.heap.size/\w.heap.size<=wr.heap.size):=J ⟨(fun e=>by have:=Aj bU.o.o e;omega),bU.o.e.size⟩;generalize wr.alloc (.cells #[.int .i64 (kk:Int),.int .i64 (j:Int),.int .i64 0,.int .i64 z,.string s] 95)=w5 at *;generalize wr.heap.size=nb at *;have cU:=J (bU.o.ext hx5);have cm:Hid (Blk w5 nb 95 #[.int .i64 (kk:Int),.int .i64 (j:Int),.int .i64 0,.int .i64 z,.string s]):=J fB;obtain⟨⟨q0,q1,q2,q3,q4⟩,⟨f1,f2,f3,f4⟩,hnb⟩:=cm.o.five';clear fB hx5 p0 p1 p2 p3 p4 bU qF;go_wp2_with fail;refine(az.o _ _).mono ?_
    rintro r w6 ⟨rfl,rfl⟩;rw[ay];obtain⟨g8,a1,qP,pj,qM⟩:=cU.o.i.get (show j<ids.length by have:=lb.o;omega);subst qP;have vo:=J qM;clear qM;have jh:=World.block_lt_of_cell? w5 _ pj;have mO:(0:Int)<=(j:Int):=by omega
    have jQ:(j:Int)<(ids.length:Int):=by have:=lb.o;omega
    go_upto_region 22 with fail;have eD:=J (cU.o.far cm.o de.o.2 de.o.1 1 (.int .i64 (a1:Int)));have cG:Blk (w5.setCell ⟨nb,1,none⟩ (.int .i64 (a1:Int))) nb 95 #[.int .i64 (kk:Int),.int .i64 (a1:Int),.int .i64 0,.int .i64 z,.string s]:=cm.o.set_ 1 _;generalize w5.setCell ⟨nb,1,none⟩ (.int .i64 (a1:Int))=w6 at *;have bK:=J cG;clear pj jh q0 q1 q2 q3 q4 f1 f2 f3 f4 hnb cU cm;obtain⟨⟨q0,q1,q2,q3,q4⟩,⟨f1,f2,f3,f4⟩,hnb⟩:=cG.five';clear cG;go_wp2_with fail;refine(az.o _ _).mono ?_
    rintro r w7 ⟨rfl,rfl⟩;rw[ay];have a9:Hid (∀j u,(AN [⟨(kk:Int),(a1:Int),0,z,[]⟩])[j]? =some u->(w6.alloc (.cells #[.int .i64 (kk:Int),.int .i64 (a1:Int),.int .i64 0,.int .i64 z,.string s] 95)).cell? ((⟨w6.heap.size,0,none⟩:Addr).add j)=some u):=J (by
     rw[Bw];unfold ndC;rw[i5.o];exact AS w6 95 [.int .i64 (kk:Int),.int .i64 (a1:Int),.int .i64 0,.int .i64 z,.string s])
    have bp:=J (eD.o.ext ((Ext.refl w6).alloc (.cells #[.int .i64 (kk:Int),.int .i64 (a1:Int),.int .i64 0,.int .i64 z,.string s] 95)));have jX:=J bp.o.e.size;have kh:out.length<=1000000:=by omega
    clear eD;go_wp2_with (at_builtin;go_must (first
     |(refine Ci (B:=w.heap.size) (xs:=out) (y:=⟨(kk:Int),(a1:Int),0,z,[]⟩) rfl _ _ rfl rfl bp.o.o ⟨w6.heap.size,0,none⟩ 1 rfl a9.o kh jX.o ?_;intro g9 kC w9 ft dr _;have pr:=J (bp.o.row dr ft);have cV:Hid (∀j u,([out.length].map din)[j]? =some u->(w9.alloc (.cells #[.int .i64 (out.length:Int)] 3)).cell? ((⟨w9.heap.size,0,none⟩:Addr).add j)=some u):=J (AS w9 3 [.int .i64 (out.length:Int)]);have fc:=J (pr.o.ext ((Ext.refl w9).alloc (.cells #[.int .i64 (out.length:Int)] 3)));have jW:=J fc.o.e.size;clear ft dr)
     |(refine Di (B:=w.heap.size) (xs:=ids) (y:=out.length) rfl _ _ rfl rfl fc.o.i ⟨w9.heap.size,0,none⟩ 1 rfl cV.o hil jW.o ?_;intro We pb dj iw bQ;have lD:=J (fc.o.col bQ iw);clear iw bQ)))
    go_roundw
    case rel=>exact⟨k+1,ids++[out.length],out++[⟨(kk:Int),(a1:Int),0,z,[]⟩],by omega,by go_num,lD.o,aP.o.trans (by simp only[stepR];rw[if_neg (by omega),if_pos (by omega),if_neg (by omega),qaq,vo.o]),by rw[qab,qae];have:=sc.o;omega,by rw[qab,qae];have:=lb.o;omega,nN.o (fun h=>absurd h (show ¬((kk:Int)=2) by omega))⟩
    case measure=>simp[intOf];omega
   ·have XW:((kk:Int) == 2)=false:=beq_eq_false_iff_ne.2 (by omega);have ay:Al (kk:Int)=2:=by unfold Al;rw[if_neg (by omega),if_neg (by omega),if_pos (by omega)]
    obtain⟨p0,p1,p2,p3,p4⟩:=hnd;simp only at p0 p1 p2 p3 p4;obtain⟨s,hs⟩:∃s:ByteArray,str ([]:Tx)= .string s:=⟨_,rfl⟩;rw[hs]at p4;have i5:=J hs;clear hs;go_upto_region 6 with fail;have fB:Blk (wr.alloc (.cells #[.int .i64 (kk:Int),.int .i64 (j:Int),.int .i64 (q:Int),.int .i64 0,.string s] 95)) wr.heap.size 95 #[.int .i64 (kk:Int),.int .i64 (j:Int),.int .i64 (q:Int),.int .i64 0,.string s]:=Blk.new wr 95 #[.int .i64 (kk:Int),.int .i64 (j:Int),.int .i64 (q:Int),.int .i64 0,.string s];have hx5:=(Ext.refl wr).alloc (.cells #[.int .i64 (kk:Int),.int .i64 (j:Int),.int .i64 (q:Int),.int .i64 0,.string s] 95);have de:Hid ((Value.slice A7 out.length c7).ownBlock≠some wr.heap.size/\w.heap.size<=wr.heap.size):=J ⟨(fun e=>by have:=Aj bU.o.o e;omega),bU.o.e.size⟩;generalize wr.alloc (.cells #[.int .i64 (kk:Int),.int .i64 (j:Int),.int .i64 (q:Int),.int .i64 0,.string s] 95)=w5 at *;generalize wr.heap.size=nb at *;have cU:=J (bU.o.ext hx5);have cm:Hid (Blk w5 nb 95 #[.int .i64 (kk:Int),.int .i64 (j:Int),.int .i64 (q:Int),.int .i64 0,.string s]):=J fB;obtain⟨⟨q0,q1,q2,q3,q4⟩,⟨f1,f2,f3,f4⟩,hnb⟩:=cm.o.five';clear fB hx5 p0 p1 p2 p3 p4 bU qF;go_wp2_with fail;refine(az.o _ _).mono ?_
    rintro r w6 ⟨rfl,rfl⟩;rw[ay];obtain⟨g8,a1,qP,pj,qM⟩:=cU.o.i.get (show j<ids.length by have:=lb.o;omega);subst qP;have vo:=J qM;clear qM;have jh:=World.block_lt_of_cell? w5 _ pj;have mO:(0:Int)<=(j:Int):=by omega
    have jQ:(j:Int)<(ids.length:Int):=by have:=lb.o;omega
    go_upto_region 22 with fail;have eD:=J (cU.o.far cm.o de.o.2 de.o.1 1 (.int .i64 (a1:Int)));have cG:Blk (w5.setCell ⟨nb,1,none⟩ (.int .i64 (a1:Int))) nb 95 #[.int .i64 (kk:Int),.int .i64 (a1:Int),.int .i64 (q:Int),.int .i64 0,.string s]:=cm.o.set_ 1 _;generalize w5.setCell ⟨nb,1,none⟩ (.int .i64 (a1:Int))=w6 at *;have bK:=J cG;clear pj jh q0 q1 q2 q3 q4 f1 f2 f3 f4 hnb cU cm;obtain⟨⟨q0,q1,q2,q3,q4⟩,⟨f1,f2,f3,f4⟩,hnb⟩:=cG.five';clear cG;go_wp2_with fail;refine(az.o _ _).mono ?_
    rintro r w7 ⟨rfl,rfl⟩;rw[ay];obtain⟨g8b,a2,qP,pj,lA⟩:=eD.o.i.get (show q<ids.length by have:=lb.o;omega);injection qP with qP
    injection qP with qP
    subst qP;have j5:=J lA;clear lA;have Vu:=World.block_lt_of_cell? w6 _ pj;have pV:(0:Int)<=(q:Int):=by omega
    have zk:(q:Int)<(ids.length:Int):=by have:=lb.o;omega
    go_upto_region 24 with fail;have jF:=J (eD.o.far bK.o de.o.2 de.o.1 2 (.int .i64 (a2:Int)));have cG:Blk (w6.setCell ⟨nb,2,none⟩ (.int .i64 (a2:Int))) nb 95 #[.int .i64 (kk:Int),.int .i64 (a1:Int),.int .i64 (a2:Int),.int .i64 0,.string s]:=bK.o.set_ 2 _;generalize w6.setCell ⟨nb,2,none⟩ (.int .i64 (a2:Int))=w7 at *;have dD:=J cG;clear pj Vu q0 q1 q2 q3 q4 f1 f2 f3 f4 hnb eD bK;obtain⟨⟨q0,q1,q2,q3,q4⟩,⟨f1,f2,f3,f4⟩,hnb⟩:=cG.five';clear cG;have a9:Hid (∀j u,(AN [⟨(kk:Int),(a1:Int),(a2:Int),0,[]⟩])[j]? =some u->(w7.alloc (.cells #[.int .i64 (kk:Int),.int .i64 (a1:Int),.int .i64 (a2:Int),.int .i64 0,.string s] 95)).cell? ((⟨w7.heap.size,0,none⟩:Addr).add j)=some u):=J (by
     rw[Bw];unfold ndC;rw[i5.o];exact AS w7 95 [.int .i64 (kk:Int),.int .i64 (a1:Int),.int .i64 (a2:Int),.int .i64 0,.string s])
    have bp:=J (jF.o.ext ((Ext.refl w7).alloc (.cells #[.int .i64 (kk:Int),.int .i64 (a1:Int),.int .i64 (a2:Int),.int .i64 0,.string s] 95)));have jX:=J bp.o.e.size;have kh:out.length<=1000000:=by omega
    clear jF;go_wp2_with (at_builtin;go_must (first
     |(refine Ci (B:=w.heap.size) (xs:=out) (y:=⟨(kk:Int),(a1:Int),(a2:Int),0,[]⟩) rfl _ _ rfl rfl bp.o.o ⟨w7.heap.size,0,none⟩ 1 rfl a9.o kh jX.o ?_;intro g9 kC w9 ft dr _;have pr:=J (bp.o.row dr ft);have cV:Hid (∀j u,([out.length].map din)[j]? =some u->(w9.alloc (.cells #[.int .i64 (out.length:Int)] 3)).cell? ((⟨w9.heap.size,0,none⟩:Addr).add j)=some u):=J (AS w9 3 [.int .i64 (out.length:Int)]);have fc:=J (pr.o.ext ((Ext.refl w9).alloc (.cells #[.int .i64 (out.length:Int)] 3)));have jW:=J fc.o.e.size;clear ft dr)
     |(refine Di (B:=w.heap.size) (xs:=ids) (y:=out.length) rfl _ _ rfl rfl fc.o.i ⟨w9.heap.size,0,none⟩ 1 rfl cV.o hil jW.o ?_;intro We pb dj iw bQ;have lD:=J (fc.o.col bQ iw);clear iw bQ)))
    go_roundw
    case rel=>exact⟨k+1,ids++[out.length],out++[⟨(kk:Int),(a1:Int),(a2:Int),0,[]⟩],by omega,by go_num,lD.o,aP.o.trans (by simp only[stepR];rw[if_neg (by omega),if_pos (by omega),if_pos (by omega),qaq,qaq,vo.o,j5.o]),by rw[qab,qae];have:=sc.o;omega,by rw[qab,qae];have:=lb.o;omega,nN.o (fun h=>absurd h (show ¬((kk:Int)=2) by omega))⟩
    case measure=>simp[intOf];omega
  ·obtain rfl:n=k:=by omega
   rw[qak (by rw[HN.o];exact qad _)]at uY be;have aS:=J (jG.o be);have iX:out=Ag 0 (Bb f e):=by rw[<-YZ.o,uY]
   have hle:out.length=(Bb f e).size:=by rw[iX,Ak]
   have bU:=J oh;have kD:=J (F2 wr _ out oh.o.read (by omega) (by rw[iX];exact Gc _ aS.o 0));rw[show FA out=decide ((Bb f e).size<=200/\(Bb f e).depth<=40) by rw[iX];exact Ew _ aS.o]at kD;obtain⟨qo,co,zc,_,_⟩:=oh.o.nds (by rw[hle];exact(Bb f e).size_pos);have HOT:=J iX;have HVO:=J zc;clear zc;by_cases hvd:(Bb f e).size<=200/\(Bb f e).depth<=40
   ·rw[decide_eq_true hvd]at kD;have zF:=J hvd;clear hvd oh uY be iX hle;go_wp2_with fail;refine kD.o.mono ?_
    rintro r w5 ⟨rfl,hx5⟩;have HF:=J (bU.o.ext hx5);clear hx5;go_wp2_with fail;go_ret;exact⟨_,rfl,HF.o.e,.inr ⟨⟨_,_,_,HVO.o⟩,by rw[<-HOT.o];exact HF.o.o.read,aS.o,zF.o.1,zF.o.2⟩⟩
   ·rw[decide_eq_false hvd]at kD;clear hvd oh uY be iX hle;go_wp2_with fail;refine kD.o.mono ?_
    rintro r w5 ⟨rfl,hx5⟩;have HF:=J (bU.o.ext hx5);clear hx5;go_wp2_with fail;go_ret;exact⟨_,rfl,HF.o.e,.inl rfl⟩
theorem Bt.back{ns ms:List Nd}{env:Env}(hs:Ax ns)(an:Et ns env)(hp:ns <+: ms){i:Nat}{e:Ex}(h:Bt ms env i e):i<ns.length->Bt ns env i e:=by
 have hg:∀{i:Nat} {x:Nd},i<ns.length->ms[i]? =some x->ns[i]? =some x:=fun {i x} hi hx=>by
  rw[<-hx,qaa hi,BD hp (qaa hi)]
 induction h with
 |leaf h1 h2 h3=>exact fun hi=> .leaf (hg hi h1) h2 h3
 | @name i n t e h1 h2 _ ih=>exact fun hi=> .name (hg hi h1) h2 (ih (by
   have:=(an.find (t:=t) (by omega)).2;omega))
 | @un i j k n x h1 h2 _ ih=>
   intro hi;refine .un (hg hi h1) h2 (ih ?_);rcases hs.2 i _ (hg hi h1) with ⟨k',t',he,hl⟩|⟨k',n',j',he,hu,hj⟩|⟨k',j',q',he,hk,hj,hq⟩
   ·injection he with e1
    have:=hl.few;have:=h2.1;omega
   ·injection he with _ e2
    omega
   ·injection he with e1
    have:=h2.1;omega
 | @bin i j q k x y h1 h2 _ _ ih1 ih2=>
   intro hi;have rG:j<i/\q<i:=by
    rcases hs.2 i _ (hg hi h1) with ⟨k',t',he,hl⟩|⟨k',n',j',he,hu,hj⟩|⟨k',j',q',he,hk,hj,hq⟩
    ·injection he with e1
     have:=hl.few;omega
    ·injection he with e1
     have:=hu.1;omega
    ·injection he with _ e2 e3
     omega
   exact .bin (hg hi h1) h2 (ih1 (by omega)) (ih2 (by omega))
section
variable {ns ms:List Nd} {env:Env}
theorem Hl.code{ms':List Nd}{id z c:Int}(h:Hl ms env id z c ms'):c=0\/c=1\/c=7\/c=8:=by
 rcases h with ⟨_,_,rfl,_⟩|⟨_,_,_,_,rfl,_⟩|⟨_,_,_,e,_,⟨_,_,rfl,_⟩|⟨_,_,rfl,_⟩⟩<;>omega
theorem Hl.good{ms':List Nd}{id z:Int}(h:Hl ms env id z 0 ms'):∃(j:Nat) (e:Ex),z=(j:Int)/\Bt ms env id.toNat e/\Rep ms' j e:=by
 rcases h with ⟨_,_,h0,_⟩|⟨_,_,_,_,h0,_⟩|⟨_,_,_,e,hc,⟨_,rfl,_,rfl⟩|⟨_,_,h0,_⟩⟩
 ·cases h0
 ·cases h0
 ·exact⟨_,e,rfl,hc,Ep e ms⟩
 ·cases h0
end
theorem NI{ns:List Nd}{env:Env}(hs:Ax ns)(he:Bv ns env){i:Nat}{c e:Ex}(hc:Bt ns env i c)(hg:e.Good)(hr:Rep ns i e):DW (GM ns env) (env.length+1) e=c:=by
 refine Mq hs he (fun t ht=> ?_) hc hg hr _ ?_
 ·obtain⟨e',h1,h2⟩:=hs.rep _ (he.ok.find ht).2;rw[L6 h1 h2];exact⟨h1,h2⟩
 ·unfold LN;exact Nat.le_succ_of_le (List.length_filter_le _ _)
theorem H6(w:World)(v u:Value)(l m:List Int)(id:Int)(hi: -9223372036854775808<=id/\id<=9223372036854775807)(h:D1 w v l)(h':D1 w u m)(hm:BT w):
  Calls Tryz.prog 11 #[v,u,.int .i64 id] w fun e w'=>e= .returned (.bool true)/\Ext w w':=by
 have zW:=J (Np w hm);have HM:=J hm;have HL:=J h;have dR:=J h';have bD:=J (fun W hx=>KW W v l (HL.o.ext hx));have pE:=J (fun W hx=>KW W u m (dR.o.ext hx));obtain⟨A0,c0,rfl,_⟩:=h.open;obtain⟨A9,c9,rfl,_⟩:=h'.open;clear h h' hm;by_cases hlt:120<l.length
 ·have hd:decide (l.length<=120)=false:=decide_eq_false (by omega);rw[hd]at bD;clear HL dR hlt hd;go_enter Tryz.func11,Tryz.ntmps11;go_wp2_with fail;refine zW.o.mono ?_
  rintro e w1 ⟨rfl,ar⟩;have ah:=J ar;clear ar;go_wp2_with fail;refine(bD.o _ ah.o).mono ?_
  rintro e w2 ⟨rfl,rfl⟩;go_wp2_with fail;go_ret;exact⟨rfl,ah.o⟩
 have hd:decide (l.length<=120)=true:=decide_eq_true (by omega);rw[hd]at bD;have gZ:l.length<=120:=by omega
 clear hlt hd;by_cases hlt2:120<m.length
 ·have hd:decide (m.length<=120)=false:=decide_eq_false (by omega);rw[hd]at pE;clear HL dR hlt2 hd;go_enter Tryz.func11,Tryz.ntmps11;go_wp2_with fail;refine zW.o.mono ?_
  rintro e w1 ⟨rfl,ar⟩;have ah:=J ar;clear ar;go_wp2_with fail;refine(bD.o _ ah.o).mono ?_
  rintro e w2 ⟨rfl,rfl⟩;go_wp2_with fail;refine(pE.o _ ah.o).mono ?_
  rintro e w2 ⟨rfl,rfl⟩;go_wp2_with fail;go_ret;exact⟨rfl,ah.o⟩
 have hd:decide (m.length<=120)=true:=decide_eq_true (by omega);rw[hd]at pE;have qz:m.length<=120:=by omega
 clear hlt2 hd;go_enter Tryz.func11,Tryz.ntmps11;go_wp2_with fail;refine zW.o.mono ?_
 rintro e w1 ⟨rfl,ar⟩;have ah:=J ar;clear ar;go_wp2_with fail;refine(bD.o _ ah.o).mono ?_
 rintro e w2 ⟨rfl,rfl⟩;go_wp2_with fail;refine(pE.o _ ah.o).mono ?_
 rintro e w2 ⟨rfl,rfl⟩;have cT:=J (Md w1 _ _ l m (HL.o.ext ah.o) (dR.o.ext ah.o) (by omega) (by omega) (HM.o.ext ah.o));unfold Snd at cT;clear bD pE HL dR zW gZ qz;go_wp2_with fail;refine cT.o.mono ?_
 rintro e w2 ⟨g,b,gr,ns,nv,rv,ev,env,d,rfl,hs,iY,xm,dy,hd⟩;clear cT;cases d
 ·have am:=J (ah.o.trans hs.ex);clear hs iY xm dy hd;go_wp2_with fail;go_ret;exact⟨rfl,am.o⟩
 have eQ:=J (hd.1 rfl);have HS:=J hs;have fb:=J dy;have yP:=J xm;clear hd hs xm dy;obtain⟨AR,cR,jc⟩:=HS.o.two.r.row.shape;subst jc;obtain⟨k0,f0,ea⟩:=HS.o.two.r.blk.oneG;obtain⟨Ae,ce,xl⟩:=HS.o.ow.shape;obtain⟨me,hme⟩:∃me,env.length=me:=⟨_,rfl⟩;rw[hme]at xl;subst xl;have gO:=J hme;have ZZ:me<=5:=by rw[<-hme];exact yP.o
 obtain⟨n,hn⟩:∃n,ns.length=n:=⟨_,rfl⟩;rw[hn]at k0;have HN:=J hn;have jD:Hid (Ax ns):=J HS.o.two.p.ok;rw[hn]at iY HS;clear hme hn;by_cases hn0:n=0
 ·subst hn0;have am:=J (ah.o.trans HS.o.ex);go_wp2_with fail;go_ret;exact⟨rfl,am.o⟩
 have rA:((n:Int) == 0)=false:=beq_eq_false_iff_ne.2 (by omega);have wv:(n == 0)=false:=beq_eq_false_iff_ne.2 hn0;have WN:=J (fun W=>Pi W id (n:Int) hi.1 hi.2 (by omega) (by omega));obtain⟨i,eT⟩:∃i:Nat,id % (n:Int)=(i:Int):=⟨(id % (n:Int)).toNat,by have:=qcz id (show (n:Int)≠0 by omega);omega⟩;have hin:i<n:=by have:=qcq id (show 0<(n:Int) by omega);omega
 rw[eT]at WN;clear eT hi;have cw:=J (JU w1.heap.size g b w2 ns nv HS.o.two.p _ env (HS.o.ow.mono (qal _)) eQ.o (i:Int) HS.o.mx);unfold Fp at cw;go_wp2_with fail;refine(WN.o _).mono ?_
 rintro e w3 ⟨rfl,rfl⟩;clear WN k0 f0 ea rA wv;go_wp2_with fail;refine cw.o.mono ?_
 rintro e w5 ⟨z,c,ms,Uu,rfl,bj,kp,bM⟩;have W9:=J bj;have eN:=J (HS.o.prog bM kp);obtain⟨_,_,_,rL⟩:=Dd.start.clo jD.o jD.o eQ.o (by rw[HN.o];omega) bj;have hc1:c≠1:=by
  rcases bj with ⟨h1,_⟩|⟨_,_,_,_,rfl,_⟩|⟨_,_,_,e,_,⟨_,_,rfl,_⟩|⟨_,_,rfl,_⟩⟩
  ·exact absurd ⟨by omega,by rw[HN.o];omega⟩ h1
  ·decide
  ·decide
  ·decide
 have fK:=W9.o.code;have gA:=J (Jd _ gr w5 ns _ eN.o.two.r (i:Int));unfold S6 at gA;clear bj kp bM cw HS;go_wp2_with fail;refine gA.o.mono ?_
 rintro e w6 ⟨vx,L,c2,rfl,zm,pZ,_,bz⟩;have dY:=J (eN.o.keep bz);have tC:=pZ;unfold C4 at tC;rw[if_pos ⟨by omega,by rw[HN.o];omega⟩,qaq]at tC;obtain⟨e0,jR,dN,ku⟩:=tC;have HOV:=J zm;have hF:Ext w w6:=ah.o.trans dY.o.ex;have mr:=J hF;clear gA eN bz pZ zm hF;by_cases hcz:c=0;rotate_left
 ·obtain rfl:c=8:=by omega
  clear fK rL hc1;go_wp2_with fail;go_ret;exact⟨rfl,mr.o⟩
 subst hcz;clear fK rL hc1;rcases ku with ⟨we,mQ,rfl,rfl⟩|⟨_,rfl,rfl⟩
 rotate_left
 ·go_wp2_with fail;go_ret;exact⟨rfl,mr.o⟩
 obtain⟨j,cx,Ze,hce,bX⟩:=W9.o.good;subst Ze;rw[qaq]at hce;have dC:=J (NI jD.o eQ.o hce jR dN);rw[gO.o]at dC;have YK:=J bX;have HCG:=J hce.good;have aB:IntKind.i64.wrap ((me:Int)+1)=(me:Int)+1:=IntWalk.i64_in _ (by omega);have ub:=J (fun W (hx:Ext w6 W) v e h0 hg hsz=>Lq _ gr W ns _ (dY.o.keep hx).two.r _ env (dY.o.keep hx).ow.read (by rw[gO.o];omega) v e h0 hg hsz);unfold J3 at ub;obtain⟨f,hf⟩:∃f,GM ns env=f:=⟨_,rfl⟩;rw[hf]at ub dC;have W6:=J (And.intro jR (And.intro we mQ));have f7:=J (fun W (hx:Ext w6 W)=>QS _ g b W ms Uu (dY.o.keep hx).two.p (j:Int));unfold J9 at f7;clear hf hce bX jR we mQ dN W9;go_wp2_with fail;go_loopw [13,82] (fun s13 s82 wr=>∃(q:Nat),q<=me+1/\s82= .int .i64 (q:Int)/\RNd wr s13 (Ag 0 (DW f q e0))/\(DW f q e0).Good/\(DW f q e0).size<=200/\(DW f q e0).depth<=40/\Ext w6 wr) (fun _ s82 _=>me+1-(intOf s82).toNat)
 case atStart=>exact⟨0,qal _,rfl,HOV.o.read,W6.o.1,W6.o.2.1,W6.o.2.2,Ext.refl w6⟩
 case round=>
  obtain⟨q,hq,rfl,wh,wm,wl,nz,hx⟩:=hrel;by_cases hlt:q<me+1
  ·have ec:decide ((q:Int)<(me:Int)+1)=true:=decide_eq_true (by omega);have aY:IntKind.i64.wrap ((q:Int)+1)=(q:Int)+1:=IntWalk.i64_in _ (by omega);have iU:=J (ub.o wr hx _ _ wh wm wl);have HX:=J hx;have jC:=J (KF f q e0);clear wh wm wl nz hx;go_wp2_with fail;refine iU.o.mono ?_
   rintro e w7 ⟨v7,rfl,bG,rfl|⟨⟨p7,n7,c7,rfl⟩,h1,h2,h3,h4⟩⟩
   ·have HF:=J (mr.o.trans (HX.o.trans bG));clear bG;have hE:=fun W=>Lib.run_eql_slice_nil (P:=Tryz.prog) W 32 95 none 0 0 0 0 Tryz.underlying32
    go_wp2_with fail;go_ret;exact⟨rfl,HF.o⟩
   ·have aN:=J (HX.o.trans bG);have HH:=J (And.intro h1 (And.intro h2 (And.intro h3 h4)));clear bG h1 h2 h3 h4;have hE:=fun W=>Lib.run_eql_slice_nil (P:=Tryz.prog) W 32 95 (some p7) n7 c7 0 0 Tryz.underlying32
    go_wp2_with fail;go_roundw
    case rel=>exact⟨q+1,by omega,by go_num,by rw[jC.o];exact HH.o.1,by rw[jC.o];exact HH.o.2.1,by rw[jC.o];exact HH.o.2.2.1,by rw[jC.o];exact HH.o.2.2.2,aN.o⟩
    case measure=>simp[intOf];omega
  ·obtain rfl:q=me+1:=by omega
   have ec:decide (((me+1:Nat):Int)<(me:Int)+1)=false:=decide_eq_false (by omega);rw[dC.o]at wh wm wl nz;have zK:=J wh;have HQ:=J (And.intro wm (And.intro wl nz));have HX:=J hx;have yL:=J (f7.o wr hx);clear wh wm wl nz hx hlt hq;go_wp2_with fail;refine yL.o.mono ?_
   rintro e w8 ⟨vb,L8,c8,rfl,UJ,pZ,_,bS⟩;have cp:=J (HX.o.trans bS);unfold C4 at pZ;rw[if_pos ⟨by omega,by have:=YK.o.lt;omega⟩,qaq]at pZ;obtain⟨e8,jh,cD,ku⟩:=pZ;obtain rfl:=Rep.same jh HCG.o cD YK.o;rcases ku with ⟨_,_,rfl,rfl⟩|⟨_,rfl,rfl⟩
   ·have lc:=J (G5 w8 vb e8 UJ HQ.o.1 HQ.o.2.1 HQ.o.2.2);have qd:=J (fun W (hy:Ext w8 W)=>G5 W _ e8 (zK.o.ext (bS.trans hy)) HQ.o.1 HQ.o.2.1 HQ.o.2.2);obtain⟨s,hs⟩:∃s:ByteArray,str (Am AF e8)= .string s:=⟨_,rfl⟩;rw[hs]at lc qd;have hss:(s.toList == s.toList)=true:=beq_self_eq_true _;clear hs UJ bS jh cD;go_wp2_with fail;refine lc.o.mono ?_
    rintro e w9 ⟨rfl,ja⟩;have dI:=J ja;clear ja lc;go_wp2_with fail;refine(qd.o _ dI.o).mono ?_
    rintro e dj ⟨rfl,dn⟩;have HF:=J (mr.o.trans (cp.o.trans (dI.o.trans dn)));clear dn qd;go_wp2_with fail;go_ret;exact⟨rfl,HF.o⟩
   ·have HF:=J (mr.o.trans cp.o);clear bS UJ jh cD;go_wp2_with fail;go_ret;exact⟨rfl,HF.o⟩
end Big
end Go.Proofs.YtkoaogkknnelaaaGreatDoor
