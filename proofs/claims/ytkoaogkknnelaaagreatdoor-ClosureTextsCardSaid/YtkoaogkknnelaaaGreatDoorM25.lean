import Derived.Test.YtkoaogkknnelaaaGreatDoorM24
import Derived.Maps.OwnSet
set_option linter.unusedVariables false
set_option linter.unusedSimpArgs false
set_option maxHeartbeats 4000000
set_option maxRecDepth 100000
namespace Go.Proofs.YtkoaogkknnelaaaGreatDoor
namespace Big
open Go.RowKit Go.ChangeMaps
def nmE(ns:List Nd):List (Value × Value):=(List.range ns.length).map fun i=>(ndV (ns.getD i ⟨0,0,0,0,[]⟩),.int .i64 (i:Int))
theorem CF(ns:List Nd):(nmE ns).length=ns.length:=by simp[nmE]
theorem GY(ns:List Nd)(i:Nat)(h:i<ns.length):(nmE ns)[i]? =some (ndV ns[i],.int .i64 (i:Int)):=by
 unfold nmE;rw[qaD,List.getElem?_range h,Option.map_some,qac,qaa h,qct]
theorem Sk(ns:List Nd)(x:Nd):nmE (ns++[x])=nmE ns++[(ndV x,.int .i64 (ns.length:Int))]:=by
 apply qcb;intro i;rcases qca i ns.length with h|h|h
 ·rw[GY _ _ (by simp;omega),qaC (by rw[CF];exact h),GY _ _ h,List.getElem_append_left h]
 ·subst h;rw[GY _ _ (by simp),qao (by rw[CF];exact qad _),CF];simp
 ·rw[qaz (by rw[CF];simp;omega),qaz (by rw[qab,CF];simp;omega)]
theorem Ph{x y:Nd}(h:ndV x=ndV y):x=y:=by
 obtain⟨a0,a1,a2,a3,a4⟩:=x;obtain⟨b0,b1,b2,b3,b4⟩:=y;unfold ndV at h;simp only[Value.agg.injEq,Array.mk.injEq,List.cons.injEq,Value.int.injEq,true_and,and_true]at h;obtain⟨rfl,rfl,rfl,rfl,h5⟩:=h;unfold str at h5;injection h5 with h5
 injection h5 with h5
 have h6:=congrArg Array.toList h5;simp only[List.toList_toArray]at h6;rw[h6]
def Dq(w:World)(b:Nat)(ns:List Nd):Prop:=
 ∃es clock,w.heap[b]? =some (.map es clock)/\es.toList.map (fun e=>(e.key,e.val))=nmE ns
theorem Dq.made(w:World):Dq (w.alloc (.map #[] 0)) w.heap.size []:=⟨#[],0,(MapKept.heap_alloc w _).1,rfl⟩
theorem Dq.lt{w:World}{b:Nat}{ns:List Nd}(h:Dq w b ns):b<w.heap.size:=by
 obtain⟨es,clock,hb,_⟩:=h;exact(Array.getElem?_eq_some_iff.1 hb).1
theorem Dq.kept{w w':World}{b:Nat}{ns:List Nd}(h:Dq w b ns)(hk:w'.heap[b]? =w.heap[b]?):Dq w' b ns:=by
 obtain⟨es,clock,hb,h2⟩:=h;exact⟨es,clock,hk.trans hb,h2⟩
theorem Dq.keys{es:Array MapEntry}{ns:List Nd}(h:es.toList.map (fun e=>(e.key,e.val))=nmE ns)(hk:∀x∈ns,F1 x):∀e∈es.toList,∃l,keyOf Tryz.prog 95 e.key=some l:=by
 intro e he;obtain⟨i,hi,rfl⟩:=qby he;have hl:es.toList.length=ns.length:=by rw[<-CF ns,<-h,qag]
 have h2:(es.toList.map (fun e=>(e.key,e.val)))[i]? =some (ndV (ns[i]'(by omega)),.int .i64 (i:Int)):=by rw[h,GY]
 rw[qaD,qaa hi,Option.map_some]at h2;injection h2 with h2
 injection h2 with h2 _
 rw[h2];exact JE _ (hk _ (qap _))
theorem Dq.entry{es:Array MapEntry}{ns:List Nd}(h:es.toList.map (fun e=>(e.key,e.val))=nmE ns){j:Nat}{e:MapEntry}(he:es.toList[j]? =some e):∃hj:j<ns.length,e.key=ndV ns[j]/\e.val= .int .i64 (j:Int):=by
 have hl:es.toList.length=ns.length:=by rw[<-CF ns,<-h,qag]
 have hj:j<ns.length:=by rw[<-hl];exact(qai.1 he).1
 have h2:(es.toList.map (fun e=>(e.key,e.val)))[j]? =some (ndV ns[j],.int .i64 (j:Int)):=by rw[h,GY _ _ hj]
 rw[qaD,he,Option.map_some]at h2;injection h2 with h2
 injection h2 with h2 h3
 exact⟨hj,h2,h3⟩
def Fe(x:Nd)(ns:List Nd):Int:=if x∈ns then (Cz x ns:Int) else 0
theorem Dq.look{w:World}{b:Nat}{ns:List Nd}(h:Dq w b ns)(hk:∀x∈ns,F1 x)(hn:ns.Nodup)(x:Nd)(hx:F1 x){t:TypeId}(ht:Tryz.prog.underlying t=some (.map 95 3)):
  (Instr.lookup t (.map (some b)) (ndV x) true).run Tryz.prog w= .ok (.tuple #[.int .i64 (Fe x ns),.bool (decide (x∈ns))]) w:=by
 obtain⟨es,clock,hb,he⟩:=h;obtain⟨l,hl⟩:=JE x hx;have hz:(zeroValue 3).run Tryz.prog w= .ok (.int .i64 0) w:=by kernel_rfl
 have ak:es.toList.length=ns.length:=by rw[<-CF ns,<-he,qag]
 rcases El.find w hl es.toList (Dq.keys he hk) with ⟨h1,h2⟩|⟨j,e0,h1,h2,h3⟩
 ·have hno:x∉ns:=fun hm=>by
   obtain⟨i,hi,rfl⟩:=qby hm;have eT:i<es.toList.length:=by omega
   obtain⟨_,q,_⟩:=Dq.entry he (qaa eT);exact h2 _ (qap eT) q
  rw[Fe,if_neg hno,decide_eq_false hno];simp[Instr.lookup,run_underlying ht,MapKept.run_getObj_map hb,El.check w _ hl,h1,hz,Result.andThen]
 ·obtain⟨hj,q1,q2⟩:=Dq.entry he h2;have hxe:x=ns[j]:=Ph (h3.symm.trans q1);have hm:x∈ns:=by rw[hxe];exact qap hj
  have hp:Cz x ns=j:=by rw[hxe];exact KL hn hj
  rw[Fe,if_pos hm,decide_eq_true hm,hp,<-q2];simp[Instr.lookup,run_underlying ht,MapKept.run_getObj_map hb,El.check w _ hl,h1,Result.andThen]
theorem Dq.store{w:World}{b:Nat}{ns:List Nd}(h:Dq w b ns)(hk:∀x∈ns,F1 x)(x:Nd)(hx:F1 x)(hno:x∉ns){t:TypeId}(ht:Tryz.prog.underlying t=some (.map 95 3)):
  ∃w',(Instr.mapUpdate t (.map (some b)) (ndV x) (.int .i64 (ns.length:Int))).run Tryz.prog w= .ok () w'/\Dq w' b (ns++[x])/\w.grownBy w' (some b):=by
 obtain⟨es,clock,hb,he⟩:=h;obtain⟨l,hl⟩:=JE x hx;rcases El.find w hl es.toList (Dq.keys he hk) with ⟨h1,h2⟩|⟨j,e0,h1,h2,h3⟩
 ·refine⟨setBlock w b (.map (es.push ⟨ndV x,.int .i64 (ns.length:Int),clock⟩) (clock+1)),?_,⟨_,_,heap_setBlock_same hb _,?_⟩,⟨rfl,rfl,rfl,by simp[setBlock],fun i _ hi=>heap_setBlock_other hb _ (fun e=>hi (by rw[e]))⟩⟩
  ·simp[Instr.mapUpdate,run_underlying ht,MapKept.run_getObj_map hb,El.check w false hl,h1,MapKept.run_setObj_map _ hb,Result.andThen,setBlock]
  ·rw[Array.toList_push,qaB,he,Sk];rfl
 ·obtain⟨hj,q1,_⟩:=Dq.entry he h2;exact absurd (by rw[Ph (h3.symm.trans q1)];exact qap hj) hno
def Es(k:Nat)(t:List UInt8):Prop:=(k=1/\Bz t=0/\t.length<=400)\/(k=2/\CQ t=true)\/((k=3\/k=4)/\t=[])
def Nv(k:Nat)(n:Int):Prop:=(k=5\/(10<=k/\k<=16))/\(k≠10->n=0)∧-64<=n/\n<=64
def CA(i:Nat)(x:Nd):Prop:=
 (∃(k:Nat) (t:List UInt8),x=⟨(k:Int),0,0,0,t⟩/\Es k t)\/(∃(k:Nat) (n:Int) (j:Nat),x=⟨(k:Int),(j:Int),0,n,[]⟩/\Nv k n/\j<i)\/
 (∃k j q:Nat,x=⟨(k:Int),(j:Int),(q:Int),0,[]⟩/\(6<=k/\k<=9)/\j<i/\q<i)
theorem CA.mono{i j:Nat}{x:Nd}(h:CA i x)(hij:i<=j):CA j x:=by
 rcases h with h|⟨k,n,p,he,h1,h2⟩|⟨k,p,q,he,h1,h2,h3⟩
 ·exact .inl h
 ·exact .inr (.inl ⟨k,n,p,he,h1,by omega⟩)
 ·exact .inr (.inr ⟨k,p,q,he,h1,by omega,by omega⟩)
theorem CA.text{i:Nat}{x:Nd}(h:CA i x):x.text.length<=400:=by
 rcases h with ⟨k,t,rfl,h⟩|⟨k,n,p,rfl,h1,h2⟩|⟨k,p,q,rfl,h1,h2,h3⟩
 ·rcases h with ⟨_,_,h⟩|⟨_,h⟩|⟨_,h⟩
  ·exact h
  ·have:=EM (qbu.1 h).1;simp only;omega
  ·rw[h];simp
 ·simp
 ·simp
def Ax(ns:List Nd):Prop:=ns.Nodup/\∀i x,ns[i]? =some x->CA i x
theorem Ax.nil:Ax []:=⟨List.nodup_nil,fun i x h=>by cases h⟩
theorem Ax.put{ns:List Nd}(h:Ax ns){x:Nd}(hx:CA ns.length x):Ax (Bc ns x).2:=by
 refine⟨N7 h.1 x,?_⟩;unfold Bc;split
 ·exact h.2
 ·intro i y hy;rcases qam i ns.length with hi|hi
  ·rw[qaC hi]at hy;exact h.2 i y hy
  ·rw[qao hi]at hy;have:i-ns.length=0:=by
    rcases qar (i-ns.length) with h0|h0
    ·exact h0
    ·rw[qaz (by simp only[qae];omega)]at hy;cases hy
   rw[this]at hy;injection hy with hy
   subst hy;exact hx.mono hi
theorem Ax.add(e:Ex)(hg:e.Good):∀ns,Ax ns->Ax (AC ns e).2:=by
 induction e with
 |leaf k t=>intro ns h;exact h.put (.inl ⟨k,t,rfl,hg⟩)
 |un k n x ih=>
  intro ns h;obtain⟨h1,h2,h3,h4,hx⟩:=hg;exact(ih hx ns h).put (.inr (.inl ⟨k,n,_,rfl,⟨h1,h2,h3,h4⟩,Gh x ns⟩))
 |bin k x y ihx ihy=>
  intro ns h;obtain⟨h1,hx,hy⟩:=hg;have hl:=(E0 y (AC ns x).2).length_le;have:=Gh x ns;exact(ihy hy _ (ihx hx ns h)).put (.inr (.inr ⟨k,_,_,rfl,h1,by omega,Gh y _⟩))
theorem Ax.pre{ns ms:List Nd}(h:Ax ms)(hp:ns <+: ms):Ax ns:=by
 refine⟨h.1.sublist hp.sublist,fun i x hx=>h.2 i x (BD hp hx)⟩
theorem Ax.rep{ns:List Nd}(h:Ax ns):∀i,i<ns.length->∃e:Ex,e.Good/\Rep ns i e:=by
 have key:∀m i,i<=m->i<ns.length->∃e:Ex,e.Good/\Rep ns i e:=by
  intro m
  induction m with
  |zero=>
   intro i hi hl;obtain rfl:i=0:=by omega
   have hx:=h.2 0 ns[0] (qaa hl);rcases hx with ⟨k,t,he,ho⟩|⟨k,n,j,he,_,hj⟩|⟨k,j,q,he,_,hj,_⟩
   ·exact⟨.leaf k t,ho,by show ns[0]? =_;rw[qaa hl,he]⟩
   ·omega
   ·omega
  |succ m ih=>
   intro i hi hl;have hx:=h.2 i ns[i] (qaa hl);rcases hx with ⟨k,t,he,ho⟩|⟨k,n,j,he,ho,hj⟩|⟨k,j,q,he,hk,hj,hq⟩
   ·exact⟨.leaf k t,ho,by show ns[i]? =_;rw[qaa hl,he]⟩
   ·obtain⟨x,hg,hr⟩:=ih j (by omega) (by omega);exact⟨.un k n x,⟨ho.1,ho.2.1,ho.2.2.1,ho.2.2.2,hg⟩,j,hr,by rw[qaa hl,he]⟩
   ·obtain⟨x,hg,hr⟩:=ih j (by omega) (by omega);obtain⟨y,ks,hr2⟩:=ih q (by omega) (by omega);exact⟨.bin k x y,⟨hk,hg,ks⟩,j,q,hr,hr2,by rw[qaa hl,he]⟩
 intro i hl;exact key i i (qad _) hl
theorem Rep.lt{ns:List Nd}{i:Nat}{e:Ex}(h:Rep ns i e):i<ns.length:=by
 cases e with
 |leaf k t=>exact(qai.1 h).1
 |un k n x=>obtain⟨j,_,h⟩:=h;exact(qai.1 h).1
 |bin k x y=>obtain⟨j,q,_,_,h⟩:=h;exact(qai.1 h).1
theorem Rep.un_lt{ns:List Nd}(hs:Ax ns){i j k:Nat}{n:Int}(h:ns[i]? =some ⟨(k:Int),(j:Int),0,n,[]⟩)(hk:k=5\/(10<=k/\k<=16)):j<i:=by
 rcases hs.2 i _ h with ⟨k',t,he,ho⟩|⟨k',n',j',he,_,hj⟩|⟨k',j',q,he,hk',hj,hq⟩
 ·simp only[Nd.mk.injEq]at he;rcases ho with ⟨h,_⟩|⟨h,_⟩|⟨h,_⟩<;>omega
 ·simp only[Nd.mk.injEq]at he;omega
 ·simp only[Nd.mk.injEq]at he;omega
theorem Rep.bin_lt{ns:List Nd}(hs:Ax ns){i j q k:Nat}(h:ns[i]? =some ⟨(k:Int),(j:Int),(q:Int),0,[]⟩)(hk:6<=k/\k<=9):j<i/\q<i:=by
 rcases hs.2 i _ h with ⟨k',t,he,ho⟩|⟨k',n',j',he,ho,hj⟩|⟨k',j',q',he,hk',hj,hq⟩
 ·simp only[Nd.mk.injEq]at he;rcases ho with ⟨h,_⟩|⟨h,_⟩|⟨h,_⟩<;>omega
 ·simp only[Nd.mk.injEq]at he;have:=ho.1;omega
 ·simp only[Nd.mk.injEq]at he;omega
def Ed(f:Nat)(g:Nat->Nat)(h:Nat->Nat->Nat)(D:List Nat)(x:Nd):List Nat:=
 D++[if x.kind<5 then f else if 6<=x.kind/\x.kind<=9 then h (D.getD x.a.toNat 0) (D.getD x.b.toNat 0) else g (D.getD x.a.toNat 0)]
def Hh(f:Nat)(g:Nat->Nat)(h:Nat->Nat->Nat)(ns:List Nd):List Nat:=ns.foldl (Ed f g h) []
section
variable {f:Nat} {g:Nat->Nat} {h:Nat->Nat->Nat}
theorem H9(ns:List Nd)(x:Nd):Hh f g h (ns++[x])=Ed f g h (Hh f g h ns) x:=by unfold Hh;rw[qaO];rfl
theorem Eo(ns:List Nd):(Hh f g h ns).length=ns.length:=by
 have key:∀(l:List Nd) (D:List Nat),(l.foldl (Ed f g h) D).length=D.length+l.length:=by
  intro l
  induction l with
  |nil=>intro D;rfl
  |cons x l ih=>
   intro D;rw[qbd,ih];simp only[Ed,qab,qat,qaE];omega
 have:=key ns [];rw[qaE,qaF]at this;exact this
theorem Hg(ns ms:List Nd):Hh f g h ns <+: Hh f g h (ns++ms):=by
 have key:∀(l:List Nd) (D:List Nat),D <+: l.foldl (Ed f g h) D:=by
  intro l
  induction l with
  |nil=>intro D;exact qcf _
  |cons x l ih=>intro D;exact(List.prefix_append D _).trans (ih _)
 unfold Hh;rw[qaO];exact key ms _
theorem Ia{ns:List Nd}{i:Nat}(hi:i<ns.length):∀j,j<i->(Hh f g h (ns.take i)).getD j 0=(Hh f g h ns).getD j 0:=by
 intro j hj;have h1:=Hg (f:=f) (g:=g) (h:=h) (ns.take i) (ns.drop i);rw[qbo]at h1;obtain⟨t,ht⟩:=h1;rw[<-ht,Cq _ _ (by rw[Eo,qas];omega)]
theorem LV{ns:List Nd}{i:Nat}(hi:i<ns.length):(Hh f g h ns).getD i 0=(Ed f g h (Hh f g h (ns.take i)) ns[i]).getD i 0:=by
 have h1:=Hg (f:=f) (g:=g) (h:=h) (ns.take (i+1)) (ns.drop (i+1));rw[qbo]at h1;obtain⟨t,ht⟩:=h1;rw[<-ht,Cq _ _ (by rw[Eo,qas];omega),qah hi,H9]
def exN(f:Nat)(g:Nat->Nat)(h:Nat->Nat->Nat):Ex->Nat
 | .leaf _ _=>f
 | .un _ _ x=>g (exN f g h x)
 | .bin _ x y=>h (exN f g h x) (exN f g h y)
theorem Nt{ns:List Nd}(hs:Ax ns):∀{e:Ex} {i:Nat},e.Good->Rep ns i e->(Hh f g h ns).getD i 0=exN f g h e:=by
 intro e
 induction e with
 |leaf k t=>
  intro i hg hr;obtain⟨hi,hx⟩:=qai.1 (show ns[i]? =_ from hr);rw[LV hi,hx];unfold Ed;rw[BM _ _ (by rw[Eo,qas];omega)];rw[if_pos (by rcases hg with ⟨h,_⟩|⟨h,_⟩|⟨h,_⟩<;>simp only<;>omega)];rfl
 |un k n x ih=>
  intro i hg hr;obtain⟨j,hj,hx⟩:=hr;have jQ:=Rep.un_lt hs hx hg.1;obtain⟨hi,hx⟩:=qai.1 hx;rw[LV hi,hx];unfold Ed;rw[BM _ _ (by rw[Eo,qas];omega)];have:=hg.1;rw[if_neg (by simp only;omega),if_neg (by simp only;omega)];simp only[qaq];rw[Ia hi j jQ,ih hg.2.2.2.2 hj];rfl
 |bin k x y ihx ihy=>
  intro i hg hr;obtain⟨j,q,hj,hq,hx⟩:=hr;have jQ:=Rep.bin_lt hs hx hg.1;obtain⟨hi,hx⟩:=qai.1 hx;rw[LV hi,hx];unfold Ed;rw[BM _ _ (by rw[Eo,qas];omega)];have:=hg.1;rw[if_neg (by simp only;omega),if_pos (by simp only;omega)];simp only[qaq];rw[Ia hi j jQ.1,Ia hi q jQ.2,ihx hg.2.1 hj,ihy hg.2.2 hq];rfl
end
def C3(ns:List Nd):List Nat:=Hh 1 (fun a=>max 1 (a+1)) (fun a b=>max (max 1 (a+1)) (b+1)) ns
theorem Q2(e:Ex):exN 1 (fun a=>max 1 (a+1)) (fun a b=>max (max 1 (a+1)) (b+1)) e=e.depth:=by
 induction e with
 |leaf k t=>rfl
 |un k n x ih=>simp only[exN,ih,Ex.depth];omega
 |bin k x y ihx ihy=>simp only[exN,ihx,ihy,Ex.depth];omega
theorem K9{ns:List Nd}(hs:Ax ns){e:Ex}{i:Nat}(hg:e.Good)(hr:Rep ns i e):(C3 ns).getD i 0=e.depth:=(Nt hs hg hr).trans (Q2 e)
def GI(ns:List Nd):List Nat:=Hh 1 (fun a=>min (1+a) 201) (fun a b=>min (min (1+a) 201+b) 201) ns
theorem SG(e:Ex):exN 1 (fun a=>min (1+a) 201) (fun a b=>min (min (1+a) 201+b) 201) e=min e.size 201:=by
 induction e with
 |leaf k t=>rfl
 |un k n x ih=>simp only[exN,ih,Ex.size];omega
 |bin k x y ihx ihy=>simp only[exN,ihx,ihy,Ex.size];omega
theorem SQ{ns:List Nd}(hs:Ax ns){e:Ex}{i:Nat}(hg:e.Good)(hr:Rep ns i e):(GI ns).getD i 0=min e.size 201:=(Nt hs hg hr).trans (SG e)
theorem EW(e:Ex)(hg:e.Good):∀(off i:Nat) (x:Nd),(Ag off e)[i]? =some x->CA (off+i) x:=by
 induction e with
 |leaf k t=>
  intro off i x h;obtain⟨_,he⟩:=qai.1 h;simp only[Ag,List.getElem_singleton]at he;exact .inl ⟨k,t,he.symm,hg⟩
 |un k n x ih=>
  intro off i y h;obtain⟨h1,h2,h3,h4,hx⟩:=hg;rcases qam i x.size with hi|hi
  ·rw[Ag,qaC (by rw[Ak];exact hi)]at h;exact ih hx off i y h
  ·rw[Ag,qao (by rw[Ak];exact hi),Ak]at h;obtain⟨q,he⟩:=qai.1 h;simp only[List.getElem_singleton]at he;have:=x.size_pos;exact .inr (.inl ⟨k,n,off+x.size-1,he.symm,⟨h1,h2,h3,h4⟩,by omega⟩)
 |bin k x y ihx ihy=>
  intro off i z h;obtain⟨h1,hx,hy⟩:=hg;have:=x.size_pos;have:=y.size_pos;rcases qam i x.size with hi|hi
  ·rw[Ag,qaC (by rw[Ak];exact hi)]at h;exact ihx hx off i z h
  ·rw[Ag,qao (by rw[Ak];exact hi),Ak]at h;rcases qam (i-x.size) y.size with eT|eT
   ·rw[qaC (by rw[Ak];exact eT)]at h;have:=ihy hy _ _ z h;rw[show off+x.size+(i-x.size)=off+i by omega]at this;exact this
   ·rw[qao (by rw[Ak];exact eT),Ak]at h;obtain⟨q,he⟩:=qai.1 h;simp only[List.getElem_singleton]at he;exact .inr (.inr ⟨k,off+x.size-1,off+x.size+y.size-1,he.symm,h1,by omega,by omega⟩)
def B6(ids:List Nat)(x:Nd):Nd:=
 ⟨x.kind,if 5<=x.kind then ((ids.getD x.a.toNat 0:Nat):Int) else x.a,if 6<=x.kind/\x.kind<=9 then ((ids.getD x.b.toNat 0:Nat):Int) else x.b,x.n,x.text⟩
theorem GO(s:List Nat × List Nd)(x:Nd):Ik s x=(s.1++[(Bc s.2 (B6 s.1 x)).1],(Bc s.2 (B6 s.1 x)).2):=rfl
structure FG (n:Nat) (s:List Nat × List Nd) (i:Nat):Prop where
 len:s.1.length=i
 lt:∀j,j<i->s.1.getD j 0<s.2.length
 sound:Ax s.2
 big:s.2.length<=n+i
theorem Es.lt{k:Nat}{t:List UInt8}(h:Es k t):k<5:=by rcases h with ⟨h,_⟩|⟨h,_⟩|⟨h,_⟩<;>omega
theorem JC{n:Nat}{s:List Nat × List Nd}{i:Nat}{x:Nd}(h:FG n s i)(hx:CA i x):CA s.2.length (B6 s.1 x):=by
 rcases hx with ⟨k,t,rfl,ho⟩|⟨k,m,j,rfl,ho,hj⟩|⟨k,j,q,rfl,hk,hj,hq⟩
 ·have:=ho.lt;refine .inl ⟨k,t,?_,ho⟩;unfold B6;rw[if_neg (by simp only;omega),if_neg (by simp only;omega)]
 ·have:=ho.1;refine .inr (.inl ⟨k,m,s.1.getD j 0,?_,ho,h.lt j hj⟩);unfold B6;rw[if_pos (by simp only;omega),if_neg (by simp only;omega)];rfl
 ·refine .inr (.inr ⟨k,s.1.getD j 0,s.1.getD q 0,?_,hk,h.lt j hj,h.lt q hq⟩);unfold B6;rw[if_pos (by simp only;omega),if_pos (by simp only;omega)];rfl
theorem FG.step{n:Nat}{s:List Nat × List Nd}{i:Nat}{x:Nd}(h:FG n s i)(hx:CA i x):FG n (Ik s x) (i+1):=by
 have hp:=(Cv s.2 (B6 s.1 x)).length_le;have hl:=GT s.2 (B6 s.1 x);have hb:=h.big;have ak:=h.len;rw[GO];refine⟨by simp only[qab,qae,ak],fun j hj=> ?_,h.sound.put (JC h hx),by simp only;omega⟩;simp only;rcases qam j i with jQ|jQ
 ·rw[Cq _ _ (by omega)];exact qaj (h.lt j jQ) hp
 ·rw[BM _ _ (by omega)];exact Pe _ _
theorem FG.start{ns:List Nd}(h:Ax ns):FG ns.length ([],ns) 0:=⟨rfl,fun j hj=>by omega,h,qad _⟩
theorem GF(s:List Nat × List Nd)(l:List Nd)(i:Nat)(h:i<l.length):BJ s (l.take (i+1))=Ik (BJ s (l.take i)) l[i]:=by
 rw[qah h];unfold BJ;rw[qaO];rfl
theorem FG.at{ns:List Nd}(h:Ax ns){e:Ex}(hg:e.Good):∀i,i<=e.size->FG ns.length (BJ ([],ns) ((Ag 0 e).take i)) i:=by
 intro i
 induction i with
 |zero=>intro _;exact FG.start h
 |succ i ih=>
  intro hi;have hl:i<(Ag 0 e).length:=by rw[Ak];omega
  rw[GF _ _ _ hl];have h2:=EW e hg 0 i _ (qaa hl);rw[qaF]at h2;exact(ih (by omega)).step h2
theorem K2(e:Ex)(hg:e.Good)(ns:List Nd):∃more:List Nat,more.length+1=e.size/\BJ ([],ns) (Ag 0 e)=(more++[(AC ns e).1],(AC ns e).2):=by
 obtain⟨more,h1,h2⟩:=OJ e hg [] ns;exact⟨more,h1,by simpa using h2⟩
open Go.RowKit
theorem CA.key{i:Nat}{x:Nd}(h:CA i x)(hi:i<=1000000):F1 x:=by
 have hw:∀n:Int,-1000000<=n->n<=1000000->(Lit.int .i64 n).wf=true:=by
  intro n h1 h2;have e1:IntKind.i64.min= -9223372036854775808:=by decide
  have e2:IntKind.i64.max=9223372036854775807:=by decide
  simp only[Lit.wf,e1,e2,qaM,decide_eq_true_eq];omega
 have ht:=h.text;rcases h with ⟨k,t,rfl,ho⟩|⟨k,n,j,rfl,ho,hj⟩|⟨k,j,q,rfl,hk,hj,hq⟩
 ·have:=ho.lt;exact⟨hw _ (by simp only;omega) (by simp only;omega),hw 0 (by decide) (by decide),hw 0 (by decide) (by decide),hw 0 (by decide) (by decide),by unfold maxLen;omega⟩
 ·obtain⟨h1,h2,h3,h4⟩:=ho;exact⟨hw _ (by simp only;omega) (by simp only;omega),hw _ (by simp only;omega) (by simp only;omega),hw 0 (by decide) (by decide),hw _ (by simp only;omega) (by simp only;omega),by unfold maxLen;omega⟩
 ·exact⟨hw _ (by simp only;omega) (by simp only;omega),hw _ (by simp only;omega) (by simp only;omega),hw _ (by simp only;omega) (by simp only;omega),hw 0 (by decide) (by decide),by unfold maxLen;omega⟩
theorem Ax.keys{ns:List Nd}(h:Ax ns)(hn:ns.length<=1000000):∀x∈ns,F1 x:=by
 intro x hx;obtain⟨i,hi,rfl⟩:=qby hx;exact(h.2 i _ (qaa hi)).key (by omega)
structure GrP (B g b:Nat) (w:World) (ns:List Nd) (nv:Value):Prop where
 blk:Blk w g 80 #[nv,.map (some b)]
 row:Ai B w nv ns
 map:Dq w b ns
 lo:B<=g
 lo2:B<=b
 ok:Ax ns
 few:ns.length<=4096
 low:0<B
theorem BT.below{B:Nat}{w w':World}(h:BT w)(hb:Below B w w')(hl:0<B):BT w':=by
 obtain⟨m,h⟩:=h;exact⟨m,(World.cell?_of_block (a:=⟨0,0,none⟩) (hb.block _ hl)).trans h⟩
structure KG (g b:Nat) (nv nv':Value) (w w':World):Prop where
 os:w'.os=w.os
 tape:w'.tape=w.tape
 output:w'.output=w.output
 size:w.heap.size<=w'.heap.size
 block:∀k,k<w.heap.size->k≠g->k≠b->nv.ownBlock≠some k->w'.heap[k]? =w.heap[k]?
 move:∀j,nv'.ownBlock=some j->nv.ownBlock=some j\/w.heap.size<=j
theorem KG.of_ext{g b:Nat}{nv:Value}{w w':World}(h:Ext w w'):KG g b nv nv w w':=⟨h.os,h.tape,h.output,h.size,fun k hk _ _ _=>h.block k hk,fun _ hj=> .inl hj⟩
theorem KG.trans{g b:Nat}{n1 n2 n3:Value}{w1 w2 w3:World}(h:KG g b n1 n2 w1 w2)(k:KG g b n2 n3 w2 w3):KG g b n1 n3 w1 w3:=
 ⟨k.os.trans h.os,k.tape.trans h.tape,k.output.trans h.output,qaf h.size k.size,fun i h1 h2 h3 h4=>
  (k.block i (qaj h1 h.size) h2 h3 (fun e=>by
   rcases h.move i e with h5|h5
   ·exact h4 h5
   ·omega)).trans (h.block i h1 h2 h3 h4),fun j hj=>by
  rcases k.move j hj with h4|h4
  ·exact h.move j h4
  ·exact .inr (qaf h.size h4)⟩
theorem KG.blk{g b j:Nat}{n1 n2:Value}{w w':World}{t:TypeId}{cs:Array Value}(h:KG g b n1 n2 w w')(hb:Blk w j t cs)(h1:j≠g)(h2:j≠b)(h3:n1.ownBlock≠some j):Blk w' j t cs:=(h.block j hb.lt h1 h2 h3).trans hb
theorem KG.below{B g b:Nat}{n1 n2:Value}{w w':World}{ns:List Nd}(h:KG g b n1 n2 w w')(hr:GrP B g b w ns n1):Below B w w':=
 ⟨h.os,h.tape,h.output,h.size,fun k hk=>by
  have h1:=hr.blk.lt;have h2:=hr.lo;have h3:=hr.lo2;exact h.block k (by omega) (by omega) (by omega) (fun e=>by have:=Ay hr.row k e;omega)⟩
theorem GrP.lt{B g b:Nat}{w:World}{ns:List Nd}{nv:Value}(h:GrP B g b w ns nv):g<w.heap.size:=h.blk.lt
theorem GrP.keep{B g b:Nat}{w w':World}{ns:List Nd}{nv:Value}(h:GrP B g b w ns nv)(hx:Ext w w'):GrP B g b w' ns nv:=
 ⟨h.blk.ext hx,h.row.ext hx,h.map.kept (hx.block b h.map.lt),h.lo,h.lo2,h.ok,h.few,h.low⟩
theorem GrP.apart{B g b:Nat}{w:World}{ns:List Nd}{nv:Value}(h:GrP B g b w ns nv):nv.ownBlock≠some b:=by
 intro e;obtain⟨es,clock,hb,_⟩:=h.map;have hr:=h.row;unfold Ai at hr;rcases hr.2 with ⟨rfl,_⟩|⟨q,cap,cur,rfl,_,hh,_⟩
 ·cases e
 ·simp only[Value.ownBlock,qaw]at e;subst e;rw[hb]at hh;cases hh
theorem GrP.apart2{B g b:Nat}{w:World}{ns:List Nd}{nv:Value}(h:GrP B g b w ns nv):nv.ownBlock≠some g:=by
 intro e;have hb:=h.blk;have hr:=h.row;unfold Ai at hr;unfold Blk at hb;rcases hr.2 with ⟨rfl,_⟩|⟨q,cap,cur,rfl,_,hh,_⟩
 ·cases e
 ·simp only[Value.ownBlock,qaw]at e;subst e;rw[hb]at hh;injection hh with hh
  injection hh with _ hh _
  exact absurd hh (by decide)
theorem GrP.apart3{B g b:Nat}{w:World}{ns:List Nd}{nv:Value}(h:GrP B g b w ns nv):g≠b:=by
 rintro rfl;obtain⟨es,clock,hb,_⟩:=h.map;have h2:=h.blk;unfold Blk at h2;rw[hb]at h2;cases h2
theorem Blk.twoG{w:World}{g:Nat}{t:TypeId}{a b:Value}(h:Blk w g t #[a,b]):w.cell? ⟨g,0,none⟩=some a/\w.cell? ⟨g,1,none⟩=some b/\w.frozen? ⟨g,0,none⟩=false/\w.frozen? ⟨g,1,none⟩=false/\g<w.heap.size:=
 ⟨h.cell 0,h.cell 1,h.frozen 0,h.frozen 1,h.lt⟩
theorem Sy(B g b:Nat)(w:World)(ns:List Nd)(nv:Value)(h:GrP B g b w ns nv):
  Calls Tryz.prog 41 #[.pointer (some ⟨g,0,none⟩)] w fun e w'=>e= .returned (.int .i64 (ns.length:Int))/\w=w':=by
 have hb:=h.blk;have hn:=h.row;obtain⟨A2,c2,rfl⟩:=hn.shape;have k0:=hb.twoG;clear hb hn h;go_enter Tryz.func41,Tryz.ntmps41;go_wp2_with fail;go_ret;exact⟨rfl,rfl⟩
theorem De(w:World)(o:Obj)(cs:Array Value)(t:TypeId)(j:Nat):((w.alloc o).alloc (.cells cs t)).cell? ⟨w.heap.size+1,j,none⟩=cs[j]? :=by
 have h:=(Blk.new (w.alloc o) t cs).cell j;have hs:(w.alloc o).heap.size=w.heap.size+1:=by simp
 rw[hs]at h;exact h
theorem C0(w:World)(k a b n:Int)(s:ByteArray)(hk:k=1\/k=2\/k=3\/k=4):
  Calls Tryz.prog 107 #[.agg #[.int .i64 k,.int .i64 a,.int .i64 b,.int .i64 n,.string s]] w fun e w'=>e= .returned (.tuple #[.slice none 0 0,.bool true])/\Ext w w':=by
 rcases hk with rfl|rfl|rfl|rfl
 all_goals
  go_enter Tryz.func107,Tryz.ntmps107;go_wp2_with fail;go_ret2;exact⟨rfl,(Ext.refl w).alloc _⟩
theorem EB(w:World)(k a b n:Int)(s:ByteArray)(hk:k=5\/k=10\/k=11\/k=12\/k=13\/k=14\/k=15\/k=16):
  Calls Tryz.prog 107 #[.agg #[.int .i64 k,.int .i64 a,.int .i64 b,.int .i64 n,.string s]] w fun e w'=>∃b,e= .returned (.tuple #[.slice (some ⟨b,0,none⟩) 1 1,.bool true])/\w'.cell? ⟨b,0,none⟩=some (.int .i64 a)/\w.heap.size<=b/\b<w'.heap.size/\Ext w w':=by
 rcases hk with rfl|rfl|rfl|rfl|rfl|rfl|rfl|rfl
 all_goals
  go_enter Tryz.func107,Tryz.ntmps107;go_wp2_with fail;go_ret2;exact⟨_,rfl,De _ _ _ _ 0,by simp,by simp,((Ext.refl w).alloc _).alloc _⟩
theorem Ff(w:World)(k a b n:Int)(s:ByteArray)(hk:k=6\/k=7\/k=8\/k=9):
  Calls Tryz.prog 107 #[.agg #[.int .i64 k,.int .i64 a,.int .i64 b,.int .i64 n,.string s]] w fun e w'=>∃c,e= .returned (.tuple #[.slice (some ⟨c,0,none⟩) 2 2,.bool true])/\w'.cell? ⟨c,0,none⟩=some (.int .i64 a)/\w'.cell? ⟨c,1,none⟩=some (.int .i64 b)/\w.heap.size<=c/\c<w'.heap.size/\Ext w w':=by
 rcases hk with rfl|rfl|rfl|rfl
 all_goals
  go_enter Tryz.func107,Tryz.ntmps107;go_wp2_with fail;go_ret2;exact⟨_,rfl,De _ _ _ _ 0,De _ _ _ _ 1,by simp,by simp,((Ext.refl w).alloc _).alloc _⟩
end Big
end Go.Proofs.YtkoaogkknnelaaaGreatDoor
