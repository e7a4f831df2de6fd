import Derived.Test.YtkoaogkknnelaaaGreatDoorM28
import Derived.Maps.OwnSet
import Derived.Test.YtkoaogkknnelaaaGreatDoorM24
set_option linter.unusedVariables false
set_option linter.unusedSimpArgs false
set_option maxRecDepth 100000
namespace Go.Proofs.YtkoaogkknnelaaaGreatDoor
namespace Big
open Lib renaming hid → J
open Go.RowKit Go.ChangeMaps
def nmE(ns:List Nd):List (Value × Value):=(List.range ns.length).map fun i=>(ndV (ns.getD i ⟨0,0,0,0,[]⟩),.int .i64 (i:Int))
theorem CL(ns:List Nd):(nmE ns).length=ns.length:=by simp[nmE]
theorem GQ(ns:List Nd)(i:Nat)(h:i<ns.length):(nmE ns)[i]? =some (ndV ns[i],.int .i64 (i:Int)):=by
 unfold nmE;rw[qaP,List.getElem?_range h,Option.map_some,qaa,qad h,Option.getD_some]
theorem Sb(ns:List Nd)(x:Nd):nmE (ns++[x])=nmE ns++[(ndV x,.int .i64 (ns.length:Int))]:=by
 apply qct;intro i;rcases qcg i ns.length with h|h|h
 ·rw[GQ _ _ (by simp;omega),qat (by rw[CL];exact h),GQ _ _ h,List.getElem_append_left h]
 ·subst h;rw[GQ _ _ (by simp),qai (by rw[CL];exact qab _),CL];simp
 ·rw[qav (by rw[CL];simp;omega),qav (by rw[qac,CL];simp;omega)]
theorem OU{x y:Nd}(h:ndV x=ndV y):x=y:=by
 obtain⟨a0,a1,a2,a3,a4⟩:=x;obtain⟨b0,b1,b2,b3,b4⟩:=y;unfold ndV at h;simp only[Value.agg.injEq,Array.mk.injEq,List.cons.injEq,Value.int.injEq,true_and,and_true]at h;obtain⟨rfl,rfl,rfl,rfl,h5⟩:=h;unfold str at h5;injection h5 with h5
 injection h5 with h5
 have h6:=congrArg Array.toList h5;simp only[List.toList_toArray]at h6;rw[h6]
def DY(w:World)(b:Nat)(ns:List Nd):Prop:=
 ∃es clock,w.heap[b]? =some (.map es clock)/\es.toList.map (fun e=>(e.key,e.val))=nmE ns
theorem DY.made(w:World):DY (w.alloc (.map #[] 0)) w.heap.size []:=⟨#[],0,(MapKept.heap_alloc w _).1,rfl⟩
theorem DY.lt{w:World}{b:Nat}{ns:List Nd}(h:DY w b ns):b<w.heap.size:=by
 obtain⟨es,clock,hb,_⟩:=h;exact(qcp.1 hb).1
theorem DY.kept{w w':World}{b:Nat}{ns:List Nd}(h:DY w b ns)(hk:w'.heap[b]? =w.heap[b]?):DY w' b ns:=by
 obtain⟨es,clock,hb,h2⟩:=h;exact⟨es,clock,hk.trans hb,h2⟩
theorem DY.keys{es:Array MapEntry}{ns:List Nd}(h:es.toList.map (fun e=>(e.key,e.val))=nmE ns)(hk:∀x∈ns,Ga x):∀e∈es.toList,∃l,keyOf Tryz.prog 95 e.key=some l:=by
 intro e he;obtain⟨i,hi,rfl⟩:=qbP he;have hl:es.toList.length=ns.length:=by rw[<-CL ns,<-h,qas]
 have h2:(es.toList.map (fun e=>(e.key,e.val)))[i]? =some (ndV (ns[i]'(by omega)),.int .i64 (i:Int)):=by rw[h,GQ]
 rw[qaP,qad hi,Option.map_some]at h2;injection h2 with h2
 injection h2 with h2 _
 rw[h2];exact JQ _ (hk _ (qaw _))
theorem DY.entry{es:Array MapEntry}{ns:List Nd}(h:es.toList.map (fun e=>(e.key,e.val))=nmE ns){j:Nat}{e:MapEntry}(he:es.toList[j]? =some e):∃hj:j<ns.length,e.key=ndV ns[j]/\e.val= .int .i64 (j:Int):=by
 have hl:es.toList.length=ns.length:=by rw[<-CL ns,<-h,qas]
 have hj:j<ns.length:=by rw[<-hl];exact(qaB.1 he).1
 have h2:(es.toList.map (fun e=>(e.key,e.val)))[j]? =some (ndV ns[j],.int .i64 (j:Int)):=by rw[h,GQ _ _ hj]
 rw[qaP,he,Option.map_some]at h2;injection h2 with h2
 injection h2 with h2 h3
 exact⟨hj,h2,h3⟩
def Gh(x:Nd)(ns:List Nd):Int:=if x∈ns then (CE x ns:Int) else 0
theorem DY.look{w:World}{b:Nat}{ns:List Nd}(h:DY w b ns)(hk:∀x∈ns,Ga x)(hn:ns.Nodup)(x:Nd)(hx:Ga x){t:TypeId}(ht:Tryz.prog.underlying t=some (.map 95 3)):
  (Instr.lookup t (.map (some b)) (ndV x) true).run Tryz.prog w= .ok (.tuple #[.int .i64 (Gh x ns),.bool (decide (x∈ns))]) w:=by
 obtain⟨es,clock,hb,he⟩:=h;obtain⟨l,hl⟩:=JQ x hx;have hz:(zeroValue 3).run Tryz.prog w= .ok (.int .i64 0) w:=by kernel_rfl
 have aH:es.toList.length=ns.length:=by rw[<-CL ns,<-he,qas]
 rcases Ef.find w hl es.toList (DY.keys he hk) with ⟨h1,h2⟩|⟨j,e0,h1,h2,h3⟩
 ·have mM:x∉ns:=fun hm=>by
   obtain⟨i,hi,rfl⟩:=qbP hm;have ay:i<es.toList.length:=by omega
   obtain⟨_,q,_⟩:=DY.entry he (qad ay);exact h2 _ (qaw ay) q
  rw[Gh,if_neg mM,decide_eq_false mM];simp[Instr.lookup,run_underlying ht,MapKept.run_getObj_map hb,Ef.check w _ hl,h1,hz,Result.andThen]
 ·obtain⟨hj,q1,q2⟩:=DY.entry he h2;have bS:x=ns[j]:=OU (h3.symm.trans q1);have hm:x∈ns:=by rw[bS];exact qaw hj
  have hp:CE x ns=j:=by rw[bS];exact KQ hn hj
  rw[Gh,if_pos hm,decide_eq_true hm,hp,<-q2];simp[Instr.lookup,run_underlying ht,MapKept.run_getObj_map hb,Ef.check w _ hl,h1,Result.andThen]
theorem DY.store{w:World}{b:Nat}{ns:List Nd}(h:DY w b ns)(hk:∀x∈ns,Ga x)(x:Nd)(hx:Ga x)(mM:x∉ns){t:TypeId}(ht:Tryz.prog.underlying t=some (.map 95 3)):
  ∃w',(Instr.mapUpdate t (.map (some b)) (ndV x) (.int .i64 (ns.length:Int))).run Tryz.prog w= .ok () w'/\DY w' b (ns++[x])/\w.grownBy w' (some b):=by
 obtain⟨es,clock,hb,he⟩:=h;obtain⟨l,hl⟩:=JQ x hx;rcases Ef.find w hl es.toList (DY.keys he hk) with ⟨h1,h2⟩|⟨j,e0,h1,h2,h3⟩
 ·refine⟨setBlock w b (.map (es.push ⟨ndV x,.int .i64 (ns.length:Int),clock⟩) (clock+1)),?_,⟨_,_,heap_setBlock_same hb _,?_⟩,⟨rfl,rfl,rfl,by simp[setBlock],fun i _ hi=>heap_setBlock_other hb _ (fun e=>hi (by rw[e]))⟩⟩
  ·simp[Instr.mapUpdate,run_underlying ht,MapKept.run_getObj_map hb,Ef.check w false hl,h1,MapKept.run_setObj_map _ hb,Result.andThen,setBlock]
  ·rw[Array.toList_push,qbc,he,Sb];rfl
 ·obtain⟨hj,q1,_⟩:=DY.entry he h2;exact absurd (by rw[OU (h3.symm.trans q1)];exact qaw hj) mM
theorem H9(e:Ex)(hg:e.Good):∀(off i:Nat) (x:Nd),(Ak off e)[i]? =some x->CF (off+i) x:=by
 induction e with
 |leaf k t=>
  intro off i x h;obtain⟨_,he⟩:=qaB.1 h;simp only[Ak,List.getElem_singleton]at he;exact .inl ⟨k,t,he.symm,hg⟩
 |un k n x ih=>
  intro off i y h;obtain⟨h1,h2,h3,h4,hx⟩:=hg;rcases qah i x.size with hi|hi
  ·rw[Ak,qat (by rw[AD];exact hi)]at h;exact ih hx off i y h
  ·rw[Ak,qai (by rw[AD];exact hi),AD]at h;obtain⟨q,he⟩:=qaB.1 h;simp only[List.getElem_singleton]at he;have:=x.size_pos;exact .inr (.inl ⟨k,n,off+x.size-1,he.symm,⟨h1,h2,h3,h4⟩,by omega⟩)
 |bin k x y ihx ihy=>
  intro off i z h;obtain⟨h1,hx,hy⟩:=hg;have:=x.size_pos;have:=y.size_pos;rcases qah i x.size with hi|hi
  ·rw[Ak,qat (by rw[AD];exact hi)]at h;exact ihx hx off i z h
  ·rw[Ak,qai (by rw[AD];exact hi),AD]at h;rcases qah (i-x.size) y.size with ay|ay
   ·rw[qat (by rw[AD];exact ay)]at h;have:=ihy hy _ _ z h;rw[show off+x.size+(i-x.size)=off+i by omega]at this;exact this
   ·rw[qai (by rw[AD];exact ay),AD]at h;obtain⟨q,he⟩:=qaB.1 h;simp only[List.getElem_singleton]at he;exact .inr (.inr ⟨k,off+x.size-1,off+x.size+y.size-1,he.symm,h1,by omega,by omega⟩)
def B8(bL:List Nat)(x:Nd):Nd:=
 ⟨x.kind,if 5<=x.kind then ((bL.getD x.a.toNat 0:Nat):Int) else x.a,if 6<=x.kind/\x.kind<=9 then ((bL.getD x.b.toNat 0:Nat):Int) else x.b,x.n,x.text⟩
theorem GD(s:List Nat × List Nd)(x:Nd):Il s x=(s.1++[(Bs s.2 (B8 s.1 x)).1],(Bs s.2 (B8 s.1 x)).2):=rfl
structure FG (n:Nat) (s:List Nat × List Nd) (i:Nat):Prop where
 len:s.1.length=i
 lt:∀j,j<i->s.1.getD j 0<s.2.length
 sound:AK s.2
 big:s.2.length<=n+i
theorem Kc.lt{k:Nat}{t:List UInt8}(h:Kc k t):k<5:=by rcases h with ⟨h,_⟩|⟨h,_⟩|⟨h,_⟩<;>omega
theorem JP{n:Nat}{s:List Nat × List Nd}{i:Nat}{x:Nd}(h:FG n s i)(hx:CF i x):CF s.2.length (B8 s.1 x):=by
 rcases hx with ⟨k,t,rfl,ho⟩|⟨k,m,j,rfl,ho,hj⟩|⟨k,j,q,rfl,hk,hj,hq⟩
 ·have:=ho.lt;refine .inl ⟨k,t,?_,ho⟩;unfold B8;rw[if_neg (by simp only;omega),if_neg (by simp only;omega)]
 ·have:=ho.1;refine .inr (.inl ⟨k,m,s.1.getD j 0,?_,ho,h.lt j hj⟩);unfold B8;rw[if_pos (by simp only;omega),if_neg (by simp only;omega)];rfl
 ·refine .inr (.inr ⟨k,s.1.getD j 0,s.1.getD q 0,?_,hk,h.lt j hj,h.lt q hq⟩);unfold B8;rw[if_pos (by simp only;omega),if_pos (by simp only;omega)];rfl
theorem FG.step{n:Nat}{s:List Nat × List Nd}{i:Nat}{x:Nd}(h:FG n s i)(hx:CF i x):FG n (Il s x) (i+1):=by
 have hp:=(Ea s.2 (B8 s.1 x)).length_le;have hl:=GH s.2 (B8 s.1 x);have hb:=h.big;have aH:=h.len;rw[GD];refine⟨by simp only[qac,qal,aH],fun j hj=> ?_,h.sound.put (JP h hx),by simp only;omega⟩;simp only;rcases qah j i with x6|x6
 ·rw[Ew _ _ (by omega)];exact qan (h.lt j x6) hp
 ·rw[Dw _ _ (by omega)];exact OR _ _
theorem FG.start{ns:List Nd}(h:AK ns):FG ns.length ([],ns) 0:=⟨rfl,fun j hj=>by omega,h,qab _⟩
theorem Gp(s:List Nat × List Nd)(l:List Nd)(i:Nat)(h:i<l.length):BP s (l.take (i+1))=Il (BP s (l.take i)) l[i]:=by
 rw[qaz h];unfold BP;rw[qbx];rfl
theorem FG.at{ns:List Nd}(h:AK ns){e:Ex}(hg:e.Good):∀i,i<=e.size->FG ns.length (BP ([],ns) ((Ak 0 e).take i)) i:=by
 intro i
 induction i with
 |zero=>intro _;exact FG.start h
 |succ i ih=>
  intro hi;have hl:i<(Ak 0 e).length:=by rw[AD];omega
  rw[Gp _ _ _ hl];have h2:=H9 e hg 0 i _ (qad hl);rw[qaW]at h2;exact(ih (by omega)).step h2
theorem K2(e:Ex)(hg:e.Good)(ns:List Nd):∃more:List Nat,more.length+1=e.size/\BP ([],ns) (Ak 0 e)=(more++[(Br ns e).1],(Br ns e).2):=by
 obtain⟨more,h1,h2⟩:=Oq e hg [] ns;exact⟨more,h1,by simpa using h2⟩
open Go.RowKit
theorem CF.key{i:Nat}{x:Nd}(h:CF i x)(hi:i<=1000000):Ga x:=by
 have hw:∀n:Int,-1000000<=n->n<=1000000->(Lit.int .i64 n).wf=true:=by
  intro n h1 h2;have e1:IntKind.i64.min= -9223372036854775808:=by decide
  have e2:IntKind.i64.max=9223372036854775807:=by decide
  simp only[Lit.wf,e1,e2,qaT,decide_eq_true_eq];omega
 have ht:=h.text;rcases h with ⟨k,t,rfl,ho⟩|⟨k,n,j,rfl,ho,hj⟩|⟨k,j,q,rfl,hk,hj,hq⟩
 ·have:=ho.lt;exact⟨hw _ (by simp only;omega) (by simp only;omega),hw 0 (by decide) (by decide),hw 0 (by decide) (by decide),hw 0 (by decide) (by decide),by unfold maxLen;omega⟩
 ·obtain⟨h1,h2,h3,h4⟩:=ho;exact⟨hw _ (by simp only;omega) (by simp only;omega),hw _ (by simp only;omega) (by simp only;omega),hw 0 (by decide) (by decide),hw _ (by simp only;omega) (by simp only;omega),by unfold maxLen;omega⟩
 ·exact⟨hw _ (by simp only;omega) (by simp only;omega),hw _ (by simp only;omega) (by simp only;omega),hw _ (by simp only;omega) (by simp only;omega),hw 0 (by decide) (by decide),by unfold maxLen;omega⟩
theorem AK.keys{ns:List Nd}(h:AK ns)(hn:ns.length<=1000000):∀x∈ns,Ga x:=by
 intro x hx;obtain⟨i,hi,rfl⟩:=qbP hx;exact(h.2 i _ (qad hi)).key (by omega)
structure GrP (B g b:Nat) (w:World) (ns:List Nd) (nv:Value):Prop where
 blk:Blk w g 80 #[nv,.map (some b)]
 row:AB B w nv ns
 map:DY w b ns
 lo:B<=g
 lo2:B<=b
 ok:AK ns
 few:ns.length<=4096
 low:0<B
theorem B5.below{B:Nat}{w w':World}(h:B5 w)(hb:Below B w w')(hl:0<B):B5 w':=by
 obtain⟨m,h⟩:=h;exact⟨m,(World.cell?_of_block (a:=⟨0,0,none⟩) (hb.block _ hl)).trans h⟩
structure KG (g b:Nat) (nv nv':Value) (w w':World):Prop where
 os:w'.os=w.os
 tape:w'.tape=w.tape
 output:w'.output=w.output
 size:w.heap.size<=w'.heap.size
 block:∀k,k<w.heap.size->k≠g->k≠b->nv.ownBlock≠some k->w'.heap[k]? =w.heap[k]?
 move:∀j,nv'.ownBlock=some j->nv.ownBlock=some j\/w.heap.size<=j
theorem KG.of_ext{g b:Nat}{nv:Value}{w w':World}(h:Ext w w'):KG g b nv nv w w':=⟨h.os,h.tape,h.output,h.size,fun k hk _ _ _=>h.block k hk,fun _ hj=> .inl hj⟩
theorem KG.trans{g b:Nat}{n1 n2 n3:Value}{w1 w2 w3:World}(h:KG g b n1 n2 w1 w2)(k:KG g b n2 n3 w2 w3):KG g b n1 n3 w1 w3:=
 ⟨k.os.trans h.os,k.tape.trans h.tape,k.output.trans h.output,qae h.size k.size,fun i h1 h2 h3 h4=>
  (k.block i (qan h1 h.size) h2 h3 (fun e=>by
   rcases h.move i e with h5|h5
   ·exact h4 h5
   ·omega)).trans (h.block i h1 h2 h3 h4),fun j hj=>by
  rcases k.move j hj with h4|h4
  ·exact h.move j h4
  ·exact .inr (qae h.size h4)⟩
theorem KG.blk{g b j:Nat}{n1 n2:Value}{w w':World}{t:TypeId}{cs:Array Value}(h:KG g b n1 n2 w w')(hb:Blk w j t cs)(h1:j≠g)(h2:j≠b)(h3:n1.ownBlock≠some j):Blk w' j t cs:=(h.block j hb.lt h1 h2 h3).trans hb
theorem KG.below{B g b:Nat}{n1 n2:Value}{w w':World}{ns:List Nd}(h:KG g b n1 n2 w w')(hr:GrP B g b w ns n1):Below B w w':=
 ⟨h.os,h.tape,h.output,h.size,fun k hk=>by
  have h1:=hr.blk.lt;have h2:=hr.lo;have h3:=hr.lo2;exact h.block k (by omega) (by omega) (by omega) (fun e=>by have:=AQ hr.row k e;omega)⟩
theorem GrP.lt{B g b:Nat}{w:World}{ns:List Nd}{nv:Value}(h:GrP B g b w ns nv):g<w.heap.size:=h.blk.lt
theorem GrP.keep{B g b:Nat}{w w':World}{ns:List Nd}{nv:Value}(h:GrP B g b w ns nv)(hx:Ext w w'):GrP B g b w' ns nv:=
 ⟨h.blk.ext hx,h.row.ext hx,h.map.kept (hx.block b h.map.lt),h.lo,h.lo2,h.ok,h.few,h.low⟩
theorem GrP.apart{B g b:Nat}{w:World}{ns:List Nd}{nv:Value}(h:GrP B g b w ns nv):nv.ownBlock≠some b:=by
 intro e;obtain⟨es,clock,hb,_⟩:=h.map;have hr:=h.row;unfold AB at hr;rcases hr.2 with ⟨rfl,_⟩|⟨q,cap,cur,rfl,_,hh,_⟩
 ·cases e
 ·simp only[Value.ownBlock,qar]at e;subst e;rw[hb]at hh;cases hh
theorem GrP.apart2{B g b:Nat}{w:World}{ns:List Nd}{nv:Value}(h:GrP B g b w ns nv):nv.ownBlock≠some g:=by
 intro e;have hb:=h.blk;have hr:=h.row;unfold AB at hr;unfold Blk at hb;rcases hr.2 with ⟨rfl,_⟩|⟨q,cap,cur,rfl,_,hh,_⟩
 ·cases e
 ·simp only[Value.ownBlock,qar]at e;subst e;rw[hb]at hh;injection hh with hh
  injection hh with _ hh _
  exact absurd hh (by decide)
theorem GrP.apart3{B g b:Nat}{w:World}{ns:List Nd}{nv:Value}(h:GrP B g b w ns nv):g≠b:=by
 rintro rfl;obtain⟨es,clock,hb,_⟩:=h.map;have h2:=h.blk;unfold Blk at h2;rw[hb]at h2;cases h2
theorem Blk.twoG{w:World}{g:Nat}{t:TypeId}{a b:Value}(h:Blk w g t #[a,b]):w.cell? ⟨g,0,none⟩=some a/\w.cell? ⟨g,1,none⟩=some b/\w.frozen? ⟨g,0,none⟩=false/\w.frozen? ⟨g,1,none⟩=false/\g<w.heap.size:=
 ⟨h.cell 0,h.cell 1,h.frozen 0,h.frozen 1,h.lt⟩
def KU(w w':World):Prop:=∀g cur,Blk w g 183 cur->Blk w' g 183 cur
theorem KU.refl(w:World):KU w w:=fun _ _ h=>h
theorem KU.trans{w w' w'':World}(h:KU w w')(k:KU w' w''):KU w w'':=fun g cur hb=>k g cur (h g cur hb)
theorem KU.of_ext{w w':World}(h:Ext w w'):KU w w':=fun _ _ hb=>hb.ext h
theorem KU.set{w:World}{g:Nat}{t:TypeId}{cs:Array Value}(hb:Blk w g t cs)(ht:t≠183){a:Addr}(ha:a.block=g)(u:Value):KU w (w.setCell a u):=by
 intro k cur hk;refine hk.far (fun e=> ?_) u;rw[e,ha]at hk;unfold Blk at hk hb;rw[hb]at hk;injection hk with hk
 injection hk with _ hk
 exact ht hk
theorem KU.grown{w w':World}{row:Option Nat}(hg:w.grownBy w' row)(hr:∀k,row=some k->∀cur,¬Blk w k 183 cur):KU w w':=by
 intro k cur hk;exact(hg.block k hk.lt (fun e=>hr k e.symm cur hk)).trans hk
theorem BJ{w:World}{B:Nat}{t:TypeId}{m n:Nat}{v:Value}{xs:List Value}(h:w.ownsRow B t m v n xs)(ht:t≠183):∀k,v.ownBlock=some k->∀cur,¬Blk w k 183 cur:=by
 intro k hk cur hb;rcases h.2 with ⟨rfl,_⟩|⟨q,cap,ti,rfl,_,hh,_⟩
 ·cases hk
 ·simp only[Value.ownBlock,qar]at hk;subst hk;unfold Blk at hb;rw[hh]at hb;injection hb with hb
  injection hb with _ hb
  exact ht hb
theorem Own.ku{B:Nat}{w w':World}{v:Value}{xs:List Nat}(h:Own B w v xs)(hk:KU w w'):Own B w' v xs:=by
 obtain⟨h1,A,c,h2,h3,h4,h5⟩:=h;refine⟨h1,A,c,h2,h3,h4,?_⟩;rcases h5 with h5|⟨g,cur,e,hg,hb,r⟩
 ·exact .inl h5
 ·exact .inr ⟨g,cur,e,hg,hk g cur hb,r⟩
theorem Ag.ku{B:Nat}{w w':World}{v:Value}{p:Int}{q:Nat}(h:Ag B w v p q)(hk:KU w w'):Ag B w' v p q:=by
 obtain⟨m,d,rfl,h1,h2⟩:=h;exact⟨m,d,rfl,h1.ku hk,h2.ku hk⟩
theorem Ag.low0{B:Nat}{w:World}{v:Value}{p:Int}{q:Nat}(h:Ag B w v p q):Ag 0 w v p q:=h.mono (qaj _)
def DN(w:World)(cs:List Value)(T:List X2):Prop:=
 cs.length=T.length*3/\∀i x,T[i]? =some x->∃A n c A' n' c',cs[i*3]? =some (.bool (decide (x.p<0)))/\cs[i*3+1]? =some (.slice A n c)/\cs[i*3+2]? =some (.slice A' n' c')/\Ag 0 w (.agg #[.bool (decide (x.p<0)),.slice A n c,.slice A' n' c']) x.p x.q
theorem DN.nil(w:World):DN w [] []:=⟨rfl,fun i x h=>by simp at h⟩
theorem DN.ku{w w':World}{cs:List Value}{T:List X2}(h:DN w cs T)(hk:KU w w'):DN w' cs T:=by
 refine⟨h.1,fun i x hx=> ?_⟩;obtain⟨A,n,c,A',n',c',h1,h2,h3,h4⟩:=h.2 i x hx;exact⟨A,n,c,A',n',c',h1,h2,h3,h4.ku hk⟩
theorem DN.snoc{w:World}{cs:List Value}{T:List X2}(h:DN w cs T){x:X2}{A:Option Addr}{n c:Nat}{A':Option Addr}{n' c':Nat}(hx:Ag 0 w (.agg #[.bool (decide (x.p<0)),.slice A n c,.slice A' n' c']) x.p x.q):
  DN w (cs++[.bool (decide (x.p<0)),.slice A n c,.slice A' n' c']) (T++[x]):=by
 refine⟨by rw[qac,qac,h.1];simp;omega,fun i y hy=> ?_⟩;rcases qah i T.length with hi|hi
 ·rw[qat hi]at hy;obtain⟨A,n,c,A',n',c',h1,h2,h3,h4⟩:=h.2 i y hy;have hl:=h.1;exact⟨A,n,c,A',n',c',by rw[qat (by omega)];exact h1,by rw[qat (by omega)];exact h2,by rw[qat (by omega)];exact h3,h4⟩
 ·have ay:i=T.length:=by
   have:=(qaB.1 hy).1;rw[qac,qal]at this;omega
  subst ay;rw[qai (qab _),qaR]at hy;injection hy with hy
  subst hy;have hl:=h.1;refine⟨A,n,c,A',n',c',?_,?_,?_,hx⟩
  ·rw[qai (by omega),show T.length*3-cs.length=0 by omega];rfl
  ·rw[qai (by omega),show T.length*3+1-cs.length=1 by omega];rfl
  ·rw[qai (by omega),show T.length*3+2-cs.length=2 by omega];rfl
def Bp(B:Nat)(w:World)(v:Value)(T:List X2):Prop:=∃cs,w.ownsRow B 26 3 v T.length cs/\DN w cs T
theorem Bp.nil(B:Nat)(w:World):Bp B w (.slice none 0 0) []:=⟨[],World.ownsRow_nil w B _ 3,DN.nil w⟩
theorem Bp.ext{B:Nat}{w w':World}{v:Value}{T:List X2}(h:Bp B w v T)(hx:Ext w w'):Bp B w' v T:=by
 obtain⟨cs,h1,h2⟩:=h;exact⟨cs,Ah h1 (fun k _ hk=>hx.block k hk),h2.ku (KU.of_ext hx)⟩
theorem Bp.shape{B:Nat}{w:World}{v:Value}{T:List X2}(h:Bp B w v T):∃A c,v= .slice A T.length c:=by
 obtain⟨cs,h1,_⟩:=h;exact Aw h1
theorem Bp.mono{B B':Nat}{w:World}{v:Value}{T:List X2}(h:Bp B w v T)(hB:B'<=B):Bp B' w v T:=by
 obtain⟨cs,⟨h1,h2⟩,h3⟩:=h;exact⟨cs,⟨h1,h2.imp id (fun ⟨g,cap,cur,q1,q2,q3⟩=>⟨g,cap,cur,q1,by omega,q3⟩)⟩,h3⟩
def J7(w:World)(g o:Nat)(x:X2):Prop:=
 ∃A n c A' n' c',w.cell? ⟨g,o,none⟩=some (.bool (decide (x.p<0)))/\w.cell? ⟨g,o+1,none⟩=some (.slice A n c)/\w.cell? ⟨g,o+2,none⟩=some (.slice A' n' c')/\Ag 0 w (.agg #[.bool (decide (x.p<0)),.slice A n c,.slice A' n' c']) x.p x.q
def Vf(w:World)(v:Value)(T:List X2):Prop:=
 ∃A c,v= .slice A T.length c/\(0<T.length->∃g,A=some ⟨g,0,none⟩/\g<w.heap.size/\∀i x,T[i]? =some x->J7 w g (i*3) x)
theorem Bp.read{B:Nat}{w:World}{v:Value}{T:List X2}(h:Bp B w v T):Vf w v T:=by
 obtain⟨cs,h,hr⟩:=h;rcases h.2 with ⟨h1,h2⟩|⟨g,cap,cur,rfl,hg,hh,_⟩
 ·exact⟨none,0,by rw[h1,h2],fun h3=>by omega⟩
 ·refine⟨_,_,rfl,fun _=>⟨g,rfl,?_,fun i x hx=> ?_⟩⟩
  ·rcases qah g w.heap.size with h|h
   ·exact h
   ·rw[qbg h]at hh;cases hh
  ·have hi:=(qaB.1 hx).1;obtain⟨A,n,c,A',n',c',h1,h2,h3,h4⟩:=hr.2 i x hx;exact⟨A,n,c,A',n',c',(h.cellAt (i*3) (by omega)).trans h1,(h.cellAt (i*3+1) (by omega)).trans h2,(h.cellAt (i*3+2) (by omega)).trans h3,h4⟩
theorem J7.ext{w w':World}{g o:Nat}{x:X2}(h:J7 w g o x)(hx:Ext w w')(hg:g<w.heap.size):J7 w' g o x:=by
 obtain⟨A,n,c,A',n',c',h1,h2,h3,h4⟩:=h;exact⟨A,n,c,A',n',c',(hx.cell hg).trans h1,(hx.cell hg).trans h2,(hx.cell hg).trans h3,h4.ext hx⟩
def Va(w:World)(g o:Nat)(x:X2):Prop:=J7 w g o x/\w.cell? ⟨g,o+3,none⟩=some (.int .i64 (x.st:Int))
def Hj(w:World)(g:Nat)(T:List X2):Prop:=
 ∃cs,Blk w g 136 cs/\cs.size=T.length*4/\∀i x,T[i]? =some x->Va w g (i*4) x
theorem Hj.ext{w w':World}{g:Nat}{T:List X2}(h:Hj w g T)(hx:Ext w w'):Hj w' g T:=by
 obtain⟨cs,h1,h2,h3⟩:=h;have hg:=h1.lt;exact⟨cs,h1.ext hx,h2,fun i x hi=>⟨(h3 i x hi).1.ext hx hg,(hx.cell hg).trans (h3 i x hi).2⟩⟩
theorem Hj.set{w:World}{g:Nat}{T:List X2}(h:Hj w g T){i:Nat}(hi:i<T.length){x:X2}{A:Option Addr}{n c:Nat}{A':Option Addr}{n' c':Nat}(hx:Ag 0 w (.agg #[.bool (decide (x.p<0)),.slice A n c,.slice A' n' c']) x.p x.q):
  Hj ((((w.setCell ⟨g,i*4,none⟩ (.bool (decide (x.p<0)))).setCell ⟨g,i*4+1,none⟩ (.slice A n c)).setCell ⟨g,i*4+2,none⟩ (.slice A' n' c')).setCell ⟨g,i*4+3,none⟩ (.int .i64 (x.st:Int))) g (T.set i x)/\
   KU w ((((w.setCell ⟨g,i*4,none⟩ (.bool (decide (x.p<0)))).setCell ⟨g,i*4+1,none⟩ (.slice A n c)).setCell ⟨g,i*4+2,none⟩ (.slice A' n' c')).setCell ⟨g,i*4+3,none⟩ (.int .i64 (x.st:Int))):=by
 obtain⟨cs,h1,h2,h3⟩:=h;have ht:136≠183:=by decide
 have b1:=h1.set_ (i*4) (.bool (decide (x.p<0)));have b2:=b1.set_ (i*4+1) (.slice A n c);have b3:=b2.set_ (i*4+2) (.slice A' n' c');have b4:=b3.set_ (i*4+3) (.int .i64 (x.st:Int));have k1:=KU.set h1 ht (a:=⟨g,i*4,none⟩) rfl (.bool (decide (x.p<0)));have k2:=KU.set b1 ht (a:=⟨g,i*4+1,none⟩) rfl (.slice A n c);have k3:=KU.set b2 ht (a:=⟨g,i*4+2,none⟩) rfl (.slice A' n' c');have k4:=KU.set b3 ht (a:=⟨g,i*4+3,none⟩) rfl (.int .i64 (x.st:Int));have kk:=((k1.trans k2).trans k3).trans k4;refine⟨⟨_,b4,by simp[h2],fun j y hj=> ?_⟩,kk⟩;have qi:j<T.length:=by
  have:=(qaB.1 hj).1
  rwa [qbm]at this
 rw[List.getElem?_set]at hj;by_cases hij:i=j
 ·subst hij;rw[if_pos rfl,if_pos hi]at hj;injection hj with hj
  subst hj;refine⟨⟨A,n,c,A',n',c',?_,?_,?_,hx.ku kk⟩,?_⟩
  ·rw[b4.cell,qaI (by omega),qaI (by omega),qaI (by omega),qbX (by omega)]
  ·rw[b4.cell,qaI (by omega),qaI (by omega),qbX (by simp;omega)]
  ·rw[b4.cell,qaI (by omega),qbX (by simp;omega)]
  ·rw[b4.cell,qbX (by simp;omega)]
 ·rw[if_neg hij]at hj;obtain⟨⟨A1,n1,c1,A2,n2,c2,q1,q2,q3,q4⟩,q5⟩:=h3 j y hj;have hne:∀k,k<4->(cs.setIfInBounds (i*4) (.bool (decide (x.p<0))) |>.setIfInBounds (i*4+1) (.slice A n c) |>.setIfInBounds (i*4+2) (.slice A' n' c') |>.setIfInBounds (i*4+3) (.int .i64 (x.st:Int)))[j*4+k]? =cs[j*4+k]? :=fun k hk=>by
   rw[qaI (by omega),qaI (by omega),qaI (by omega),qaI (by omega)]
  rw[h1.cell]at q1 q2 q3 q5;refine⟨⟨A1,n1,c1,A2,n2,c2,?_,?_,?_,q4.ku kk⟩,?_⟩
  ·rw[b4.cell];exact(hne 0 (by omega)).trans q1
  ·rw[b4.cell];exact(hne 1 (by omega)).trans q2
  ·rw[b4.cell];exact(hne 2 (by omega)).trans q3
  ·rw[b4.cell];exact(hne 3 (by omega)).trans q5
def Fm(n:Nat):Array Value:=(List.replicate n [Value.bool false,.slice none 0 0,.slice none 0 0,.int .i64 0]).flatten.toArray
theorem EG(n i j:Nat)(hi:i<n)(hj:j<4):(Fm n)[i*4+j]? =[Value.bool false,.slice none 0 0,.slice none 0 0,.int .i64 0][j]? :=by
 unfold Fm;rw[qbL]
 induction n generalizing i with
 |zero=>omega
 |succ n ih=>
  rw[qbI,List.flatten_cons];cases i with
  |zero=>rw[qat (by simp;omega),qcy,qaW]
  |succ i=>
   rw[qai (by simp;omega),show (i+1)*4+j-[Value.bool false,.slice none 0 0,.slice none 0 0,.int .i64 0].length=i*4+j by simp;omega];exact ih i (by omega)
theorem EV(n:Nat):(Fm n).size=n*4:=by
 unfold Fm;rw[List.size_toArray,List.length_flatten];simp
theorem Hj.zero{w:World}{g n:Nat}(h:Blk w g 136 (Fm n)):Hj w g (List.replicate n X2.O):=by
 refine⟨_,h,by rw[EV,qaX],fun i x hx=> ?_⟩;have hi:=(qaB.1 hx).1;rw[qaX]at hi;rw[List.getElem?_replicate_of_lt hi]at hx;injection hx with hx
 subst hx;refine⟨⟨none,0,0,none,0,0,?_,?_,?_,Ag.zero _ _⟩,?_⟩
 ·exact(h.cell (i*4)).trans (EG n i 0 hi (by omega))
 ·rw[h.cell,EG n i 1 hi (by omega)];rfl
 ·rw[h.cell,EG n i 2 hi (by omega)];rfl
 ·rw[h.cell,EG n i 3 hi (by omega)];rfl
theorem Nm(w:World)(v0:Value)(p:Int)(q:Nat)(h0:An w v0 p q)(n0:(Ac p.natAbs).length<=100000)(m0:(Ac q).length<=100000):
  Calls Tryz.prog 19 #[v0] w fun e w'=>e= .returned (.bool (decide (max (AT p.natAbs) (AT q)<=1024)))/\Ext w w':=by
 have H0:=J h0;have HS:=J (fun W v a=>P1 W v p q a n0 m0);generalize hz:max (AT p.natAbs) (AT q)=z at *;clear hz;obtain⟨bz,lG⟩:∃bz,decide (z<=1024)=bz:=⟨_,rfl⟩;have VO:decide ((z:Int)<=1024)=bz:=by rw[<-lG,decide_eq_decide];omega
 rw[lG];obtain⟨b0,l0,A0,c0,k0,D0,e0,rfl⟩:=h0.shape;clear h0 n0 m0;go_enter Tryz.func19,Tryz.ntmps19;go_wp2_with fail;have hb0:=(Blk.new w 26 #[.bool b0,.slice A0 l0 c0,.slice D0 k0 e0]);have az:=((Ext.refl w).alloc (.cells #[.bool b0,.slice A0 l0 c0,.slice D0 k0 e0] 26));have aq:w.heap.size+1=(w.alloc (.cells #[.bool b0,.slice A0 l0 c0,.slice D0 k0 e0] 26)).heap.size:=by simp
 generalize w.alloc (.cells #[.bool b0,.slice A0 l0 c0,.slice D0 k0 e0] 26)=wo at *;have aj:=J hb0;have HX:=J az;have HZ:Hid (w.heap.size+1<=wo.heap.size):=J (by omega);clear az aq hb0;refine(HS.o _ _ (H0.o.ext HX.o)).mono ?_
 rintro e w1 ⟨rfl,hx0⟩;have HX:=J (HX.o.trans hx0);have el:=J hx0.size;have aj:=J (aj.o.ext hx0);clear hx0;have bB:=aj.o.three;go_wp2_with fail;go_ret;exact⟨rfl,HX.o⟩
theorem Ni(w:World)(v0:Value)(p:Int)(q:Nat)(h0:An w v0 p q)(n0:(Ac p.natAbs).length<=100000)(m0:(Ac q).length<=100000):
  Calls Tryz.prog 20 #[v0] w fun e w'=>e= .returned (.bool (decide (max (AT p.natAbs) (AT q)<=1024)))/\Ext w w':=by
 have H0:=J h0;have HS:=J (fun W v a=>PI W v p q a n0 m0);generalize hz:max (AT p.natAbs) (AT q)=z at *;clear hz;obtain⟨bz,lG⟩:∃bz,decide (z<=1024)=bz:=⟨_,rfl⟩;have VO:decide ((z:Int)<=1024)=bz:=by rw[<-lG,decide_eq_decide];omega
 rw[lG];obtain⟨b0,l0,A0,c0,k0,D0,e0,rfl⟩:=h0.shape;clear h0 n0 m0;go_enter Tryz.func20,Tryz.ntmps20;go_wp2_with fail;have hb0:=(Blk.new w 26 #[.bool b0,.slice A0 l0 c0,.slice D0 k0 e0]);have az:=((Ext.refl w).alloc (.cells #[.bool b0,.slice A0 l0 c0,.slice D0 k0 e0] 26));have aq:w.heap.size+1=(w.alloc (.cells #[.bool b0,.slice A0 l0 c0,.slice D0 k0 e0] 26)).heap.size:=by simp
 generalize w.alloc (.cells #[.bool b0,.slice A0 l0 c0,.slice D0 k0 e0] 26)=wo at *;have aj:=J hb0;have HX:=J az;have HZ:Hid (w.heap.size+1<=wo.heap.size):=J (by omega);clear az aq hb0;refine(HS.o _ _ (H0.o.ext HX.o)).mono ?_
 rintro e w1 ⟨rfl,hx0⟩;have HX:=J (HX.o.trans hx0);have el:=J hx0.size;have aj:=J (aj.o.ext hx0);clear hx0;have bB:=aj.o.three;go_wp2_with fail;go_ret;exact⟨rfl,HX.o⟩
def BO(w:World)(v:Value)(x:X2):Prop:=∃A n c A' n' c',v= .agg #[.bool (decide (x.p<0)),.slice A n c,.slice A' n' c',.int .i64 (x.st:Int)]/\Ag 0 w (.agg #[.bool (decide (x.p<0)),.slice A n c,.slice A' n' c']) x.p x.q
theorem BO.ext{w w':World}{v:Value}{x:X2}(h:BO w v x)(hx:Ext w w'):BO w' v x:=by
 obtain⟨A,n,c,A',n',c',rfl,h⟩:=h;exact⟨A,n,c,A',n',c',rfl,h.ext hx⟩
theorem BO.open(w:World):BO w (.agg #[.bool false,.slice none 0 0,.slice none 0 0,.int .i64 0]) X2.O:=⟨none,0,0,none,0,0,rfl,Ag.zero _ _⟩
theorem BO.undef(w:World):BO w (.agg #[.bool false,.slice none 0 0,.slice none 0 0,.int .i64 2]) X2.U:=⟨none,0,0,none,0,0,rfl,Ag.zero _ _⟩
theorem Blk.fourX{w:World}{g:Nat}{t:TypeId}{a b c d:Value}(h:Blk w g t #[a,b,c,d]):w.cell? ⟨g,0,none⟩=some a/\w.cell? ⟨g,1,none⟩=some b/\w.cell? ⟨g,2,none⟩=some c/\w.cell? ⟨g,3,none⟩=some d/\w.frozen? ⟨g,0,none⟩=false/\w.frozen? ⟨g,1,none⟩=false/\w.frozen? ⟨g,2,none⟩=false/\w.frozen? ⟨g,3,none⟩=false/\g<w.heap.size:=
 ⟨h.cell 0,h.cell 1,h.cell 2,h.cell 3,h.frozen 0,h.frozen 1,h.frozen 2,h.frozen 3,h.lt⟩
theorem AJ{w:World}{g:Nat}{t:TypeId}{a b c d:Value}(h:Blk w g t #[a,b,c,d])(a' b' c' d':Value):
  (w.setCell ⟨g,0,none⟩ a').cell? ⟨g,0,none⟩=some a'/\((w.setCell ⟨g,0,none⟩ a').setCell ⟨g,1,none⟩ b').cell? ⟨g,1,none⟩=some b'/\(((w.setCell ⟨g,0,none⟩ a').setCell ⟨g,1,none⟩ b').setCell ⟨g,2,none⟩ c').cell? ⟨g,2,none⟩=some c'/\((((w.setCell ⟨g,0,none⟩ a').setCell ⟨g,1,none⟩ b').setCell ⟨g,2,none⟩ c').setCell ⟨g,3,none⟩ d').cell? ⟨g,3,none⟩=some d':=
 ⟨(h.set_ 0 a').cell 0,((h.set_ 0 a').set_ 1 b').cell 1,(((h.set_ 0 a').set_ 1 b').set_ 2 c').cell 2,((((h.set_ 0 a').set_ 1 b').set_ 2 c').set_ 3 d').cell 3⟩
theorem Er(w:World)(v:Value)(p:Int)(q:Nat)(h0:Ag 0 w v p q)(n0:(Ac p.natAbs).length<=100000)(m0:(Ac q).length<=100000):
  Calls Tryz.prog 183 #[v,.bool true] w fun e w'=>∃v',e= .returned v'/\BO w' v' (AN p q)/\Ext w w':=by
 have H0:=J h0;have HS:=J (fun W v a=>Nm W v p q a n0 m0);obtain⟨b,n,A,c,n',A',c',rfl⟩:=h0.shape;have HB:=J h0.arr.sign;clear h0 n0 m0;obtain⟨bz,lG⟩:∃bz,decide (max (AT p.natAbs) (AT q)<=1024)=bz:=⟨_,rfl⟩;rw[lG]at HS;have HZ:=J lG;clear lG;go_enter Tryz.func183,Tryz.ntmps183;go_wp2_with fail;have hb0:=(Blk.new w 26 #[.bool b,.slice A n c,.slice A' n' c']).alloc (.cells #[.bool false,.slice none 0 0,.slice none 0 0,.int .i64 0] 136);have am:=Blk.new (w.alloc (.cells #[.bool b,.slice A n c,.slice A' n' c'] 26)) 136 #[.bool false,.slice none 0 0,.slice none 0 0,.int .i64 0];have az:=((Ext.refl w).alloc (.cells #[.bool b,.slice A n c,.slice A' n' c'] 26)).alloc (.cells #[.bool false,.slice none 0 0,.slice none 0 0,.int .i64 0] 136);simp only[World.size_alloc]at am;generalize (w.alloc (.cells #[.bool b,.slice A n c,.slice A' n' c'] 26)).alloc (.cells #[.bool false,.slice none 0 0,.slice none 0 0,.int .i64 0] 136)=wo at *;have HX:=J az;have aj:=J hb0;have ag:=J am;clear az hb0 am;refine(HS.o _ _ (H0.o.arr.ext HX.o)).mono ?_
 rintro e w1 ⟨rfl,ak⟩;have au:=J (HX.o.trans ak);have aj:=J (aj.o.ext ak);have ag:=J (ag.o.ext ak);clear ak;cases bz
 case false=>
  have q0:=ag.o.fourX;go_wp2_with fail;obtain⟨r0,r1,r2,r3⟩:=AJ ag.o (.bool false) (.slice none 0 0) (.slice none 0 0) (.int .i64 0);refine bodyPost_ret (v:= .agg #[.bool false,.slice none 0 0,.slice none 0 0,.int .i64 0]) (by simp[results,Tryz.results183,go_sem,r0,r1,r2,r3]) rfl ?_
  refine⟨_,rfl,?_,(((au.o.setCell (qak _) _).setCell (qak _) _).setCell (qak _) _).setCell (qak _) _⟩;have he:AN p q=X2.O:=if_neg (of_decide_eq_false HZ.o);rw[he];exact BO.open _
 case true=>
  have u0:=aj.o.three;have q0:=ag.o.fourX;go_wp2_with fail;obtain⟨r0,r1,r2,r3⟩:=AJ ag.o (.bool b) (.slice A n c) (.slice A' n' c') (.int .i64 1);refine bodyPost_ret (v:= .agg #[.bool b,.slice A n c,.slice A' n' c',.int .i64 1]) (by simp[results,Tryz.results183,go_sem,r0,r1,r2,r3]) rfl ?_
  have bf:=(((au.o.setCell (p:=⟨w.heap.size+1,0,none⟩) (qak _) (.bool b)).setCell (p:=⟨w.heap.size+1,1,none⟩) (qak _) (.slice A n c)).setCell (p:=⟨w.heap.size+1,2,none⟩) (qak _) (.slice A' n' c')).setCell (p:=⟨w.heap.size+1,3,none⟩) (qak _) (.int .i64 1);refine⟨_,rfl,?_,bf⟩;have he:AN p q=⟨1,p,q⟩:=if_pos (of_decide_eq_true HZ.o);rw[he,HB.o];exact⟨A,n,c,A',n',c',rfl,by rw[<-HB.o];exact H0.o.ext bf⟩
end Big
end Go.Proofs.YtkoaogkknnelaaaGreatDoor
