import Derived.Test.YtkoaogkknnelaaaGreatDoorM24
import Derived.Maps.OwnSet
set_option linter.unusedVariables false
set_option linter.unusedSimpArgs false
set_option maxHeartbeats 4000000
set_option maxRecDepth 100000
namespace Go.Proofs.YtkoaogkknnelaaaGreatDoor
namespace Big
open Go.RowKit Go.ChangeMaps
def nmE(ns:List Nd):List (Value × Value):=(List.range ns.length).map fun i=>(ndV (ns.getD i ⟨0,0,0,0,[]⟩),.int .i64 (i:Int))
theorem Cy(ns:List Nd):(nmE ns).length=ns.length:=by simp[nmE]
theorem G4(ns:List Nd)(i:Nat)(h:i<ns.length):(nmE ns)[i]? =some (ndV ns[i],.int .i64 (i:Int)):=by
 unfold nmE;rw[List.getElem?_map,List.getElem?_range h,Option.map_some,List.getD_eq_getElem?_getD,List.getElem?_eq_getElem h,Option.getD_some]
theorem Rw(ns:List Nd)(x:Nd):nmE (ns++[x])=nmE ns++[(ndV x,.int .i64 (ns.length:Int))]:=by
 apply List.ext_getElem?;intro i;rcases Nat.lt_trichotomy i ns.length with h|h|h
 ·rw[G4 _ _ (by simp;omega),List.getElem?_append_left (by rw[Cy];exact h),G4 _ _ h,List.getElem_append_left h]
 ·subst h;rw[G4 _ _ (by simp),List.getElem?_append_right (by rw[Cy];exact Nat.le_refl _),Cy];simp
 ·rw[List.getElem?_eq_none (by rw[Cy];simp;omega),List.getElem?_eq_none (by rw[List.length_append,Cy];simp;omega)]
theorem OY{x y:Nd}(h:ndV x=ndV y):x=y:=by
 obtain⟨a0,a1,a2,a3,a4⟩:=x;obtain⟨b0,b1,b2,b3,b4⟩:=y;unfold ndV at h;simp only[Value.agg.injEq,Array.mk.injEq,List.cons.injEq,Value.int.injEq,true_and,and_true]at h;obtain⟨rfl,rfl,rfl,rfl,h5⟩:=h;unfold str at h5;injection h5 with h5
 injection h5 with h5
 have h6:=congrArg Array.toList h5;simp only[List.toList_toArray]at h6;rw[h6]
def DA(w:World)(b:Nat)(ns:List Nd):Prop:=
 ∃es clock,w.heap[b]? =some (.map es clock)/\es.toList.map (fun e=>(e.key,e.val))=nmE ns
theorem DA.made(w:World):DA (w.alloc (.map #[] 0)) w.heap.size []:=⟨#[],0,(MapKept.heap_alloc w _).1,rfl⟩
theorem DA.lt{w:World}{b:Nat}{ns:List Nd}(h:DA w b ns):b<w.heap.size:=by
 obtain⟨es,clock,hb,_⟩:=h;exact(Array.getElem?_eq_some_iff.1 hb).1
theorem DA.kept{w w':World}{b:Nat}{ns:List Nd}(h:DA w b ns)(hk:w'.heap[b]? =w.heap[b]?):DA w' b ns:=by
 obtain⟨es,clock,hb,h2⟩:=h;exact⟨es,clock,hk.trans hb,h2⟩
theorem DA.keys{es:Array MapEntry}{ns:List Nd}(h:es.toList.map (fun e=>(e.key,e.val))=nmE ns)(hk:∀x∈ns,F3 x):∀e∈es.toList,∃l,keyOf Tryz.prog 95 e.key=some l:=by
 intro e he;obtain⟨i,hi,rfl⟩:=List.getElem_of_mem he;have hl:es.toList.length=ns.length:=by rw[<-Cy ns,<-h,List.length_map]
 have h2:(es.toList.map (fun e=>(e.key,e.val)))[i]? =some (ndV (ns[i]'(by omega)),.int .i64 (i:Int)):=by rw[h,G4]
 rw[List.getElem?_map,List.getElem?_eq_getElem hi,Option.map_some]at h2;injection h2 with h2
 injection h2 with h2 _
 rw[h2];exact JK _ (hk _ (List.getElem_mem _))
theorem DA.entry{es:Array MapEntry}{ns:List Nd}(h:es.toList.map (fun e=>(e.key,e.val))=nmE ns){j:Nat}{e:MapEntry}(he:es.toList[j]? =some e):∃hj:j<ns.length,e.key=ndV ns[j]/\e.val= .int .i64 (j:Int):=by
 have hl:es.toList.length=ns.length:=by rw[<-Cy ns,<-h,List.length_map]
 have hj:j<ns.length:=by rw[<-hl];exact(List.getElem?_eq_some_iff.1 he).1
 have h2:(es.toList.map (fun e=>(e.key,e.val)))[j]? =some (ndV ns[j],.int .i64 (j:Int)):=by rw[h,G4 _ _ hj]
 rw[List.getElem?_map,he,Option.map_some]at h2;injection h2 with h2
 injection h2 with h2 h3
 exact⟨hj,h2,h3⟩
def Fh(x:Nd)(ns:List Nd):Int:=if x∈ns then (Cq x ns:Int) else 0
theorem DA.look{w:World}{b:Nat}{ns:List Nd}(h:DA w b ns)(hk:∀x∈ns,F3 x)(hn:ns.Nodup)(x:Nd)(hx:F3 x){t:TypeId}(ht:Tryz.prog.underlying t=some (.map 95 3)):
  (Instr.lookup t (.map (some b)) (ndV x) true).run Tryz.prog w= .ok (.tuple #[.int .i64 (Fh x ns),.bool (decide (x∈ns))]) w:=by
 obtain⟨es,clock,hb,he⟩:=h;obtain⟨l,hl⟩:=JK x hx;have hz:(zeroValue 3).run Tryz.prog w= .ok (.int .i64 0) w:=by kernel_rfl
 have ao:es.toList.length=ns.length:=by rw[<-Cy ns,<-he,List.length_map]
 rcases Ey.find w hl es.toList (DA.keys he hk) with ⟨h1,h2⟩|⟨j,e0,h1,h2,h3⟩
 ·have hno:x∉ns:=fun hm=>by
   obtain⟨i,hi,rfl⟩:=List.getElem_of_mem hm;have fz:i<es.toList.length:=by omega
   obtain⟨_,q,_⟩:=DA.entry he (List.getElem?_eq_getElem fz);exact h2 _ (List.getElem_mem fz) q
  rw[Fh,if_neg hno,decide_eq_false hno];simp[Instr.lookup,run_underlying ht,MapKept.run_getObj_map hb,Ey.check w _ hl,h1,hz,Result.andThen]
 ·obtain⟨hj,q1,q2⟩:=DA.entry he h2;have hxe:x=ns[j]:=OY (h3.symm.trans q1);have hm:x∈ns:=by rw[hxe];exact List.getElem_mem hj
  have hp:Cq x ns=j:=by rw[hxe];exact KL hn hj
  rw[Fh,if_pos hm,decide_eq_true hm,hp,<-q2];simp[Instr.lookup,run_underlying ht,MapKept.run_getObj_map hb,Ey.check w _ hl,h1,Result.andThen]
theorem DA.store{w:World}{b:Nat}{ns:List Nd}(h:DA w b ns)(hk:∀x∈ns,F3 x)(x:Nd)(hx:F3 x)(hno:x∉ns){t:TypeId}(ht:Tryz.prog.underlying t=some (.map 95 3)):
  ∃w',(Instr.mapUpdate t (.map (some b)) (ndV x) (.int .i64 (ns.length:Int))).run Tryz.prog w= .ok () w'/\DA w' b (ns++[x])/\w.grownBy w' (some b):=by
 obtain⟨es,clock,hb,he⟩:=h;obtain⟨l,hl⟩:=JK x hx;rcases Ey.find w hl es.toList (DA.keys he hk) with ⟨h1,h2⟩|⟨j,e0,h1,h2,h3⟩
 ·refine⟨setBlock w b (.map (es.push ⟨ndV x,.int .i64 (ns.length:Int),clock⟩) (clock+1)),?_,⟨_,_,heap_setBlock_same hb _,?_⟩,⟨rfl,rfl,rfl,by simp[setBlock],fun i _ hi=>heap_setBlock_other hb _ (fun e=>hi (by rw[e]))⟩⟩
  ·simp[Instr.mapUpdate,run_underlying ht,MapKept.run_getObj_map hb,Ey.check w false hl,h1,MapKept.run_setObj_map _ hb,Result.andThen,setBlock]
  ·rw[Array.toList_push,List.map_append,he,Rw];rfl
 ·obtain⟨hj,q1,_⟩:=DA.entry he h2;exact absurd (by rw[OY (h3.symm.trans q1)];exact List.getElem_mem hj) hno
def ES(k:Nat)(t:List UInt8):Prop:=(k=1/\Bs t=0/\t.length<=400)\/(k=2/\Cs t=true)\/((k=3\/k=4)/\t=[])
def OI(k:Nat)(n:Int):Prop:=(k=5\/(10<=k/\k<=16))/\(k≠10->n=0)∧-64<=n/\n<=64
def CP(i:Nat)(x:Nd):Prop:=
 (∃(k:Nat) (t:List UInt8),x=⟨(k:Int),0,0,0,t⟩/\ES k t)\/(∃(k:Nat) (n:Int) (j:Nat),x=⟨(k:Int),(j:Int),0,n,[]⟩/\OI k n/\j<i)\/
 (∃k j q:Nat,x=⟨(k:Int),(j:Int),(q:Int),0,[]⟩/\(6<=k/\k<=9)/\j<i/\q<i)
theorem CP.mono{i j:Nat}{x:Nd}(h:CP i x)(hij:i<=j):CP j x:=by
 rcases h with h|⟨k,n,p,he,h1,h2⟩|⟨k,p,q,he,h1,h2,h3⟩
 ·exact .inl h
 ·exact .inr (.inl ⟨k,n,p,he,h1,by omega⟩)
 ·exact .inr (.inr ⟨k,p,q,he,h1,by omega,by omega⟩)
theorem CP.text{i:Nat}{x:Nd}(h:CP i x):x.text.length<=400:=by
 rcases h with ⟨k,t,rfl,h⟩|⟨k,n,p,rfl,h1,h2⟩|⟨k,p,q,rfl,h1,h2,h3⟩
 ·rcases h with ⟨_,_,h⟩|⟨_,h⟩|⟨_,h⟩
  ·exact h
  ·have:=FC (Bool.and_eq_true_iff.1 h).1;simp only;omega
  ·rw[h];simp
 ·simp
 ·simp
def Aw(ns:List Nd):Prop:=ns.Nodup/\∀i x,ns[i]? =some x->CP i x
theorem Aw.nil:Aw []:=⟨List.nodup_nil,fun i x h=>by cases h⟩
theorem Aw.put{ns:List Nd}(h:Aw ns){x:Nd}(hx:CP ns.length x):Aw (AN ns x).2:=by
 refine⟨NT h.1 x,?_⟩;unfold AN;split
 ·exact h.2
 ·intro i y hy;rcases Nat.lt_or_ge i ns.length with hi|hi
  ·rw[List.getElem?_append_left hi]at hy;exact h.2 i y hy
  ·rw[List.getElem?_append_right hi]at hy;have:i-ns.length=0:=by
    rcases Nat.eq_zero_or_pos (i-ns.length) with h0|h0
    ·exact h0
    ·rw[List.getElem?_eq_none (by simp only[List.length_singleton];omega)]at hy;cases hy
   rw[this]at hy;injection hy with hy
   subst hy;exact hx.mono hi
theorem Aw.add(e:Ex)(hg:e.Good):∀ns,Aw ns->Aw (Ai ns e).2:=by
 induction e with
 |leaf k t=>intro ns h;exact h.put (.inl ⟨k,t,rfl,hg⟩)
 |un k n x ih=>
  intro ns h;obtain⟨h1,h2,h3,h4,hx⟩:=hg;exact(ih hx ns h).put (.inr (.inl ⟨k,n,_,rfl,⟨h1,h2,h3,h4⟩,Ej x ns⟩))
 |bin k x y ihx ihy=>
  intro ns h;obtain⟨h1,hx,hy⟩:=hg;have hl:=(EB y (Ai ns x).2).length_le;have:=Ej x ns;exact(ihy hy _ (ihx hx ns h)).put (.inr (.inr ⟨k,_,_,rfl,h1,by omega,Ej y _⟩))
theorem Aw.pre{ns ms:List Nd}(h:Aw ms)(hp:ns <+: ms):Aw ns:=by
 refine⟨h.1.sublist hp.sublist,fun i x hx=>h.2 i x (AJ hp hx)⟩
theorem Aw.rep{ns:List Nd}(h:Aw ns):∀i,i<ns.length->∃e:Ex,e.Good/\Rep ns i e:=by
 have key:∀m i,i<=m->i<ns.length->∃e:Ex,e.Good/\Rep ns i e:=by
  intro m
  induction m with
  |zero=>
   intro i hi hl;obtain rfl:i=0:=by omega
   have hx:=h.2 0 ns[0] (List.getElem?_eq_getElem hl);rcases hx with ⟨k,t,he,ho⟩|⟨k,n,j,he,_,hj⟩|⟨k,j,q,he,_,hj,_⟩
   ·exact⟨.leaf k t,ho,by show ns[0]? =_;rw[List.getElem?_eq_getElem hl,he]⟩
   ·omega
   ·omega
  |succ m ih=>
   intro i hi hl;have hx:=h.2 i ns[i] (List.getElem?_eq_getElem hl);rcases hx with ⟨k,t,he,ho⟩|⟨k,n,j,he,ho,hj⟩|⟨k,j,q,he,hk,hj,hq⟩
   ·exact⟨.leaf k t,ho,by show ns[i]? =_;rw[List.getElem?_eq_getElem hl,he]⟩
   ·obtain⟨x,hg,hr⟩:=ih j (by omega) (by omega);exact⟨.un k n x,⟨ho.1,ho.2.1,ho.2.2.1,ho.2.2.2,hg⟩,j,hr,by rw[List.getElem?_eq_getElem hl,he]⟩
   ·obtain⟨x,hg,hr⟩:=ih j (by omega) (by omega);obtain⟨y,jO,hr2⟩:=ih q (by omega) (by omega);exact⟨.bin k x y,⟨hk,hg,jO⟩,j,q,hr,hr2,by rw[List.getElem?_eq_getElem hl,he]⟩
 intro i hl;exact key i i (Nat.le_refl _) hl
theorem Rep.lt{ns:List Nd}{i:Nat}{e:Ex}(h:Rep ns i e):i<ns.length:=by
 cases e with
 |leaf k t=>exact(List.getElem?_eq_some_iff.1 h).1
 |un k n x=>obtain⟨j,_,h⟩:=h;exact(List.getElem?_eq_some_iff.1 h).1
 |bin k x y=>obtain⟨j,q,_,_,h⟩:=h;exact(List.getElem?_eq_some_iff.1 h).1
def TF(f:Nat)(g:Nat->Nat)(h:Nat->Nat->Nat)(D:List Nat)(x:Nd):List Nat:=
 D++[if x.kind<5 then f else if 6<=x.kind/\x.kind<=9 then h (D.getD x.a.toNat 0) (D.getD x.b.toNat 0) else g (D.getD x.a.toNat 0)]
def TN(f:Nat)(g:Nat->Nat)(h:Nat->Nat->Nat)(ns:List Nd):List Nat:=ns.foldl (TF f g h) []
section
variable {f:Nat} {g:Nat->Nat} {h:Nat->Nat->Nat}
def exN(f:Nat)(g:Nat->Nat)(h:Nat->Nat->Nat):Ex->Nat
 | .leaf _ _=>f
 | .un _ _ x=>g (exN f g h x)
 | .bin _ x y=>h (exN f g h x) (exN f g h y)
end
def TK(ns:List Nd):List Nat:=TN 1 (fun a=>max 1 (a+1)) (fun a b=>max (max 1 (a+1)) (b+1)) ns
def Ua(ns:List Nd):List Nat:=TN 1 (fun a=>min (1+a) 201) (fun a b=>min (min (1+a) 201+b) 201) ns
theorem H7(e:Ex)(hg:e.Good):∀(off i:Nat) (x:Nd),(Ag off e)[i]? =some x->CP (off+i) x:=by
 induction e with
 |leaf k t=>
  intro off i x h;obtain⟨_,he⟩:=List.getElem?_eq_some_iff.1 h;simp only[Ag,List.getElem_singleton]at he;exact .inl ⟨k,t,he.symm,hg⟩
 |un k n x ih=>
  intro off i y h;obtain⟨h1,h2,h3,h4,hx⟩:=hg;rcases Nat.lt_or_ge i x.size with hi|hi
  ·rw[Ag,List.getElem?_append_left (by rw[AF];exact hi)]at h;exact ih hx off i y h
  ·rw[Ag,List.getElem?_append_right (by rw[AF];exact hi),AF]at h;obtain⟨q,he⟩:=List.getElem?_eq_some_iff.1 h;simp only[List.getElem_singleton]at he;have:=x.size_pos;exact .inr (.inl ⟨k,n,off+x.size-1,he.symm,⟨h1,h2,h3,h4⟩,by omega⟩)
 |bin k x y ihx ihy=>
  intro off i z h;obtain⟨h1,hx,hy⟩:=hg;have:=x.size_pos;have:=y.size_pos;rcases Nat.lt_or_ge i x.size with hi|hi
  ·rw[Ag,List.getElem?_append_left (by rw[AF];exact hi)]at h;exact ihx hx off i z h
  ·rw[Ag,List.getElem?_append_right (by rw[AF];exact hi),AF]at h;rcases Nat.lt_or_ge (i-x.size) y.size with fz|fz
   ·rw[List.getElem?_append_left (by rw[AF];exact fz)]at h;have:=ihy hy _ _ z h;rw[show off+x.size+(i-x.size)=off+i by omega]at this;exact this
   ·rw[List.getElem?_append_right (by rw[AF];exact fz),AF]at h;obtain⟨q,he⟩:=List.getElem?_eq_some_iff.1 h;simp only[List.getElem_singleton]at he;exact .inr (.inr ⟨k,off+x.size-1,off+x.size+y.size-1,he.symm,h1,by omega,by omega⟩)
def BX(bp:List Nat)(x:Nd):Nd:=
 ⟨x.kind,if 5<=x.kind then ((bp.getD x.a.toNat 0:Nat):Int) else x.a,if 6<=x.kind/\x.kind<=9 then ((bp.getD x.b.toNat 0:Nat):Int) else x.b,x.n,x.text⟩
theorem GU(s:List Nat × List Nd)(x:Nd):In s x=(s.1++[(AN s.2 (BX s.1 x)).1],(AN s.2 (BX s.1 x)).2):=rfl
structure FG (n:Nat) (s:List Nat × List Nd) (i:Nat):Prop where
 len:s.1.length=i
 lt:∀j,j<i->s.1.getD j 0<s.2.length
 sound:Aw s.2
 big:s.2.length<=n+i
theorem ES.lt{k:Nat}{t:List UInt8}(h:ES k t):k<5:=by rcases h with ⟨h,_⟩|⟨h,_⟩|⟨h,_⟩<;>omega
theorem JI{n:Nat}{s:List Nat × List Nd}{i:Nat}{x:Nd}(h:FG n s i)(hx:CP i x):CP s.2.length (BX s.1 x):=by
 rcases hx with ⟨k,t,rfl,ho⟩|⟨k,m,j,rfl,ho,hj⟩|⟨k,j,q,rfl,hk,hj,hq⟩
 ·have:=ho.lt;refine .inl ⟨k,t,?_,ho⟩;unfold BX;rw[if_neg (by simp only;omega),if_neg (by simp only;omega)]
 ·have:=ho.1;refine .inr (.inl ⟨k,m,s.1.getD j 0,?_,ho,h.lt j hj⟩);unfold BX;rw[if_pos (by simp only;omega),if_neg (by simp only;omega)];rfl
 ·refine .inr (.inr ⟨k,s.1.getD j 0,s.1.getD q 0,?_,hk,h.lt j hj,h.lt q hq⟩);unfold BX;rw[if_pos (by simp only;omega),if_pos (by simp only;omega)];rfl
theorem FG.step{n:Nat}{s:List Nat × List Nd}{i:Nat}{x:Nd}(h:FG n s i)(hx:CP i x):FG n (In s x) (i+1):=by
 have hp:=(BA s.2 (BX s.1 x)).length_le;have hl:=GZ s.2 (BX s.1 x);have hb:=h.big;have ao:=h.len;rw[GU];refine⟨by simp only[List.length_append,List.length_singleton,ao],fun j hj=> ?_,h.sound.put (JI h hx),by simp only;omega⟩;simp only;rcases Nat.lt_or_ge j i with r7|r7
 ·rw[EL _ _ (by omega)];exact Nat.lt_of_lt_of_le (h.lt j r7) hp
 ·rw[DO _ _ (by omega)];exact OV _ _
theorem FG.start{ns:List Nd}(h:Aw ns):FG ns.length ([],ns) 0:=⟨rfl,fun j hj=>by omega,h,Nat.le_refl _⟩
theorem GN(s:List Nat × List Nd)(l:List Nd)(i:Nat)(h:i<l.length):BD s (l.take (i+1))=In (BD s (l.take i)) l[i]:=by
 rw[List.take_succ_eq_append_getElem h];unfold BD;rw[List.foldl_append];rfl
theorem FG.at{ns:List Nd}(h:Aw ns){e:Ex}(hg:e.Good):∀i,i<=e.size->FG ns.length (BD ([],ns) ((Ag 0 e).take i)) i:=by
 intro i
 induction i with
 |zero=>intro _;exact FG.start h
 |succ i ih=>
  intro hi;have hl:i<(Ag 0 e).length:=by rw[AF];omega
  rw[GN _ _ _ hl];have h2:=H7 e hg 0 i _ (List.getElem?_eq_getElem hl);rw[Nat.zero_add]at h2;exact(ih (by omega)).step h2
theorem K4(e:Ex)(hg:e.Good)(ns:List Nd):∃more:List Nat,more.length+1=e.size/\BD ([],ns) (Ag 0 e)=(more++[(Ai ns e).1],(Ai ns e).2):=by
 obtain⟨more,h1,h2⟩:=On e hg [] ns;exact⟨more,h1,by simpa using h2⟩
open Go.RowKit
theorem CP.key{i:Nat}{x:Nd}(h:CP i x)(hi:i<=1000000):F3 x:=by
 have hw:∀n:Int,-1000000<=n->n<=1000000->(Lit.int .i64 n).wf=true:=by
  intro n h1 h2;have e1:IntKind.i64.min= -9223372036854775808:=by decide
  have e2:IntKind.i64.max=9223372036854775807:=by decide
  simp only[Lit.wf,e1,e2,Bool.and_eq_true,decide_eq_true_eq];omega
 have ht:=h.text;rcases h with ⟨k,t,rfl,ho⟩|⟨k,n,j,rfl,ho,hj⟩|⟨k,j,q,rfl,hk,hj,hq⟩
 ·have:=ho.lt;exact⟨hw _ (by simp only;omega) (by simp only;omega),hw 0 (by decide) (by decide),hw 0 (by decide) (by decide),hw 0 (by decide) (by decide),by unfold maxLen;omega⟩
 ·obtain⟨h1,h2,h3,h4⟩:=ho;exact⟨hw _ (by simp only;omega) (by simp only;omega),hw _ (by simp only;omega) (by simp only;omega),hw 0 (by decide) (by decide),hw _ (by simp only;omega) (by simp only;omega),by unfold maxLen;omega⟩
 ·exact⟨hw _ (by simp only;omega) (by simp only;omega),hw _ (by simp only;omega) (by simp only;omega),hw _ (by simp only;omega) (by simp only;omega),hw 0 (by decide) (by decide),by unfold maxLen;omega⟩
theorem Aw.keys{ns:List Nd}(h:Aw ns)(hn:ns.length<=1000000):∀x∈ns,F3 x:=by
 intro x hx;obtain⟨i,hi,rfl⟩:=List.getElem_of_mem hx;exact(h.2 i _ (List.getElem?_eq_getElem hi)).key (by omega)
structure GrP (B g b:Nat) (w:World) (ns:List Nd) (nv:Value):Prop where
 blk:Blk w g 80 #[nv,.map (some b)]
 row:Ak B w nv ns
 map:DA w b ns
 lo:B<=g
 lo2:B<=b
 ok:Aw ns
 few:ns.length<=4096
 low:0<B
theorem BC.below{B:Nat}{w w':World}(h:BC w)(hb:Below B w w')(hl:0<B):BC w':=by
 obtain⟨m,h⟩:=h;exact⟨m,(World.cell?_of_block (a:=⟨0,0,none⟩) (hb.block _ hl)).trans h⟩
structure KG (g b:Nat) (nv nv':Value) (w w':World):Prop where
 os:w'.os=w.os
 tape:w'.tape=w.tape
 output:w'.output=w.output
 size:w.heap.size<=w'.heap.size
 block:∀k,k<w.heap.size->k≠g->k≠b->nv.ownBlock≠some k->w'.heap[k]? =w.heap[k]?
 move:∀j,nv'.ownBlock=some j->nv.ownBlock=some j\/w.heap.size<=j
theorem KG.of_ext{g b:Nat}{nv:Value}{w w':World}(h:Ext w w'):KG g b nv nv w w':=⟨h.os,h.tape,h.output,h.size,fun k hk _ _ _=>h.block k hk,fun _ hj=> .inl hj⟩
theorem KG.trans{g b:Nat}{n1 n2 n3:Value}{w1 w2 w3:World}(h:KG g b n1 n2 w1 w2)(k:KG g b n2 n3 w2 w3):KG g b n1 n3 w1 w3:=
 ⟨k.os.trans h.os,k.tape.trans h.tape,k.output.trans h.output,Nat.le_trans h.size k.size,fun i h1 h2 h3 h4=>
  (k.block i (Nat.lt_of_lt_of_le h1 h.size) h2 h3 (fun e=>by
   rcases h.move i e with h5|h5
   ·exact h4 h5
   ·omega)).trans (h.block i h1 h2 h3 h4),fun j hj=>by
  rcases k.move j hj with h4|h4
  ·exact h.move j h4
  ·exact .inr (Nat.le_trans h.size h4)⟩
theorem KG.blk{g b j:Nat}{n1 n2:Value}{w w':World}{t:TypeId}{cs:Array Value}(h:KG g b n1 n2 w w')(hb:Blk w j t cs)(h1:j≠g)(h2:j≠b)(h3:n1.ownBlock≠some j):Blk w' j t cs:=(h.block j hb.lt h1 h2 h3).trans hb
theorem KG.below{B g b:Nat}{n1 n2:Value}{w w':World}{ns:List Nd}(h:KG g b n1 n2 w w')(hr:GrP B g b w ns n1):Below B w w':=
 ⟨h.os,h.tape,h.output,h.size,fun k hk=>by
  have h1:=hr.blk.lt;have h2:=hr.lo;have h3:=hr.lo2;exact h.block k (by omega) (by omega) (by omega) (fun e=>by have:=AC hr.row k e;omega)⟩
theorem GrP.lt{B g b:Nat}{w:World}{ns:List Nd}{nv:Value}(h:GrP B g b w ns nv):g<w.heap.size:=h.blk.lt
theorem GrP.keep{B g b:Nat}{w w':World}{ns:List Nd}{nv:Value}(h:GrP B g b w ns nv)(hx:Ext w w'):GrP B g b w' ns nv:=
 ⟨h.blk.ext hx,h.row.ext hx,h.map.kept (hx.block b h.map.lt),h.lo,h.lo2,h.ok,h.few,h.low⟩
theorem GrP.apart{B g b:Nat}{w:World}{ns:List Nd}{nv:Value}(h:GrP B g b w ns nv):nv.ownBlock≠some b:=by
 intro e;obtain⟨es,clock,hb,_⟩:=h.map;have hr:=h.row;unfold Ak at hr;rcases hr.2 with ⟨rfl,_⟩|⟨q,cap,cur,rfl,_,hh,_⟩
 ·cases e
 ·simp only[Value.ownBlock,Option.some.injEq]at e;subst e;rw[hb]at hh;cases hh
theorem GrP.apart2{B g b:Nat}{w:World}{ns:List Nd}{nv:Value}(h:GrP B g b w ns nv):nv.ownBlock≠some g:=by
 intro e;have hb:=h.blk;have hr:=h.row;unfold Ak at hr;unfold Blk at hb;rcases hr.2 with ⟨rfl,_⟩|⟨q,cap,cur,rfl,_,hh,_⟩
 ·cases e
 ·simp only[Value.ownBlock,Option.some.injEq]at e;subst e;rw[hb]at hh;injection hh with hh
  injection hh with _ hh _
  exact absurd hh (by decide)
theorem GrP.apart3{B g b:Nat}{w:World}{ns:List Nd}{nv:Value}(h:GrP B g b w ns nv):g≠b:=by
 rintro rfl;obtain⟨es,clock,hb,_⟩:=h.map;have h2:=h.blk;unfold Blk at h2;rw[hb]at h2;cases h2
theorem Blk.twoG{w:World}{g:Nat}{t:TypeId}{a b:Value}(h:Blk w g t #[a,b]):w.cell? ⟨g,0,none⟩=some a/\w.cell? ⟨g,1,none⟩=some b/\w.frozen? ⟨g,0,none⟩=false/\w.frozen? ⟨g,1,none⟩=false/\g<w.heap.size:=
 ⟨h.cell 0,h.cell 1,h.frozen 0,h.frozen 1,h.lt⟩
theorem FT(B g b:Nat)(w:World)(ns:List Nd)(nv:Value)(h:GrP B g b w ns nv):
  Calls Tryz.prog 41 #[.pointer (some ⟨g,0,none⟩)] w fun e w'=>e= .returned (.int .i64 (ns.length:Int))/\w=w':=by
 have hb:=h.blk;have hn:=h.row;obtain⟨A2,c2,rfl⟩:=hn.shape;have k0:=hb.twoG;clear hb hn h;go_enter Tryz.func41,Tryz.ntmps41;go_wp2_with fail;go_ret;exact⟨rfl,rfl⟩
theorem Dg(w:World)(o:Obj)(cs:Array Value)(t:TypeId)(j:Nat):((w.alloc o).alloc (.cells cs t)).cell? ⟨w.heap.size+1,j,none⟩=cs[j]? :=by
 have h:=(Blk.new (w.alloc o) t cs).cell j;have hs:(w.alloc o).heap.size=w.heap.size+1:=by simp
 rw[hs]at h;exact h
theorem C2(w:World)(k a b n:Int)(s:ByteArray)(hk:k=1\/k=2\/k=3\/k=4):
  Calls Tryz.prog 107 #[.agg #[.int .i64 k,.int .i64 a,.int .i64 b,.int .i64 n,.string s]] w fun e w'=>e= .returned (.tuple #[.slice none 0 0,.bool true])/\Ext w w':=by
 rcases hk with rfl|rfl|rfl|rfl
 all_goals
  go_enter Tryz.func107,Tryz.ntmps107;go_wp2_with fail;go_ret2;exact⟨rfl,(Ext.refl w).alloc _⟩
theorem EI(w:World)(k a b n:Int)(s:ByteArray)(hk:k=5\/k=10\/k=11\/k=12\/k=13\/k=14\/k=15\/k=16):
  Calls Tryz.prog 107 #[.agg #[.int .i64 k,.int .i64 a,.int .i64 b,.int .i64 n,.string s]] w fun e w'=>∃b,e= .returned (.tuple #[.slice (some ⟨b,0,none⟩) 1 1,.bool true])/\w'.cell? ⟨b,0,none⟩=some (.int .i64 a)/\w.heap.size<=b/\b<w'.heap.size/\Ext w w':=by
 rcases hk with rfl|rfl|rfl|rfl|rfl|rfl|rfl|rfl
 all_goals
  go_enter Tryz.func107,Tryz.ntmps107;go_wp2_with fail;go_ret2;exact⟨_,rfl,Dg _ _ _ _ 0,by simp,by simp,((Ext.refl w).alloc _).alloc _⟩
theorem Fi(w:World)(k a b n:Int)(s:ByteArray)(hk:k=6\/k=7\/k=8\/k=9):
  Calls Tryz.prog 107 #[.agg #[.int .i64 k,.int .i64 a,.int .i64 b,.int .i64 n,.string s]] w fun e w'=>∃c,e= .returned (.tuple #[.slice (some ⟨c,0,none⟩) 2 2,.bool true])/\w'.cell? ⟨c,0,none⟩=some (.int .i64 a)/\w'.cell? ⟨c,1,none⟩=some (.int .i64 b)/\w.heap.size<=c/\c<w'.heap.size/\Ext w w':=by
 rcases hk with rfl|rfl|rfl|rfl
 all_goals
  go_enter Tryz.func107,Tryz.ntmps107;go_wp2_with fail;go_ret2;exact⟨_,rfl,Dg _ _ _ _ 0,Dg _ _ _ _ 1,by simp,by simp,((Ext.refl w).alloc _).alloc _⟩
end Big
end Go.Proofs.YtkoaogkknnelaaaGreatDoor
