import Derived.Test.YtkoaogkknnelaaaGreatDoorM28
set_option linter.unusedVariables false
set_option linter.unusedSimpArgs false
set_option maxRecDepth 100000
namespace Go.Proofs.YtkoaogkknnelaaaGreatDoor
namespace Big
open Lib (hid)
theorem GU(e:Ex)(hg:e.Good):∀(off i:Nat) (x:Nd),(Ah off e)[i]? =some x->CL (off+i) x:=by
 induction e with
 |leaf k t=>
  intro off i x h;obtain⟨_,he⟩:=List.getElem?_eq_some_iff.1 h;simp only[Ah,List.getElem_singleton]at he;exact .inl ⟨k,t,he.symm,hg⟩
 |un k n x ih=>
  intro off i y h;obtain⟨h1,h2,h3,h4,hx⟩:=hg;rcases Nat.lt_or_ge i x.size with hi|hi
  ·rw[Ah,List.getElem?_append_left (by rw[AE];exact hi)]at h;exact ih hx off i y h
  ·rw[Ah,List.getElem?_append_right (by rw[AE];exact hi),AE]at h;obtain⟨q,he⟩:=List.getElem?_eq_some_iff.1 h;simp only[List.getElem_singleton]at he;have:=x.size_pos;exact .inr (.inl ⟨k,n,off+x.size-1,he.symm,⟨h1,h2,h3,h4⟩,by omega⟩)
 |bin k x y ihx ihy=>
  intro off i z h;obtain⟨h1,hx,hy⟩:=hg;have:=x.size_pos;have:=y.size_pos;rcases Nat.lt_or_ge i x.size with hi|hi
  ·rw[Ah,List.getElem?_append_left (by rw[AE];exact hi)]at h;exact ihx hx off i z h
  ·rw[Ah,List.getElem?_append_right (by rw[AE];exact hi),AE]at h;rcases Nat.lt_or_ge (i-x.size) y.size with ba|ba
   ·rw[List.getElem?_append_left (by rw[AE];exact ba)]at h;have:=ihy hy _ _ z h;rw[show off+x.size+(i-x.size)=off+i by omega]at this;exact this
   ·rw[List.getElem?_append_right (by rw[AE];exact ba),AE]at h;obtain⟨q,he⟩:=List.getElem?_eq_some_iff.1 h;simp only[List.getElem_singleton]at he;exact .inr (.inr ⟨k,off+x.size-1,off+x.size+y.size-1,he.symm,h1,by omega,by omega⟩)
def BO(bw:List Nat)(x:Nd):Nd:=
 ⟨x.kind,if 5<=x.kind then ((bw.getD x.a.toNat 0:Nat):Int) else x.a,if 6<=x.kind/\x.kind<=9 then ((bw.getD x.b.toNat 0:Nat):Int) else x.b,x.n,x.text⟩
theorem F7(s:List Nat × List Nd)(x:Nd):Hh s x=(s.1++[(Bg s.2 (BO s.1 x)).1],(Bg s.2 (BO s.1 x)).2):=rfl
structure FG (n:Nat) (s:List Nat × List Nd) (i:Nat):Prop where
 len:s.1.length=i
 lt:∀j,j<i->s.1.getD j 0<s.2.length
 sound:AC s.2
 big:s.2.length<=n+i
theorem Lf.lt{k:Nat}{t:List UInt8}(h:Lf k t):k<5:=by rcases h with ⟨h,_⟩|⟨h,_⟩|⟨h,_⟩<;>omega
theorem I9{n:Nat}{s:List Nat × List Nd}{i:Nat}{x:Nd}(h:FG n s i)(hx:CL i x):CL s.2.length (BO s.1 x):=by
 rcases hx with ⟨k,t,rfl,ho⟩|⟨k,m,j,rfl,ho,hj⟩|⟨k,j,q,rfl,hk,hj,hq⟩
 ·have:=ho.lt;refine .inl ⟨k,t,?_,ho⟩;unfold BO;rw[if_neg (by simp only;omega),if_neg (by simp only;omega)]
 ·have:=ho.1;refine .inr (.inl ⟨k,m,s.1.getD j 0,?_,ho,h.lt j hj⟩);unfold BO;rw[if_pos (by simp only;omega),if_neg (by simp only;omega)];rfl
 ·refine .inr (.inr ⟨k,s.1.getD j 0,s.1.getD q 0,?_,hk,h.lt j hj,h.lt q hq⟩);unfold BO;rw[if_pos (by simp only;omega),if_pos (by simp only;omega)];rfl
theorem FG.step{n:Nat}{s:List Nat × List Nd}{i:Nat}{x:Nd}(h:FG n s i)(hx:CL i x):FG n (Hh s x) (i+1):=by
 have hp:=(DK s.2 (BO s.1 x)).length_le;have hl:=Ga s.2 (BO s.1 x);have hb:=h.big;have aB:=h.len;rw[F7];refine⟨by simp only[List.length_append,List.length_singleton,aB],fun j hj=> ?_,h.sound.put (I9 h hx),by simp only;omega⟩;simp only;rcases Nat.lt_or_ge j i with vD|vD
 ·rw[D4 _ _ (by omega)];exact Nat.lt_of_lt_of_le (h.lt j vD) hp
 ·rw[Dd _ _ (by omega)];exact Ob _ _
theorem FG.start{ns:List Nd}(h:AC ns):FG ns.length ([],ns) 0:=⟨rfl,fun j hj=>by omega,h,Nat.le_refl _⟩
theorem FY(s:List Nat × List Nd)(l:List Nd)(i:Nat)(h:i<l.length):Bx s (l.take (i+1))=Hh (Bx s (l.take i)) l[i]:=by
 rw[List.take_succ_eq_append_getElem h];unfold Bx;rw[List.foldl_append];rfl
theorem FG.at{ns:List Nd}(h:AC ns){e:Ex}(hg:e.Good):∀i,i<=e.size->FG ns.length (Bx ([],ns) ((Ah 0 e).take i)) i:=by
 intro i
 induction i with
 |zero=>intro _;exact FG.start h
 |succ i ih=>
  intro hi;have hl:i<(Ah 0 e).length:=by rw[AE];omega
  rw[FY _ _ _ hl];have h2:=GU e hg 0 i _ (List.getElem?_eq_getElem hl);rw[Nat.zero_add]at h2;exact(ih (by omega)).step h2
theorem Kh(e:Ex)(hg:e.Good)(ns:List Nd):∃more:List Nat,more.length+1=e.size/\Bx ([],ns) (Ah 0 e)=(more++[(Ba ns e).1],(Ba ns e).2):=by
 obtain⟨more,h1,h2⟩:=NL e hg [] ns;exact⟨more,h1,by simpa using h2⟩
open Go.RowKit
theorem CL.key{i:Nat}{x:Nd}(h:CL i x)(hi:i<=1000000):FL x:=by
 have hw:∀n:Int,-1000000<=n->n<=1000000->(Lit.int .i64 n).wf=true:=by
  intro n h1 h2;have e1:IntKind.i64.min= -9223372036854775808:=by decide
  have e2:IntKind.i64.max=9223372036854775807:=by decide
  simp only[Lit.wf,e1,e2,Bool.and_eq_true,decide_eq_true_eq];omega
 have ht:=h.text;rcases h with ⟨k,t,rfl,ho⟩|⟨k,n,j,rfl,ho,hj⟩|⟨k,j,q,rfl,hk,hj,hq⟩
 ·have:=ho.lt;exact⟨hw _ (by simp only;omega) (by simp only;omega),hw 0 (by decide) (by decide),hw 0 (by decide) (by decide),hw 0 (by decide) (by decide),by unfold maxLen;omega⟩
 ·obtain⟨h1,h2,h3,h4⟩:=ho;exact⟨hw _ (by simp only;omega) (by simp only;omega),hw _ (by simp only;omega) (by simp only;omega),hw 0 (by decide) (by decide),hw _ (by simp only;omega) (by simp only;omega),by unfold maxLen;omega⟩
 ·exact⟨hw _ (by simp only;omega) (by simp only;omega),hw _ (by simp only;omega) (by simp only;omega),hw _ (by simp only;omega) (by simp only;omega),hw 0 (by decide) (by decide),by unfold maxLen;omega⟩
theorem AC.keys{ns:List Nd}(h:AC ns)(hn:ns.length<=1000000):∀x∈ns,FL x:=by
 intro x hx;obtain⟨i,hi,rfl⟩:=List.getElem_of_mem hx;exact(h.2 i _ (List.getElem?_eq_getElem hi)).key (by omega)
structure GrP (B g b:Nat) (w:World) (ns:List Nd) (nv:Value):Prop where
 blk:Blk w g 80 #[nv,.map (some b)]
 row:AB B w nv ns
 map:DC w b ns
 lo:B<=g
 lo2:B<=b
 ok:AC ns
 few:ns.length<=4096
 low:0<B
theorem BW.below{B:Nat}{w w':World}(h:BW w)(hb:Below B w w')(hl:0<B):BW w':=by
 obtain⟨m,h⟩:=h;exact⟨m,(World.cell?_of_block (a:=⟨0,0,none⟩) (hb.block _ hl)).trans h⟩
structure KG (g b:Nat) (nv nv':Value) (w w':World):Prop where
 os:w'.os=w.os
 tape:w'.tape=w.tape
 output:w'.output=w.output
 size:w.heap.size<=w'.heap.size
 block:∀k,k<w.heap.size->k≠g->k≠b->nv.ownBlock≠some k->w'.heap[k]? =w.heap[k]?
 move:∀j,nv'.ownBlock=some j->nv.ownBlock=some j\/w.heap.size<=j
theorem KG.of_ext{g b:Nat}{nv:Value}{w w':World}(h:Ext w w'):KG g b nv nv w w':=⟨h.os,h.tape,h.output,h.size,fun k hk _ _ _=>h.block k hk,fun _ hj=> .inl hj⟩
theorem KG.trans{g b:Nat}{n1 n2 n3:Value}{w1 w2 w3:World}(h:KG g b n1 n2 w1 w2)(k:KG g b n2 n3 w2 w3):KG g b n1 n3 w1 w3:=
 ⟨k.os.trans h.os,k.tape.trans h.tape,k.output.trans h.output,Nat.le_trans h.size k.size,fun i h1 h2 h3 h4=>
  (k.block i (Nat.lt_of_lt_of_le h1 h.size) h2 h3 (fun e=>by
   rcases h.move i e with h5|h5
   ·exact h4 h5
   ·omega)).trans (h.block i h1 h2 h3 h4),fun j hj=>by
  rcases k.move j hj with h4|h4
  ·exact h.move j h4
  ·exact .inr (Nat.le_trans h.size h4)⟩
theorem KG.blk{g b j:Nat}{n1 n2:Value}{w w':World}{t:TypeId}{cs:Array Value}(h:KG g b n1 n2 w w')(hb:Blk w j t cs)(h1:j≠g)(h2:j≠b)(h3:n1.ownBlock≠some j):Blk w' j t cs:=(h.block j hb.lt h1 h2 h3).trans hb
theorem KG.below{B g b:Nat}{n1 n2:Value}{w w':World}{ns:List Nd}(h:KG g b n1 n2 w w')(hr:GrP B g b w ns n1):Below B w w':=
 ⟨h.os,h.tape,h.output,h.size,fun k hk=>by
  have h1:=hr.blk.lt;have h2:=hr.lo;have h3:=hr.lo2;exact h.block k (by omega) (by omega) (by omega) (fun e=>by have:=AH hr.row k e;omega)⟩
theorem GrP.lt{B g b:Nat}{w:World}{ns:List Nd}{nv:Value}(h:GrP B g b w ns nv):g<w.heap.size:=h.blk.lt
theorem GrP.keep{B g b:Nat}{w w':World}{ns:List Nd}{nv:Value}(h:GrP B g b w ns nv)(hx:Ext w w'):GrP B g b w' ns nv:=
 ⟨h.blk.ext hx,h.row.ext hx,h.map.kept (hx.block b h.map.lt),h.lo,h.lo2,h.ok,h.few,h.low⟩
theorem GrP.apart{B g b:Nat}{w:World}{ns:List Nd}{nv:Value}(h:GrP B g b w ns nv):nv.ownBlock≠some b:=by
 intro e;obtain⟨es,clock,hb,_⟩:=h.map;have hr:=h.row;unfold AB at hr;rcases hr.2 with ⟨rfl,_⟩|⟨q,cap,cur,rfl,_,hh,_⟩
 ·cases e
 ·simp only[Value.ownBlock,Option.some.injEq]at e;subst e;rw[hb]at hh;cases hh
theorem GrP.apart2{B g b:Nat}{w:World}{ns:List Nd}{nv:Value}(h:GrP B g b w ns nv):nv.ownBlock≠some g:=by
 intro e;have hb:=h.blk;have hr:=h.row;unfold AB at hr;unfold Blk at hb;rcases hr.2 with ⟨rfl,_⟩|⟨q,cap,cur,rfl,_,hh,_⟩
 ·cases e
 ·simp only[Value.ownBlock,Option.some.injEq]at e;subst e;rw[hb]at hh;injection hh with hh
  injection hh with _ hh _
  exact absurd hh (by decide)
theorem GrP.apart3{B g b:Nat}{w:World}{ns:List Nd}{nv:Value}(h:GrP B g b w ns nv):g≠b:=by
 rintro rfl;obtain⟨es,clock,hb,_⟩:=h.map;have h2:=h.blk;unfold Blk at h2;rw[hb]at h2;cases h2
theorem Blk.twoG{w:World}{g:Nat}{t:TypeId}{a b:Value}(h:Blk w g t #[a,b]):w.cell? ⟨g,0,none⟩=some a/\w.cell? ⟨g,1,none⟩=some b/\w.frozen? ⟨g,0,none⟩=false/\w.frozen? ⟨g,1,none⟩=false/\g<w.heap.size:=
 ⟨h.cell 0,h.cell 1,h.frozen 0,h.frozen 1,h.lt⟩
def KU(w w':World):Prop:=∀g cur,Blk w g 183 cur->Blk w' g 183 cur
theorem KU.refl(w:World):KU w w:=fun _ _ h=>h
theorem KU.trans{w w' w'':World}(h:KU w w')(k:KU w' w''):KU w w'':=fun g cur hb=>k g cur (h g cur hb)
theorem KU.of_ext{w w':World}(h:Ext w w'):KU w w':=fun _ _ hb=>hb.ext h
theorem KU.set{w:World}{g:Nat}{t:TypeId}{cs:Array Value}(hb:Blk w g t cs)(ht:t≠183){a:Addr}(ha:a.block=g)(u:Value):KU w (w.setCell a u):=by
 intro k cur hk;refine hk.far (fun e=> ?_) u;rw[e,ha]at hk;unfold Blk at hk hb;rw[hb]at hk;injection hk with hk
 injection hk with _ hk
 exact ht hk
theorem KU.grown{w w':World}{row:Option Nat}(hg:w.grownBy w' row)(hr:∀k,row=some k->∀cur,¬Blk w k 183 cur):KU w w':=by
 intro k cur hk;exact(hg.block k hk.lt (fun e=>hr k e.symm cur hk)).trans hk
theorem KM{w:World}{B:Nat}{t:TypeId}{m n:Nat}{v:Value}{xs:List Value}(h:w.ownsRow B t m v n xs)(ht:t≠183):∀k,v.ownBlock=some k->∀cur,¬Blk w k 183 cur:=by
 intro k hk cur hb;rcases h.2 with ⟨rfl,_⟩|⟨q,cap,mK,rfl,_,hh,_⟩
 ·cases hk
 ·simp only[Value.ownBlock,Option.some.injEq]at hk;subst hk;unfold Blk at hb;rw[hh]at hb;injection hb with hb
  injection hb with _ hb
  exact ht hb
theorem Own.ku{B:Nat}{w w':World}{v:Value}{xs:List Nat}(h:Own B w v xs)(hk:KU w w'):Own B w' v xs:=by
 obtain⟨h1,A,c,h2,h3,h4,h5⟩:=h;refine⟨h1,A,c,h2,h3,h4,?_⟩;rcases h5 with h5|⟨g,cur,e,hg,hb,r⟩
 ·exact .inl h5
 ·exact .inr ⟨g,cur,e,hg,hk g cur hb,r⟩
theorem Aj.ku{B:Nat}{w w':World}{v:Value}{p:Int}{q:Nat}(h:Aj B w v p q)(hk:KU w w'):Aj B w' v p q:=by
 obtain⟨m,d,rfl,h1,h2⟩:=h;exact⟨m,d,rfl,h1.ku hk,h2.ku hk⟩
theorem Aj.low0{B:Nat}{w:World}{v:Value}{p:Int}{q:Nat}(h:Aj B w v p q):Aj 0 w v p q:=h.mono (Nat.zero_le _)
def Ds(w:World)(cs:List Value)(T:List X2):Prop:=
 cs.length=T.length*3/\∀i x,T[i]? =some x->∃A n c A' n' c',cs[i*3]? =some (.bool (decide (x.p<0)))/\cs[i*3+1]? =some (.slice A n c)/\cs[i*3+2]? =some (.slice A' n' c')/\Aj 0 w (.agg #[.bool (decide (x.p<0)),.slice A n c,.slice A' n' c']) x.p x.q
theorem Ds.nil(w:World):Ds w [] []:=⟨rfl,fun i x h=>by simp at h⟩
theorem Ds.ku{w w':World}{cs:List Value}{T:List X2}(h:Ds w cs T)(hk:KU w w'):Ds w' cs T:=by
 refine⟨h.1,fun i x hx=> ?_⟩;obtain⟨A,n,c,A',n',c',h1,h2,h3,h4⟩:=h.2 i x hx;exact⟨A,n,c,A',n',c',h1,h2,h3,h4.ku hk⟩
theorem Ds.snoc{w:World}{cs:List Value}{T:List X2}(h:Ds w cs T){x:X2}{A:Option Addr}{n c:Nat}{A':Option Addr}{n' c':Nat}(hx:Aj 0 w (.agg #[.bool (decide (x.p<0)),.slice A n c,.slice A' n' c']) x.p x.q):
  Ds w (cs++[.bool (decide (x.p<0)),.slice A n c,.slice A' n' c']) (T++[x]):=by
 refine⟨by rw[List.length_append,List.length_append,h.1];simp;omega,fun i y hy=> ?_⟩;rcases Nat.lt_or_ge i T.length with hi|hi
 ·rw[List.getElem?_append_left hi]at hy;obtain⟨A,n,c,A',n',c',h1,h2,h3,h4⟩:=h.2 i y hy;have hl:=h.1;exact⟨A,n,c,A',n',c',by rw[List.getElem?_append_left (by omega)];exact h1,by rw[List.getElem?_append_left (by omega)];exact h2,by rw[List.getElem?_append_left (by omega)];exact h3,h4⟩
 ·have ba:i=T.length:=by
   have:=(List.getElem?_eq_some_iff.1 hy).1;rw[List.length_append,List.length_singleton]at this;omega
  subst ba;rw[List.getElem?_append_right (Nat.le_refl _),Nat.sub_self]at hy;injection hy with hy
  subst hy;have hl:=h.1;refine⟨A,n,c,A',n',c',?_,?_,?_,hx⟩
  ·rw[List.getElem?_append_right (by omega),show T.length*3-cs.length=0 by omega];rfl
  ·rw[List.getElem?_append_right (by omega),show T.length*3+1-cs.length=1 by omega];rfl
  ·rw[List.getElem?_append_right (by omega),show T.length*3+2-cs.length=2 by omega];rfl
def Cn(B:Nat)(w:World)(v:Value)(T:List X2):Prop:=∃cs,w.ownsRow B 26 3 v T.length cs/\Ds w cs T
theorem Cn.nil(B:Nat)(w:World):Cn B w (.slice none 0 0) []:=⟨[],World.ownsRow_nil w B _ 3,Ds.nil w⟩
theorem Cn.ext{B:Nat}{w w':World}{v:Value}{T:List X2}(h:Cn B w v T)(hx:Ext w w'):Cn B w' v T:=by
 obtain⟨cs,h1,h2⟩:=h;exact⟨cs,Af h1 (fun k _ hk=>hx.block k hk),h2.ku (KU.of_ext hx)⟩
theorem Cn.shape{B:Nat}{w:World}{v:Value}{T:List X2}(h:Cn B w v T):∃A c,v= .slice A T.length c:=by
 obtain⟨cs,h1,_⟩:=h;exact Ap h1
theorem Cn.mono{B B':Nat}{w:World}{v:Value}{T:List X2}(h:Cn B w v T)(hB:B'<=B):Cn B' w v T:=by
 obtain⟨cs,⟨h1,h2⟩,h3⟩:=h;exact⟨cs,⟨h1,h2.imp id (fun ⟨g,cap,cur,q1,q2,q3⟩=>⟨g,cap,cur,q1,by omega,q3⟩)⟩,h3⟩
def Jr(w:World)(g o:Nat)(x:X2):Prop:=
 ∃A n c A' n' c',w.cell? ⟨g,o,none⟩=some (.bool (decide (x.p<0)))/\w.cell? ⟨g,o+1,none⟩=some (.slice A n c)/\w.cell? ⟨g,o+2,none⟩=some (.slice A' n' c')/\Aj 0 w (.agg #[.bool (decide (x.p<0)),.slice A n c,.slice A' n' c']) x.p x.q
def OI(w:World)(v:Value)(T:List X2):Prop:=
 ∃A c,v= .slice A T.length c/\(0<T.length->∃g,A=some ⟨g,0,none⟩/\g<w.heap.size/\∀i x,T[i]? =some x->Jr w g (i*3) x)
theorem Cn.read{B:Nat}{w:World}{v:Value}{T:List X2}(h:Cn B w v T):OI w v T:=by
 obtain⟨cs,h,hr⟩:=h;rcases h.2 with ⟨h1,h2⟩|⟨g,cap,cur,rfl,hg,hh,_⟩
 ·exact⟨none,0,by rw[h1,h2],fun h3=>by omega⟩
 ·refine⟨_,_,rfl,fun _=>⟨g,rfl,?_,fun i x hx=> ?_⟩⟩
  ·rcases Nat.lt_or_ge g w.heap.size with h|h
   ·exact h
   ·rw[Array.getElem?_eq_none h]at hh;cases hh
  ·have hi:=(List.getElem?_eq_some_iff.1 hx).1;obtain⟨A,n,c,A',n',c',h1,h2,h3,h4⟩:=hr.2 i x hx;exact⟨A,n,c,A',n',c',(h.cellAt (i*3) (by omega)).trans h1,(h.cellAt (i*3+1) (by omega)).trans h2,(h.cellAt (i*3+2) (by omega)).trans h3,h4⟩
theorem Jr.ext{w w':World}{g o:Nat}{x:X2}(h:Jr w g o x)(hx:Ext w w')(hg:g<w.heap.size):Jr w' g o x:=by
 obtain⟨A,n,c,A',n',c',h1,h2,h3,h4⟩:=h;exact⟨A,n,c,A',n',c',(hx.cell hg).trans h1,(hx.cell hg).trans h2,(hx.cell hg).trans h3,h4.ext hx⟩
theorem OI.ext{w w':World}{v:Value}{T:List X2}(h:OI w v T)(hx:Ext w w'):OI w' v T:=by
 obtain⟨A,c,rfl,h⟩:=h;refine⟨A,c,rfl,fun hp=> ?_⟩;obtain⟨g,rfl,hg,h⟩:=h hp;exact⟨g,rfl,Nat.lt_of_lt_of_le hg hx.size,fun i x hi=>(h i x hi).ext hx hg⟩
def Ug(w:World)(g o:Nat)(x:X2):Prop:=Jr w g o x/\w.cell? ⟨g,o+3,none⟩=some (.int .i64 (x.st:Int))
def ES(w:World)(g:Nat)(T:List X2):Prop:=
 ∃cs,Blk w g 136 cs/\cs.size=T.length*4/\∀i x,T[i]? =some x->Ug w g (i*4) x
theorem ES.ext{w w':World}{g:Nat}{T:List X2}(h:ES w g T)(hx:Ext w w'):ES w' g T:=by
 obtain⟨cs,h1,h2,h3⟩:=h;have hg:=h1.lt;exact⟨cs,h1.ext hx,h2,fun i x hi=>⟨(h3 i x hi).1.ext hx hg,(hx.cell hg).trans (h3 i x hi).2⟩⟩
theorem ES.lt{w:World}{g:Nat}{T:List X2}(h:ES w g T):g<w.heap.size:=by
 obtain⟨cs,h1,_⟩:=h;exact h1.lt
theorem ES.drew{w:World}{g:Nat}{T:List X2}(h:ES w g T):ES w.drew g T:=h.ext (Ext.refl w).drew
theorem ES.set{w:World}{g:Nat}{T:List X2}(h:ES w g T){i:Nat}(hi:i<T.length){x:X2}{A:Option Addr}{n c:Nat}{A':Option Addr}{n' c':Nat}(hx:Aj 0 w (.agg #[.bool (decide (x.p<0)),.slice A n c,.slice A' n' c']) x.p x.q):
  ES ((((w.setCell ⟨g,i*4,none⟩ (.bool (decide (x.p<0)))).setCell ⟨g,i*4+1,none⟩ (.slice A n c)).setCell ⟨g,i*4+2,none⟩ (.slice A' n' c')).setCell ⟨g,i*4+3,none⟩ (.int .i64 (x.st:Int))) g (T.set i x)/\
   KU w ((((w.setCell ⟨g,i*4,none⟩ (.bool (decide (x.p<0)))).setCell ⟨g,i*4+1,none⟩ (.slice A n c)).setCell ⟨g,i*4+2,none⟩ (.slice A' n' c')).setCell ⟨g,i*4+3,none⟩ (.int .i64 (x.st:Int))):=by
 obtain⟨cs,h1,h2,h3⟩:=h;have ht:136≠183:=by decide
 have b1:=h1.set_ (i*4) (.bool (decide (x.p<0)));have b2:=b1.set_ (i*4+1) (.slice A n c);have b3:=b2.set_ (i*4+2) (.slice A' n' c');have b4:=b3.set_ (i*4+3) (.int .i64 (x.st:Int));have k1:=KU.set h1 ht (a:=⟨g,i*4,none⟩) rfl (.bool (decide (x.p<0)));have k2:=KU.set b1 ht (a:=⟨g,i*4+1,none⟩) rfl (.slice A n c);have k3:=KU.set b2 ht (a:=⟨g,i*4+2,none⟩) rfl (.slice A' n' c');have k4:=KU.set b3 ht (a:=⟨g,i*4+3,none⟩) rfl (.int .i64 (x.st:Int));have kk:=((k1.trans k2).trans k3).trans k4;refine⟨⟨_,b4,by simp[h2],fun j y hj=> ?_⟩,kk⟩;have ot:j<T.length:=by
  have:=(List.getElem?_eq_some_iff.1 hj).1
  rwa [List.length_set]at this
 rw[List.getElem?_set]at hj;by_cases hij:i=j
 ·subst hij;rw[if_pos rfl,if_pos hi]at hj;injection hj with hj
  subst hj;refine⟨⟨A,n,c,A',n',c',?_,?_,?_,hx.ku kk⟩,?_⟩
  ·rw[b4.cell,Array.getElem?_setIfInBounds_ne (by omega),Array.getElem?_setIfInBounds_ne (by omega),Array.getElem?_setIfInBounds_ne (by omega),Array.getElem?_setIfInBounds_self_of_lt (by omega)]
  ·rw[b4.cell,Array.getElem?_setIfInBounds_ne (by omega),Array.getElem?_setIfInBounds_ne (by omega),Array.getElem?_setIfInBounds_self_of_lt (by simp;omega)]
  ·rw[b4.cell,Array.getElem?_setIfInBounds_ne (by omega),Array.getElem?_setIfInBounds_self_of_lt (by simp;omega)]
  ·rw[b4.cell,Array.getElem?_setIfInBounds_self_of_lt (by simp;omega)]
 ·rw[if_neg hij]at hj;obtain⟨⟨A1,n1,c1,A2,n2,c2,q1,q2,q3,q4⟩,q5⟩:=h3 j y hj;have hne:∀k,k<4->(cs.setIfInBounds (i*4) (.bool (decide (x.p<0))) |>.setIfInBounds (i*4+1) (.slice A n c) |>.setIfInBounds (i*4+2) (.slice A' n' c') |>.setIfInBounds (i*4+3) (.int .i64 (x.st:Int)))[j*4+k]? =cs[j*4+k]? :=fun k hk=>by
   rw[Array.getElem?_setIfInBounds_ne (by omega),Array.getElem?_setIfInBounds_ne (by omega),Array.getElem?_setIfInBounds_ne (by omega),Array.getElem?_setIfInBounds_ne (by omega)]
  rw[h1.cell]at q1 q2 q3 q5;refine⟨⟨A1,n1,c1,A2,n2,c2,?_,?_,?_,q4.ku kk⟩,?_⟩
  ·rw[b4.cell];exact(hne 0 (by omega)).trans q1
  ·rw[b4.cell];exact(hne 1 (by omega)).trans q2
  ·rw[b4.cell];exact(hne 2 (by omega)).trans q3
  ·rw[b4.cell];exact(hne 3 (by omega)).trans q5
def EX(n:Nat):Array Value:=(List.replicate n [Value.bool false,.slice none 0 0,.slice none 0 0,.int .i64 0]).flatten.toArray
theorem Ef(n i j:Nat)(hi:i<n)(hj:j<4):(EX n)[i*4+j]? =[Value.bool false,.slice none 0 0,.slice none 0 0,.int .i64 0][j]? :=by
 unfold EX;rw[List.getElem?_toArray]
 induction n generalizing i with
 |zero=>omega
 |succ n ih=>
  rw[List.replicate_succ,List.flatten_cons];cases i with
  |zero=>rw[List.getElem?_append_left (by simp;omega),Nat.zero_mul,Nat.zero_add]
  |succ i=>
   rw[List.getElem?_append_right (by simp;omega),show (i+1)*4+j-[Value.bool false,.slice none 0 0,.slice none 0 0,.int .i64 0].length=i*4+j by simp;omega];exact ih i (by omega)
theorem Eu(n:Nat):(EX n).size=n*4:=by
 unfold EX;rw[List.size_toArray,List.length_flatten];simp
theorem ES.zero{w:World}{g n:Nat}(h:Blk w g 136 (EX n)):ES w g (List.replicate n X2.O):=by
 refine⟨_,h,by rw[Eu,List.length_replicate],fun i x hx=> ?_⟩;have hi:=(List.getElem?_eq_some_iff.1 hx).1;rw[List.length_replicate]at hi;rw[List.getElem?_replicate_of_lt hi]at hx;injection hx with hx
 subst hx;refine⟨⟨none,0,0,none,0,0,?_,?_,?_,Aj.zero _ _⟩,?_⟩
 ·exact(h.cell (i*4)).trans (Ef n i 0 hi (by omega))
 ·rw[h.cell,Ef n i 1 hi (by omega)];rfl
 ·rw[h.cell,Ef n i 2 hi (by omega)];rfl
 ·rw[h.cell,Ef n i 3 hi (by omega)];rfl
theorem MI(w:World)(v0:Value)(p:Int)(q:Nat)(h0:Aw w v0 p q)(n0:(Ac p.natAbs).length<=100000)(m0:(Ac q).length<=100000):
  Calls Tryz.prog 19 #[v0] w fun e w'=>e= .returned (.bool (decide (max (Be p.natAbs) (Be q)<=1024)))/\Ext w w':=by
 have H0:=hid h0;have HS:=hid (fun W v a=>Ps W v p q a n0 m0);generalize hz:max (Be p.natAbs) (Be q)=z at *;clear hz;obtain⟨bz,lH⟩:∃bz,decide (z<=1024)=bz:=⟨_,rfl⟩;have Vr:decide ((z:Int)<=1024)=bz:=by rw[<-lH,decide_eq_decide];omega
 rw[lH];obtain⟨b0,l0,A0,c0,k0,D0,e0,rfl⟩:=h0.shape;clear h0 n0 m0;go_enter Tryz.func19,Tryz.ntmps19;go_wp2_with fail;have hb0:=(Blk.new w 26 #[.bool b0,.slice A0 l0 c0,.slice D0 k0 e0]);have aC:=((Ext.refl w).alloc (.cells #[.bool b0,.slice A0 l0 c0,.slice D0 k0 e0] 26));have az:w.heap.size+1=(w.alloc (.cells #[.bool b0,.slice A0 l0 c0,.slice D0 k0 e0] 26)).heap.size:=by simp
 generalize w.alloc (.cells #[.bool b0,.slice A0 l0 c0,.slice D0 k0 e0] 26)=wo at *;have am:=hid hb0;have HX:=hid aC;have HZ:Hid (w.heap.size+1<=wo.heap.size):=hid (by omega);clear aC az hb0;refine(HS.out _ _ (H0.out.ext HX.out)).mono ?_
 rintro e w1 ⟨rfl,hx0⟩;have HX:=hid (HX.out.trans hx0);have ep:=hid hx0.size;have am:=hid (am.out.ext hx0);clear hx0;have bv:=am.out.three;go_wp2_with fail;go_ret;exact⟨rfl,HX.out⟩
def Bw(w:World)(v:Value)(x:X2):Prop:=∃A n c A' n' c',v= .agg #[.bool (decide (x.p<0)),.slice A n c,.slice A' n' c',.int .i64 (x.st:Int)]/\Aj 0 w (.agg #[.bool (decide (x.p<0)),.slice A n c,.slice A' n' c']) x.p x.q
theorem Bw.ext{w w':World}{v:Value}{x:X2}(h:Bw w v x)(hx:Ext w w'):Bw w' v x:=by
 obtain⟨A,n,c,A',n',c',rfl,h⟩:=h;exact⟨A,n,c,A',n',c',rfl,h.ext hx⟩
theorem Bw.open(w:World):Bw w (.agg #[.bool false,.slice none 0 0,.slice none 0 0,.int .i64 0]) X2.O:=⟨none,0,0,none,0,0,rfl,Aj.zero _ _⟩
theorem Bw.undef(w:World):Bw w (.agg #[.bool false,.slice none 0 0,.slice none 0 0,.int .i64 2]) X2.U:=⟨none,0,0,none,0,0,rfl,Aj.zero _ _⟩
theorem Blk.fourX{w:World}{g:Nat}{t:TypeId}{a b c d:Value}(h:Blk w g t #[a,b,c,d]):w.cell? ⟨g,0,none⟩=some a/\w.cell? ⟨g,1,none⟩=some b/\w.cell? ⟨g,2,none⟩=some c/\w.cell? ⟨g,3,none⟩=some d/\w.frozen? ⟨g,0,none⟩=false/\w.frozen? ⟨g,1,none⟩=false/\w.frozen? ⟨g,2,none⟩=false/\w.frozen? ⟨g,3,none⟩=false/\g<w.heap.size:=
 ⟨h.cell 0,h.cell 1,h.cell 2,h.cell 3,h.frozen 0,h.frozen 1,h.frozen 2,h.frozen 3,h.lt⟩
theorem AI{w:World}{g:Nat}{t:TypeId}{a b c d:Value}(h:Blk w g t #[a,b,c,d])(a' b' c' d':Value):
  (w.setCell ⟨g,0,none⟩ a').cell? ⟨g,0,none⟩=some a'/\((w.setCell ⟨g,0,none⟩ a').setCell ⟨g,1,none⟩ b').cell? ⟨g,1,none⟩=some b'/\(((w.setCell ⟨g,0,none⟩ a').setCell ⟨g,1,none⟩ b').setCell ⟨g,2,none⟩ c').cell? ⟨g,2,none⟩=some c'/\((((w.setCell ⟨g,0,none⟩ a').setCell ⟨g,1,none⟩ b').setCell ⟨g,2,none⟩ c').setCell ⟨g,3,none⟩ d').cell? ⟨g,3,none⟩=some d':=
 ⟨(h.set_ 0 a').cell 0,((h.set_ 0 a').set_ 1 b').cell 1,(((h.set_ 0 a').set_ 1 b').set_ 2 c').cell 2,((((h.set_ 0 a').set_ 1 b').set_ 2 c').set_ 3 d').cell 3⟩
theorem DY(w:World)(v:Value)(p:Int)(q:Nat)(h0:Aj 0 w v p q)(n0:(Ac p.natAbs).length<=100000)(m0:(Ac q).length<=100000):
  Calls Tryz.prog 183 #[v,.bool true] w fun e w'=>∃v',e= .returned v'/\Bw w' v' (AW p q)/\Ext w w':=by
 have H0:=hid h0;have HS:=hid (fun W v a=>MI W v p q a n0 m0);obtain⟨b,n,A,c,n',A',c',rfl⟩:=h0.shape;have HB:=hid h0.arr.sign;clear h0 n0 m0;obtain⟨bz,lH⟩:∃bz,decide (max (Be p.natAbs) (Be q)<=1024)=bz:=⟨_,rfl⟩;rw[lH]at HS;have HZ:=hid lH;clear lH;go_enter Tryz.func183,Tryz.ntmps183;go_wp2_with fail;have hb0:=(Blk.new w 26 #[.bool b,.slice A n c,.slice A' n' c']).alloc (.cells #[.bool false,.slice none 0 0,.slice none 0 0,.int .i64 0] 136);have aq:=Blk.new (w.alloc (.cells #[.bool b,.slice A n c,.slice A' n' c'] 26)) 136 #[.bool false,.slice none 0 0,.slice none 0 0,.int .i64 0];have aC:=((Ext.refl w).alloc (.cells #[.bool b,.slice A n c,.slice A' n' c'] 26)).alloc (.cells #[.bool false,.slice none 0 0,.slice none 0 0,.int .i64 0] 136);simp only[World.size_alloc]at aq;generalize (w.alloc (.cells #[.bool b,.slice A n c,.slice A' n' c'] 26)).alloc (.cells #[.bool false,.slice none 0 0,.slice none 0 0,.int .i64 0] 136)=wo at *;have HX:=hid aC;have am:=hid hb0;have ag:=hid aq;clear aC hb0 aq;refine(HS.out _ _ (H0.out.arr.ext HX.out)).mono ?_
 rintro e w1 ⟨rfl,aj⟩;have ar:=hid (HX.out.trans aj);have am:=hid (am.out.ext aj);have ag:=hid (ag.out.ext aj);clear aj;cases bz
 case false=>
  have q0:=ag.out.fourX;go_wp2_with fail;obtain⟨r0,r1,r2,r3⟩:=AI ag.out (.bool false) (.slice none 0 0) (.slice none 0 0) (.int .i64 0);refine bodyPost_ret (v:= .agg #[.bool false,.slice none 0 0,.slice none 0 0,.int .i64 0]) (by simp[results,Tryz.results183,go_sem,r0,r1,r2,r3]) rfl ?_
  refine⟨_,rfl,?_,(((ar.out.setCell (Nat.le_succ _) _).setCell (Nat.le_succ _) _).setCell (Nat.le_succ _) _).setCell (Nat.le_succ _) _⟩;have he:AW p q=X2.O:=if_neg (of_decide_eq_false HZ.out);rw[he];exact Bw.open _
 case true=>
  have u0:=am.out.three;have q0:=ag.out.fourX;go_wp2_with fail;obtain⟨r0,r1,r2,r3⟩:=AI ag.out (.bool b) (.slice A n c) (.slice A' n' c') (.int .i64 1);refine bodyPost_ret (v:= .agg #[.bool b,.slice A n c,.slice A' n' c',.int .i64 1]) (by simp[results,Tryz.results183,go_sem,r0,r1,r2,r3]) rfl ?_
  have bD:=(((ar.out.setCell (p:=⟨w.heap.size+1,0,none⟩) (Nat.le_succ _) (.bool b)).setCell (p:=⟨w.heap.size+1,1,none⟩) (Nat.le_succ _) (.slice A n c)).setCell (p:=⟨w.heap.size+1,2,none⟩) (Nat.le_succ _) (.slice A' n' c')).setCell (p:=⟨w.heap.size+1,3,none⟩) (Nat.le_succ _) (.int .i64 1);refine⟨_,rfl,?_,bD⟩;have he:AW p q=⟨1,p,q⟩:=if_pos (of_decide_eq_true HZ.out);rw[he,HB.out];exact⟨A,n,c,A',n',c',rfl,by rw[<-HB.out];exact H0.out.ext bD⟩
end Big
end Go.Proofs.YtkoaogkknnelaaaGreatDoor
