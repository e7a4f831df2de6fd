import Derived.Test.YtkoaogkknnelaaaGreatDoorM28
set_option linter.unusedVariables false
set_option linter.unusedSimpArgs false
set_option maxRecDepth 100000
namespace Go.Proofs.YtkoaogkknnelaaaGreatDoor
namespace Big
open Lib (hid)
theorem Hp(e:Ex)(hg:e.Good):∀(off i:Nat) (x:Nd),(Ak off e)[i]? =some x->Cw (off+i) x:=by
 induction e with
 |leaf k t=>
  intro off i x h;obtain⟨_,he⟩:=List.getElem?_eq_some_iff.1 h;simp only[Ak,List.getElem_singleton]at he;exact .inl ⟨k,t,he.symm,hg⟩
 |un k n x ih=>
  intro off i y h;obtain⟨h1,h2,h3,h4,hx⟩:=hg;rcases Nat.lt_or_ge i x.size with hi|hi
  ·rw[Ak,List.getElem?_append_left (by rw[AO];exact hi)]at h;exact ih hx off i y h
  ·rw[Ak,List.getElem?_append_right (by rw[AO];exact hi),AO]at h;obtain⟨q,he⟩:=List.getElem?_eq_some_iff.1 h;simp only[List.getElem_singleton]at he;have:=x.size_pos;exact .inr (.inl ⟨k,n,off+x.size-1,he.symm,⟨h1,h2,h3,h4⟩,by omega⟩)
 |bin k x y ihx ihy=>
  intro off i z h;obtain⟨h1,hx,hy⟩:=hg;have:=x.size_pos;have:=y.size_pos;rcases Nat.lt_or_ge i x.size with hi|hi
  ·rw[Ak,List.getElem?_append_left (by rw[AO];exact hi)]at h;exact ihx hx off i z h
  ·rw[Ak,List.getElem?_append_right (by rw[AO];exact hi),AO]at h;rcases Nat.lt_or_ge (i-x.size) y.size with ax|ax
   ·rw[List.getElem?_append_left (by rw[AO];exact ax)]at h;have:=ihy hy _ _ z h;rw[show off+x.size+(i-x.size)=off+i by omega]at this;exact this
   ·rw[List.getElem?_append_right (by rw[AO];exact ax),AO]at h;obtain⟨q,he⟩:=List.getElem?_eq_some_iff.1 h;simp only[List.getElem_singleton]at he;exact .inr (.inr ⟨k,off+x.size-1,off+x.size+y.size-1,he.symm,h1,by omega,by omega⟩)
def BW(bJ:List Nat)(x:Nd):Nd:=
 ⟨x.kind,if 5<=x.kind then ((bJ.getD x.a.toNat 0:Nat):Int) else x.a,if 6<=x.kind/\x.kind<=9 then ((bJ.getD x.b.toNat 0:Nat):Int) else x.b,x.n,x.text⟩
theorem Gp(s:List Nat × List Nd)(x:Nd):H5 s x=(s.1++[(Bo s.2 (BW s.1 x)).1],(Bo s.2 (BW s.1 x)).2):=rfl
structure FG (n:Nat) (s:List Nat × List Nd) (i:Nat):Prop where
 len:s.1.length=i
 lt:∀j,j<i->s.1.getD j 0<s.2.length
 sound:AH s.2
 big:s.2.length<=n+i
theorem JW.lt{k:Nat}{t:List UInt8}(h:JW k t):k<5:=by rcases h with ⟨h,_⟩|⟨h,_⟩|⟨h,_⟩<;>omega
theorem JA{n:Nat}{s:List Nat × List Nd}{i:Nat}{x:Nd}(h:FG n s i)(hx:Cw i x):Cw s.2.length (BW s.1 x):=by
 rcases hx with ⟨k,t,rfl,ho⟩|⟨k,m,j,rfl,ho,hj⟩|⟨k,j,q,rfl,hk,hj,hq⟩
 ·have:=ho.lt;refine .inl ⟨k,t,?_,ho⟩;unfold BW;rw[if_neg (by simp only;omega),if_neg (by simp only;omega)]
 ·have:=ho.1;refine .inr (.inl ⟨k,m,s.1.getD j 0,?_,ho,h.lt j hj⟩);unfold BW;rw[if_pos (by simp only;omega),if_neg (by simp only;omega)];rfl
 ·refine .inr (.inr ⟨k,s.1.getD j 0,s.1.getD q 0,?_,hk,h.lt j hj,h.lt q hq⟩);unfold BW;rw[if_pos (by simp only;omega),if_pos (by simp only;omega)];rfl
theorem FG.step{n:Nat}{s:List Nat × List Nd}{i:Nat}{x:Nd}(h:FG n s i)(hx:Cw i x):FG n (H5 s x) (i+1):=by
 have hp:=(DV s.2 (BW s.1 x)).length_le;have hl:=Gs s.2 (BW s.1 x);have hb:=h.big;have aF:=h.len;rw[Gp];refine⟨by simp only[List.length_append,List.length_singleton,aF],fun j hj=> ?_,h.sound.put (JA h hx),by simp only;omega⟩;simp only;rcases Nat.lt_or_ge j i with xi|xi
 ·rw[El _ _ (by omega)];exact Nat.lt_of_lt_of_le (h.lt j xi) hp
 ·rw[Dm _ _ (by omega)];exact Ou _ _
theorem FG.start{ns:List Nd}(h:AH ns):FG ns.length ([],ns) 0:=⟨rfl,fun j hj=>by omega,h,Nat.le_refl _⟩
theorem Ga(s:List Nat × List Nd)(l:List Nd)(i:Nat)(h:i<l.length):BH s (l.take (i+1))=H5 (BH s (l.take i)) l[i]:=by
 rw[List.take_succ_eq_append_getElem h];unfold BH;rw[List.foldl_append];rfl
theorem FG.at{ns:List Nd}(h:AH ns){e:Ex}(hg:e.Good):∀i,i<=e.size->FG ns.length (BH ([],ns) ((Ak 0 e).take i)) i:=by
 intro i
 induction i with
 |zero=>intro _;exact FG.start h
 |succ i ih=>
  intro hi;have hl:i<(Ak 0 e).length:=by rw[AO];omega
  rw[Ga _ _ _ hl];have h2:=Hp e hg 0 i _ (List.getElem?_eq_getElem hl);rw[Nat.zero_add]at h2;exact(ih (by omega)).step h2
theorem KI(e:Ex)(hg:e.Good)(ns:List Nd):∃more:List Nat,more.length+1=e.size/\BH ([],ns) (Ak 0 e)=(more++[(Bg ns e).1],(Bg ns e).2):=by
 obtain⟨more,h1,h2⟩:=N0 e hg [] ns;exact⟨more,h1,by simpa using h2⟩
open Go.RowKit
theorem Cw.key{i:Nat}{x:Nd}(h:Cw i x)(hi:i<=1000000):FX x:=by
 have hw:∀n:Int,-1000000<=n->n<=1000000->(Lit.int .i64 n).wf=true:=by
  intro n h1 h2;have e1:IntKind.i64.min= -9223372036854775808:=by decide
  have e2:IntKind.i64.max=9223372036854775807:=by decide
  simp only[Lit.wf,e1,e2,Bool.and_eq_true,decide_eq_true_eq];omega
 have ht:=h.text;rcases h with ⟨k,t,rfl,ho⟩|⟨k,n,j,rfl,ho,hj⟩|⟨k,j,q,rfl,hk,hj,hq⟩
 ·have:=ho.lt;exact⟨hw _ (by simp only;omega) (by simp only;omega),hw 0 (by decide) (by decide),hw 0 (by decide) (by decide),hw 0 (by decide) (by decide),by unfold maxLen;omega⟩
 ·obtain⟨h1,h2,h3,h4⟩:=ho;exact⟨hw _ (by simp only;omega) (by simp only;omega),hw _ (by simp only;omega) (by simp only;omega),hw 0 (by decide) (by decide),hw _ (by simp only;omega) (by simp only;omega),by unfold maxLen;omega⟩
 ·exact⟨hw _ (by simp only;omega) (by simp only;omega),hw _ (by simp only;omega) (by simp only;omega),hw _ (by simp only;omega) (by simp only;omega),hw 0 (by decide) (by decide),by unfold maxLen;omega⟩
theorem AH.keys{ns:List Nd}(h:AH ns)(hn:ns.length<=1000000):∀x∈ns,FX x:=by
 intro x hx;obtain⟨i,hi,rfl⟩:=List.getElem_of_mem hx;exact(h.2 i _ (List.getElem?_eq_getElem hi)).key (by omega)
structure GrP (B g b:Nat) (w:World) (ns:List Nd) (nv:Value):Prop where
 blk:Blk w g 80 #[nv,.map (some b)]
 row:AU B w nv ns
 map:DO w b ns
 lo:B<=g
 lo2:B<=b
 ok:AH ns
 few:ns.length<=4096
 low:0<B
theorem Ce.below{B:Nat}{w w':World}(h:Ce w)(hb:Below B w w')(hl:0<B):Ce w':=by
 obtain⟨m,h⟩:=h;exact⟨m,(World.cell?_of_block (a:=⟨0,0,none⟩) (hb.block _ hl)).trans h⟩
structure KG (g b:Nat) (nv nv':Value) (w w':World):Prop where
 os:w'.os=w.os
 tape:w'.tape=w.tape
 output:w'.output=w.output
 size:w.heap.size<=w'.heap.size
 block:∀k,k<w.heap.size->k≠g->k≠b->nv.ownBlock≠some k->w'.heap[k]? =w.heap[k]?
 move:∀j,nv'.ownBlock=some j->nv.ownBlock=some j\/w.heap.size<=j
theorem KG.of_ext{g b:Nat}{nv:Value}{w w':World}(h:Ext w w'):KG g b nv nv w w':=⟨h.os,h.tape,h.output,h.size,fun k hk _ _ _=>h.block k hk,fun _ hj=> .inl hj⟩
theorem KG.trans{g b:Nat}{n1 n2 n3:Value}{w1 w2 w3:World}(h:KG g b n1 n2 w1 w2)(k:KG g b n2 n3 w2 w3):KG g b n1 n3 w1 w3:=
 ⟨k.os.trans h.os,k.tape.trans h.tape,k.output.trans h.output,Nat.le_trans h.size k.size,fun i h1 h2 h3 h4=>
  (k.block i (Nat.lt_of_lt_of_le h1 h.size) h2 h3 (fun e=>by
   rcases h.move i e with h5|h5
   ·exact h4 h5
   ·omega)).trans (h.block i h1 h2 h3 h4),fun j hj=>by
  rcases k.move j hj with h4|h4
  ·exact h.move j h4
  ·exact .inr (Nat.le_trans h.size h4)⟩
theorem KG.blk{g b j:Nat}{n1 n2:Value}{w w':World}{t:TypeId}{cs:Array Value}(h:KG g b n1 n2 w w')(hb:Blk w j t cs)(h1:j≠g)(h2:j≠b)(h3:n1.ownBlock≠some j):Blk w' j t cs:=(h.block j hb.lt h1 h2 h3).trans hb
theorem KG.below{B g b:Nat}{n1 n2:Value}{w w':World}{ns:List Nd}(h:KG g b n1 n2 w w')(hr:GrP B g b w ns n1):Below B w w':=
 ⟨h.os,h.tape,h.output,h.size,fun k hk=>by
  have h1:=hr.blk.lt;have h2:=hr.lo;have h3:=hr.lo2;exact h.block k (by omega) (by omega) (by omega) (fun e=>by have:=AW hr.row k e;omega)⟩
theorem GrP.lt{B g b:Nat}{w:World}{ns:List Nd}{nv:Value}(h:GrP B g b w ns nv):g<w.heap.size:=h.blk.lt
theorem GrP.keep{B g b:Nat}{w w':World}{ns:List Nd}{nv:Value}(h:GrP B g b w ns nv)(hx:Ext w w'):GrP B g b w' ns nv:=
 ⟨h.blk.ext hx,h.row.ext hx,h.map.kept (hx.block b h.map.lt),h.lo,h.lo2,h.ok,h.few,h.low⟩
theorem GrP.apart{B g b:Nat}{w:World}{ns:List Nd}{nv:Value}(h:GrP B g b w ns nv):nv.ownBlock≠some b:=by
 intro e;obtain⟨es,clock,hb,_⟩:=h.map;have hr:=h.row;unfold AU at hr;rcases hr.2 with ⟨rfl,_⟩|⟨q,cap,cur,rfl,_,hh,_⟩
 ·cases e
 ·simp only[Value.ownBlock,Option.some.injEq]at e;subst e;rw[hb]at hh;cases hh
theorem GrP.apart2{B g b:Nat}{w:World}{ns:List Nd}{nv:Value}(h:GrP B g b w ns nv):nv.ownBlock≠some g:=by
 intro e;have hb:=h.blk;have hr:=h.row;unfold AU at hr;unfold Blk at hb;rcases hr.2 with ⟨rfl,_⟩|⟨q,cap,cur,rfl,_,hh,_⟩
 ·cases e
 ·simp only[Value.ownBlock,Option.some.injEq]at e;subst e;rw[hb]at hh;injection hh with hh
  injection hh with _ hh _
  exact absurd hh (by decide)
theorem GrP.apart3{B g b:Nat}{w:World}{ns:List Nd}{nv:Value}(h:GrP B g b w ns nv):g≠b:=by
 rintro rfl;obtain⟨es,clock,hb,_⟩:=h.map;have h2:=h.blk;unfold Blk at h2;rw[hb]at h2;cases h2
theorem Blk.twoG{w:World}{g:Nat}{t:TypeId}{a b:Value}(h:Blk w g t #[a,b]):w.cell? ⟨g,0,none⟩=some a/\w.cell? ⟨g,1,none⟩=some b/\w.frozen? ⟨g,0,none⟩=false/\w.frozen? ⟨g,1,none⟩=false/\g<w.heap.size:=
 ⟨h.cell 0,h.cell 1,h.frozen 0,h.frozen 1,h.lt⟩
def KU(w w':World):Prop:=∀g cur,Blk w g 183 cur->Blk w' g 183 cur
theorem KU.refl(w:World):KU w w:=fun _ _ h=>h
theorem KU.trans{w w' w'':World}(h:KU w w')(k:KU w' w''):KU w w'':=fun g cur hb=>k g cur (h g cur hb)
theorem KU.of_ext{w w':World}(h:Ext w w'):KU w w':=fun _ _ hb=>hb.ext h
theorem KU.set{w:World}{g:Nat}{t:TypeId}{cs:Array Value}(hb:Blk w g t cs)(ht:t≠183){a:Addr}(ha:a.block=g)(u:Value):KU w (w.setCell a u):=by
 intro k cur hk;refine hk.far (fun e=> ?_) u;rw[e,ha]at hk;unfold Blk at hk hb;rw[hb]at hk;injection hk with hk
 injection hk with _ hk
 exact ht hk
theorem KU.grown{w w':World}{row:Option Nat}(hg:w.grownBy w' row)(hr:∀k,row=some k->∀cur,¬Blk w k 183 cur):KU w w':=by
 intro k cur hk;exact(hg.block k hk.lt (fun e=>hr k e.symm cur hk)).trans hk
theorem Gw{w:World}{B:Nat}{t:TypeId}{m n:Nat}{v:Value}{xs:List Value}(h:w.ownsRow B t m v n xs)(ht:t≠183):∀k,v.ownBlock=some k->∀cur,¬Blk w k 183 cur:=by
 intro k hk cur hb;rcases h.2 with ⟨rfl,_⟩|⟨q,cap,sC,rfl,_,hh,_⟩
 ·cases hk
 ·simp only[Value.ownBlock,Option.some.injEq]at hk;subst hk;unfold Blk at hb;rw[hh]at hb;injection hb with hb
  injection hb with _ hb
  exact ht hb
theorem Own.ku{B:Nat}{w w':World}{v:Value}{xs:List Nat}(h:Own B w v xs)(hk:KU w w'):Own B w' v xs:=by
 obtain⟨h1,A,c,h2,h3,h4,h5⟩:=h;refine⟨h1,A,c,h2,h3,h4,?_⟩;rcases h5 with h5|⟨g,cur,e,hg,hb,r⟩
 ·exact .inl h5
 ·exact .inr ⟨g,cur,e,hg,hk g cur hb,r⟩
theorem Ag.ku{B:Nat}{w w':World}{v:Value}{p:Int}{q:Nat}(h:Ag B w v p q)(hk:KU w w'):Ag B w' v p q:=by
 obtain⟨m,d,rfl,h1,h2⟩:=h;exact⟨m,d,rfl,h1.ku hk,h2.ku hk⟩
theorem Ag.low0{B:Nat}{w:World}{v:Value}{p:Int}{q:Nat}(h:Ag B w v p q):Ag 0 w v p q:=h.mono (Nat.zero_le _)
def DF(w:World)(cs:List Value)(T:List X2):Prop:=
 cs.length=T.length*3/\∀i x,T[i]? =some x->∃A n c A' n' c',cs[i*3]? =some (.bool (decide (x.p<0)))/\cs[i*3+1]? =some (.slice A n c)/\cs[i*3+2]? =some (.slice A' n' c')/\Ag 0 w (.agg #[.bool (decide (x.p<0)),.slice A n c,.slice A' n' c']) x.p x.q
theorem DF.nil(w:World):DF w [] []:=⟨rfl,fun i x h=>by simp at h⟩
theorem DF.ku{w w':World}{cs:List Value}{T:List X2}(h:DF w cs T)(hk:KU w w'):DF w' cs T:=by
 refine⟨h.1,fun i x hx=> ?_⟩;obtain⟨A,n,c,A',n',c',h1,h2,h3,h4⟩:=h.2 i x hx;exact⟨A,n,c,A',n',c',h1,h2,h3,h4.ku hk⟩
theorem DF.snoc{w:World}{cs:List Value}{T:List X2}(h:DF w cs T){x:X2}{A:Option Addr}{n c:Nat}{A':Option Addr}{n' c':Nat}(hx:Ag 0 w (.agg #[.bool (decide (x.p<0)),.slice A n c,.slice A' n' c']) x.p x.q):
  DF w (cs++[.bool (decide (x.p<0)),.slice A n c,.slice A' n' c']) (T++[x]):=by
 refine⟨by rw[List.length_append,List.length_append,h.1];simp;omega,fun i y hy=> ?_⟩;rcases Nat.lt_or_ge i T.length with hi|hi
 ·rw[List.getElem?_append_left hi]at hy;obtain⟨A,n,c,A',n',c',h1,h2,h3,h4⟩:=h.2 i y hy;have hl:=h.1;exact⟨A,n,c,A',n',c',by rw[List.getElem?_append_left (by omega)];exact h1,by rw[List.getElem?_append_left (by omega)];exact h2,by rw[List.getElem?_append_left (by omega)];exact h3,h4⟩
 ·have ax:i=T.length:=by
   have:=(List.getElem?_eq_some_iff.1 hy).1;rw[List.length_append,List.length_singleton]at this;omega
  subst ax;rw[List.getElem?_append_right (Nat.le_refl _),Nat.sub_self]at hy;injection hy with hy
  subst hy;have hl:=h.1;refine⟨A,n,c,A',n',c',?_,?_,?_,hx⟩
  ·rw[List.getElem?_append_right (by omega),show T.length*3-cs.length=0 by omega];rfl
  ·rw[List.getElem?_append_right (by omega),show T.length*3+1-cs.length=1 by omega];rfl
  ·rw[List.getElem?_append_right (by omega),show T.length*3+2-cs.length=2 by omega];rfl
def BO(B:Nat)(w:World)(v:Value)(T:List X2):Prop:=∃cs,w.ownsRow B 26 3 v T.length cs/\DF w cs T
theorem BO.nil(B:Nat)(w:World):BO B w (.slice none 0 0) []:=⟨[],World.ownsRow_nil w B _ 3,DF.nil w⟩
theorem BO.ext{B:Nat}{w w':World}{v:Value}{T:List X2}(h:BO B w v T)(hx:Ext w w'):BO B w' v T:=by
 obtain⟨cs,h1,h2⟩:=h;exact⟨cs,Aj h1 (fun k _ hk=>hx.block k hk),h2.ku (KU.of_ext hx)⟩
theorem BO.shape{B:Nat}{w:World}{v:Value}{T:List X2}(h:BO B w v T):∃A c,v= .slice A T.length c:=by
 obtain⟨cs,h1,_⟩:=h;exact AN h1
def JS(w:World)(g o:Nat)(x:X2):Prop:=
 ∃A n c A' n' c',w.cell? ⟨g,o,none⟩=some (.bool (decide (x.p<0)))/\w.cell? ⟨g,o+1,none⟩=some (.slice A n c)/\w.cell? ⟨g,o+2,none⟩=some (.slice A' n' c')/\Ag 0 w (.agg #[.bool (decide (x.p<0)),.slice A n c,.slice A' n' c']) x.p x.q
def Va(w:World)(v:Value)(T:List X2):Prop:=
 ∃A c,v= .slice A T.length c/\(0<T.length->∃g,A=some ⟨g,0,none⟩/\g<w.heap.size/\∀i x,T[i]? =some x->JS w g (i*3) x)
theorem BO.read{B:Nat}{w:World}{v:Value}{T:List X2}(h:BO B w v T):Va w v T:=by
 obtain⟨cs,h,hr⟩:=h;rcases h.2 with ⟨h1,h2⟩|⟨g,cap,cur,rfl,hg,hh,_⟩
 ·exact⟨none,0,by rw[h1,h2],fun h3=>by omega⟩
 ·refine⟨_,_,rfl,fun _=>⟨g,rfl,?_,fun i x hx=> ?_⟩⟩
  ·rcases Nat.lt_or_ge g w.heap.size with h|h
   ·exact h
   ·rw[Array.getElem?_eq_none h]at hh;cases hh
  ·have hi:=(List.getElem?_eq_some_iff.1 hx).1;obtain⟨A,n,c,A',n',c',h1,h2,h3,h4⟩:=hr.2 i x hx;exact⟨A,n,c,A',n',c',(h.cellAt (i*3) (by omega)).trans h1,(h.cellAt (i*3+1) (by omega)).trans h2,(h.cellAt (i*3+2) (by omega)).trans h3,h4⟩
theorem JS.ext{w w':World}{g o:Nat}{x:X2}(h:JS w g o x)(hx:Ext w w')(hg:g<w.heap.size):JS w' g o x:=by
 obtain⟨A,n,c,A',n',c',h1,h2,h3,h4⟩:=h;exact⟨A,n,c,A',n',c',(hx.cell hg).trans h1,(hx.cell hg).trans h2,(hx.cell hg).trans h3,h4.ext hx⟩
def U5(w:World)(g o:Nat)(x:X2):Prop:=JS w g o x/\w.cell? ⟨g,o+3,none⟩=some (.int .i64 (x.st:Int))
def GV(w:World)(g:Nat)(T:List X2):Prop:=
 ∃cs,Blk w g 136 cs/\cs.size=T.length*4/\∀i x,T[i]? =some x->U5 w g (i*4) x
theorem GV.ext{w w':World}{g:Nat}{T:List X2}(h:GV w g T)(hx:Ext w w'):GV w' g T:=by
 obtain⟨cs,h1,h2,h3⟩:=h;have hg:=h1.lt;exact⟨cs,h1.ext hx,h2,fun i x hi=>⟨(h3 i x hi).1.ext hx hg,(hx.cell hg).trans (h3 i x hi).2⟩⟩
theorem GV.set{w:World}{g:Nat}{T:List X2}(h:GV w g T){i:Nat}(hi:i<T.length){x:X2}{A:Option Addr}{n c:Nat}{A':Option Addr}{n' c':Nat}(hx:Ag 0 w (.agg #[.bool (decide (x.p<0)),.slice A n c,.slice A' n' c']) x.p x.q):
  GV ((((w.setCell ⟨g,i*4,none⟩ (.bool (decide (x.p<0)))).setCell ⟨g,i*4+1,none⟩ (.slice A n c)).setCell ⟨g,i*4+2,none⟩ (.slice A' n' c')).setCell ⟨g,i*4+3,none⟩ (.int .i64 (x.st:Int))) g (T.set i x)/\
   KU w ((((w.setCell ⟨g,i*4,none⟩ (.bool (decide (x.p<0)))).setCell ⟨g,i*4+1,none⟩ (.slice A n c)).setCell ⟨g,i*4+2,none⟩ (.slice A' n' c')).setCell ⟨g,i*4+3,none⟩ (.int .i64 (x.st:Int))):=by
 obtain⟨cs,h1,h2,h3⟩:=h;have ht:136≠183:=by decide
 have b1:=h1.set_ (i*4) (.bool (decide (x.p<0)));have b2:=b1.set_ (i*4+1) (.slice A n c);have b3:=b2.set_ (i*4+2) (.slice A' n' c');have b4:=b3.set_ (i*4+3) (.int .i64 (x.st:Int));have k1:=KU.set h1 ht (a:=⟨g,i*4,none⟩) rfl (.bool (decide (x.p<0)));have k2:=KU.set b1 ht (a:=⟨g,i*4+1,none⟩) rfl (.slice A n c);have k3:=KU.set b2 ht (a:=⟨g,i*4+2,none⟩) rfl (.slice A' n' c');have k4:=KU.set b3 ht (a:=⟨g,i*4+3,none⟩) rfl (.int .i64 (x.st:Int));have kk:=((k1.trans k2).trans k3).trans k4;refine⟨⟨_,b4,by simp[h2],fun j y hj=> ?_⟩,kk⟩;have rS:j<T.length:=by
  have:=(List.getElem?_eq_some_iff.1 hj).1
  rwa [List.length_set]at this
 rw[List.getElem?_set]at hj;by_cases hij:i=j
 ·subst hij;rw[if_pos rfl,if_pos hi]at hj;injection hj with hj
  subst hj;refine⟨⟨A,n,c,A',n',c',?_,?_,?_,hx.ku kk⟩,?_⟩
  ·rw[b4.cell,Array.getElem?_setIfInBounds_ne (by omega),Array.getElem?_setIfInBounds_ne (by omega),Array.getElem?_setIfInBounds_ne (by omega),Array.getElem?_setIfInBounds_self_of_lt (by omega)]
  ·rw[b4.cell,Array.getElem?_setIfInBounds_ne (by omega),Array.getElem?_setIfInBounds_ne (by omega),Array.getElem?_setIfInBounds_self_of_lt (by simp;omega)]
  ·rw[b4.cell,Array.getElem?_setIfInBounds_ne (by omega),Array.getElem?_setIfInBounds_self_of_lt (by simp;omega)]
  ·rw[b4.cell,Array.getElem?_setIfInBounds_self_of_lt (by simp;omega)]
 ·rw[if_neg hij]at hj;obtain⟨⟨A1,n1,c1,A2,n2,c2,q1,q2,q3,q4⟩,q5⟩:=h3 j y hj;have hne:∀k,k<4->(cs.setIfInBounds (i*4) (.bool (decide (x.p<0))) |>.setIfInBounds (i*4+1) (.slice A n c) |>.setIfInBounds (i*4+2) (.slice A' n' c') |>.setIfInBounds (i*4+3) (.int .i64 (x.st:Int)))[j*4+k]? =cs[j*4+k]? :=fun k hk=>by
   rw[Array.getElem?_setIfInBounds_ne (by omega),Array.getElem?_setIfInBounds_ne (by omega),Array.getElem?_setIfInBounds_ne (by omega),Array.getElem?_setIfInBounds_ne (by omega)]
  rw[h1.cell]at q1 q2 q3 q5;refine⟨⟨A1,n1,c1,A2,n2,c2,?_,?_,?_,q4.ku kk⟩,?_⟩
  ·rw[b4.cell];exact(hne 0 (by omega)).trans q1
  ·rw[b4.cell];exact(hne 1 (by omega)).trans q2
  ·rw[b4.cell];exact(hne 2 (by omega)).trans q3
  ·rw[b4.cell];exact(hne 3 (by omega)).trans q5
def E6(n:Nat):Array Value:=(List.replicate n [Value.bool false,.slice none 0 0,.slice none 0 0,.int .i64 0]).flatten.toArray
theorem Et(n i j:Nat)(hi:i<n)(hj:j<4):(E6 n)[i*4+j]? =[Value.bool false,.slice none 0 0,.slice none 0 0,.int .i64 0][j]? :=by
 unfold E6;rw[List.getElem?_toArray]
 induction n generalizing i with
 |zero=>omega
 |succ n ih=>
  rw[List.replicate_succ,List.flatten_cons];cases i with
  |zero=>rw[List.getElem?_append_left (by simp;omega),Nat.zero_mul,Nat.zero_add]
  |succ i=>
   rw[List.getElem?_append_right (by simp;omega),show (i+1)*4+j-[Value.bool false,.slice none 0 0,.slice none 0 0,.int .i64 0].length=i*4+j by simp;omega];exact ih i (by omega)
theorem EF(n:Nat):(E6 n).size=n*4:=by
 unfold E6;rw[List.size_toArray,List.length_flatten];simp
theorem GV.zero{w:World}{g n:Nat}(h:Blk w g 136 (E6 n)):GV w g (List.replicate n X2.O):=by
 refine⟨_,h,by rw[EF,List.length_replicate],fun i x hx=> ?_⟩;have hi:=(List.getElem?_eq_some_iff.1 hx).1;rw[List.length_replicate]at hi;rw[List.getElem?_replicate_of_lt hi]at hx;injection hx with hx
 subst hx;refine⟨⟨none,0,0,none,0,0,?_,?_,?_,Ag.zero _ _⟩,?_⟩
 ·exact(h.cell (i*4)).trans (Et n i 0 hi (by omega))
 ·rw[h.cell,Et n i 1 hi (by omega)];rfl
 ·rw[h.cell,Et n i 2 hi (by omega)];rfl
 ·rw[h.cell,Et n i 3 hi (by omega)];rfl
theorem FY(w:World)(v0:Value)(p:Int)(q:Nat)(h0:Ao w v0 p q)(n0:(Ac p.natAbs).length<=100000)(m0:(Ac q).length<=100000):
  Calls Tryz.prog 19 #[v0] w fun e w'=>e= .returned (.bool (decide (max (AG p.natAbs) (AG q)<=1024)))/\Ext w w':=by
 have H0:=hid h0;have HS:=hid (fun W v a=>PK W v p q a n0 m0);generalize hz:max (AG p.natAbs) (AG q)=z at *;clear hz;obtain⟨bz,kW⟩:∃bz,decide (z<=1024)=bz:=⟨_,rfl⟩;have zN:decide ((z:Int)<=1024)=bz:=by rw[<-kW,decide_eq_decide];omega
 rw[kW];obtain⟨b0,l0,A0,c0,k0,D0,e0,rfl⟩:=h0.shape;clear h0 n0 m0;go_enter Tryz.func19,Tryz.ntmps19;go_wp2_with fail;have hb0:=(Blk.new w 26 #[.bool b0,.slice A0 l0 c0,.slice D0 k0 e0]);have aq:=((Ext.refl w).alloc (.cells #[.bool b0,.slice A0 l0 c0,.slice D0 k0 e0] 26));have am:w.heap.size+1=(w.alloc (.cells #[.bool b0,.slice A0 l0 c0,.slice D0 k0 e0] 26)).heap.size:=by simp
 generalize w.alloc (.cells #[.bool b0,.slice A0 l0 c0,.slice D0 k0 e0] 26)=wo at *;have ak:=hid hb0;have HX:=hid aq;have HZ:Hid (w.heap.size+1<=wo.heap.size):=hid (by omega);clear aq am hb0;refine(HS.out _ _ (H0.out.ext HX.out)).mono ?_
 rintro e w1 ⟨rfl,hx0⟩;have HX:=hid (HX.out.trans hx0);have dY:=hid hx0.size;have ak:=hid (ak.out.ext hx0);clear hx0;have bA:=ak.out.three;go_wp2_with fail;go_ret;exact⟨rfl,HX.out⟩
theorem IU(w:World)(v0:Value)(p:Int)(q:Nat)(h0:Ao w v0 p q)(n0:(Ac p.natAbs).length<=100000)(m0:(Ac q).length<=100000):
  Calls Tryz.prog 20 #[v0] w fun e w'=>e= .returned (.bool (decide (max (AG p.natAbs) (AG q)<=1024)))/\Ext w w':=by
 have H0:=hid h0;have HS:=hid (fun W v a=>Pr W v p q a n0 m0);generalize hz:max (AG p.natAbs) (AG q)=z at *;clear hz;obtain⟨bz,kW⟩:∃bz,decide (z<=1024)=bz:=⟨_,rfl⟩;have zN:decide ((z:Int)<=1024)=bz:=by rw[<-kW,decide_eq_decide];omega
 rw[kW];obtain⟨b0,l0,A0,c0,k0,D0,e0,rfl⟩:=h0.shape;clear h0 n0 m0;go_enter Tryz.func20,Tryz.ntmps20;go_wp2_with fail;have hb0:=(Blk.new w 26 #[.bool b0,.slice A0 l0 c0,.slice D0 k0 e0]);have aq:=((Ext.refl w).alloc (.cells #[.bool b0,.slice A0 l0 c0,.slice D0 k0 e0] 26));have am:w.heap.size+1=(w.alloc (.cells #[.bool b0,.slice A0 l0 c0,.slice D0 k0 e0] 26)).heap.size:=by simp
 generalize w.alloc (.cells #[.bool b0,.slice A0 l0 c0,.slice D0 k0 e0] 26)=wo at *;have ak:=hid hb0;have HX:=hid aq;have HZ:Hid (w.heap.size+1<=wo.heap.size):=hid (by omega);clear aq am hb0;refine(HS.out _ _ (H0.out.ext HX.out)).mono ?_
 rintro e w1 ⟨rfl,hx0⟩;have HX:=hid (HX.out.trans hx0);have dY:=hid hx0.size;have ak:=hid (ak.out.ext hx0);clear hx0;have bA:=ak.out.three;go_wp2_with fail;go_ret;exact⟨rfl,HX.out⟩
def BG(w:World)(v:Value)(x:X2):Prop:=∃A n c A' n' c',v= .agg #[.bool (decide (x.p<0)),.slice A n c,.slice A' n' c',.int .i64 (x.st:Int)]/\Ag 0 w (.agg #[.bool (decide (x.p<0)),.slice A n c,.slice A' n' c']) x.p x.q
theorem BG.ext{w w':World}{v:Value}{x:X2}(h:BG w v x)(hx:Ext w w'):BG w' v x:=by
 obtain⟨A,n,c,A',n',c',rfl,h⟩:=h;exact⟨A,n,c,A',n',c',rfl,h.ext hx⟩
theorem BG.open(w:World):BG w (.agg #[.bool false,.slice none 0 0,.slice none 0 0,.int .i64 0]) X2.O:=⟨none,0,0,none,0,0,rfl,Ag.zero _ _⟩
theorem BG.undef(w:World):BG w (.agg #[.bool false,.slice none 0 0,.slice none 0 0,.int .i64 2]) X2.U:=⟨none,0,0,none,0,0,rfl,Ag.zero _ _⟩
theorem Blk.fourX{w:World}{g:Nat}{t:TypeId}{a b c d:Value}(h:Blk w g t #[a,b,c,d]):w.cell? ⟨g,0,none⟩=some a/\w.cell? ⟨g,1,none⟩=some b/\w.cell? ⟨g,2,none⟩=some c/\w.cell? ⟨g,3,none⟩=some d/\w.frozen? ⟨g,0,none⟩=false/\w.frozen? ⟨g,1,none⟩=false/\w.frozen? ⟨g,2,none⟩=false/\w.frozen? ⟨g,3,none⟩=false/\g<w.heap.size:=
 ⟨h.cell 0,h.cell 1,h.cell 2,h.cell 3,h.frozen 0,h.frozen 1,h.frozen 2,h.frozen 3,h.lt⟩
theorem AF{w:World}{g:Nat}{t:TypeId}{a b c d:Value}(h:Blk w g t #[a,b,c,d])(a' b' c' d':Value):
  (w.setCell ⟨g,0,none⟩ a').cell? ⟨g,0,none⟩=some a'/\((w.setCell ⟨g,0,none⟩ a').setCell ⟨g,1,none⟩ b').cell? ⟨g,1,none⟩=some b'/\(((w.setCell ⟨g,0,none⟩ a').setCell ⟨g,1,none⟩ b').setCell ⟨g,2,none⟩ c').cell? ⟨g,2,none⟩=some c'/\((((w.setCell ⟨g,0,none⟩ a').setCell ⟨g,1,none⟩ b').setCell ⟨g,2,none⟩ c').setCell ⟨g,3,none⟩ d').cell? ⟨g,3,none⟩=some d':=
 ⟨(h.set_ 0 a').cell 0,((h.set_ 0 a').set_ 1 b').cell 1,(((h.set_ 0 a').set_ 1 b').set_ 2 c').cell 2,((((h.set_ 0 a').set_ 1 b').set_ 2 c').set_ 3 d').cell 3⟩
theorem Eg(w:World)(v:Value)(p:Int)(q:Nat)(h0:Ag 0 w v p q)(n0:(Ac p.natAbs).length<=100000)(m0:(Ac q).length<=100000):
  Calls Tryz.prog 183 #[v,.bool true] w fun e w'=>∃v',e= .returned v'/\BG w' v' (AJ p q)/\Ext w w':=by
 have H0:=hid h0;have HS:=hid (fun W v a=>FY W v p q a n0 m0);obtain⟨b,n,A,c,n',A',c',rfl⟩:=h0.shape;have HB:=hid h0.arr.sign;clear h0 n0 m0;obtain⟨bz,kW⟩:∃bz,decide (max (AG p.natAbs) (AG q)<=1024)=bz:=⟨_,rfl⟩;rw[kW]at HS;have HZ:=hid kW;clear kW;go_enter Tryz.func183,Tryz.ntmps183;go_wp2_with fail;have hb0:=(Blk.new w 26 #[.bool b,.slice A n c,.slice A' n' c']).alloc (.cells #[.bool false,.slice none 0 0,.slice none 0 0,.int .i64 0] 136);have al:=Blk.new (w.alloc (.cells #[.bool b,.slice A n c,.slice A' n' c'] 26)) 136 #[.bool false,.slice none 0 0,.slice none 0 0,.int .i64 0];have aq:=((Ext.refl w).alloc (.cells #[.bool b,.slice A n c,.slice A' n' c'] 26)).alloc (.cells #[.bool false,.slice none 0 0,.slice none 0 0,.int .i64 0] 136);simp only[World.size_alloc]at al;generalize (w.alloc (.cells #[.bool b,.slice A n c,.slice A' n' c'] 26)).alloc (.cells #[.bool false,.slice none 0 0,.slice none 0 0,.int .i64 0] 136)=wo at *;have HX:=hid aq;have ak:=hid hb0;have ai:=hid al;clear aq hb0 al;refine(HS.out _ _ (H0.out.arr.ext HX.out)).mono ?_
 rintro e w1 ⟨rfl,ag⟩;have ar:=hid (HX.out.trans ag);have ak:=hid (ak.out.ext ag);have ai:=hid (ai.out.ext ag);clear ag;cases bz
 case false=>
  have q0:=ai.out.fourX;go_wp2_with fail;obtain⟨r0,r1,r2,r3⟩:=AF ai.out (.bool false) (.slice none 0 0) (.slice none 0 0) (.int .i64 0);refine bodyPost_ret (v:= .agg #[.bool false,.slice none 0 0,.slice none 0 0,.int .i64 0]) (by simp[results,Tryz.results183,go_sem,r0,r1,r2,r3]) rfl ?_
  refine⟨_,rfl,?_,(((ar.out.setCell (Nat.le_succ _) _).setCell (Nat.le_succ _) _).setCell (Nat.le_succ _) _).setCell (Nat.le_succ _) _⟩;have he:AJ p q=X2.O:=if_neg (of_decide_eq_false HZ.out);rw[he];exact BG.open _
 case true=>
  have u0:=ak.out.three;have q0:=ai.out.fourX;go_wp2_with fail;obtain⟨r0,r1,r2,r3⟩:=AF ai.out (.bool b) (.slice A n c) (.slice A' n' c') (.int .i64 1);refine bodyPost_ret (v:= .agg #[.bool b,.slice A n c,.slice A' n' c',.int .i64 1]) (by simp[results,Tryz.results183,go_sem,r0,r1,r2,r3]) rfl ?_
  have bc:=(((ar.out.setCell (p:=⟨w.heap.size+1,0,none⟩) (Nat.le_succ _) (.bool b)).setCell (p:=⟨w.heap.size+1,1,none⟩) (Nat.le_succ _) (.slice A n c)).setCell (p:=⟨w.heap.size+1,2,none⟩) (Nat.le_succ _) (.slice A' n' c')).setCell (p:=⟨w.heap.size+1,3,none⟩) (Nat.le_succ _) (.int .i64 1);refine⟨_,rfl,?_,bc⟩;have he:AJ p q=⟨1,p,q⟩:=if_pos (of_decide_eq_true HZ.out);rw[he,HB.out];exact⟨A,n,c,A',n',c',rfl,by rw[<-HB.out];exact H0.out.ext bc⟩
theorem I8(w:World)(v0:Value)(xs:List Nat)(n:Nat)(h0:Arr w v0 xs)(hl:xs.length<=1000000)(hn:n<=64):
  Calls Tryz.prog 193 #[v0,.int .i64 (n:Int)] w fun e w'=>∃v',e= .returned v'/\Own w.heap.size w' v' (Ac (val xs ^ n))/\Ext w w':=by
 have H0:=hid h0;have hV:(Ac (val xs)).length<=1000000:=Nat.le_trans (An h0.ok) hl;have cY:=hid (fun W=>FC W 1 (by decide));rw[show ((1:Nat):Int)=1 from rfl]at cY;have ll:=hid (fun W m k (hk:k<=64) a (hx:Ext w W)=>Hh W m v0 (Ac (val xs ^ k)) xs a (h0.ext hx) (by have:=Bt hV hk;omega) (by omega));have ll:Hid (∀W m k,k<n->Arr W m (Ac (val xs ^ k))->Ext w W->Calls Tryz.prog 225 #[m,v0] W fun e w'=>∃v',e= .returned v'/\Own W.heap.size w' v' (Ac (val xs ^ (k+1)))/\Ext W w'):=hid (fun W m k hk a hx=>by
  have:=ll.out W m k (by omega) a hx;rw[Ad,<-Nat.pow_succ]at this;exact this)
 obtain⟨l0,A0,c0,rfl⟩:=h0.shape;clear h0 hl hV;generalize val xs=V at *;go_enter Tryz.func193,Tryz.ntmps193;go_wp2_with fail;refine(cY.out _).mono ?_
 rintro e w1 ⟨r0,rfl,aB,hx0⟩;have R0:=hid aB;have ar:=hid hx0;obtain⟨g0,G0,j0,rfl⟩:=aB.shape;clear aB hx0;go_wp2_with fail;go_loopw [5,8] (fun s4 s7 wr=>∃(k:Nat) (m:Nat) (A:Option Addr) (c:Nat),k<=n/\s7= .int .i64 (k:Int)/\s4= .slice A m c/\Own w.heap.size wr s4 (Ac (V ^ k))/\Ext w wr) (fun _ s7 _=>n-(intOf s7).toNat)
 case atStart=>exact⟨0,g0,G0,j0,Nat.zero_le _,rfl,rfl,R0.out,ar.out⟩
 case round=>
  obtain⟨k,m,A,c,hk,rfl,rfl,ho,hx⟩:=hrel;have HO:=hid ho;have HX:=hid hx;clear ho hx;by_cases hlt:k<n
  ·go_wp2_with fail;refine(ll.out _ _ k hlt HO.out.arr HX.out).mono ?_
   rintro e w2 ⟨v2,rfl,cU,ae⟩;have d9:=hid (cU.mono HX.out.size);have aI:=hid (HX.out.trans ae);obtain⟨n2,A2,c2,rfl⟩:=cU.shape;clear cU ae;go_wp2_with fail;go_roundw
   case rel=>exact⟨k+1,n2,A2,c2,by omega,by go_num,rfl,d9.out,aI.out⟩
   case measure=>simp[intOf];omega
  ·obtain rfl:k=n:=by omega
   go_wp2_with fail;go_ret;exact⟨_,rfl,HO.out,HX.out⟩
end Big
end Go.Proofs.YtkoaogkknnelaaaGreatDoor
