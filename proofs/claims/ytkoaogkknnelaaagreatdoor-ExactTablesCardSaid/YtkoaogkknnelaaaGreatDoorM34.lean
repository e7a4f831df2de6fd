import Derived.Test.YtkoaogkknnelaaaGreatDoorM33
set_option linter.unusedVariables false
set_option linter.unusedSimpArgs false
set_option maxHeartbeats 8000000
set_option maxRecDepth 100000
namespace Go.Proofs.YtkoaogkknnelaaaGreatDoor
namespace Big
open Lib renaming hid → J
open Go.RowKit
def CV(l:List Nat):Array Value:=(l.map din).toArray
theorem Nw(l:List Nat)(i x:Nat):(CV l).setIfInBounds i (.int .i64 (x:Int))=CV (l.set i x):=by
 apply qck;simp[CV,List.map_set,din]
theorem Gm(l:List Nat)(i:Nat)(h:i<l.length):(CV l)[i]? =some (.int .i64 ((l.getD i 0:Nat):Int)):=by
 unfold CV;rw[qbL,IC h,qaa,qad h];rfl
theorem PD(n:Nat)(hn:n<=1000000)(W:World):(Instr.makeSlice 41 (.int .i64 (n:Int)) (.int .i64 (n:Int))).run Tryz.prog W=
  .ok (.slice (some ⟨W.heap.size,0,none⟩) n n) (W.alloc (.cells (CV (List.replicate n 0)) 3)):=by
 obtain⟨i0,hi,aD,hz1,bu⟩:=info_parts JT;have hr:=run_make (P:=Tryz.prog) W 41 3 i0 _ Tryz.underlying41 hi aD .i64 .i64 (n:Int) (n:Int) (by omega) (Int.le_refl _) (by rw[bu];omega) (by omega);have hm:madeCells (Value.cells (.int .i64 0)) (n*1)=CV (List.replicate n 0):=by
  apply qck;apply qct;intro i;simp only[madeCells,CV,Value.cells];rw[Array.getElem?_toList,Array.getElem?_map,qaP,qbQ];rcases qah i n with h|h
  ·rw[qca,if_pos (by omega),if_pos h];simp[din,Nat.mod_one]
  ·rw[qca,if_neg (by omega),if_neg (by omega)];rfl
 rw[hz1,qaq,hm]at hr;exact hr
def DK(g b:Nat)(nv:Value)(w:World)(v:Value)(l:List Nd):Prop:=
 ∃A c,v= .slice A l.length c/\(0<l.length->∃q o,A=some ⟨q,o,none⟩/\q<w.heap.size/\q≠g/\q≠b/\nv.ownBlock≠some q/\∀i (hi:i<l.length),OG w q (o+i*5) l[i])
theorem DK.read{g b:Nat}{nv:Value}{w:World}{v:Value}{l:List Nd}(h:DK g b nv w v l):RNd w v l:=by
 obtain⟨A,c,rfl,h1⟩:=h;refine⟨A,c,rfl,fun hp=> ?_⟩;obtain⟨q,o,rfl,hq,_,_,_,hc⟩:=h1 hp;exact⟨q,o,rfl,hq,hc⟩
theorem DK.keep{g b:Nat}{nv nv':Value}{w w':World}{v:Value}{l:List Nd}(h:DK g b nv w v l)(hk:KG g b nv nv' w w'):DK g b nv' w' v l:=by
 obtain⟨A,c,rfl,h1⟩:=h;refine⟨A,c,rfl,fun hp=> ?_⟩;obtain⟨q,o,rfl,hq,h2,h3,h4,hc⟩:=h1 hp;have hb:=hk.block q hq h2 h3 h4;have hk2:∀o,w'.cell? ⟨q,o,none⟩=w.cell? ⟨q,o,none⟩:=fun o=>World.cell?_of_block (a:=⟨q,o,none⟩) hb
 refine⟨q,o,rfl,qan hq hk.size,h2,h3,fun e=> ?_,fun i hi=> ?_⟩
 ·rcases hk.move q e with h5|h5
  ·exact h4 h5
  ·omega
 ·obtain⟨q0,q1,q2,q3,q4⟩:=hc i hi;exact⟨(hk2 _).trans q0,(hk2 _).trans q1,(hk2 _).trans q2,(hk2 _).trans q3,(hk2 _).trans q4⟩
theorem DK.old{g b:Nat}{nv:Value}{w0 w:World}{v:Value}{l:List Nd}(h:RNd w0 v l)(hx:Ext w0 w)(hg:w0.heap.size<=g)(hb:w0.heap.size<=b)(hr:∀j,nv.ownBlock=some j->w0.heap.size<=j):DK g b nv w v l:=by
 obtain⟨A,c,rfl,h1⟩:=h;refine⟨A,c,rfl,fun hp=> ?_⟩;obtain⟨q,o,rfl,hq,hc⟩:=h1 hp;exact⟨q,o,rfl,qan hq hx.size,by omega,by omega,fun e=>by have:=hr q e;omega,fun i hi=>(hc i hi).ext hx hq⟩
def Gw(B g b m:Nat)(ns:List Nd)(nv:Value)(e:Ex)(v:Value)(w:World)(i:Nat)(wr:World):Prop:=
 ∃nv',KG g b nv nv' w wr/\GrP B g b wr (BP ([],ns) ((Ak 0 e).take i)).2 nv'/\Blk wr m 3 (CV ((BP ([],ns) ((Ak 0 e).take i)).1++List.replicate (e.size-i) 0))/\DK g b nv' wr v (Ak 0 e)/\
  m≠g/\m≠b/\nv'.ownBlock≠some m/\w.heap.size<=m/\B5 wr/\v.ownBlock≠some m
theorem Gw.start{B g b:Nat}{ns:List Nd}{nv:Value}{e:Ex}{v:Value}{w w1:World}(h:GrP B g b w ns nv)(hv:DK g b nv w v (Ak 0 e))(hx:Ext w w1)(hm:B5 w):
  Gw B g b w1.heap.size ns nv e v w 0 (w1.alloc (.cells (CV (List.replicate e.size 0)) 3)):=by
 have ah:=hx.alloc (.cells (CV (List.replicate e.size 0)) 3);have hg:=h.lt;have hb:=h.map.lt;have hs:=hx.size;refine⟨nv,KG.of_ext ah,?_,?_,hv.keep (KG.of_ext ah),by omega,by omega,fun e=> ?_,hs,hm.ext ah,?_⟩
 ·rw[qbw];exact h.keep ah
 ·rw[qbw];show Blk _ _ _ (CV ([]++List.replicate (e.size-0) 0));rw[qaU,Nat.sub_zero];exact Blk.new _ _ _
 ·have:=BV h.row e;omega
 ·obtain⟨A,c,rfl,h1⟩:=hv;obtain⟨q,o,rfl,hq,_⟩:=h1 (by rw[AD];exact e.size_pos);intro he;have h2:q=w1.heap.size:=qbh he;omega
theorem Gw.next {B g b m:Nat} {ns:List Nd} {nv bO nv2:Value} {e:Ex} {v:Value} {w wr w1 w2:World} {i:Nat} (hg:e.Good) (hs:AK ns) (hi:i<e.size) (hl:i<(Ak 0 e).length)
  (h1:KG g b nv bO w wr) (h4:DK g b bO wr v (Ak 0 e)) (hb:Blk wr m 3 (CV ((BP ([],ns) ((Ak 0 e).take i)).1++List.replicate (e.size-i) 0)))
  (m1:m≠g) (m2:m≠b) (m3:bO.ownBlock≠some m) (m4:w.heap.size<=m) (m5:v.ownBlock≠some m) (hm:B5 wr) (hx:Ext wr w1) (hk:KG g b bO nv2 w1 w2)
  (hB:B<=w.heap.size) (hp:GrP B g b w2 (Bs (BP ([],ns) ((Ak 0 e).take i)).2 (B8 (BP ([],ns) ((Ak 0 e).take i)).1 (Ak 0 e)[i])).2 nv2) (hp0:GrP B g b w1 (BP ([],ns) ((Ak 0 e).take i)).2 bO):
  Gw B g b m ns nv e v w (i+1) (w2.setCell ⟨m,i,none⟩ (.int .i64 ((Bs (BP ([],ns) ((Ak 0 e).take i)).2 (B8 (BP ([],ns) ((Ak 0 e).take i)).1 (Ak 0 e)[i])).1:Int))):=by
 have mR:=FG.at hs hg i (qaK hi);have hmw:m<w1.heap.size:=qan hb.lt hx.size;have k1:=(KG.of_ext hx).trans hk;have hb2:Blk w2 m 3 _:=k1.blk hb m1 m2 m3;have XA:nv2.ownBlock≠some m:=fun e=>by
  rcases k1.move m e with h5|h5
  ·exact m3 h5
  ·have:=hb.lt;omega
 have lA:∀u:Value,KG g b nv nv2 w (w2.setCell ⟨m,i,none⟩ u):=fun u=>by
  have k2:=h1.trans k1;have jI:(w2.setCell ⟨m,i,none⟩ u).heap.size=w2.heap.size:=by simp
  have iP:=Below.setCell (Below.refl m w2) (p:=⟨m,i,none⟩) (qab _) u;exact⟨iP.os.trans k2.os,iP.tape.trans k2.tape,iP.output.trans k2.output,by rw[jI];exact k2.size,fun k p1 p2 p3 p4=>(Below.heap_setCell _ _ _ k (by show k≠m;omega)).trans (k2.block k p1 p2 p3 p4),k2.move⟩
 have hst:BP ([],ns) ((Ak 0 e).take (i+1))=Il (BP ([],ns) ((Ak 0 e).take i)) (Ak 0 e)[i]:=Gp _ _ _ hl;have oq:B5 w2:=(hm.ext hx).below (hk.below hp0) hp0.low;refine⟨nv2,lA _,?_,?_,?_,m1,m2,XA,m4,oq.below (Below.setCell (Below.refl B w2) (p:=⟨m,i,none⟩) (by show B<=m;omega) _) hp.low,m5⟩
 ·rw[hst,GD];refine⟨hp.blk.far (p:=⟨m,i,none⟩) (fun e=>m1 e.symm) _,?_,hp.map.kept (Below.heap_setCell _ _ _ b (fun e=>m2 e.symm)),hp.lo,hp.lo2,hp.ok,hp.few,hp.low⟩;exact Cp hp.row (fun k hk=>Below.heap_setCell _ _ _ k (fun e=>XA (by rw[hk];exact congrArg some e)))
 ·have h6:=hb2.set_ i (.int .i64 ((Bs (BP ([],ns) ((Ak 0 e).take i)).2 (B8 (BP ([],ns) ((Ak 0 e).take i)).1 (Ak 0 e)[i])).1:Int));rw[Nw]at h6;rw[hst,GD];have hl2:=mR.len;have h7:((BP ([],ns) ((Ak 0 e).take i)).1++List.replicate (e.size-i) 0).set i (Bs (BP ([],ns) ((Ak 0 e).take i)).2 (B8 (BP ([],ns) ((Ak 0 e).take i)).1 (Ak 0 e)[i])).1=
    ((BP ([],ns) ((Ak 0 e).take i)).1++[(Bs (BP ([],ns) ((Ak 0 e).take i)).2 (B8 (BP ([],ns) ((Ak 0 e).take i)).1 (Ak 0 e)[i])).1])++List.replicate (e.size-(i+1)) 0:=by
   rw[qbq _ _ (by omega),hl2,qaR,show e.size-i=(e.size-(i+1))+1 by omega,qbI,qce,qao];rfl
  rw[h7]at h6;exact h6
 ·have h8:=(h4.keep k1);obtain⟨A,c,rfl,h9⟩:=h8;refine⟨A,c,rfl,fun hp=> ?_⟩;obtain⟨q,o,rfl,hq,p2,p3,p4,hc⟩:=h9 hp;have hqm:q≠m:=fun e=>m5 (congrArg some e)
  have hk2:∀o u,(w2.setCell ⟨m,i,none⟩ u).cell? ⟨q,o,none⟩=w2.cell? ⟨q,o,none⟩:=fun o u=>World.cell?_of_block (a:=⟨q,o,none⟩) (Below.heap_setCell _ _ _ q hqm)
  refine⟨q,o,rfl,by simpa using hq,p2,p3,p4,fun j hj=> ?_⟩;obtain⟨q0,q1,q2,q3,q4⟩:=hc j hj;exact⟨(hk2 _ _).trans q0,(hk2 _ _).trans q1,(hk2 _ _).trans q2,(hk2 _ _).trans q3,(hk2 _ _).trans q4⟩
theorem AK.load{ns:List Nd}(h:AK ns){i:Nat}(hi:i<ns.length):Bs (ns.take i) ns[i]=(i,ns.take (i+1)):=by
 have mM:ns[i]∉ns.take i:=by
  intro hm;obtain⟨j,hj,he⟩:=qbP hm;rw[qam]at hj;rw[List.getElem_take]at he;have:=KT h.1 (by omega) hi he;omega
 unfold Bs;rw[if_neg mM,qam,qbG (by omega),List.take_append_getElem hi]
theorem AK.take{ns:List Nd}(h:AK ns)(i:Nat):AK (ns.take i):=h.pre (List.take_prefix i ns)
theorem CF.plain{i:Nat}{x:Nd}(h:CF i x):AA x=true:=by
 rcases h with ⟨k,t,rfl,ho⟩|⟨k,n,j,rfl,ho,hj⟩|⟨k,j,q,rfl,hk,hj,hq⟩
 ·have hk:1<=k/\k<=4:=by rcases ho with ⟨h,_⟩|⟨h,_⟩|⟨h,_⟩<;>omega
  unfold AA Co Cc;rw[if_neg (c:=(k:Int)=10) (by omega)];rcases ho with ⟨rfl,h,_⟩|⟨rfl,h⟩|⟨h,rfl⟩
  ·simp[h]
  ·simp[h]
  ·rw[if_neg (by simp only;omega),if_neg (by simp only;omega)];rfl
 ·obtain⟨h1,h2,h3,h4⟩:=ho;unfold AA Co Cc;rw[if_neg (by simp only;omega),if_neg (by simp only;omega)];by_cases hk:k=10
  ·subst hk;simp[h3,h4]
  ·rw[if_neg (by simp only;omega)];simp[h2 hk]
 ·unfold AA Co Cc;rw[if_neg (by simp only;omega),if_neg (by simp only;omega),if_neg (by simp only;omega)];rfl
theorem Lt{x:Nd}{l:List Nd}{i:Nat}(hi:i<l.length)(hx:l[i]=x)(h:∀j (hj:j<l.length),j<i->l[j]≠x):CE x l=i:=by
 induction l generalizing i with
 |nil=>simp at hi
 |cons y l ih=>
  rw[Fx];cases i with
  |zero=>
   simp only[List.getElem_cons_zero]at hx;rw[if_pos hx]
  |succ i=>
   have h0:=h 0 (by simp) (by omega);simp only[List.getElem_cons_zero]at h0;rw[if_neg h0,ih (by simpa using hi) (by simpa using hx) (fun j hj x6=>by
    have:=h (j+1) (by simpa using hj) (by omega)
    simpa using this)]
structure GrR (B g:Nat) (w:World) (ns:List Nd) (rv:Value):Prop where
 blk:Blk w g 71 #[rv]
 row:AB B w rv ns
 lo:B<=g
 ok:AK ns
 few:ns.length<=4096
theorem GrR.lt{B g:Nat}{w:World}{ns:List Nd}{rv:Value}(h:GrR B g w ns rv):g<w.heap.size:=h.blk.lt
theorem GrR.keep{B g:Nat}{w w':World}{ns:List Nd}{rv:Value}(h:GrR B g w ns rv)(hx:Ext w w'):GrR B g w' ns rv:=
 ⟨h.blk.ext hx,h.row.ext hx,h.lo,h.ok,h.few⟩
theorem GrR.apart2{B g:Nat}{w:World}{ns:List Nd}{rv:Value}(h:GrR B g w ns rv):rv.ownBlock≠some g:=by
 intro e;have hb:=h.blk;have hr:=h.row;unfold AB at hr;unfold Blk at hb;rcases hr.2 with ⟨rfl,_⟩|⟨q,cap,cur,rfl,_,hh,_⟩
 ·cases e
 ·simp only[Value.ownBlock,qar]at e;subst e;rw[hb]at hh;injection hh with hh
  injection hh with _ hh _
  exact absurd hh (by decide)
theorem KG.belowR{B g:Nat}{n1 n2:Value}{w w':World}{ns:List Nd}(h:KG g g n1 n2 w w')(hr:GrR B g w ns n1):Below B w w':=
 ⟨h.os,h.tape,h.output,h.size,fun k hk=>by
  have h1:=hr.blk.lt;have h2:=hr.lo;exact h.block k (by omega) (by omega) (by omega) (fun e=>by have:=AQ hr.row k e;omega)⟩
theorem Blk.oneG{w:World}{g:Nat}{t:TypeId}{a:Value}(h:Blk w g t #[a]):w.cell? ⟨g,0,none⟩=some a/\w.frozen? ⟨g,0,none⟩=false/\g<w.heap.size:=
 ⟨h.cell 0,h.frozen 0,h.lt⟩
theorem DK.newR{B g:Nat}{rv:Value}{w0 w:World}{v:Value}{l ns:List Nd}(h:AB w0.heap.size w v l)(hg:GrR B g w0 ns rv):DK g g rv w v l:=by
 obtain⟨A,c,hv,h1⟩:=h.read;refine⟨A,c,hv,fun hp=> ?_⟩;obtain⟨q,o,rfl,hq,hc⟩:=h1 hp;have fC:=AQ h q (by rw[hv];rfl);have h2:=hg.lt;exact⟨q,o,rfl,hq,by omega,by omega,fun e=>by have:=BV hg.row e;omega,hc⟩
theorem OA(w:World)(k a b n:Int)(s:ByteArray)(hk:Az k=0):
  Calls Tryz.prog 85 #[.agg #[.int .i64 k,.int .i64 a,.int .i64 b,.int .i64 n,.string s]] w fun e w'=>e= .returned (.slice none 0 0)/\Ext w w':=by
 have HO:=J (fun W=>Bv W k);rw[hk]at HO;clear hk;go_enter Tryz.func85,Tryz.ntmps85;go_wp2_with fail;refine(HO.o _).mono ?_
 rintro e w1 ⟨rfl,rfl⟩;go_wp2_with fail;go_ret;exact⟨rfl,(Ext.refl w).alloc _⟩
theorem SU(w:World)(k a b n:Int)(s:ByteArray)(hk:Az k=1):
  Calls Tryz.prog 85 #[.agg #[.int .i64 k,.int .i64 a,.int .i64 b,.int .i64 n,.string s]] w fun e w'=>∃b,e= .returned (.slice (some ⟨b,0,none⟩) 1 1)/\w'.cell? ⟨b,0,none⟩=some (.int .i64 a)/\w.heap.size<=b/\b<w'.heap.size/\Ext w w':=by
 have HO:=J (fun W=>Bv W k);rw[hk]at HO;clear hk;go_enter Tryz.func85,Tryz.ntmps85;go_wp2_with fail;refine(HO.o _).mono ?_
 rintro e w1 ⟨rfl,rfl⟩;go_wp2_with fail;go_ret;exact⟨_,rfl,Db _ _ _ _ 0,by simp,by simp,((Ext.refl w).alloc _).alloc _⟩
theorem QW(w:World)(k a b n:Int)(s:ByteArray)(hk:Az k=2):
  Calls Tryz.prog 85 #[.agg #[.int .i64 k,.int .i64 a,.int .i64 b,.int .i64 n,.string s]] w fun e w'=>∃c,e= .returned (.slice (some ⟨c,0,none⟩) 2 2)/\w'.cell? ⟨c,0,none⟩=some (.int .i64 a)/\w'.cell? ⟨c,1,none⟩=some (.int .i64 b)/\w.heap.size<=c/\c<w'.heap.size/\Ext w w':=by
 have HO:=J (fun W=>Bv W k);rw[hk]at HO;clear hk;go_enter Tryz.func85,Tryz.ntmps85;go_wp2_with fail;refine(HO.o _).mono ?_
 rintro e w1 ⟨rfl,rfl⟩;go_wp2_with fail;go_ret;exact⟨_,rfl,Db _ _ _ _ 0,Db _ _ _ _ 1,by simp,by simp,((Ext.refl w).alloc _).alloc _⟩
def Nh(zs:List Nat)(w:World)(e:Ending)(w':World):Prop:=
 ∃A c,e= .returned (.slice A zs.length c)/\Ext w w'/\(0<zs.length->∃b,A=some ⟨b,0,none⟩/\w.heap.size<=b/\b<w'.heap.size/\∀i (YQ:i<zs.length),w'.cell? ⟨b,i,none⟩=some (.int .i64 ((zs.getD i 0:Nat):Int)))
theorem CP{k:Nat}{t:Tx}(h:Kc k t):BN ⟨(k:Int),0,0,0,t⟩=[]:=by
 unfold BN;rw[if_pos (by rcases h with ⟨h,_⟩|⟨h,_⟩|⟨h,_⟩<;>simp only<;>omega)]
theorem Cz{k:Nat}{n:Int}{j:Nat}(h:U8 k n):BN ⟨(k:Int),(j:Int),0,n,[]⟩=[j]:=by
 unfold BN;have:=h.1;rw[if_neg (by simp only;omega),if_neg (by simp only;omega)];rfl
theorem BW{k j q:Nat}(hk:6<=k/\k<=9):BN ⟨(k:Int),(j:Int),(q:Int),0,[]⟩=[j,q]:=by
 unfold BN;rw[if_neg (by simp only;omega),if_pos (by simp only;omega)];rfl
theorem CF.args_lt{i:Nat}{x:Nd}(h:CF i x):∀a∈BN x,a<i:=by
 rcases h with ⟨k,t,rfl,ho⟩|⟨k,n,j,rfl,ho,hj⟩|⟨k,j,q,rfl,hk,hj,hq⟩
 ·rw[CP ho];intro a ha;cases ha
 ·rw[Cz ho];intro a ha;simp only[qaQ]at ha;omega
 ·rw[BW hk];intro a ha;simp only[qbl,qbi,or_false]at ha;omega
theorem CF.args_len{i:Nat}{x:Nd}(h:CF i x):(BN x).length<=2:=by
 rcases h with ⟨k,t,rfl,ho⟩|⟨k,n,j,rfl,ho,hj⟩|⟨k,j,q,rfl,hk,hj,hq⟩
 ·rw[CP ho];simp
 ·rw[Cz ho];simp
 ·rw[BW hk];simp
theorem CF.oper{i:Nat}{x:Nd}(h:CF i x):Az x.kind=((BN x).length:Int):=by
 rcases h with ⟨k,t,rfl,ho⟩|⟨k,n,j,rfl,ho,hj⟩|⟨k,j,q,rfl,hk,hj,hq⟩
 ·rw[CP ho];have hk:1<=k/\k<=4:=by rcases ho with ⟨h,_⟩|⟨h,_⟩|⟨h,_⟩<;>omega
  unfold Az;rw[if_neg (by simp only;omega),if_pos (by simp only;omega)];rfl
 ·rw[Cz ho];have:=ho.1;unfold Az;rw[if_neg (by simp only;omega),if_neg (by simp only;omega),if_neg (by simp only;omega)];rfl
 ·rw[BW hk];unfold Az;rw[if_neg (by simp only;omega),if_neg (by simp only;omega),if_pos (by simp only;omega)];rfl
theorem KH(w:World)(x:Nd){m:Nat}(h:CF m x):Calls Tryz.prog 85 #[ndV x] w (Nh (BN x) w):=by
 have ho:=h.oper;rcases h with ⟨k,t,rfl,hk⟩|⟨k,n,j,rfl,hk,hj⟩|⟨k,j,q,rfl,hk,hj,hq⟩
 ·rw[CP hk]at ho ⊢;refine(OA w k 0 0 0 ⟨(t:List UInt8).toArray⟩ ho).mono ?_
  rintro e w' ⟨rfl,hx⟩;exact⟨_,_,rfl,hx,fun hp=>absurd hp (by decide)⟩
 ·rw[Cz hk]at ho ⊢;refine(SU w k j 0 n ⟨([]:List UInt8).toArray⟩ ho).mono ?_
  rintro e w' ⟨b,rfl,hc,h1,h2,hx⟩;refine⟨_,_,rfl,hx,fun _=>⟨b,rfl,h1,h2,fun i hi=> ?_⟩⟩;simp only[qal]at hi;obtain rfl:i=0:=by omega
  exact hc
 ·rw[BW hk]at ho ⊢;refine(QW w k j q 0 ⟨([]:List UInt8).toArray⟩ ho).mono ?_
  rintro e w' ⟨b,rfl,hc,df,h1,h2,hx⟩;refine⟨_,_,rfl,hx,fun _=>⟨b,rfl,h1,h2,fun i hi=> ?_⟩⟩;simp only[qaC,qaZ]at hi;obtain rfl|rfl:i=0\/i=1:=by omega
  ·exact hc
  ·exact df
theorem LG(B g:Nat)(w:World)(ns:List Nd)(rv:Value)(h:GrR B g w ns rv)(i:Int):
  Calls Tryz.prog 89 #[.pointer (some ⟨g,0,none⟩),.int .i64 i] w fun e w'=>e= .returned (.bool (decide (0<=i/\i<(ns.length:Int))))/\Ext w w':=by
 obtain⟨k0,_,hg⟩:=h.blk.oneG;obtain⟨A2,c2,rfl⟩:=h.row.shape;clear h;by_cases h0:0<=i
 ·by_cases h1:i<(ns.length:Int)
  ·have hd:decide (0<=i/\i<(ns.length:Int))=true:=decide_eq_true ⟨h0,h1⟩;rw[hd];clear hd;go_enter Tryz.func89,Tryz.ntmps89;go_wp2_with fail;go_ret;exact⟨rfl,Ext.refl w⟩
  ·have hd:decide (0<=i/\i<(ns.length:Int))=false:=decide_eq_false (fun h=>h1 h.2);rw[hd];clear hd;go_enter Tryz.func89,Tryz.ntmps89;go_wp2_with fail;go_ret;exact⟨rfl,Ext.refl w⟩
 ·have hd:decide (0<=i/\i<(ns.length:Int))=false:=decide_eq_false (fun h=>h0 h.1);rw[hd];clear hd;go_enter Tryz.func89,Tryz.ntmps89;go_wp2_with fail;go_ret;exact⟨rfl,Ext.refl w⟩
theorem SD(w:World)(x:Nd)(i:Nat)(h:CF i x)(hm:B5 w)(P:Value)(m:Nat)(T:List X2)(hat:Ua w P m T)(x7:i<=m)(hT:∀x∈T,x.Ok):
  Calls Tryz.prog 139 #[ndV x,.func (.func 140) #[] #[P]] w (C3 (Bj x (T.getD x.a.toNat X2.O) (T.getD x.b.toNat X2.O)) w):=by
 have hg:∀j,(T.getD j X2.O).Ok:=fun j=>by
  rw[qaa];cases hj:T[j]? with
  |none=>exact X2.O_ok
  |some y=>exact hT y (qbf hj)
 rcases h with ⟨k,t,rfl,⟨rfl,h1,_⟩|⟨rfl,h1⟩|⟨rfl|rfl,rfl⟩⟩|⟨k,n,j,rfl,⟨h1,h2,h3,h4⟩,hj⟩|⟨k,j,q,rfl,hk,hj,hq⟩
 ·have e:∀x y,Bj ⟨((1:Nat):Int),0,0,0,t⟩ x y=AN (HJ t) (Ia t):=fun x y=>by
   unfold Bj;rw[if_pos (show ((1:Nat):Int)<5 by decide),if_pos (show ((1:Nat):Int)=1 by decide)]
  rw[e];exact Ou w t h1 hm P
 ·have e:∀x y,Bj ⟨((2:Nat):Int),0,0,0,t⟩ x y=X2.O:=fun x y=>by
   unfold Bj;rw[if_pos (show ((2:Nat):Int)<5 by decide),if_neg (show ¬((2:Nat):Int)=1 by decide)]
  rw[e];exact Ov w _ (.inl rfl) t P
 ·have e:∀x y,Bj ⟨((3:Nat):Int),0,0,0,[]⟩ x y=X2.O:=fun x y=>by
   unfold Bj;rw[if_pos (show ((3:Nat):Int)<5 by decide),if_neg (show ¬((3:Nat):Int)=1 by decide)]
  rw[e];exact Ov w _ (.inr (.inl rfl)) [] P
 ·have e:∀x y,Bj ⟨((4:Nat):Int),0,0,0,[]⟩ x y=X2.O:=fun x y=>by
   unfold Bj;rw[if_pos (show ((4:Nat):Int)<5 by decide),if_neg (show ¬((4:Nat):Int)=1 by decide)]
  rw[e];exact Ov w _ (.inr (.inr rfl)) [] P
 ·simp only[qaq];exact TT w (k:Int) j n [] (by omega) h3 h4 (fun e=>h2 (by omega)) P m T hat (by omega) _ _ rfl (hg _)
 ·simp only[qaq];have hk:k=6\/k=7\/k=8\/k=9:=by omega
  rcases hk with rfl|rfl|rfl|rfl
  ·exact LJ w _ (.inl rfl) j q [] P m T hat (by omega) (by omega) _ _ rfl rfl (hg _) (hg _)
  ·exact LJ w _ (.inr (.inl rfl)) j q [] P m T hat (by omega) (by omega) _ _ rfl rfl (hg _) (hg _)
  ·exact LJ w _ (.inr (.inr rfl)) j q [] P m T hat (by omega) (by omega) _ _ rfl rfl (hg _) (hg _)
  ·exact TV w j q [] P m T hat (by omega) (by omega) _ _ rfl rfl (hg _) (hg _)
theorem Su:(Tryz.prog.info? 136).map (fun i=>(i.zero,i.size,i.bytes))=some (some (.agg #[.bool false,.slice none 0 0,.slice none 0 0,.int .i64 0]),4,64):=by kernel_rfl
theorem PC(n:Nat)(hn:n<=1000000)(W:World):(Instr.makeSlice 137 (.int .i64 (n:Int)) (.int .i64 (n:Int))).run Tryz.prog W=
  .ok (.slice (some ⟨W.heap.size,0,none⟩) n n) (W.alloc (.cells (Fm n) 136)):=by
 obtain⟨i0,hi,aD,hz1,bu⟩:=info_parts Su;have hr:=run_make (P:=Tryz.prog) W 137 136 i0 _ Tryz.underlying137 hi aD .i64 .i64 (n:Int) (n:Int) (by omega) (Int.le_refl _) (by rw[bu];omega) (by omega);have hm:madeCells (Value.cells (.agg #[.bool false,.slice none 0 0,.slice none 0 0,.int .i64 0])) (n*4)=Fm n:=by
  apply Array.ext
  ·simp[madeCells,EV]
  ·intro i h1 h2;rw[EV]at h2;have h3:=EG n (i / 4) (i % 4) (by omega) (by omega);rw[show i / 4*4+i % 4=i by omega,Array.getElem?_eq_getElem (by rw[EV];exact h2)]at h3;have h4:i % 4=0\/i % 4=1\/i % 4=2\/i % 4=3:=by omega
   simp only[madeCells,Value.cells,Array.getElem_map,Array.getElem_range];rcases h4 with h4|h4|h4|h4<;>(rw[h4]at h3;simp only[List.getElem?_cons_zero,qcw,qar]at h3;rw[h3];simp[h4])
 rw[hz1,qaq,hm]at hr;exact hr
noncomputable def Dk(R:Nat->Bool)(ns:List Nd)(k:Nat):List X2:=CI R (ns.take k)++List.replicate (ns.length-k) X2.O
theorem JI(R:Nat->Bool)(ns:List Nd)(k:Nat)(hk:k<=ns.length):(Dk R ns k).length=ns.length:=by
 unfold Dk;rw[qac,DB,qam,qaX];omega
theorem Qk(R:Nat->Bool)(ns:List Nd):Dk R ns 0=List.replicate ns.length X2.O:=by
 unfold Dk;rw[qbw,Nat.sub_zero];rfl
theorem Sl(R:Nat->Bool)(ns:List Nd):Dk R ns ns.length=CI R ns:=by
 unfold Dk;rw[List.take_length,qaR,qcm,qbH]
theorem TB(R:Nat->Bool)(ns:List Nd)(k:Nat):∀x∈Dk R ns k,x.Ok:=by
 intro x hx;unfold Dk at hx;rcases qbt.1 hx with h|h
 ·exact Th R _ x h
 ·rw[(List.mem_replicate.1 h).2];exact X2.O_ok
theorem JH(R:Nat->Bool)(ns:List Nd)(k:Nat)(hk:k<=ns.length){j:Nat}(hj:j<k):(Dk R ns k).getD j X2.O=(CI R (ns.take k)).getD j X2.O:=by
 unfold Dk;exact Fb _ _ (by rw[DB,qam];omega)
theorem Sk(R:Nat->Bool)(ns:List Nd)(k:Nat)(hk:k<ns.length)(x:X2):(Dk R ns k).set k x=CI R (ns.take k)++x::List.replicate (ns.length-(k+1)) X2.O:=by
 have hl:(CI R (ns.take k)).length=k:=by rw[DB,qam];omega
 unfold Dk;rw[show ns.length-k=(ns.length-(k+1))+1 by omega,qbI,qbq _ _ (by omega),hl,qaR];rfl
theorem Si(R:Nat->Bool)(ns:List Nd)(k:Nat)(hk:k<ns.length)(hR:R k=true){a b:Nat}(ha:a=ns[k].a.toNat)(hb:b=ns[k].b.toNat):(Dk R ns k).set k (Bj ns[k] ((CI R (ns.take k)).getD a X2.O) ((CI R (ns.take k)).getD b X2.O))=Dk R ns (k+1):=by
 rw[Sk R ns k hk];have hl:(CI R (ns.take k)).length=k:=by rw[DB,qam];omega
 unfold Dk;rw[Hs R ns hk];unfold EJ;rw[hl,if_pos hR,ha,hb,qao];rfl
theorem TC(R:Nat->Bool)(ns:List Nd)(k:Nat)(hk:k<ns.length)(hR:R k=false):Dk R ns k=Dk R ns (k+1):=by
 have hl:(CI R (ns.take k)).length=k:=by rw[DB,qam];omega
 unfold Dk;rw[Hs R ns hk];unfold EJ;rw[hl,hR,show ns.length-k=(ns.length-(k+1))+1 by omega,qbI,qao];rfl
theorem Sj(R:Nat->Bool)(ns:List Nd)(k:Nat)(hk:k<ns.length){x:Nd}(hx:CF k x):Bj x ((Dk R ns k).getD x.a.toNat X2.O) ((Dk R ns k).getD x.b.toNat X2.O)=Bj x ((CI R (ns.take k)).getD x.a.toNat X2.O) ((CI R (ns.take k)).getD x.b.toNat X2.O):=by
 rcases hx with ⟨j,t,rfl,ho⟩|⟨j,n,a,rfl,ho,ha⟩|⟨j,a,b,rfl,hj,ha,hb⟩
 ·have:j<5:=by rcases ho with ⟨h,_⟩|⟨h,_⟩|⟨h,_⟩<;>omega
  exact EH (by simp only;omega) _ _ _ _
 ·have:=ho.1;simp only[qaq];rw[JH R ns k (by omega) ha];exact GB (by simp only;omega) (by simp only;omega) _ _ _
 ·simp only[qaq];rw[JH R ns k (by omega) ha,JH R ns k (by omega) hb]
theorem Fl.at{w:World}{c b n:Nat}{T:List X2}(h:Fl w c b T)(hn:n=T.length):w.cell? ⟨c,0,none⟩=some (.slice (some ⟨b,0,none⟩) n n):=by
 rw[hn];exact h.blk.cell 0
theorem Hj.at4{w:World}{g:Nat}{T:List X2}(h:Hj w g T)(k:Nat)(hk:k<T.length):∃v0 v1 v2 v3,(w.cell? ⟨g,k*4,none⟩=some v0/\w.cell? ⟨g,k*4+1,none⟩=some v1/\w.cell? ⟨g,k*4+2,none⟩=some v2/\w.cell? ⟨g,k*4+3,none⟩=some v3)/\
  w.frozen? ⟨g,k*4,none⟩=false/\w.frozen? ⟨g,k*4+1,none⟩=false/\w.frozen? ⟨g,k*4+2,none⟩=false/\w.frozen? ⟨g,k*4+3,none⟩=false:=by
 obtain⟨cs,h1,h2,h3⟩:=h;obtain⟨⟨A,n,c,A',n',c',q0,q1,q2,_⟩,q3⟩:=h3 k _ (qad hk);exact⟨_,_,_,_,⟨q0,q1,q2,q3⟩,h1.frozen _,h1.frozen _,h1.frozen _,h1.frozen _⟩
theorem Fl.put{w:World}{c b:Nat}{T:List X2}(h:Fl w c b T)(hne:c≠b){i:Nat}(hi:i<T.length){f:Bool}{A:Option Addr}{n k:Nat}{A':Option Addr}{n' k':Nat}{x:X2}(hx:BO w (.agg #[.bool f,.slice A n k,.slice A' n' k',.int .i64 (x.st:Int)]) x):
  Fl ((((w.setCell ⟨b,i*4,none⟩ (.bool f)).setCell ⟨b,i*4+1,none⟩ (.slice A n k)).setCell ⟨b,i*4+2,none⟩ (.slice A' n' k')).setCell ⟨b,i*4+3,none⟩ (.int .i64 (x.st:Int))) c b (T.set i x):=by
 obtain⟨A1,n1,k1,A2,n2,k2,he,hr⟩:=hx;injection he with he
 injection he with he
 injection he with e1 he
 injection he with e2 he
 injection he with e3 he
 injection e1 with e1
 rw[e1,e2,e3];have h4:=(h.row.set hi hr).1;have hb:=(((h.blk.far (p:=⟨b,i*4,none⟩) hne (.bool (decide (x.p<0)))).far (p:=⟨b,i*4+1,none⟩) hne (.slice A1 n1 k1)).far (p:=⟨b,i*4+2,none⟩) hne (.slice A2 n2 k2)).far (p:=⟨b,i*4+3,none⟩) hne (.int .i64 (x.st:Int));exact⟨by rw[qbm];exact hb,h4⟩
def F0(R:Nat->Bool)(ns:List Nd)(w:World)(e:Ending)(w':World):Prop:=∃b,e= .returned (.slice (some ⟨b,0,none⟩) ns.length ns.length)/\Hj w' b (CI R ns)/\Ext w w'
theorem SV(fn:Nat)(xa:Array Value)(hc:∀args W,(callFunc fn args).run Tryz.prog W= .ok (.enter fn args) W)(w:World)(nv:Value)(ns:List Nd)(h:RNd w nv ns)(hs:AK ns)(hn:ns.length<=4096)(hm:B5 w)(R:Nat->Bool)(hR:∀W,Ext w W->∀i,i<ns.length->Calls Tryz.prog fn (#[.int .i64 (i:Int)]++xa) W fun e w'=>e= .returned (.bool (R i))/\Ext W w'):
  Calls Tryz.prog 81 #[nv,.func (.func fn) #[] xa] w (F0 R ns w):=by
 have HM:=J hm;have HS:=J hs;have HR:=J hR;obtain⟨n,dZ⟩:∃n,n=ns.length:=⟨_,rfl⟩;have iv:=J dZ;have dp:=PC n (by omega);obtain⟨A,c,rfl,kK⟩:=h;have l8:=J kK;unfold F0;rw[<-dZ]at hn ⊢;clear hs hm hR dZ kK;go_enter Tryz.func81,Tryz.ntmps81;go_upto_region 2 with fail;have ho:Fl ((w.alloc (.cells (Fm n) 136)).alloc (.cells #[.slice (some ⟨w.heap.size,0,none⟩) n n] 137)) (w.heap.size+1) w.heap.size (Dk R ns 0):=by
  refine⟨?_,?_⟩
  ·have hb:=Blk.new (w.alloc (.cells (Fm n) 136)) 137 #[.slice (some ⟨w.heap.size,0,none⟩) n n];simp only[World.size_alloc]at hb;rw[JI R ns 0 (qaj _),<-iv.o];exact hb
  ·rw[Qk,<-iv.o];exact Hj.zero ((Blk.new w _ _).alloc _)
 have hx:=((Ext.refl w).alloc (.cells (Fm n) 136)).alloc (.cells #[.slice (some ⟨w.heap.size,0,none⟩) n n] 137);generalize (w.alloc (.cells (Fm n) 136)).alloc (.cells #[.slice (some ⟨w.heap.size,0,none⟩) n n] 137)=w1 at *;have HO:=J ho;have HX:=J hx;clear ho hx dp;go_wp2_with fail;go_loopw [13] (fun s13 wr=>∃k:Nat,k<=n/\s13= .int .i64 (k:Int)/\Fl wr (w.heap.size+1) w.heap.size (Dk R ns k)/\Ext w wr) (fun s13 _=>n-(intOf s13).toNat)
 case atStart=>exact⟨0,qaj _,rfl,HO.o,HX.o⟩
 case round=>
  clear HO HX;obtain⟨k,hk,rfl,ho,hx⟩:=hrel;by_cases hlt:k<n
  ·have i4:k<ns.length:=by rw[<-iv.o];exact hlt
   have vS:(Dk R ns k).length=n:=(JI R ns k (by omega)).trans iv.o.symm;have aA:=HS.o.2 k _ (qad i4);have HW:=J (fun W hx=>HR.o W hx k i4);have fP:=J (fun W (ho:Fl W (w.heap.size+1) w.heap.size (Dk R ns k)) hm=>SD W ns[k] k aA hm (.pointer (some ⟨w.heap.size+1,0,none⟩)) k (Dk R ns k) (fun W' hx j hj=>UF W' (w.heap.size+1) w.heap.size (Dk R ns k) (ho.ext hx) j (by omega) (by omega)) (qab _) (TB R ns k));unfold C3 at fP;rw[Sj R ns k i4 aA]at fP;have xx:Hid (n=(Dk R ns k).length):=J vS.symm;have lV:Hid (k<(Dk R ns k).length):=J (by rw[vS];exact hlt);have Wq:=J (fun hr=>Si R ns k i4 hr (a:=ns[k].a.toNat) (b:=ns[k].b.toNat) rfl rfl);have cC:=J (TC R ns k i4);have HX:=J hx;have HO:=J ho;obtain⟨gb,o,rfl,eU,hc⟩:=l8.o (by omega);obtain⟨p0,p1,p2,p3,p4⟩:=hc k i4;rw[<-hx.cell eU]at p0 p1 p2 p3 p4;have aC:gb<wr.heap.size:=qan eU hx.size;have mm:(0:Int)<=(k:Int):=by omega
   have qY:(k:Int)<(n:Int):=by omega
   have vg:IntKind.i64.wrap ((k:Int)+1)=(k:Int)+1:=IntWalk.i64_in _ (by omega);generalize Bj ns[k] ((CI R (ns.take k)).getD ns[k].a.toNat X2.O) ((CI R (ns.take k)).getD ns[k].b.toNat X2.O)=X at *;generalize ns[k]=x at *;clear hc aA vS hx ho;obtain⟨y0,y1,y2,y3,y4⟩:=x;simp only[ndV]at fP;simp only at p0 p1 p2 p3 p4;obtain⟨s,hst⟩:∃s:ByteArray,str y4= .string s:=⟨_,rfl⟩;rw[hst]at p4 fP;clear hst;have HN:=J (Blk.new wr 95 #[.int .i64 y0,.int .i64 y1,.int .i64 y2,.int .i64 y3,.string s]);have bH:=(Ext.refl wr).alloc (.cells #[.int .i64 y0,.int .i64 y1,.int .i64 y2,.int .i64 y3,.string s] 95);go_upto_region 5 with fail;generalize wr.alloc (.cells #[.int .i64 y0,.int .i64 y1,.int .i64 y2,.int .i64 y3,.string s] 95)=w7 at *;have HX:=J (HX.o.trans bH);have HO:=J (HO.o.ext bH);generalize wr.heap.size=nb at *;clear bH p0 p1 p2 p3 p4;go_wp2_with fail;refine(HW.o w7 HX.o).mono ?_
   rintro e w8 ⟨rfl,bJ⟩;have HX:=J (HX.o.trans bJ);have HO:=J (HO.o.ext bJ);have HN:=J (HN.o.ext bJ);clear bJ;cases hRk:R k with
   |true=>
    have HYE:=J (Wq.o hRk);clear hRk;have ao:=HN.o.five;have hc0:=HO.o.at xx.o;obtain⟨v0,v1,v2,v3,⟨r0,r1,r2,r3⟩,g0,g1,g2,g3⟩:=HO.o.row.at4 k lV.o;go_upto_region 6 with fail
    go_region_law (go_simp;go_at_call 139;refine(fP.o _ (HO.o.ext (Ext.refl _).drew) (HM.o.ext (HX.o.trans (Ext.refl _).drew))).mono ?_;rintro e w9 ⟨v9,rfl,il,hx⟩;obtain⟨f9,A9,n9,k9,A8,n8,k8,rfl⟩:=il.shape;have R9:=J il;have HO:=J (HO.o.ext ((Ext.refl _).drew.trans hx));have HX:=J (HX.o.trans ((Ext.refl _).drew.trans hx));have HN:=J (HN.o.ext ((Ext.refl _).drew.trans hx));clear hx il;clear ao hc0 r0 r1 r2 r3 g0 g1 g2 g3;have ao:=HN.o.five;have hc0:=HO.o.at xx.o;obtain⟨v0,v1,v2,v3,⟨r0,r1,r2,r3⟩,g0,g1,g2,g3⟩:=HO.o.row.at4 k lV.o)
    all_goals
     go_wp2_with fail;go_roundw
     case rel=>
      refine⟨k+1,hlt,by go_num,?_,?_⟩
      ·rw[<-HYE.o];exact HO.o.put (by omega) lV.o R9.o
      ·exact(((HX.o.setCell (p:=⟨w.heap.size,k*4,none⟩) (qab _) _).setCell (p:=⟨w.heap.size,k*4+1,none⟩) (qab _) _).setCell (p:=⟨w.heap.size,k*4+2,none⟩) (qab _) _).setCell (p:=⟨w.heap.size,k*4+3,none⟩) (qab _) _
     case measure=>simp[intOf];omega
   |false=>
    have mM:=cC.o hRk;rw[mM]at HO;have HO:=J HO.o;clear mM;go_wp2_with fail;go_roundw
    case rel=>exact⟨k+1,hlt,by go_num,HO.o,HX.o⟩
    case measure=>simp[intOf];omega
  ·obtain rfl:k=n:=by omega
   have HE:Hid (Hj wr w.heap.size (CI R ns)/\Ext w wr):=J ⟨by rw[<-Sl,<-iv.o];exact ho.row,hx⟩;have HC:=J (ho.at (n:=k) (by rw[JI R ns k (by rw[<-iv.o];exact qab _)];exact iv.o));have jS:=HC.o;clear ho hx;go_wp2_with fail;go_ret;exact⟨_,rfl,HE.o⟩
theorem U7(w:World)(nv:Value)(ns:List Nd)(h:RNd w nv ns)(hs:AK ns)(hn:ns.length<=4096)(hm:B5 w)(R:Nat->Bool)(hR:∀W,Ext w W->∀i,i<ns.length->Calls Tryz.prog 83 #[.int .i64 (i:Int)] W fun e w'=>e= .returned (.bool (R i))/\Ext W w'):
  Calls Tryz.prog 81 #[nv,.func (.func 83) #[] #[]] w (F0 R ns w):=SV _ _ (fun _ _=>by simp[callFunc,go_sem,Tryz.func83,Tryz.f83]) w nv ns h hs hn hm R hR
theorem U6(w:World)(nv:Value)(ns:List Nd)(h:RNd w nv ns)(hs:AK ns)(hn:ns.length<=4096)(hm:B5 w)(R:Nat->Bool)(Pc:Value)(hR:∀W,Ext w W->∀i,i<ns.length->Calls Tryz.prog 82 #[.int .i64 (i:Int),Pc] W fun e w'=>e= .returned (.bool (R i))/\Ext W w'):
  Calls Tryz.prog 81 #[nv,.func (.func 82) #[] #[Pc]] w (F0 R ns w):=SV _ _ (fun _ _=>by simp[callFunc,go_sem,Tryz.func82,Tryz.f82]) w nv ns h hs hn hm R hR
end Big
end Go.Proofs.YtkoaogkknnelaaaGreatDoor
