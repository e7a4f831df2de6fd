import Derived.Carry
import Derived.Test.YtkoaogkknnelaaaGreatDoorM28
import Derived.Test.YtkoaogkknnelaaaGreatDoorShelf5
set_option linter.unusedVariables false
set_option linter.unusedSimpArgs false
set_option maxHeartbeats 8000000
set_option maxRecDepth 100000
namespace Go.Proofs.YtkoaogkknnelaaaGreatDoor
namespace Big
open Lib renaming hid → J
open Go.RowKit
theorem M6(w:World)(hm:BT w):
  Calls Tryz.prog 69 #[] w fun e w'=>∃g b,e= .returned (.pointer (some ⟨g,0,none⟩))/\GrP w.heap.size g b w' [] (.slice none 0 0)/\Ext w w':=by
 have hmm:=fun W=> @run_makeMap Tryz.prog 78 W
 have jt:0<w.heap.size:=by
  obtain⟨m,h⟩:=hm;exact World.block_lt_of_cell? w _ h
 have ar:Ext w (w.alloc (.map #[] 0)):=(Ext.refl w).alloc _;have al:=ar.alloc (.cells #[.slice none 0 0,.map (some w.heap.size)] 80);have HN:=J (Dq.made w);have HX:=J al;have HB:=J (Blk.new (w.alloc (.map #[] 0)) 80 #[.slice none 0 0,.map (some w.heap.size)]);clear ar al hm;go_enter Tryz.func69,Tryz.ntmps69;go_wp2_with fail;go_ret;refine⟨_,w.heap.size,rfl,⟨?_,Ai.nil _ _,HN.o.kept (Below.heap_alloc _ _ _ HN.o.lt),by simp,qad _,Ax.nil,by decide,jt⟩,HX.o⟩;have:=HB.o;simp only[World.size_alloc]at this;exact this
theorem Nj(w:World)(b o n c:Nat)(l:List Nd)(hn:n=l.length)(hl:l.length<=1000000)(hc:∀j u,(AN l)[j]? =some u->w.cell? ⟨b,o+j,none⟩=some u):
  Calls Tryz.prog 106 #[.slice (some ⟨b,o,none⟩) n c] w fun e w'=>∃v',e= .returned v'/\Ai w.heap.size w' v' l/\Ext w w':=by
 obtain⟨i0,hi,aR,hz1,aU⟩:=info_parts BI;have h:=AnyE.slices_Clone Tryz.cloneNodesIt i0 (.agg #[.int .i64 0,.int .i64 0,.int .i64 0,.int .i64 0,.string ⟨#[]⟩]) 5 48 hi aR hz1 aU rfl (by decide) (fun w=>by kernel_rfl) b o n c (AN l) w (by rw[ED,hn]) (by unfold maxLen;omega) (by omega) hc (fun u hu=>by
  unfold AN at hu;obtain⟨x,_,hu⟩:=List.mem_flatMap.1 hu;simp only[ndC,qay,qbP,or_false]at hu;rcases hu with rfl|rfl|rfl|rfl|rfl<;>rfl)
 refine h.mono ?_
 rintro e w' ⟨v',rfl,ho,_,hx⟩;refine⟨v',rfl,?_,hx⟩;unfold Ai;rw[<-hn];exact ho
theorem OX(w:World)(b o n c:Nat)(l:List Nd)(hn:n=l.length)(hl:l.length<=1000000)(hc:∀j u,(AN l)[j]? =some u->w.cell? ⟨b,o+j,none⟩=some u):
  Calls Tryz.prog 157 #[.slice (some ⟨b,o,none⟩) n c] w fun e w'=>∃v',e= .returned v'/\Ai w.heap.size w' v' l/\Ext w w':=by
 obtain⟨i0,hi,aR,hz1,aU⟩:=info_parts BI;have h:=AnyE.slices_Clone Tryz.cloneListIt i0 (.agg #[.int .i64 0,.int .i64 0,.int .i64 0,.int .i64 0,.string ⟨#[]⟩]) 5 48 hi aR hz1 aU rfl (by decide) (fun w=>by kernel_rfl) b o n c (AN l) w (by rw[ED,hn]) (by unfold maxLen;omega) (by omega) hc (fun u hu=>by
  unfold AN at hu;obtain⟨x,_,hu⟩:=List.mem_flatMap.1 hu;simp only[ndC,qay,qbP,or_false]at hu;rcases hu with rfl|rfl|rfl|rfl|rfl<;>rfl)
 refine h.mono ?_
 rintro e w' ⟨v',rfl,ho,_,hx⟩;refine⟨v',rfl,?_,hx⟩;unfold Ai;rw[<-hn];exact ho
theorem Ai.cells{B:Nat}{w:World}{v:Value}{l:List Nd}(h:Ai B w v l):(l=[]/\v= .slice none 0 0)\/∃g c,v= .slice (some ⟨g,0,none⟩) l.length c/\∀j u,(AN l)[j]? =some u->w.cell? ⟨g,0+j,none⟩=some u:=by
 unfold Ai at h;rcases h.2 with ⟨h1,h2⟩|⟨g,cap,cur,rfl,_⟩
 ·exact .inl ⟨qau h2,by rw[h1]⟩
 ·refine .inr ⟨g,cap,rfl,fun j u hj=> ?_⟩;have hl:j<(AN l).length:=by
   rcases qam j (AN l).length with h|h
   ·exact h
   ·rw[qaz h]at hj;cases hj
  rw[ED]at hl;rw[qaF,h.cellAt j hl,hj]
theorem OE(B:Nat)(w:World)(v:Value)(l:List Nd)(h:Ai B w v l)(hl:l.length<=1000000):
  Calls Tryz.prog 106 #[v] w fun e w'=>∃v',e= .returned v'/\Ai w.heap.size w' v' l/\Ext w w':=by
 rcases h.cells with ⟨rfl,rfl⟩|⟨g,c,rfl,hc⟩
 ·refine(AnyE.slices_Clone_nil Tryz.cloneNodesIt 0 0 w).mono ?_
  rintro e w' ⟨rfl,rfl⟩;exact⟨_,rfl,Ai.nil _ _,Ext.refl _⟩
 ·exact Nj w g 0 l.length c l rfl hl hc
theorem Oy(B:Nat)(w:World)(v:Value)(l:List Nd)(h:Ai B w v l)(hl:l.length<=1000000):
  Calls Tryz.prog 157 #[v] w fun e w'=>∃v',e= .returned v'/\Ai w.heap.size w' v' l/\Ext w w':=by
 rcases h.cells with ⟨rfl,rfl⟩|⟨g,c,rfl,hc⟩
 ·refine(AnyE.slices_Clone_nil Tryz.cloneListIt 0 0 w).mono ?_
  rintro e w' ⟨rfl,rfl⟩;exact⟨_,rfl,Ai.nil _ _,Ext.refl _⟩
 ·exact OX w g 0 l.length c l rfl hl hc
theorem OC(B g b:Nat)(w:World)(ns:List Nd)(nv:Value)(h:GrP B g b w ns nv):
  Calls Tryz.prog 40 #[.pointer (some ⟨g,0,none⟩)] w fun e w'=>∃v',e= .returned v'/\Ai w.heap.size w' v' ns/\Ext w w':=by
 have cw:=J (OE B w nv ns h.row (by have:=h.few;omega));have k0:=h.blk.twoG;obtain⟨A,c,rfl⟩:=h.row.shape;clear h;go_enter Tryz.func40,Tryz.ntmps40;go_wp2_with fail;refine cw.o.mono ?_
 rintro e w1 ⟨v',rfl,ho,hx⟩;have HE:=J (And.intro ho hx);clear ho hx;go_wp2_with fail;go_ret;exact⟨v',rfl,HE.o⟩
def J7(ns:List Nd)(w:World)(e:Ending)(w':World):Prop:=∃g b nv,e= .returned (.tuple #[.pointer (some ⟨g,0,none⟩),.int .i64 (ns.length:Int),.int .i64 0])/\GrP w.heap.size g b w' ns nv/\Ext w w'
theorem QR(B:Nat)(w:World)(v:Value)(ns:List Nd)(h:Ai B w v ns)(an:Ax ns)(hfew:ns.length<=4096)(hm:BT w):
  Calls Tryz.prog 52 #[v] w (J7 ns w):=by
 have HM:=J hm;have bV:=J an;have fF:=J (M6 w hm);obtain⟨A,c,jc,bj⟩:=h.read;subst jc;have cw:=J bj;unfold J7;obtain⟨n,bB⟩:∃n,n=ns.length:=⟨_,rfl⟩;have HN:=J bB;rw[<-bB]at hfew ⊢;clear h bj hm an bB;go_enter Tryz.func52,Tryz.ntmps52;go_wp2_with fail;refine fF.o.mono ?_
 rintro e w1 ⟨g,b,rfl,hg,hx⟩;have f9:=J hg;have ah:=J hx;clear hg hx fF;go_wp2_with fail;go_loopw [13] (fun s13 wr=>∃i:Nat,i<=n/\s13= .int .i64 (i:Int)/\∃nv,GrP w.heap.size g b wr (ns.take i) nv/\Ext w wr) (fun s13 _=>n-(intOf s13).toNat)
 case atStart=>exact⟨0,qal _,rfl,_,by rw[qaK];exact f9.o,ah.o⟩
 case round=>
  clear f9 ah;obtain⟨i,hi,rfl,nv,hg,hx⟩:=hrel;by_cases hlt:i<n
  ·have hit:i<ns.length:=by rw[<-HN.o];exact hlt
   have an:=bV.o.2 i _ (qaa hit);have hpl:=bV.o.load hit;have hlt2:(ns.take i).length=i:=by rw[qas];omega
   have aE:=J (fun W h hm=>JK w.heap.size g b W (ns.take i) nv h ns[i] (by rw[hlt2];exact an) hm (by omega));unfold Hi at aE;rw[hpl]at aE;have HG:=J hg;have HX:=J hx;obtain⟨gb,o,rfl,bC,hc⟩:=cw.o (by omega);obtain⟨p0,p1,p2,p3,p4⟩:=hc i hit;rw[<-hx.cell bC]at p0 p1 p2 p3 p4;have hgr:gb<wr.heap.size:=qaj bC hx.size;have dW:(0:Int)<=(i:Int):=by omega
   have hil:(i:Int)<(n:Int):=by omega
   have lS:IntKind.i64.wrap ((i:Int)+1)=(i:Int)+1:=IntWalk.i64_in _ (by omega);generalize ns[i]=x at *;clear hc an hpl hit hlt2 hg hx;obtain⟨y0,y1,y2,y3,y4⟩:=x;simp only[ndV]at aE;simp only at p0 p1 p2 p3 p4;obtain⟨s,hs⟩:∃s:ByteArray,s=⟨(y4:List UInt8).toArray⟩:=⟨_,rfl⟩;have af:str y4= .string s:=by rw[hs];rfl
   rw[af]at p4 aE;clear hs af;have aW:=J (Blk.new wr 95 #[.int .i64 y0,.int .i64 y1,.int .i64 y2,.int .i64 y3,.string s]);have aN:=J ((Ext.refl wr).alloc (.cells #[.int .i64 y0,.int .i64 y1,.int .i64 y2,.int .i64 y3,.string s] 95));obtain⟨w7,dk⟩:∃w7,w7=wr.alloc (.cells #[.int .i64 y0,.int .i64 y1,.int .i64 y2,.int .i64 y3,.string s] 95):=⟨_,rfl⟩;rw[<-dk]at aW aN;have q0:=aW.o.five;go_upto_region 5 with fail;rw[<-dk];clear dk p0 p1 p2 p3 p4;have kY:=J (HX.o.trans aN.o);go_wp2_with fail;refine(aE.o w7 (HG.o.keep aN.o) (HM.o.ext kY.o)).mono ?_
   rintro r w8 ⟨nv2,rfl,ch,jh⟩;have zS:=J jh;have cp:=J (kY.o.more (ch.below (HG.o.keep aN.o)));clear ch jh q0;go_wp2_with fail;go_roundw
   case rel=>exact⟨i+1,hlt,by go_num,nv2,zS.o,cp.o⟩
   case measure=>simp[intOf];omega
  ·obtain rfl:i=n:=by omega
   have kV:GrP w.heap.size g b wr ns nv:=by
    have h:=hg;rw[HN.o,qbr]at h;exact h
   have HG:=J kV;have HX:=J hx;clear hg kV hx;go_wp2_with fail;go_ret3;exact⟨g,b,nv,rfl,HG.o,HX.o⟩
def szA(S args:List Nat):Nat:=args.foldl (fun s a=>min (s+S.getD a 0) 201) 1
def dpA(D args:List Nat):Nat:=args.foldl (fun d a=>max d (D.getD a 0+1)) 1
theorem RB(S args:List Nat)(a:Nat):szA S (args++[a])=min (szA S args+S.getD a 0) 201:=by unfold szA;rw[qaO];rfl
theorem Nc(D args:List Nat)(a:Nat):dpA D (args++[a])=max (dpA D args) (D.getD a 0+1):=by unfold dpA;rw[qaO];rfl
theorem La(ns:List Nd)(x:Nd){m:Nat}(h:CA m x):GI (ns++[x])=GI ns++[szA (GI ns) (BA x)]:=by
 unfold GI;rw[H9];rcases h with ⟨k,t,rfl,ho⟩|⟨k,n,j,rfl,ho,hj⟩|⟨k,j,q,rfl,hk,hj,hq⟩
 ·rw[Cd ho];have:=ho.lt;unfold Ed;rw[if_pos (by simp only;omega)];rfl
 ·rw[CG ho];have:=ho.1;unfold Ed;rw[if_neg (by simp only;omega),if_neg (by simp only;omega)];rfl
 ·rw[B0 hk];unfold Ed;rw[if_neg (by simp only;omega),if_pos (by simp only;omega)];rfl
theorem GH(ns:List Nd)(x:Nd){m:Nat}(h:CA m x):C3 (ns++[x])=C3 ns++[dpA (C3 ns) (BA x)]:=by
 unfold C3;rw[H9];rcases h with ⟨k,t,rfl,ho⟩|⟨k,n,j,rfl,ho,hj⟩|⟨k,j,q,rfl,hk,hj,hq⟩
 ·rw[Cd ho];have:=ho.lt;unfold Ed;rw[if_pos (by simp only;omega)];rfl
 ·rw[CG ho];have:=ho.1;unfold Ed;rw[if_neg (by simp only;omega),if_neg (by simp only;omega)];rfl
 ·rw[B0 hk];unfold Ed;rw[if_neg (by simp only;omega),if_pos (by simp only;omega)];rfl
theorem JX(ns:List Nd):(GI ns).length=ns.length:=Eo ns
theorem EY(ns:List Nd):(C3 ns).length=ns.length:=Eo ns
theorem RC(S args:List Nat):szA S args<=201:=by
 have key:∀(l:List Nat) (s:Nat),s<=201->l.foldl (fun s a=>min (s+S.getD a 0) 201) s<=201:=by
  intro l
  induction l with
  |nil=>intro s h;exact h
  |cons a l ih=>intro s _;rw[qbd];exact ih _ (Nat.min_le_right _ _)
 exact key args 1 (by decide)
theorem OR(D args:List Nat)(n:Nat)(h:∀a∈args,D.getD a 0<=n):dpA D args<=n+1:=by
 have key:∀(l:List Nat) (d:Nat),(∀a∈l,D.getD a 0<=n)->d<=n+1->l.foldl (fun d a=>max d (D.getD a 0+1)) d<=n+1:=by
  intro l
  induction l with
  |nil=>intro d _ h;exact h
  |cons a l ih=>
   intro d hl hd;rw[qbd];exact ih _ (fun b hb=>hl b (qbs _ hb)) (by have:=hl a (by simp);omega)
 exact key args 1 h (by omega)
theorem Iy(l m:List Nat)(i n:Nat)(hl:∀j,l.getD j 0<=n)(hm:∀x∈m,x<=n):(l++m).getD i 0<=n:=by
 rw[qac,List.getElem?_append];split
 ·have:=hl i;rw[qac]at this;exact this
 ·cases hc:m[i-l.length]? with
  |none=>simp
  |some y=>exact hm y (List.mem_of_getElem? hc)
theorem TI{ns:List Nd}(hs:Ax ns):∀i n,n<=ns.length->(GI (ns.take n)).getD i 0<=201:=by
 intro i n
 induction n generalizing i with
 |zero=>intro _;rw[qaK];show ([]:List Nat).getD i 0<=201;simp
 |succ n ih=>
  intro hn;have hx:=hs.2 n _ (qaa (show n<ns.length by omega));rw[qah (by omega),La _ _ hx];exact Iy _ _ _ _ (fun j=>ih j (by omega)) (fun x hx=>by rw[qav.1 hx];exact RC _ _)
theorem Nh{ns:List Nd}(hs:Ax ns):∀i n,n<=ns.length->(C3 (ns.take n)).getD i 0<=n:=by
 intro i n
 induction n generalizing i with
 |zero=>intro _;rw[qaK];show ([]:List Nat).getD i 0<=0;simp
 |succ n ih=>
  intro hn;have hx:=hs.2 n _ (qaa (show n<ns.length by omega));rw[qah (by omega),GH _ _ hx];exact Iy _ _ _ _ (fun j=>Nat.le_succ_of_le (ih j (by omega))) (fun x hx=>by rw[qav.1 hx];exact OR _ _ _ (fun a _=>ih a (by omega)))
def CD(L:List Nat)(v r:Nat):List Nat:=L++v::List.replicate r 0
theorem Ju(L:List Nat)(v u r:Nat):(CD L v r).set L.length u=CD L u r:=by
 unfold CD;rw[qbk _ _ (qad _),qaX,qbF]
theorem GE(L:List Nat)(u m:Nat)(h:L.length<m):(L++List.replicate (m-L.length) 0).set L.length u=CD L u (m-(L.length+1)):=by
 unfold CD;rw[qbk _ _ (qad _),qaX,show m-L.length=(m-(L.length+1))+1 by omega,qbS,qbF]
theorem Jx(L:List Nat)(v r:Nat):CD L v r=(L++[v])++List.replicate r 0:=by unfold CD;simp
theorem Jw(L:List Nat)(v r:Nat):(CD L v r).length=L.length+1+r:=by unfold CD;simp;omega
theorem LG(L:List Nat)(v r:Nat):(CD L v r).getD L.length 0=v:=by
 unfold CD;rw[qac,qao (qad _),qaX];rfl
theorem Jv(L:List Nat)(v r:Nat){j:Nat}(h:j<L.length):(CD L v r).getD j 0=L.getD j 0:=by
 unfold CD;rw[qac,qac,qaC h]
theorem PJ(w:World)(cs:Array Value)(t:TypeId):Blk ((w.alloc (.cells cs t)).alloc (.cells cs t)).drew w.heap.size t cs/\Blk ((w.alloc (.cells cs t)).alloc (.cells cs t)).drew (w.heap.size+1) t cs/\Ext w ((w.alloc (.cells cs t)).alloc (.cells cs t)).drew:=by
 refine⟨((Blk.new w t cs).ext ((Ext.refl _).alloc _)).drew,?_,(((Ext.refl w).alloc _).alloc _).drew⟩;have h:=(Blk.new (w.alloc (.cells cs t)) t cs).drew;simp only[World.size_alloc]at h;exact h
theorem OB(B g b:Nat)(w:World)(ns:List Nd)(nv:Value)(h:GrP B g b w ns nv)(i:Nat)(hi:i<ns.length):
  Calls Tryz.prog 114 #[.pointer (some ⟨g,0,none⟩),.int .i64 (i:Int)] w fun e w'=>∃bs bd,e= .returned (.tuple #[.slice (some ⟨bs,0,none⟩) (i+1) (i+1),.slice (some ⟨bd,0,none⟩) (i+1) (i+1)])/\
   Blk w' bs 3 (AI (GI (ns.take (i+1))))/\Blk w' bd 3 (AI (C3 (ns.take (i+1))))/\Ext w w':=by
 have hfew:=h.few;have bV:=J h.ok;obtain⟨A,c,jc,bj⟩:=h.row.read;subst jc;have cw:=J bj;have HG:=J h;clear bj h;obtain⟨m,hm⟩:∃m,m=i+1:=⟨_,rfl⟩;rw[<-hm];have zN:=J hm;have jP:m<=4096:=by omega
 have wM:m<=ns.length:=by omega
 have dF:=Hs m (by omega);have vI:IntKind.i64.wrap ((i:Int)+1)=(m:Int):=by rw[IntWalk.i64_in _ (by omega)];omega
 obtain⟨k0,k1,f0,f1,ea⟩:=HG.o.blk.twoG;obtain⟨n,bB⟩:∃n,n=ns.length:=⟨_,rfl⟩;have HN:=J bB;rw[<-bB]at HG hfew k0 wM;clear hm hi bB;go_enter Tryz.func114,Tryz.ntmps114;go_upto_region 1 with fail
 go_cut [6,7] from 13 to 18 (fun s6 s7 wx=>∃bs bd,s6= .slice (some ⟨bs,0,none⟩) m m/\s7= .slice (some ⟨bd,0,none⟩) m m/\bs≠bd/\w.heap.size<=bs/\w.heap.size<=bd/\Blk wx bs 3 (AI (List.replicate m 0))/\Blk wx bd 3 (AI (List.replicate m 0))/\Ext w wx)
 case first=>
  have vh:=J (PJ w (AI (List.replicate m 0)) 3);go_region
  ·go_wp2_with fail;go_meet;exact⟨_,_,rfl,rfl,by omega,by omega,by omega,vh.o.1,vh.o.2.1,vh.o.2.2⟩
  ·go_wp2_with fail;go_meet;exact⟨_,_,rfl,rfl,by omega,by omega,by omega,vh.o.2.1,vh.o.1,vh.o.2.2⟩
 case rest=>
  obtain⟨bs,bd,rfl,rfl,fA,rM,hbd,av,hb2,hx⟩:=hcut;have aA:=J av;have aF:=J hb2;have HX:=J hx;generalize wc=w1 at *;clear av hb2 hx dF vI k0 k1 f0 f1;go_wp2_with fail;go_loopw [21] (fun Ur wr=>∃k:Nat,k<=m/\Ur= .int .i64 (k:Int)/\Blk wr bs 3 (AI (GI (ns.take k)++List.replicate (m-k) 0))/\Blk wr bd 3 (AI (C3 (ns.take k)++List.replicate (m-k) 0))/\Ext w wr) (fun Ur _=>m-(intOf Ur).toNat)
  case atStart=>exact⟨0,qal _,rfl,aA.o,aF.o,HX.o⟩
  case round=>
   clear aA aF HX;obtain⟨k,hk,rfl,av,hb2,hx⟩:=hrel;by_cases hlt:k<m
   ·have bT:k<ns.length:=by have:=HN.o;omega
    have an:=bV.o.2 k _ (qaa bT);have hle:=bV.o.take k;have zr:=JX (ns.take k);have qB:=EY (ns.take k);rw[qas,qaV (by omega)]at zr qB;have yV:=J (fun j=>TI bV.o j k (by omega));have cP:=J (fun j=>Nh bV.o j k (by omega));have gM:=J (La (ns.take k) ns[k] an);have aW:=J (GH (ns.take k) ns[k] an);rw[List.take_append_getElem bT]at gM aW;have np:=J an.args_lt;have fC:=an.args_len;have aS:=J (fun W=>FU W ns[k] an);obtain⟨gb,o,rfl,bC,hc⟩:=cw.o (by omega);obtain⟨p0,p1,p2,p3,p4⟩:=hc k bT;obtain⟨k0,k1,f0,f1,ea⟩:=(HG.o.keep hx).blk.twoG;generalize GI (ns.take k)=SL at *;generalize C3 (ns.take k)=DL at *;generalize BA ns[k]=zs at *;have HX:=J hx;have hgbs:gb≠bs:=by omega
    have Vt:gb≠bd:=by omega
    obtain⟨r,hr⟩:∃r,r=m-(k+1):=⟨_,rfl⟩;have tf:(SL++List.replicate (m-k) 0).set k 1=CD SL 1 r:=by
     have:=GE SL 1 m (by omega);rw[zr]at this;rw[this,hr]
    have oz:(DL++List.replicate (m-k) 0).set k 1=CD DL 1 r:=by
     have:=GE DL 1 m (by omega);rw[qB]at this;rw[this,hr]
    have dU:Blk (wr.setCell ⟨bs,k,none⟩ (.int .i64 1)) bs 3 (AI (CD SL 1 r)):=by
     have h:=av.set_ k (.int .i64 ((1:Nat):Int));rw[C7,tf]at h;exact h
    have kv:=hb2.far (p:=⟨bs,k,none⟩) (by show bd≠bs;omega) (.int .i64 1);have cn:Blk ((wr.setCell ⟨bs,k,none⟩ (.int .i64 1)).setCell ⟨bd,k,none⟩ (.int .i64 1)) bd 3 (AI (CD DL 1 r)):=by
     have h:=kv.set_ k (.int .i64 ((1:Nat):Int));rw[C7,oz]at h;exact h
    have og:=dU.far (p:=⟨bd,k,none⟩) (by show bs≠bd;exact fA) (.int .i64 1);have aJ:=(hx.setCell (p:=⟨bs,k,none⟩) rM (.int .i64 1)).setCell (p:=⟨bd,k,none⟩) hbd (.int .i64 1);obtain⟨w4,hw4⟩:∃w4,w4=(wr.setCell ⟨bs,k,none⟩ (.int .i64 1)).setCell ⟨bd,k,none⟩ (.int .i64 1):=⟨_,rfl⟩;rw[<-hw4]at cn og aJ;have gJ:=J og;have fj:=J cn;have aD:=J aJ;have z1:=av.cell k;rw[Bd _ _ (by rw[qab,qaL];omega)]at z1;have z2:=hb2.cell k;rw[Bd _ _ (by rw[qab,qaL];omega)]at z2;have f3:=av.frozen k;have f4:=hb2.frozen k;have Xh:=kv.cell k;rw[Bd _ _ (by rw[qab,qaL];omega)]at Xh;have f4b:=kv.frozen k;generalize (SL++List.replicate (m-k) 0).getD k 0=old1 at *;generalize (DL++List.replicate (m-k) 0).getD k 0=old2 at *;have hki:(k:Int)<(m:Int):=by omega
    have g3:(0:Int)<=(k:Int):=by omega
    have Vk:(k:Int)<(n:Int):=by omega
    have jn:IntKind.i64.wrap ((k:Int)+1)=(k:Int)+1:=IntWalk.i64_in _ (by omega);clear av hb2 kv dU cn og tf oz hx aJ hc an hle;go_upto_region 6 with fail;rw[<-hw4];clear hw4 z1 z2 Xh f3 f4 f4b k0 k1 f0 f1;obtain⟨k0,k1,f0,f1,Vp⟩:=(HG.o.keep aD.o).blk.twoG;rw[<-aD.o.cell bC]at p0 p1 p2 p3 p4;have hx0:(⟨0,0,0,0,[]⟩:Nd).text=[]:=rfl;generalize ns[k]=x at *;clear bT hx0;obtain⟨y0,y1,y2,y3,y4⟩:=x;simp only[ndV]at aS;simp only at p0 p1 p2 p3 p4;obtain⟨s,hs⟩:∃s:ByteArray,s=⟨(y4:List UInt8).toArray⟩:=⟨_,rfl⟩;have af:str y4= .string s:=by rw[hs];rfl
    rw[af]at p4 aS;clear hs af;obtain⟨mz,iZ⟩:∃mz,mz=zs.length:=⟨_,rfl⟩;have jj:=J iZ;rw[<-iZ]at fC;have HZ:Hid (∀j,j<mz->zs.getD j 0<k):=J (fun j hj=>by
     rw[qac,qaa (by omega)];exact np.o _ (qap _))
    have dP:Hid (∀j,j<mz->zs.take (j+1)=zs.take j++[zs.getD j 0]):=J (fun j hj=>by
     rw[qah (by omega),qac,qaa (by omega)];rfl)
    clear iZ;go_wp2_with fail;refine(aS.o w4).mono ?_
    rintro e w5 ⟨A3,c3,rfl,hx5,bO⟩;rw[<-jj.o]at bO ⊢;have ba:=J (aD.o.trans hx5);have yj:=J (gJ.o.ext hx5);have pp:=J (fj.o.ext hx5);have ZF:bs<w4.heap.size:=gJ.o.lt;have mP:bd<w4.heap.size:=fj.o.lt;have pO:Hid (∀j,j<mz->∃b3,A3=some ⟨b3,0,none⟩/\b3≠bs/\b3≠bd/\w5.cell? ⟨b3,j,none⟩=some (.int .i64 ((zs.getD j 0:Nat):Int))):=J (fun j hj=>by
     obtain⟨b3,h1,h2,h3,h4⟩:=bO (by omega);exact⟨b3,h1,by omega,by omega,h4 j hj⟩)
    clear p0 p1 p2 p3 p4 k0 k1 f0 f1 hx5 bO aS;go_wp2_with fail;generalize wr=wa at *;go_loopw [43] (fun Lo wr=>∃q:Nat,q<=mz/\Lo= .int .i64 (q:Int)/\Blk wr bs 3 (AI (CD SL (szA SL (zs.take q)) r))/\Blk wr bd 3 (AI (CD DL (dpA DL (zs.take q)) r))/\Ext w wr/\(∀j,j<mz->∃b3,A3=some ⟨b3,0,none⟩/\b3≠bs/\b3≠bd/\wr.cell? ⟨b3,j,none⟩=some (.int .i64 ((zs.getD j 0:Nat):Int)))) (fun Lo _=>mz-(intOf Lo).toNat)
    case atStart=>exact⟨0,qal _,rfl,yj.o,pp.o,ba.o,pO.o⟩
    case round=>
     clear yj pp ba pO gJ fj aD HX;obtain⟨q,hq,rfl,av,hb2,hx,fy⟩:=hrel;by_cases hqz:q<mz
     ·obtain⟨b3,rfl,dA,hn2,aa⟩:=fy q hqz;have no:=J fy;have fa:=HZ.o q hqz;have hv1:=RB SL (zs.take q) (zs.getD q 0);have hv2:=Nc DL (zs.take q) (zs.getD q 0);rw[<-dP.o q hqz]at hv1 hv2;have VX:=yV.o (zs.getD q 0);have VW:=RC SL (zs.take q);have tO:=cP.o (zs.getD q 0);have kv:dpA DL (zs.take q)<=k+1:=OR DL _ k (fun a _=>cP.o a);have hl1:=Jw SL (szA SL (zs.take q)) r;have hl2:=Jw DL (dpA DL (zs.take q)) r;have z1:=av.cell k;rw[Bd _ _ (by omega),show (CD SL (szA SL (zs.take q)) r).getD k 0=szA SL (zs.take q) by rw[<-zr];exact LG _ _ _]at z1;have z2:=av.cell (zs.getD q 0);rw[Bd _ _ (by omega),Jv _ _ _ (by omega)]at z2;have z3:=hb2.cell k;rw[Bd _ _ (by omega),show (CD DL (dpA DL (zs.take q)) r).getD k 0=dpA DL (zs.take q) by rw[<-qB];exact LG _ _ _]at z3;have z4:=hb2.cell (zs.getD q 0);rw[Bd _ _ (by omega),Jv _ _ _ (by omega)]at z4;have f1:=av.frozen k;have f2:=hb2.frozen k;have rB:∀u,(CD SL (szA SL (zs.take q)) r).set k u=CD SL u r:=fun u=>by rw[<-zr];exact Ju _ _ _ _
      have wN:∀u,(CD DL (dpA DL (zs.take q)) r).set k u=CD DL u r:=fun u=>by rw[<-qB];exact Ju _ _ _ _
      have lc:Hid (∀u:Nat,Blk (wr.setCell ⟨bs,k,none⟩ (.int .i64 (u:Int))).drew bs 3 (AI (CD SL u r))/\Blk (wr.setCell ⟨bs,k,none⟩ (.int .i64 (u:Int))).drew bd 3 (AI (CD DL (dpA DL (zs.take q)) r))/\Ext w (wr.setCell ⟨bs,k,none⟩ (.int .i64 (u:Int))).drew/\(∀b3 j,b3≠bs->(wr.setCell ⟨bs,k,none⟩ (.int .i64 (u:Int))).drew.cell? ⟨b3,j,none⟩=wr.cell? ⟨b3,j,none⟩)):=J (fun u=>by
       have h:=av.set_ k (.int .i64 (u:Int));rw[C7,rB]at h;exact⟨h.drew,(hb2.far (p:=⟨bs,k,none⟩) (by show bd≠bs;omega) _).drew,(hx.setCell (p:=⟨bs,k,none⟩) rM _).drew,fun b3 j hne=>World.cell?_of_block (a:=⟨b3,j,none⟩) (Below.heap_setCell _ _ _ b3 hne)⟩)
      have qd:Hid (∀(W:World) (u:Nat),Blk W bd 3 (AI (CD DL (dpA DL (zs.take q)) r))->Blk (W.setCell ⟨bd,k,none⟩ (.int .i64 (u:Int))).drew bd 3 (AI (CD DL u r))):=J (fun W u hb=>by
       have h:=hb.set_ k (.int .i64 (u:Int));rw[C7,wN]at h;exact h.drew)
      have HX:=J hx;have aF:=J hb2;have YF:=J hv1;have fL:=J hv2;clear hv1 hv2 rB wN fy av hb2 hx hl1 hl2;generalize hsv:szA SL (zs.take q)=s1 at *;generalize hdv:dpA DL (zs.take q)=d1 at *;generalize hsa:SL.getD (zs.getD q 0) 0=sa at *;generalize hda:DL.getD (zs.getD q 0) 0=da at *;generalize hza:zs.getD q 0=za at *;clear hsv hdv hsa hda hza;have hw4:IntKind.i64.wrap ((s1:Int)+(sa:Int))=(s1:Int)+(sa:Int):=IntWalk.i64_in _ (by omega);have cA:IntKind.i64.wrap ((da:Int)+1)=(da:Int)+1:=IntWalk.i64_in _ (by omega);have U8:min ((s1:Int)+(sa:Int)) 201=((min (s1+sa) 201:Nat):Int):=by omega
      have te:max (d1:Int) ((da:Int)+1)=((max d1 (da+1):Nat):Int):=by omega
      have td:(if (d1:Int)<(da:Int)+1 then (da:Int)+1 else (d1:Int))=((max d1 (da+1):Nat):Int):=by split<;>omega
      obtain⟨s2,cn⟩:∃s2,s2=min (s1+sa) 201:=⟨_,rfl⟩;obtain⟨d2,bE⟩:∃d2,d2=max d1 (da+1):=⟨_,rfl⟩;rw[<-cn]at U8 YF;rw[<-bE]at te td fL;have pV:(0:Int)<=(q:Int):=by omega
      have sQ:(q:Int)<(mz:Int):=by omega
      have nU:(0:Int)<=(za:Int):=by omega
      have nT:(za:Int)<(m:Int):=by omega
      have Zs:IntKind.i64.wrap ((q:Int)+1)=(q:Int)+1:=IntWalk.i64_in _ (by omega);have f9:=J (lc.o s2);have z3b:=(f9.o.2.1.cell k).trans ((aF.o.cell k).symm.trans z3);have z4b:=(f9.o.2.1.cell za).trans ((aF.o.cell za).symm.trans z4);have f2b:=f9.o.2.1.frozen k;have du:=J (qd.o _ d2 f9.o.2.1);clear cn bE VX VW tO kv lc;go_upto_region 10 with fail;go_region
      all_goals
       go_upto_region 11 with fail;go_region
       all_goals
        go_wp2_with fail;go_roundw
        case rel=>
         refine⟨q+1,hqz,by go_num,?_,?_,?_,fun j hj=> ?_⟩
         ·rw[YF.o];exact(f9.o.1.far (p:=⟨bd,k,none⟩) (by show bs≠bd;exact fA) (.int .i64 (d2:Int))).drew
         ·rw[fL.o];exact du.o
         ·exact(f9.o.2.2.1.setCell (p:=⟨bd,k,none⟩) hbd (.int .i64 (d2:Int))).drew
         ·obtain⟨b4,e4,p1,p2,p3⟩:=no.o j hj;exact⟨b4,e4,p1,p2,(World.cell?_of_block (a:=⟨b4,j,none⟩) (Below.heap_setCell _ _ _ b4 p2)).trans ((f9.o.2.2.2 b4 j p1).trans p3)⟩
        case measure=>simp[intOf];omega
     ·obtain rfl:q=mz:=by omega
      have HX:=J hx;have o6:Blk wr bs 3 (AI (GI (ns.take (k+1))++List.replicate (m-(k+1)) 0)):=by
       rw[gM.o,<-hr,<-Jx];have h:=av;rw[jj.o,qbr]at h;exact h
      have oZ:Blk wr bd 3 (AI (C3 (ns.take (k+1))++List.replicate (m-(k+1)) 0)):=by
       rw[aW.o,<-hr,<-Jx];have h:=hb2;rw[jj.o,qbr]at h;exact h
      have aA:=J o6;have aF:=J oZ;clear av hb2 o6 oZ hx fy;go_wp2_with fail;go_roundw
      case rel=>exact⟨k+1,hlt,by go_num,aA.o,aF.o,HX.o⟩
      case measure=>simp[intOf];omega
   ·obtain rfl:k=m:=by omega
    rw[qaX,qci,qaW]at av hb2;have HE:=J (And.intro av (And.intro hb2 hx));clear av hb2 hx;go_wp2_with fail;go_ret2;exact⟨bs,bd,rfl,HE.o⟩
def H5(ns:List Nd)(i:Int):Int:=if 0<=i/\i<(ns.length:Int) then (((C3 ns).getD i.toNat 0:Nat):Int) else 0
theorem JR(ns:List Nd){i:Nat}(h:i<ns.length):(C3 (ns.take (i+1))).getD i 0=(C3 ns).getD i 0:=by
 have hp:C3 (ns.take (i+1)) <+: C3 ns:=by
  have:=Hg (f:=1) (g:=fun a=>max 1 (a+1)) (h:=fun a b=>max (max 1 (a+1)) (b+1)) (ns.take (i+1)) (ns.drop (i+1));rw[qbo]at this;exact this
 obtain⟨r,hr⟩:=hp;have hl:=EY (ns.take (i+1));rw[qas,qaV (by omega)]at hl;rw[<-hr,qac,qac,qaC (by omega)]
theorem Re(ns:List Nd){i:Nat}(h:i<ns.length):(GI (ns.take (i+1))).getD i 0=(GI ns).getD i 0:=by
 have hp:GI (ns.take (i+1)) <+: GI ns:=by
  have:=Hg (f:=1) (g:=fun a=>min (1+a) 201) (h:=fun a b=>min (min (1+a) 201+b) 201) (ns.take (i+1)) (ns.drop (i+1));rw[qbo]at this;exact this
 obtain⟨r,hr⟩:=hp;have hl:=JX (ns.take (i+1));rw[qas,qaV (by omega)]at hl;rw[<-hr,qac,qac,qaC (by omega)]
theorem K8{ns:List Nd}{i:Nat}(h:i<ns.length):H5 ns (i:Int)=(((C3 ns).getD i 0:Nat):Int):=by
 unfold H5;rw[if_pos ⟨by omega,by omega⟩,qaq]
theorem OS{ns:List Nd}{i:Int}(h:i<0\/(ns.length:Int)<=i):H5 ns i=0:=by
 unfold H5;rw[if_neg (by omega)]
theorem Tt{w:World}{g:Nat}{t:TypeId}{c0 c1 c2 c3 c4:Value}(h:Blk w g t #[c0,c1,c2,c3,c4])(x0 x1 x2 x3 x4:Value):
  (w.setCell ⟨g,0,none⟩ x0).cell? ⟨g,0,none⟩=some x0/\((w.setCell ⟨g,0,none⟩ x0).setCell ⟨g,1,none⟩ x1).cell? ⟨g,1,none⟩=some x1/\(((w.setCell ⟨g,0,none⟩ x0).setCell ⟨g,1,none⟩ x1).setCell ⟨g,2,none⟩ x2).cell? ⟨g,2,none⟩=some x2/\
  ((((w.setCell ⟨g,0,none⟩ x0).setCell ⟨g,1,none⟩ x1).setCell ⟨g,2,none⟩ x2).setCell ⟨g,3,none⟩ x3).cell? ⟨g,3,none⟩=some x3/\(((((w.setCell ⟨g,0,none⟩ x0).setCell ⟨g,1,none⟩ x1).setCell ⟨g,2,none⟩ x2).setCell ⟨g,3,none⟩ x3).setCell ⟨g,4,none⟩ x4).cell? ⟨g,4,none⟩=some x4:=by
 have h1:=h.set_ 0 x0;have h2:=Blk.set_ h1 1 x1;have h3:=Blk.set_ h2 2 x2;have h4:=Blk.set_ h3 3 x3;have h5:=Blk.set_ h4 4 x4;exact⟨h1.cell 0,h2.cell 1,h3.cell 2,h4.cell 3,h5.cell 4⟩
def KT(ns:List Nd)(i:Int):Value:=if 0<=i/\i<(ns.length:Int) then .tuple #[ndV (ns.getD i.toNat ⟨0,0,0,0,[]⟩),.bool true] else .tuple #[ndV ⟨0,0,0,0,[]⟩,.bool false]
theorem EP{ns:List Nd}{i:Nat}(h:i<ns.length):KT ns (i:Int)= .tuple #[ndV ns[i],.bool true]:=by
 unfold KT;rw[if_pos ⟨by omega,by omega⟩,qaq,qac,qaa h];rfl
theorem KS{ns:List Nd}{i:Int}(h:i<0\/(ns.length:Int)<=i):KT ns i= .tuple #[ndV ⟨0,0,0,0,[]⟩,.bool false]:=by
 unfold KT;rw[if_neg (by omega)]
theorem EU(B g b:Nat)(w:World)(ns:List Nd)(nv:Value)(h:GrP B g b w ns nv)(i:Int):
  Calls Tryz.prog 153 #[.pointer (some ⟨g,0,none⟩),.int .i64 i] w fun e w'=>e= .returned (KT ns i)/\Ext w w':=by
 have si:=J (fun (k:Nat) (hk:k<ns.length)=>EP hk);have pL:=J (fun (h:i<0\/(ns.length:Int)<=i)=>KS h);have hE:ndV ⟨0,0,0,0,[]⟩= .agg #[.int .i64 0,.int .i64 0,.int .i64 0,.int .i64 0,.string ⟨#[]⟩]:=rfl;have aA:=J (Blk.new w 95 #[.int .i64 0,.int .i64 0,.int .i64 0,.int .i64 0,.string ⟨#[]⟩]);have ah:=J ((Ext.refl w).alloc (.cells #[.int .i64 0,.int .i64 0,.int .i64 0,.int .i64 0,.string ⟨#[]⟩] 95));obtain⟨w1,aB⟩:∃w1,w1=w.alloc (.cells #[.int .i64 0,.int .i64 0,.int .i64 0,.int .i64 0,.string ⟨#[]⟩] 95):=⟨_,rfl⟩;rw[<-aB]at aA ah;have q0:=aA.o.five;have f0:=aA.o.frozen 0;have f1:=aA.o.frozen 1;have f2:=aA.o.frozen 2;have f3:=aA.o.frozen 3;have f4:=aA.o.frozen 4;have k0:=(h.keep ah.o).blk.twoG;obtain⟨A,c,jc,bj⟩:=h.row.read;subst jc;have cw:=J bj;clear h bj;have eN:=J (fun x0 x1 x2 x3 x4=>Tt aA.o x0 x1 x2 x3 x4);by_cases h0:i<0
 ·have hd:decide (i<0)=true:=decide_eq_true h0;rw[pL.o (.inl h0),hE];clear si pL cw h0;go_enter Tryz.func153,Tryz.ntmps153;go_upto_region 1 with fail;rw[<-aB];clear aB;go_wp2_with fail;obtain⟨r0,r1,r2,r3,r4⟩:=eN.o (.int .i64 0) (.int .i64 0) (.int .i64 0) (.int .i64 0) (.string ⟨#[]⟩);refine bodyPost_ret (v:= .tuple #[.agg #[.int .i64 0,.int .i64 0,.int .i64 0,.int .i64 0,.string ⟨#[]⟩],.bool false]) (by simp[results,Tryz.results153,go_sem,r0,r1,r2,r3,r4]) rfl ⟨rfl,?_⟩;exact((((ah.o.setCell (p:=⟨w.heap.size,0,none⟩) (qad _) _).setCell (p:=⟨w.heap.size,1,none⟩) (qad _) _).setCell (p:=⟨w.heap.size,2,none⟩) (qad _) _).setCell (p:=⟨w.heap.size,3,none⟩) (qad _) _).setCell (p:=⟨w.heap.size,4,none⟩) (qad _) _
 have hd:decide (i<0)=false:=decide_eq_false h0;by_cases h1:(ns.length:Int)<=i
 ·have bE:decide (i>=(ns.length:Int))=true:=decide_eq_true h1;have oR:decide ((ns.length:Int)<=i)=true:=decide_eq_true h1;rw[pL.o (.inr h1),hE];clear si pL cw h0;go_enter Tryz.func153,Tryz.ntmps153;go_upto_region 1 with fail;rw[<-aB];clear aB;go_wp2_with fail;obtain⟨r0,r1,r2,r3,r4⟩:=eN.o (.int .i64 0) (.int .i64 0) (.int .i64 0) (.int .i64 0) (.string ⟨#[]⟩);refine bodyPost_ret (v:= .tuple #[.agg #[.int .i64 0,.int .i64 0,.int .i64 0,.int .i64 0,.string ⟨#[]⟩],.bool false]) (by simp[results,Tryz.results153,go_sem,r0,r1,r2,r3,r4]) rfl ⟨rfl,?_⟩;exact((((ah.o.setCell (p:=⟨w.heap.size,0,none⟩) (qad _) _).setCell (p:=⟨w.heap.size,1,none⟩) (qad _) _).setCell (p:=⟨w.heap.size,2,none⟩) (qad _) _).setCell (p:=⟨w.heap.size,3,none⟩) (qad _) _).setCell (p:=⟨w.heap.size,4,none⟩) (qad _) _
 have bE:decide (i>=(ns.length:Int))=false:=decide_eq_false h1;have oR:decide ((ns.length:Int)<=i)=false:=decide_eq_false h1;obtain⟨k,rfl⟩:∃k:Nat,(k:Int)=i:=⟨i.toNat,by omega⟩;have hk:k<ns.length:=by omega
 rw[si.o k hk];obtain⟨gb,o,rfl,bC,hc⟩:=cw.o (by omega);obtain⟨p0,p1,p2,p3,p4⟩:=hc k hk;rw[<-ah.o.cell bC]at p0 p1 p2 p3 p4;have g3:(0:Int)<=(k:Int):=by omega
 have eS:(k:Int)<(ns.length:Int):=by omega
 have cW:gb<w1.heap.size:=qaj bC ah.o.size;generalize ns[k]=x at *;clear hc si pL cw hk h0 h1;obtain⟨y0,y1,y2,y3,y4⟩:=x;simp only at p0 p1 p2 p3 p4;simp only[ndV];obtain⟨s,hs⟩:∃s:ByteArray,s=⟨(y4:List UInt8).toArray⟩:=⟨_,rfl⟩;have af:str y4= .string s:=by rw[hs];rfl
 rw[af]at p4 ⊢;clear hs af;go_enter Tryz.func153,Tryz.ntmps153;go_upto_region 1 with fail;rw[<-aB];clear aB;go_wp2_with fail;obtain⟨r0,r1,r2,r3,r4⟩:=eN.o (.int .i64 y0) (.int .i64 y1) (.int .i64 y2) (.int .i64 y3) (.string s);refine bodyPost_ret (v:= .tuple #[.agg #[.int .i64 y0,.int .i64 y1,.int .i64 y2,.int .i64 y3,.string s],.bool true]) (by simp[results,Tryz.results153,go_sem,r0,r1,r2,r3,r4]) rfl ⟨rfl,?_⟩;exact((((ah.o.setCell (p:=⟨w.heap.size,0,none⟩) (qad _) _).setCell (p:=⟨w.heap.size,1,none⟩) (qad _) _).setCell (p:=⟨w.heap.size,2,none⟩) (qad _) _).setCell (p:=⟨w.heap.size,3,none⟩) (qad _) _).setCell (p:=⟨w.heap.size,4,none⟩) (qad _) _
end Big
end Go.Proofs.YtkoaogkknnelaaaGreatDoor
