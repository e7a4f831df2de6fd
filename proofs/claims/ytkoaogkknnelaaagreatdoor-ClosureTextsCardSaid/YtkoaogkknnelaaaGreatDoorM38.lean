import Derived.Test.YtkoaogkknnelaaaGreatDoorShelf7
import Derived.Test.YtkoaogkknnelaaaGreatDoorM37
set_option linter.unusedVariables false
set_option linter.unusedSimpArgs false
set_option maxHeartbeats 4000000
set_option maxRecDepth 100000
namespace Go.Proofs.YtkoaogkknnelaaaGreatDoor
namespace Big
open Lib renaming hid → J
def Ei(first:Nat)(x:Nd):Nd:=⟨x.kind,if 5<=x.kind then x.a+first else x.a,if 6<=x.kind/\x.kind<=9 then x.b+first else x.b,x.n,x.text⟩
theorem QC(e:Ex)(hg:e.Good)(first:Nat):∀off,(Ag off e).map (Ei first)=Ag (off+first) e:=by
 induction e with
 |leaf k t=>
  intro off;have hk:k<5:=by rcases hg with ⟨h,_⟩|⟨h,_⟩|⟨h,_⟩<;>omega
  simp only[Ag,qbU,qcl,Ei];rw[if_neg (by omega),if_neg (by omega)]
 |un k n x ih=>
  intro off;have hx:=x.size_pos;have hk:=hg.1;rw[Ag,qaB,ih hg.2.2.2.2,Ag];simp only[qbU,qcl,Ei];rw[if_pos (by omega),if_neg (by omega)]
  congr 3
  omega
 |bin k x y ihx ihy=>
  intro off;have hx:=x.size_pos;have hy:=y.size_pos;have hk:=hg.1;rw[Ag,qaB,qaB,ihx hg.2.1,ihy hg.2.2,Ag];simp only[qbU,qcl,Ei];rw[if_pos (by omega),if_pos (by omega),show off+x.size+first=off+first+x.size by omega]
  congr 4
  ·omega
  ·congr 1
   ·omega
def stepR(f:Tx->Ex)(s:List Nat × List Nd)(x:Nd):List Nat × List Nd:=
 if x.kind=2 then (s.1++[s.2.length+(f x.text).size-1],s.2++Ag s.2.length (f x.text))
 else (s.1++[s.2.length],s.2++[⟨x.kind,if 5<=x.kind then ((s.1.getD x.a.toNat 0:Nat):Int) else x.a,if 6<=x.kind/\x.kind<=9 then ((s.1.getD x.b.toNat 0:Nat):Int) else x.b,x.n,x.text⟩])
def EV(f:Tx->Ex)(s:List Nat × List Nd)(l:List Nd):List Nat × List Nd:=l.foldl (stepR f) s
theorem OH(f:Tx->Ex)(s:List Nat × List Nd)(l:List Nd)(i:Nat)(h:i<l.length):EV f s (l.take (i+1))=stepR f (EV f s (l.take i)) l[i]:=by
 unfold EV;rw[qah h,qaO];rfl
theorem Je(f:Tx->Ex)(e:Ex):1<=(Bb f e).size:=(Bb f e).size_pos
theorem OI(f:Tx->Ex)(e:Ex)(hg:e.Good):∀(ids:List Nat) (out:List Nd),∃more:List Nat,more.length+1=e.size/\EV f (ids,out) (Ag ids.length e)=((ids++more)++[out.length+(Bb f e).size-1],out++Ag out.length (Bb f e)):=by
 induction e with
 |leaf k t=>
  intro ids out;have hk:k<5:=by rcases hg with ⟨h,_⟩|⟨h,_⟩|⟨h,_⟩<;>omega
  refine⟨[],rfl,?_⟩;simp only[EV,Ag,qbd,qcn,stepR,qaW];by_cases h2:k=2
  ·subst h2;rw[if_pos (by decide),Bb,if_pos rfl]
  ·rw[if_neg (by omega),Bb,if_neg h2,if_neg (by omega),if_neg (by omega)];rfl
 |un k n x ih=>
  intro ids out;obtain⟨more,hm,hf⟩:=ih hg.2.2.2.2 ids out;have hx:=x.size_pos;have hr:=Je f x;have hk:=hg.1;refine⟨more++[out.length+(Bb f x).size-1],by simp only[qab,qae,Ex.size];omega,?_⟩;rw[Ag,EV,qaO];rw[EV]at hf;rw[hf];have hl:ids.length+x.size-1=(ids++more).length:=by rw[qab];omega
  have h1:((ids++more)++[out.length+(Bb f x).size-1]).getD (((ids.length+x.size-1:Nat):Int)).toNat 0=out.length+(Bb f x).size-1:=BM _ _ (by rw[qaq];exact hl);simp only[qbd,qcn,stepR,h1];rw[if_neg (by omega),if_pos (by omega),if_neg (by omega)];have ak:(out++Ag out.length (Bb f x)).length=out.length+(Bb f x).size:=by rw[qab,Ak]
  rw[ak,Bb,Ex.size,Ag];simp only[qan];rw[show out.length+((Bb f x).size+1)-1=out.length+(Bb f x).size by omega]
 |bin k x y ihx ihy=>
  intro ids out;obtain⟨m1,jP,en⟩:=ihx hg.2.1 ids out;obtain⟨m2,cZ,nC⟩:=ihy hg.2.2 ((ids++m1)++[out.length+(Bb f x).size-1]) (out++Ag out.length (Bb f x));have hx:=x.size_pos;have hy:=y.size_pos;have UQ:=Je f x;have uR:=Je f y;have hk:=hg.1;have ak:((ids++m1)++[out.length+(Bb f x).size-1]).length=ids.length+x.size:=by simp only[qab,qae];omega
  have jt:(out++Ag out.length (Bb f x)).length=out.length+(Bb f x).size:=by rw[qab,Ak]
  rw[ak,jt]at nC;refine⟨m1++[out.length+(Bb f x).size-1]++m2++[out.length+(Bb f x).size+(Bb f y).size-1],by simp only[qab,qae,Ex.size];omega,?_⟩;rw[Ag,EV,qaO,qaO];rw[EV]at en nC;rw[en,nC];have hl:ids.length+x.size-1=(ids++m1).length:=by rw[qab];omega
  have hl2:ids.length+x.size+y.size-1=(((ids++m1)++[out.length+(Bb f x).size-1])++m2).length:=by rw[qab,ak];omega
  have h1:(((((ids++m1)++[out.length+(Bb f x).size-1])++m2)++[out.length+(Bb f x).size+(Bb f y).size-1])).getD (((ids.length+x.size-1:Nat):Int)).toNat 0=out.length+(Bb f x).size-1:=by
   rw[qaq,Cq _ _ (by rw[<-hl2];omega),Cq _ _ (by rw[ak];omega)];exact BM _ _ hl
  have h2:(((((ids++m1)++[out.length+(Bb f x).size-1])++m2)++[out.length+(Bb f x).size+(Bb f y).size-1])).getD (((ids.length+x.size+y.size-1:Nat):Int)).toNat 0=out.length+(Bb f x).size+(Bb f y).size-1:=BM _ _ (by rw[qaq];exact hl2);simp only[qbd,qcn,stepR,h1,h2];rw[if_neg (by omega),if_pos (by omega),if_pos (by omega)];have wR:((out++Ag out.length (Bb f x))++Ag (out.length+(Bb f x).size) (Bb f y)).length=out.length+(Bb f x).size+(Bb f y).size:=by rw[qab,Ak,jt]
  rw[wR,Bb,Ex.size,Ag];simp only[qan];rw[show out.length+((Bb f x).size+(Bb f y).size+1)-1=out.length+(Bb f x).size+(Bb f y).size by omega]
theorem M9(f:Tx->Ex)(e:Ex)(hg:e.Good):(EV f ([],[]) (Ag 0 e)).2=Ag 0 (Bb f e):=by
 obtain⟨more,_,h⟩:=OI f e hg [] [];rw[qaE]at h;rw[h];simp
theorem F5(f:Tx->Ex):∀e:Ex,e.Good->(∀t∈BV e,(f t).Good)->(Bb f e).Good
 | .leaf k t,hg,hf=>by
   rw[Bb];split
   ·rename_i h;exact hf t (by rw[BV,if_pos h];simp)
   ·exact hg
 | .un k n x,hg,hf=>⟨hg.1,hg.2.1,hg.2.2.1,hg.2.2.2.1,F5 f x hg.2.2.2.2 hf⟩
 | .bin k x y,hg,hf=>⟨hg.1,F5 f x hg.2.1 (fun t ht=>hf t (by rw[BV];exact qaT _ ht)),F5 f y hg.2.2 (fun t ht=>hf t (by rw[BV];exact qbK _ ht))⟩
open Go.RowKit Go.Maps Go.Sort
theorem Ke(B:Nat)(w:World)(v:Value)(ls:List Tx)(h:BN B w v ls)(hl:ls.length<=1000000)(t:Tx):
  Calls Tryz.prog 110 #[v,str t] w fun e w'=>e= .returned (.bool (decide (t∈ls)))/\w'=w:=by
 rcases h.cells with ⟨rfl,rfl⟩|⟨g,c,rfl,_,hc⟩
 ·refine(Tryz.slices_Contains_string_empty none 0 ⟨t.toArray⟩ w).mono ?_
  rintro e w' ⟨rfl,rfl⟩;exact⟨by simp,rfl⟩
 ·refine(Tryz.slices_Contains_string g 0 ls.length c (ls.map fun x=>(⟨x.toArray⟩:ByteArray)) ⟨t.toArray⟩ w (by rw[qag];exact qad _) (by omega) (fun j hj=> ?_)).mono ?_
  ·rw[qag]at hj;rw[qaF,hc j (str ls[j]) (by rw[qaD,qaa hj];rfl),qac,qaD,qaa hj];rfl
  ·rintro e w' ⟨rfl,rfl⟩;refine⟨?_,rfl⟩
   congr 2
   rw[qak (by rw[qag];exact qad _),qbi,Lib.containsS_iff,decide_eq_true_iff,qbJ];constructor
   ·rintro⟨x,hx,e⟩;have e2:x=t:=by
     injection e with e
     exact List.toArray_inj e
    exact e2 ▸ hx
   ·intro h;exact⟨t,h,rfl⟩
noncomputable def Ea(ns:List Nd)(env:Env)(t:Tx):List Tx:=(env.filter fun b=> @decide (Bi ns b.2 t) (Classical.propDecidable _)).map (·.1)
theorem ND(ns:List Nd)(env:Env)(t:Tx):(Ea ns env t).length<=env.length:=by
 unfold Ea;rw[qag];exact List.length_filter_le _ _
theorem L5{ns:List Nd}{env:Env}{t:Tx}{k:Nat}(hk:k<env.length){l:List Tx}(hl:Bs ns env[k].2 l):Ea ns (env.take (k+1)) t=Ea ns (env.take k) t++if decide (t∈l)=true then [env[k].1] else []:=by
 unfold Ea;rw[qah hk,List.filter_append,qaB]
 congr 1
 have hm:=Bi.mem hl t;by_cases h:t∈l
 ·rw[if_pos (decide_eq_true h),qaJ (p:=fun b:Tx × Int=> @decide (Bi ns b.2 t) (Classical.propDecidable _)) (@decide_eq_true _ (Classical.propDecidable _) (hm.2 h))];rfl
 ·rw[if_neg (by simp[h]),qaP (p:=fun b:Tx × Int=> @decide (Bi ns b.2 t) (Classical.propDecidable _)) (fun e=>h (hm.1 (@of_decide_eq_true _ (Classical.propDecidable _) e)))];rfl
theorem PI(B g b:Nat)(w:World)(ns:List Nd)(nv:Value)(h:GrP B g b w ns nv)(v:Value)(env:Env)(he:RdE w v env)(hn:env.length<=100000)(t:Tx):
  Calls Tryz.prog 46 #[.pointer (some ⟨g,0,none⟩),v,str t] w fun e w'=>∃v',e= .returned v'/\Ce w.heap.size w' v' (Ea ns env t)/\Ext w w':=by
 have HG:=J h;have db:=J (fun W (hx:Ext w W) (z:Int)=>DM B g b W ns nv (HG.o.keep hx) z);unfold Dc at db;have uG:=J (fun W B v l h hl=>Ke B W v l h hl t);obtain⟨A,c,rfl,bj⟩:=he;have cw:=J bj;obtain⟨n,bB⟩:∃n,n=env.length:=⟨_,rfl⟩;have HN:=J bB;rw[<-bB]at hn ⊢;obtain⟨u,hu⟩:∃u:ByteArray,str t= .string u:=⟨_,rfl⟩;rw[hu]at uG ⊢;obtain⟨U,hU⟩:∃U,Ea ns env t=U:=⟨_,rfl⟩;have HU:=J hU;rw[hU];have Wq:=J (fun k=>ND ns (env.take k) t);clear h bj bB hu hU;go_enter Tryz.func46,Tryz.ntmps46;go_wp2_with fail;go_loopw [7,12] (fun s7 s12 wr=>∃k:Nat,k<=n/\s12= .int .i64 (k:Int)/\Ce w.heap.size wr s7 (Ea ns (env.take k) t)/\Ext w wr) (fun _ s12 _=>n-(intOf s12).toNat)
 case atStart=>exact⟨0,qal _,rfl,by rw[qaK];exact Ce.none_ _ _,Ext.refl w⟩
 case round=>
  obtain⟨k,hk,rfl,ho,hx⟩:=hrel;have HO:=J ho;have HX:=J hx;have lZ:=Wq.o k;rw[qas]at lZ;by_cases hlt:k<n
  ·have bT:k<env.length:=by rw[<-HN.o];exact hlt
   obtain⟨gb,o,rfl,bC,hc⟩:=cw.o (by omega);obtain⟨p0,p1⟩:=hc k bT;rw[<-hx.cell bC]at p0 p1;have g3:(0:Int)<=(k:Int):=by omega
   have oC:(k:Int)<(n:Int):=by omega
   have jn:IntKind.i64.wrap ((k:Int)+1)=(k:Int)+1:=IntWalk.i64_in _ (by omega);have dP:=J (fun l hl=>L5 (ns:=ns) (t:=t) bT (l:=l) hl);obtain⟨m3,A3,c3,rfl⟩:=ho.arr.shape;clear hc ho hx;generalize Ea ns (env.take k) t=us at *;generalize env[k]=y at *;obtain⟨t',z⟩:=y;simp only at p0 p1 dP;obtain⟨s,hs⟩:∃s:ByteArray,str t'= .string s:=⟨_,rfl⟩;rw[hs]at p0;have aP:=J hs;clear hs bT;go_upto_region 5 with fail;have gl:=Blk.new wr 62 #[.string s,.int .i64 z];have bG:=(Ext.refl wr).alloc (.cells #[.string s,.int .i64 z] 62);generalize wr.alloc (.cells #[.string s,.int .i64 z] 62)=w7 at *;generalize wr.heap.size=nb at *;obtain⟨q0,q1⟩:=gl.twoB;have aN:=J (HX.o.trans bG);have jH:=J (HO.o.ext bG);have dD:=J gl;clear gl bG p0 p1;go_wp2_with fail;refine(db.o w7 aN.o z).mono ?_
   rintro e w8 ⟨v8,l8,rfl,_,ro,el,bS,sX⟩;have cp:=J (aN.o.trans bS);have uj:=J (jH.o.ext bS);have jM:=J (dD.o.ext bS);have HT:=J (dP.o l8 ro);have yT:=J (uG.o w8 _ v8 l8 sX el);obtain⟨A8,c8,rfl⟩:=sX.shape;clear q0 q1 bS sX ro el dP db uG;obtain⟨d,hd⟩:∃d,decide (t∈l8)=d:=⟨_,rfl⟩;rw[hd]at yT HT;clear hd;go_wp2_with fail;refine yT.o.mono ?_
   rintro e w9 ⟨rfl,rfl⟩;obtain⟨q0,q1⟩:=jM.o.twoB;cases d
   ·go_wp2_with fail;go_roundw
    case rel=>exact⟨k+1,by omega,by go_num,by rw[HT.o];simpa using uj.o,cp.o⟩
    case measure=>simp[intOf];omega
   ·have rH:w.heap.size<=w9.heap.size:=cp.o.size;have lN:Hid (BB (w9.alloc (.cells #[.string s] 9)) (.slice (some ⟨w9.heap.size,0,none⟩) 1 1) [t']):=J (by rw[<-aP.o];exact BB.fresh1 w9 t');have nK:Hid (us.length+[t'].length<=2147483648):=J (by rw[qae];omega);go_wp2_with (at_builtin;go_must (refine Dh (B:=w.heap.size) rfl _ _ rfl rfl (uj.o.ext ((Ext.refl _).alloc _)) rfl lN.o nK.o (by simp;omega) ?_;intro v' w' bf hgr av));have HE:=J (And.intro bf ((cp.o.alloc _).more av));clear bf hgr av;go_roundw
    case rel=>exact⟨k+1,by omega,by go_num,by rw[HT.o];exact HE.o.1,HE.o.2⟩
    case measure=>simp[intOf];omega
  ·obtain rfl:k=n:=by omega
   have HE:Hid (Ce w.heap.size wr u7 U/\Ext w wr):=J (by
    have h:=HO.o;rw[show env.take k=env from qak (by rw[<-HN.o];exact qad _),HU.o]at h;exact⟨h,HX.o⟩)
   obtain⟨m3,A3,c3,rfl⟩:=ho.arr.shape;clear ho hx;go_wp2_with fail;go_ret;exact⟨_,rfl,HE.o.1,HE.o.2⟩
def OP:Ex:= .leaf 1 [49]
def OO:Ex:= .bin 6 (.leaf 2 [120]) (.leaf 2 [120])
def ON:Ex:= .bin 8 (.leaf 2 [121]) (.leaf 2 [121])
def OM:Ex:= .bin 8 (.bin 6 (.leaf 1 [49]) (.leaf 1 [49])) (.bin 6 (.leaf 1 [49]) (.leaf 1 [49]))
def QA:List Nd:=[⟨1,0,0,0,[49]⟩]
def Qz:List Nd:=[⟨1,0,0,0,[49]⟩,⟨2,0,0,0,[120]⟩,⟨6,1,1,0,[]⟩]
def Qy:List Nd:=[⟨1,0,0,0,[49]⟩,⟨2,0,0,0,[120]⟩,⟨6,1,1,0,[]⟩,⟨2,0,0,0,[121]⟩,⟨8,3,3,0,[]⟩]
def C9:List Nd:=[⟨1,0,0,0,[49]⟩,⟨2,0,0,0,[120]⟩,⟨6,1,1,0,[]⟩,⟨2,0,0,0,[121]⟩,⟨8,3,3,0,[]⟩,⟨6,0,0,0,[]⟩,⟨8,5,5,0,[]⟩]
def Dn:Env:=[([120],0),([121],2)]
theorem TZ:EJ [49]=(some OP,1,0):=by kernel_rfl
theorem TY:EJ [120,32,43,32,120]=(some OO,5,0):=by kernel_rfl
theorem TX:EJ [121,32,42,32,121]=(some ON,5,0):=by kernel_rfl
theorem TW:EJ [40,49,32,43,32,49,41,32,42,32,40,49,32,43,32,49,41]=(some OM,17,0):=by kernel_rfl
theorem T8:AC [] OP=(0,QA):=by decide
theorem T7:AC QA OO=(2,Qz):=by decide
theorem T6:AC Qz ON=(4,Qy):=by decide
theorem T5:AC Qy OM=(6,C9):=by decide
theorem F9:OP.Good:= .inl ⟨rfl,by kernel_rfl,by decide⟩
theorem Pp:OO.Good:=⟨⟨by decide,by decide⟩,.inr (.inl ⟨rfl,by decide⟩),.inr (.inl ⟨rfl,by decide⟩)⟩
theorem Po:ON.Good:=⟨⟨by decide,by decide⟩,.inr (.inl ⟨rfl,by decide⟩),.inr (.inl ⟨rfl,by decide⟩)⟩
theorem Ty:OM.Good:=⟨⟨by decide,by decide⟩,⟨⟨by decide,by decide⟩,F9,F9⟩,⟨⟨by decide,by decide⟩,F9,F9⟩⟩
theorem F7(t:Tx):¬AK C9 0 t:=fun h=>by
 have:=(GD (e:=OP) F9 (show Rep C9 0 OP from rfl)).1 h;simp[BV,OP]at this
theorem F6(t:Tx):AK C9 2 t↔t=[120]:=by
 rw[GD (e:=OO) Pp (show Rep C9 2 OO from ⟨1,1,rfl,rfl,rfl⟩)];simp[BV,OO]
theorem Qx(t:Tx):AK C9 4 t↔t=[121]:=by
 rw[GD (e:=ON) Po (show Rep C9 4 ON from ⟨3,3,rfl,rfl,rfl⟩)];simp[BV,ON]
theorem Pv(t:Tx):¬BO C9 Dn 0 t:=fun h=>AO.inside (S:=fun _=>False) (fun t ht=>F7 t ht) (fun _ _ h=>h.elim) h
theorem Pu{t:Tx}(h:BO C9 Dn 2 t):t=[120]:=AO.inside (S:=fun t=>t=[120]) (fun t ht=>(F6 t).1 ht) (fun t s h _ hn=>by
 subst h;exact absurd hn (F7 s)) h
theorem TE{t:Tx}(h:BO C9 Dn 4 t):t=[120]\/t=[121]:=AO.inside (S:=fun t=>t=[120]\/t=[121]) (fun t ht=> .inr ((Qx t).1 ht)) (fun t s h _ hn=>by
 rcases h with rfl|rfl
 ·exact absurd hn (F7 s)
 ·exact .inl ((F6 s).1 hn)) h
theorem K4:Bv C9 Dn:=by
 refine⟨⟨by decide,?_,?_,?_⟩,?_,?_⟩
 ·intro b hb;rcases qay.1 hb with rfl|hb
  ·decide
  ·rcases qay.1 hb with rfl|hb
   ·decide
   ·cases hb
 ·intro b hb;rcases qay.1 hb with rfl|hb
  ·decide
  ·rcases qay.1 hb with rfl|hb
   ·decide
   ·cases hb
 ·unfold Eu Asc;decide
 ·intro b hb;rcases qay.1 hb with rfl|hb
  ·exact fun t ht=>absurd ht (Pv t)
  ·rcases qay.1 hb with rfl|hb
   ·intro t ht;rw[Pu ht];decide
   ·cases hb
 ·intro b hb;rcases qay.1 hb with rfl|hb
  ·exact Pv _
  ·rcases qay.1 hb with rfl|hb
   ·intro h;exact absurd (Pu h) (by decide)
   ·cases hb
theorem Ox:Es 1 [49]:= .inl ⟨rfl,by kernel_rfl,by decide⟩
theorem Uf:Bt C9 Dn 4 OM:=
 have h0:Bt C9 Dn 0 (.leaf 1 [49]):= .leaf rfl (by decide) Ox;have h1:Bt C9 Dn 1 (.leaf 1 [49]):= .name (n:=0) rfl rfl h0;have h2:Bt C9 Dn 2 (.bin 6 (.leaf 1 [49]) (.leaf 1 [49])):= .bin rfl (by decide) h1 h1;have h3:Bt C9 Dn 3 (.bin 6 (.leaf 1 [49]) (.leaf 1 [49])):= .name (n:=2) rfl rfl h2
 .bin rfl (by decide) h3 h3
theorem T4:AC C9 OM=(6,C9):=by decide
theorem SJ:Hl C9 Dn 4 6 0 C9:=by
 refine .inr (.inr ⟨by decide,by decide,fun t ht=> ?_,OM,Uf,.inl ?_⟩)
 ·rcases TE ht with rfl|rfl<;>decide
 ·rw[T4];exact⟨by decide,rfl,rfl,rfl⟩
theorem Ue:CW C9 (fun x=>if x=[120] then none else Cg Dn x) (Bi C9 2) [120]:= .here ⟨by decide,by decide,(F6 _).2 rfl⟩
theorem Tc:Ea C9 Dn [120]=[[121]]:=by
 unfold Ea;have h0:¬Bi C9 0 [120]:=fun h=>F7 _ h.2.2
 have h2:Bi C9 2 [120]:=⟨by decide,by decide,(F6 _).2 rfl⟩;simp[Dn,h0,h2]
theorem Uc:TxE Dn:=by
 intro b hb;rcases qay.1 hb with rfl|hb
 ·exact⟨by decide,by decide⟩
 ·rcases qay.1 hb with rfl|hb
  ·exact⟨by decide,by decide⟩
  ·cases hb
open Go.RowKit
theorem Ml(w:World)(v u:Value)(ls ms:List (List UInt8))(h:BB w v ls)(h':BB w u ms)(hn:ls.length<=1073741824)(cC:ms.length<=1073741824):
  Calls Tryz.prog 45 #[v,u] w fun e w'=>e= .returned (.bool (decide (ls=ms)))/\Ext w w':=by
 obtain⟨A,c,rfl,hc,hm,aa⟩:=h.open;obtain⟨A',c',rfl,hc',qw,bv⟩:=h'.open;have HC:=J aa;have HC':=J bv;clear aa bv hm qw hc hc' h h';by_cases hl:ls.length=ms.length
 ·have hb:((ls.length:Int) != (ms.length:Int))=false:=by rw[hl];simp
  have hb2:((ls.length:Int) == (ms.length:Int))=true:=by rw[hl];simp
  have HL:=J hl;clear hl;go_enter Tryz.func45,Tryz.ntmps45;go_wp2_with fail;go_loopw [8] (fun i wr=>∃k:Nat,k<=ls.length/\i= .int .i64 k/\Hid (ls.take k=ms.take k)/\Ext w wr) (fun i _=>ls.length-(intOf i).toNat)
  case atStart=>exact⟨0,by omega,rfl,rfl,Ext.refl _⟩
  case round=>
   obtain⟨k,hk,rfl,HK,ai⟩:=hrel;by_cases hlt:k<ls.length
   ·have hlt2:k<ms.length:=by have:=HL.o;omega
    obtain⟨b,o,rfl,bF,aa⟩:=HC.o (by omega);obtain⟨b',o',rfl,VP,bv⟩:=HC'.o (by omega);have hx:=(ai.cell bF).trans (aa k hlt);have hy:=(ai.cell VP).trans (bv k hlt2);have aP:=J (fun he=>PP HK.o hlt hlt2 he);have fF:Hid (ls[k]≠ms[k]->decide (ls=ms)=false):=J (fun he=>by
     rw[decide_eq_false_iff_not];intro e;subst e;exact he rfl)
    clear aa bv;generalize ls[k]=x at *;generalize ms[k]=y at *;have HX:=J ai;clear ai;have h0:(0:Int)<=(k:Int):=by omega
    have h1:(k:Int)<(ls.length:Int):=by omega
    have h2:(k:Int)<(ms.length:Int):=by omega
    by_cases he:x=y
    ·subst he;have HT:=J (aP.o rfl);go_wp2_with fail;go_quiet (fail);go_wp2_with fail;go_roundw
     case rel=>exact⟨k+1,by omega,by go_num,HT,HX.o.drewN _⟩
     case measure=>simp[intOf];omega
    ·have kR:(x == y)=false:=by rw[beq_eq_false_iff_ne];exact he
     have HD:=J (fF.o he);clear he;go_wp2_with fail;go_quiet (fail);go_wp2_with fail;go_ret;rw[HD.o];exact⟨rfl,HX.o.drewN _⟩
   ·obtain rfl:k=ls.length:=by omega
    have HD:Hid (decide (ls=ms)=true):=J (by
     rw[decide_eq_true_iff];have h1:=HK.o;rw[qak (qad _),qak (by rw[HL.o];exact qad _)]at h1;exact h1)
    go_wp2_with fail;go_ret;rw[HD.o];exact⟨rfl,ai⟩
 ·have hb:((ls.length:Int) != (ms.length:Int))=true:=by rw[bne_iff_ne];omega
  have hb2:((ls.length:Int) == (ms.length:Int))=false:=by rw[beq_eq_false_iff_ne];omega
  have HD:Hid (decide (ls=ms)=false):=J (by
   rw[decide_eq_false_iff_not];intro e;exact hl (by rw[e]))
  clear hl;go_enter Tryz.func45,Tryz.ntmps45;go_wp2_with fail;go_loopw [8] (fun i wr=>i= .int .i64 0/\Ext w wr) (fun i _=>ls.length-(intOf i).toNat)
  case atStart=>exact⟨rfl,Ext.refl _⟩
  case round=>
   obtain⟨rfl,ai⟩:=hrel;by_cases hlt:0<ls.length
   ·have HX:=J ai;clear ai;go_wp2_with fail;go_quiet (fail);go_wp2_with fail;go_ret;rw[HD.o];exact⟨rfl,HX.o.drewN _⟩
   ·go_wp2_with fail;go_ret;rw[HD.o];exact⟨rfl,ai⟩
end Big
end Go.Proofs.YtkoaogkknnelaaaGreatDoor
