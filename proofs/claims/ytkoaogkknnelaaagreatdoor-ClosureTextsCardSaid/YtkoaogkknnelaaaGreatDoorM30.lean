import Derived.Test.YtkoaogkknnelaaaGreatDoorM29
import Derived.Sort.KeysCollected
set_option linter.unusedVariables false
set_option linter.unusedSimpArgs false
set_option maxHeartbeats 8000000
set_option maxRecDepth 100000
namespace Go.Proofs.YtkoaogkknnelaaaGreatDoor
namespace Big
open Lib renaming hid → J
open Go.RowKit
theorem Qc(B g:Nat)(w:World)(ns:List Nd)(rv:Value)(h:GrR B g w ns rv)(i:Nat)(hi:i<ns.length):
  Calls Tryz.prog 112 #[.pointer (some ⟨g,0,none⟩),.int .i64 (i:Int)] w fun e w'=>e= .returned (.int .i64 (H5 ns (i:Int)))/\Ext w w':=by
 have hfew:=h.few;have bV:=J h.ok;have ig:=J (Fh B g w ns rv h (i:Int));rw[decide_eq_true (⟨by omega,by omega⟩:0<=(i:Int)/\(i:Int)<(ns.length:Int))]at ig;have HT:=J (JR ns hi);rw[K8 hi];obtain⟨A,c,jc,bj⟩:=h.row.read;subst jc;have cw:=J bj;have HG:=J h;clear bj h;generalize hdd:(C3 ns).getD i 0=dd at *;obtain⟨m,hm⟩:∃m,m=i+1:=⟨_,rfl⟩;rw[<-hm]at HT;have jP:m<=4096:=by omega
 have wM:m<=ns.length:=by omega
 have X2:i<m:=by omega
 have dF:=Hs m (by omega);have vI:IntKind.i64.wrap ((i:Int)+1)=(m:Int):=by rw[IntWalk.i64_in _ (by omega)];omega
 obtain⟨k0,f0,ea⟩:=HG.o.blk.oneG;obtain⟨n,bB⟩:∃n,n=ns.length:=⟨_,rfl⟩;have HN:=J bB;rw[<-bB]at HG hfew k0 wM;clear hm hi bB hdd;go_enter Tryz.func112,Tryz.ntmps112;go_wp2_with fail;refine ig.o.mono ?_
 rintro e w1 ⟨rfl,ar⟩;have ah:=J ar;have VT:=ar.size;clear ar;go_upto_region 4 with fail;have aF:=J (Blk.new w1 3 (AI (List.replicate m 0)));have am:=J (ah.o.alloc (.cells (AI (List.replicate m 0)) 3));obtain⟨bd,tM⟩:∃bd,bd=w1.heap.size:=⟨_,rfl⟩;obtain⟨w2,aY⟩:∃w2,w2=w1.alloc (.cells (AI (List.replicate m 0)) 3):=⟨_,rfl⟩;rw[<-aY,<-tM]at aF;rw[<-aY]at am;rw[<-aY,<-tM];have hbd:w.heap.size<=bd:=by omega
 clear aY tM VT dF vI k0 f0 ig ah;go_wp2_with fail;go_loopw [18] (fun s18 wr=>∃k:Nat,k<=m/\s18= .int .i64 (k:Int)/\Blk wr bd 3 (AI (C3 (ns.take k)++List.replicate (m-k) 0))/\Ext w wr) (fun s18 _=>m-(intOf s18).toNat)
 case atStart=>exact⟨0,qal _,rfl,aF.o,am.o⟩
 case round=>
  clear aF am;obtain⟨k,hk,rfl,hb2,hx⟩:=hrel;by_cases hlt:k<m
  ·have bT:k<ns.length:=by have:=HN.o;omega
   have an:=bV.o.2 k _ (qaa bT);have qB:=EY (ns.take k);rw[qas,qaV (by omega)]at qB;have cP:=J (fun j=>Nh bV.o j k (by omega));have aW:=J (GH (ns.take k) ns[k] an);rw[List.take_append_getElem bT]at aW;have np:=J an.args_lt;have fC:=an.args_len;have aS:=J (fun W=>D4 W ns[k] an);obtain⟨gb,o,rfl,bC,hc⟩:=cw.o (by omega);obtain⟨p0,p1,p2,p3,p4⟩:=hc k bT;generalize C3 (ns.take k)=DL at *;generalize BA ns[k]=zs at *;have HX:=J hx;have Vt:gb≠bd:=by omega
   obtain⟨r,hr⟩:∃r,r=m-(k+1):=⟨_,rfl⟩;have oz:(DL++List.replicate (m-k) 0).set k 1=CD DL 1 r:=by
    have:=GE DL 1 m (by omega);rw[qB]at this;rw[this,hr]
   have cn:Blk (wr.setCell ⟨bd,k,none⟩ (.int .i64 1)) bd 3 (AI (CD DL 1 r)):=by
    have h:=hb2.set_ k (.int .i64 ((1:Nat):Int));rw[C7,oz]at h;exact h
   have aJ:=hx.setCell (p:=⟨bd,k,none⟩) hbd (.int .i64 1);obtain⟨w4,hw4⟩:∃w4,w4=wr.setCell ⟨bd,k,none⟩ (.int .i64 1):=⟨_,rfl⟩;rw[<-hw4]at cn aJ;have fj:=J cn;have aD:=J aJ;have z2:=hb2.cell k;rw[Bd _ _ (by rw[qab,qaL];omega)]at z2;have f4:=hb2.frozen k;generalize (DL++List.replicate (m-k) 0).getD k 0=old2 at *;have hki:(k:Int)<(m:Int):=by omega
   have g3:(0:Int)<=(k:Int):=by omega
   have Vk:(k:Int)<(n:Int):=by omega
   have jn:IntKind.i64.wrap ((k:Int)+1)=(k:Int)+1:=IntWalk.i64_in _ (by omega);clear hb2 cn oz hx aJ hc an;go_upto_region 8 with fail;rw[<-hw4];clear hw4 z2 f4;obtain⟨k0,f0,Vp⟩:=(HG.o.keep aD.o).blk.oneG;rw[<-aD.o.cell bC]at p0 p1 p2 p3 p4;generalize ns[k]=x at *;clear bT;obtain⟨y0,y1,y2,y3,y4⟩:=x;simp only[ndV]at aS;simp only at p0 p1 p2 p3 p4;obtain⟨s,hs⟩:∃s:ByteArray,s=⟨(y4:List UInt8).toArray⟩:=⟨_,rfl⟩;have af:str y4= .string s:=by rw[hs];rfl
   rw[af]at p4 aS;clear hs af;obtain⟨mz,iZ⟩:∃mz,mz=zs.length:=⟨_,rfl⟩;have jj:=J iZ;rw[<-iZ]at fC;have HZ:Hid (∀j,j<mz->zs.getD j 0<k):=J (fun j hj=>by
    rw[qac,qaa (by omega)];exact np.o _ (qap _))
   have dP:Hid (∀j,j<mz->zs.take (j+1)=zs.take j++[zs.getD j 0]):=J (fun j hj=>by
    rw[qah (by omega),qac,qaa (by omega)];rfl)
   clear iZ;go_wp2_with fail;refine(aS.o w4).mono ?_
   rintro e w5 ⟨A3,c3,rfl,hx5,bO⟩;rw[<-jj.o]at bO ⊢;have ba:=J (aD.o.trans hx5);have pp:=J (fj.o.ext hx5);have mP:bd<w4.heap.size:=fj.o.lt;have pO:Hid (∀j,j<mz->∃b3,A3=some ⟨b3,0,none⟩/\b3≠bd/\w5.cell? ⟨b3,j,none⟩=some (.int .i64 ((zs.getD j 0:Nat):Int))):=J (fun j hj=>by
    obtain⟨b3,h1,h2,h3,h4⟩:=bO (by omega);exact⟨b3,h1,by omega,h4 j hj⟩)
   clear p0 p1 p2 p3 p4 k0 f0 hx5 bO aS;go_wp2_with fail;generalize wr=wa at *;go_loopw [33] (fun St wr=>∃q:Nat,q<=mz/\St= .int .i64 (q:Int)/\Blk wr bd 3 (AI (CD DL (dpA DL (zs.take q)) r))/\Ext w wr/\(∀j,j<mz->∃b3,A3=some ⟨b3,0,none⟩/\b3≠bd/\wr.cell? ⟨b3,j,none⟩=some (.int .i64 ((zs.getD j 0:Nat):Int)))) (fun St _=>mz-(intOf St).toNat)
   case atStart=>exact⟨0,qal _,rfl,pp.o,ba.o,pO.o⟩
   case round=>
    clear pp ba pO fj aD HX;obtain⟨q,hq,rfl,hb2,hx,fy⟩:=hrel;by_cases hqz:q<mz
    ·obtain⟨b3,rfl,hn2,aa⟩:=fy q hqz;have no:=J fy;have fa:=HZ.o q hqz;have hv2:=Nc DL (zs.take q) (zs.getD q 0);rw[<-dP.o q hqz]at hv2;have tO:=cP.o (zs.getD q 0);have kv:dpA DL (zs.take q)<=k+1:=OR DL _ k (fun a _=>cP.o a);have hl2:=Jw DL (dpA DL (zs.take q)) r;have z3:=hb2.cell k;rw[Bd _ _ (by omega),show (CD DL (dpA DL (zs.take q)) r).getD k 0=dpA DL (zs.take q) by rw[<-qB];exact LG _ _ _]at z3;have z4:=hb2.cell (zs.getD q 0);rw[Bd _ _ (by omega),Jv _ _ _ (by omega)]at z4;have f2:=hb2.frozen k;have wN:∀u,(CD DL (dpA DL (zs.take q)) r).set k u=CD DL u r:=fun u=>by rw[<-qB];exact Ju _ _ _ _
     have qd:Hid (∀(u:Nat),Blk (wr.setCell ⟨bd,k,none⟩ (.int .i64 (u:Int))).drew bd 3 (AI (CD DL u r))/\Ext w (wr.setCell ⟨bd,k,none⟩ (.int .i64 (u:Int))).drew/\(∀b3 j,b3≠bd->(wr.setCell ⟨bd,k,none⟩ (.int .i64 (u:Int))).drew.cell? ⟨b3,j,none⟩=wr.cell? ⟨b3,j,none⟩)):=J (fun u=>by
      have h:=hb2.set_ k (.int .i64 (u:Int));rw[C7,wN]at h;exact⟨h.drew,(hx.setCell (p:=⟨bd,k,none⟩) hbd _).drew,fun b3 j hne=>World.cell?_of_block (a:=⟨b3,j,none⟩) (Below.heap_setCell _ _ _ b3 hne)⟩)
     have HX:=J hx;have fL:=J hv2;clear hv2 wN fy hb2 hx hl2;generalize hdv:dpA DL (zs.take q)=d1 at *;generalize hda:DL.getD (zs.getD q 0) 0=da at *;generalize hza:zs.getD q 0=za at *;clear hdv hda hza;have cA:IntKind.i64.wrap ((da:Int)+1)=(da:Int)+1:=IntWalk.i64_in _ (by omega);have te:max (d1:Int) ((da:Int)+1)=((max d1 (da+1):Nat):Int):=by omega
     have td:(if (d1:Int)<(da:Int)+1 then (da:Int)+1 else (d1:Int))=((max d1 (da+1):Nat):Int):=by split<;>omega
     obtain⟨d2,bE⟩:∃d2,d2=max d1 (da+1):=⟨_,rfl⟩;rw[<-bE]at te td fL;have pV:(0:Int)<=(q:Int):=by omega
     have sQ:(q:Int)<(mz:Int):=by omega
     have nU:(0:Int)<=(za:Int):=by omega
     have nT:(za:Int)<(m:Int):=by omega
     have Zs:IntKind.i64.wrap ((q:Int)+1)=(q:Int)+1:=IntWalk.i64_in _ (by omega);have du:=J (qd.o d2);clear bE tO kv qd;go_upto_region 11 with fail;go_region
     all_goals
      go_wp2_with fail;go_roundw
      case rel=>
       refine⟨q+1,hqz,by go_num,?_,du.o.2.1,fun j hj=> ?_⟩
       ·rw[fL.o];exact du.o.1
       ·obtain⟨b4,e4,p2,p3⟩:=no.o j hj;exact⟨b4,e4,p2,(du.o.2.2 b4 j p2).trans p3⟩
      case measure=>simp[intOf];omega
    ·obtain rfl:q=mz:=by omega
     have HX:=J hx;have oZ:Blk wr bd 3 (AI (C3 (ns.take (k+1))++List.replicate (m-(k+1)) 0)):=by
      rw[aW.o,<-hr,<-Jx];have h:=hb2;rw[jj.o,qbr]at h;exact h
     have aF:=J oZ;clear hb2 oZ hx fy;go_wp2_with fail;go_roundw
     case rel=>exact⟨k+1,hlt,by go_num,aF.o,HX.o⟩
     case measure=>simp[intOf];omega
  ·obtain rfl:k=m:=by omega
   rw[qaX,qci,qaW]at hb2;have z:=hb2.cell i;have hl:=EY (ns.take k);rw[qas,qaV (by have:=HN.o;omega)]at hl;rw[Bd _ _ (by omega),HT.o]at z;have HX:=J hx;have dW:(0:Int)<=(i:Int):=by omega
   have hik:(i:Int)<(k:Int):=by omega
   clear hb2 hx hl;go_wp2_with fail;go_ret;exact⟨rfl,HX.o⟩
theorem N3(B g:Nat)(w:World)(ns:List Nd)(rv:Value)(h:GrR B g w ns rv)(i:Int):
  Calls Tryz.prog 112 #[.pointer (some ⟨g,0,none⟩),.int .i64 i] w fun e w'=>e= .returned (.int .i64 (H5 ns i))/\Ext w w':=by
 by_cases hi:0<=i/\i<(ns.length:Int)
 ·obtain⟨k,rfl⟩:∃k:Nat,(k:Int)=i:=⟨i.toNat,by omega⟩;exact Qc B g w ns rv h k (by omega)
 ·have ig:=J (Fh B g w ns rv h i);rw[decide_eq_false hi]at ig;rw[OS (by omega)];clear h hi;go_enter Tryz.func112,Tryz.ntmps112;go_wp2_with fail;refine ig.o.mono ?_
  rintro e w1 ⟨rfl,ar⟩;have ah:=J ar;clear ar;go_wp2_with fail;go_ret;exact⟨rfl,ah.o⟩
open Go.RowKit Go.Maps Go.Sort
def Do(w:World)(b m:Nat)(S:Tx->Prop):Prop:=∃D:DataW Unit,w.ownsMap Tryz.prog 9 (plainElem Tryz.prog 4) b m D/\∀t,has D (.string t)=true↔S t
theorem Do.made(w:World):Do (w.alloc (.map #[] 0)) w.heap.size 0 (fun _=>False):=
 ⟨.map [],World.ownsMap_made w _ _ _,fun t=>⟨fun h=>Bool.noConfusion h,fun h=>h.elim⟩⟩
theorem Do.lt{w:World}{b m:Nat}{S:Tx->Prop}(h:Do w b m S):b<w.heap.size:=by
 obtain⟨D,h,_⟩:=h;exact h.lt
theorem Do.at{w w':World}{b m:Nat}{S:Tx->Prop}(h:Do w b m S)(hk:w'.heap[b]? =w.heap[b]?):Do w' b m S:=by
 obtain⟨D,⟨es,clock,hb,F,hs,hD⟩,h2⟩:=h;exact⟨D,⟨es,clock,hk.trans hb,F,hs,hD⟩,h2⟩
theorem Do.ext{w w':World}{b m:Nat}{S:Tx->Prop}(h:Do w b m S)(hx:Ext w w'):Do w' b m S:=h.at (hx.block b h.lt)
theorem Do.mono{w:World}{b m m':Nat}{S:Tx->Prop}(h:Do w b m S)(hm:m<=m'):Do w b m' S:=by
 obtain⟨D,h,h2⟩:=h;exact⟨D,h.mono hm,h2⟩
theorem Do.congr{w:World}{b m:Nat}{S S':Tx->Prop}(h:Do w b m S)(hs:∀t,S t↔S' t):Do w b m S':=by
 obtain⟨D,h,h2⟩:=h;exact⟨D,h,fun t=>(h2 t).trans (hs t)⟩
theorem ER(t:Tx)(ht:t.length<=maxLen):keyOf Tryz.prog 9 (str t)=some (.string t):=by
 have hs:(⟨t.toArray⟩:ByteArray).size<=maxLen:=by rw[Cl];exact ht
 unfold keyOf;rw[Tryz.underlying9];simp[str,mapKey,Tryz.underlying9,hs]
theorem Do.store{w:World}{b m:Nat}{S:Tx->Prop}(h:Do w b m S)(hm:m<maxLen)(t:Tx)(ht:t.length<=maxLen):
  ∃w',(Instr.mapUpdate 151 (.map (some b)) (str t) (.bool true)).run Tryz.prog w= .ok () w'/\Do w' b (m+1) (fun x=>x=t\/S x)/\w.grownBy w' (some b):=by
 obtain⟨D,h,h2⟩:=h;obtain⟨w',hr,ho,hg⟩:=h.update (string_keyed Tryz.underlying9) Tryz.underlying151 hm (ER t ht) (plainElem_bool Tryz.underlying4 true);refine⟨w',hr,⟨_,ho,fun x=> ?_⟩,hg⟩;by_cases hx:x=t
 ·subst hx;rw[has_put_same h.isMap (by trivial)];simp
 ·rw[has_put_other (by intro e;injection e with e;exact hx e),h2 x];simp[hx]
theorem Do.keys{w:World}{b m:Nat}{D:DataW Unit}(h:w.ownsMap Tryz.prog 9 (plainElem Tryz.prog 4) b m D)(t:Tx):t∈strKeys D↔has D (.string t)=true:=by
 obtain⟨es,rfl,hk⟩:=h.keysOf;rw[has_eq,List.any_eq_true];show t∈es.map (fun p=>strOf p.1)↔_;rw[qbJ];constructor
 ·rintro⟨p,hp,rfl⟩;obtain⟨v,hv⟩:=hk p hp;obtain⟨x,_,hx,_⟩:=Maps.keyOf_str Tryz.underlying9 hv;exact⟨p,hp,by rw[hx];simp[Lit.sameKey,strOf]⟩
 ·rintro⟨p,hp,hs⟩;obtain⟨v,hv⟩:=hk p hp;obtain⟨x,_,hx,_⟩:=Maps.keyOf_str Tryz.underlying9 hv;rw[hx]at hs;exact⟨p,hp,by rw[hx];simpa [Lit.sameKey,strOf] using hs⟩
def Bq(l:List Bool):Array Value:=(l.map Value.bool).toArray
theorem Dv(l:List Bool)(i:Nat)(x:Bool):(Bq l).setIfInBounds i (.bool x)=Bq (l.set i x):=by
 apply qcg;simp[Bq,List.map_set]
theorem Cc(l:List Bool)(i:Nat)(h:i<l.length):(Bq l)[i]? =some (.bool (l.getD i false)):=by
 unfold Bq;rw[qbL,qaD,qac,qaa h];rfl
theorem QN:(Tryz.prog.info? 4).map (fun i=>(i.zero,i.size,i.bytes))=some (some (.bool false),1,1):=by kernel_rfl
theorem Ky(n:Nat)(hn:n<=1000000)(W:World):(Instr.makeSlice 133 (.int .i64 (n:Int)) (.int .i64 (n:Int))).run Tryz.prog W=
  .ok (.slice (some ⟨W.heap.size,0,none⟩) n n) (W.alloc (.cells (Bq (List.replicate n false)) 4)):=by
 obtain⟨i0,hi,aR,hz1,aU⟩:=info_parts QN;have hr:=run_make (P:=Tryz.prog) W 133 4 i0 _ Tryz.underlying133 hi aR .i64 .i64 (n:Int) (n:Int) (by omega) (Int.le_refl _) (by rw[aU];omega) (by omega);have hm:madeCells (Value.cells (.bool false)) (n*1)=Bq (List.replicate n false):=by
  apply qcg;apply qcb;intro i;simp only[madeCells,Bq,Value.cells];rw[qcc,Array.getElem?_map,qaD,qbZ];rcases qam i n with h|h
  ·rw[qbO,if_pos (by omega),if_pos h];simp[Nat.mod_one]
  ·rw[qbO,if_neg (by omega),if_neg (by omega)];rfl
 rw[hz1,qaq,hm]at hr;exact hr
abbrev Env:=List (Tx × Int)
def AH:Env->Tx->Int
 |[],_=> -1
 |b::l,t=>if b.1=t then b.2 else AH l t
theorem JO{env:Env}{t:Tx}(h:∀b∈env,b.1≠t):AH env t= -1:=by
 induction env with
 |nil=>rfl
 |cons b l ih=>
  rw[AH,if_neg (h b (by simp))];exact ih (fun c hc=>h c (qbs _ hc))
theorem QZ{env:Env}{t:Tx}(h:AH env t≠-1):(t,AH env t)∈env:=by
 induction env with
 |nil=>exact absurd rfl h
 |cons b l ih=>
  rw[AH]at h ⊢;by_cases hb:b.1=t
  ·rw[if_pos hb];subst hb;exact List.mem_cons_self
  ·rw[if_neg hb]at h ⊢;exact qbs _ (ih h)
def Eu(env:Env):Prop:=Asc (env.map (·.1))
theorem SF{env:Env}(ha:Eu env){b:Tx × Int}(h:b∈env):AH env b.1=b.2:=by
 induction env with
 |nil=>cases h
 |cons c l ih=>
  unfold Eu Asc at ha;rw[qbU,qbG]at ha;rw[AH];rcases qay.1 h with rfl|h
  ·rw[if_pos rfl]
  ·have hlt:=ha.1 b.1 (List.mem_map_of_mem h);rw[if_neg (fun e=>by rw[e]at hlt;exact Ds _ hlt)];exact ih ha.2 h
theorem Q0(a b:Env)(t:Tx):AH (a++b) t=if (∃x∈a,x.1=t) then AH a t else AH b t:=by
 induction a with
 |nil=>rw[if_neg (by rintro⟨x,hx,_⟩;cases hx)];rfl
 |cons x l ih=>
  rw[qbt,AH,AH];by_cases hx:x.1=t
  ·rw[if_pos hx,if_pos hx,if_pos ⟨x,by simp,hx⟩]
  ·rw[if_neg hx,if_neg hx,ih];by_cases hl:∃y∈l,y.1=t
   ·obtain⟨y,hy,he⟩:=hl;rw[if_pos ⟨y,hy,he⟩,if_pos ⟨y,qbs _ hy,he⟩]
   ·rw[if_neg hl,if_neg];rintro⟨y,hy,he⟩;rcases qay.1 hy with rfl|hy
    ·exact hx he
    ·exact hl ⟨y,hy,he⟩
inductive AO (ns:List Nd) (env:Env) (T:Tx->Prop):Tx->Prop where
 |here {t:Tx}:T t->AO ns env T t
 |step {t s:Tx}:AO ns env T t->0<=AH env t->AK ns (AH env t).toNat s->AO ns env T s
theorem AO.mono{ns:List Nd}{env:Env}{T T':Tx->Prop}(h:∀t,T t->T' t){t:Tx}(hr:AO ns env T t):AO ns env T' t:=by
 induction hr with
 |here ht=>exact .here (h _ ht)
 |step _ h1 h2 ih=>exact .step ih h1 h2
theorem AO.trans{ns:List Nd}{env:Env}{T T':Tx->Prop}(h:∀t,T t->AO ns env T' t){t:Tx}(hr:AO ns env T t):AO ns env T' t:=by
 induction hr with
 |here ht=>exact h _ ht
 |step _ h1 h2 ih=>exact .step ih h1 h2
theorem AO.inside{ns:List Nd}{env:Env}{T S:Tx->Prop}(h0:∀t,T t->S t)(h1:∀t s,S t->0<=AH env t->AK ns (AH env t).toNat s->S s){t:Tx}(hr:AO ns env T t):S t:=by
 induction hr with
 |here ht=>exact h0 _ ht
 |step _ h2 h3 ih=>exact h1 _ _ ih h2 h3
def BO(ns:List Nd)(env:Env)(i:Nat):Tx->Prop:=AO ns env (AK ns i)
def CY(ns:List Nd)(env:Env)(i:Nat):Prop:=∀t,BO ns env i t->0<=AH env t
structure Et (ns:List Nd) (env:Env):Prop where
 few:env.length<=64
 name:∀b∈env,CQ b.1=true
 node:∀b∈env,0<=b.2/\b.2<(ns.length:Int)
 asc:Eu env
structure Bv (ns:List Nd) (env:Env):Prop where
 ok:Et ns env
 bound:∀b∈env,CY ns env b.2.toNat
 free:∀b∈env,¬BO ns env b.2.toNat b.1
theorem Et.find{ns:List Nd}{env:Env}(h:Et ns env){t:Tx}(ht:0<=AH env t):(t,AH env t)∈env/\(AH env t).toNat<ns.length:=by
 have hm:=QZ (env:=env) (t:=t) (by omega);have:=h.node _ hm;exact⟨hm,by simp only at this;omega⟩
theorem JZ{ns ms:List Nd}(h:ns <+: ms){i:Nat}(hi:i<ns.length):BQ ms i=BQ ns i:=by
 unfold BQ;rw[qaa hi,BD h (qaa hi)]
theorem Bn.pre{ns ms:List Nd}(hs:Ax ns)(h:ns <+: ms){i j:Nat}(hi:i<ns.length):Bn ms i j↔Bn ns i j:=by
 constructor
 ·intro hr
  induction hr with
  |here=>exact .here
  | @down q a _ ha ih=>
    have:=ih.le hs;exact ih.down (by rw[JZ h (by omega)]at ha;exact ha)
 ·intro hr
  induction hr with
  |here=>exact .here
  | @down q a hq ha ih=>
    have:=hq.le hs;exact ih.down (by rw[JZ h (by omega)];exact ha)
theorem AK.pre{ns ms:List Nd}(hs:Ax ns)(h:ns <+: ms){i:Nat}(hi:i<ns.length)(t:Tx):AK ms i t↔AK ns i t:=by
 unfold AK;constructor
 ·rintro⟨j,x,hr,hx,h1,h2⟩;have hr2:=(Bn.pre hs h hi).1 hr;have:=hr2.le hs;have hj:j<ns.length:=by omega
  refine⟨j,x,hr2,?_,h1,h2⟩;rw[BD h (qaa hj)]at hx;rw[qaa hj,hx]
 ·rintro⟨j,x,hr,hx,h1,h2⟩;exact⟨j,x,(Bn.pre hs h hi).2 hr,BD h hx,h1,h2⟩
theorem AO.pre{ns ms:List Nd}{env:Env}(hs:Ax ns)(h:ns <+: ms)(he:Et ns env){T:Tx->Prop}(t:Tx):AO ms env T t↔AO ns env T t:=by
 constructor
 ·intro hr
  induction hr with
  |here ht=>exact .here ht
  |step _ h1 h2 ih=>exact .step ih h1 ((AK.pre hs h (he.find h1).2 _).1 h2)
 ·intro hr
  induction hr with
  |here ht=>exact .here ht
  |step _ h1 h2 ih=>exact .step ih h1 ((AK.pre hs h (he.find h1).2 _).2 h2)
theorem BO.pre{ns ms:List Nd}{env:Env}(hs:Ax ns)(h:ns <+: ms)(he:Et ns env){i:Nat}(hi:i<ns.length)(t:Tx):BO ms env i t↔BO ns env i t:=by
 unfold BO;rw[AO.pre hs h he];exact⟨AO.mono fun t=>(AK.pre hs h hi t).1,AO.mono fun t=>(AK.pre hs h hi t).2⟩
theorem D7{α:Type}[BEq α][LawfulBEq α]{l:List α}(hn:l.Nodup):∀{m:List α},(∀x∈l,x∈m)->l.length<=m.length:=by
 induction l with
 |nil=>intro m _;exact qal _
 |cons x l ih=>
  intro m h;rw[List.nodup_cons]at hn;have hx:x∈m:=h x (by simp);have h2:=ih hn.2 (m:=m.erase x) (fun y hy=>by
   have hne:y≠x:=fun e=>hn.1 (e ▸ hy)
   exact(List.mem_erase_of_ne hne).2 (h y (qbs _ hy)))
  rw[List.length_erase_of_mem hx]at h2;have:0<m.length:=List.length_pos_of_mem hx;rw[qat];omega
theorem Asc.nodup{l:List Tx}(h:Asc l):l.Nodup:=List.Pairwise.imp (fun {a b} (xB:a<b) e=>by subst e;exact Ds _ xB) h
theorem SU{l m:List Tx}(hl:Asc l)(hm:Asc m)(h:∀x∈l,x∈m)(hle:m.length<=l.length):l=m:=by
 refine Nq hl hm (fun x=>⟨h x,fun hx=> ?_⟩);refine Classical.byContradiction fun hno=> ?_
 have h2:=D7 (l:=x::l) (List.nodup_cons.2 ⟨hno,hl.nodup⟩) (m:=m) (fun y hy=>by
  rcases qay.1 hy with rfl|hy
  ·exact hx
  ·exact h y hy)
 rw[qat]at h2;omega
def Dz(ns:List Nd):List Tx:=ns.map (·.text)
theorem AK.mem{ns:List Nd}{i:Nat}{t:Tx}(h:AK ns i t):t∈Dz ns:=by
 obtain⟨j,x,_,hx,_,rfl⟩:=h;exact List.mem_map_of_mem (List.mem_of_getElem? hx)
theorem EF.len{ns:List Nd}{i:Nat}{l:List Tx}(h:EF ns i l):l.length<=ns.length:=by
 have:=D7 h.1.nodup (m:=Dz ns) (fun t ht=>((h.2 t).1 ht).mem);unfold Dz at this;rw[qag]at this;exact this
theorem AO.mem{ns:List Nd}{env:Env}{T:Tx->Prop}{t:Tx}(h:AO ns env T t):T t\/t∈Dz ns:=by
 cases h with
 |here h=>exact .inl h
 |step _ _ h=>exact .inr h.mem
def AP(K E:TypeId)(w:World)(b m:Nat)(f:Lit->Option Lit):Prop:=∃D:DataW Unit,w.ownsMap Tryz.prog K (plainElem Tryz.prog E) b m D/\(∀k zd,D.atKey k zd=(f k).elim zd DataW.lit)/\∀k,has D k=(f k).isSome
section
variable {K E T:TypeId} {w w':World} {b m:Nat} {f:Lit->Option Lit}
theorem AP.made(K E:TypeId)(w:World):AP K E (w.alloc (.map #[] 0)) w.heap.size 0 (fun _=>none):=
 ⟨.map [],World.ownsMap_made w _ _ _,fun _ _=>rfl,fun _=>rfl⟩
theorem AP.lt(h:AP K E w b m f):b<w.heap.size:=by
 obtain⟨D,h,_⟩:=h;exact h.lt
theorem AP.at(h:AP K E w b m f)(hk:w'.heap[b]? =w.heap[b]?):AP K E w' b m f:=by
 obtain⟨D,⟨es,clock,hb,F,hs,hD⟩,h2⟩:=h;exact⟨D,⟨es,clock,hk.trans hb,F,hs,hD⟩,h2⟩
theorem AP.ext(h:AP K E w b m f)(hx:Ext w w'):AP K E w' b m f:=h.at (hx.block b h.lt)
theorem AP.mono{m':Nat}(h:AP K E w b m f)(hm:m<=m'):AP K E w b m' f:=by
 obtain⟨D,h,h2⟩:=h;exact⟨D,h.mono hm,h2⟩
theorem AP.congr{f':Lit->Option Lit}(h:AP K E w b m f)(hf:∀k,f k=f' k):AP K E w b m f':=by
 obtain⟨D,h,h2,h3⟩:=h;exact⟨D,h,fun k zd=>by rw[h2,hf],fun k=>by rw[h3,hf]⟩
open Classical in
theorem AP.put(law:Keyed Tryz.prog K)(ht:Tryz.prog.underlying T=some (.map K E))(h:AP K E w b m f)(hm:m<maxLen){key val:Value}{kl d:Lit}(hkey:keyOf Tryz.prog K key=some kl)(hv:plainElem (H:=Unit) Tryz.prog E val=some (.lit d,[])):
  ∃w',(Instr.mapUpdate T (.map (some b)) key val).run Tryz.prog w= .ok () w'/\AP K E w' b (m+1) (fun x=>if x=kl then some d else f x)/\w.grownBy w' (some b):=by
 obtain⟨D,h,h2,h3⟩:=h;obtain⟨w',hr,ho,hg⟩:=h.update law ht hm hkey hv;refine⟨w',hr,⟨_,ho,fun x zd=> ?_,fun x=> ?_⟩,hg⟩
 ·by_cases hx:x=kl
  ·subst hx;show _=Option.elim (if x=x then _ else _) _ _;rw[atKey_put_same h.isMap (law.key hkey),if_pos rfl];rfl
  ·show _=Option.elim (if x=kl then _ else _) _ _;rw[atKey_put_other hx,if_neg hx,h2]
 ·by_cases hx:x=kl
  ·subst hx;show _=Option.isSome (if x=x then _ else _);rw[has_put_same h.isMap (law.key hkey),if_pos rfl];rfl
  ·show _=Option.isSome (if x=kl then _ else _);rw[has_put_other hx,if_neg hx,h3]
open Classical in
theorem AP.del(law:Keyed Tryz.prog K)(ht:Tryz.prog.underlying T=some (.map K E))(h:AP K E w b m f){key:Value}{kl:Lit}(hkey:keyOf Tryz.prog K key=some kl)(ty:TypeId):
  ∃w',(Builtin.delete_ #[T,K] ty #[.map (some b),key]).run Tryz.prog w= .ok (.tuple #[]) w'/\AP K E w' b m (fun x=>if x=kl then none else f x)/\w.grownBy w' (some b):=by
 obtain⟨D,h,h2,h3⟩:=h;obtain⟨w',hr,ho,hg⟩:=h.drop law ht hkey ty;refine⟨w',hr,⟨_,ho,fun x zd=> ?_,fun x=> ?_⟩,hg.grown⟩
 ·by_cases hx:x=kl
  ·subst hx;show _=Option.elim (if x=x then _ else _) _ _;rw[atKey_del_same,if_pos rfl];rfl
  ·show _=Option.elim (if x=kl then _ else _) _ _;rw[atKey_del_other hx,if_neg hx,h2]
 ·by_cases hx:x=kl
  ·subst hx;show _=Option.isSome (if x=x then _ else _);rw[has_del_same,if_pos rfl];rfl
  ·show _=Option.isSome (if x=kl then _ else _);rw[has_del_other hx,if_neg hx,h3]
theorem AP.look_int(law:Keyed Tryz.prog K)(ht:Tryz.prog.underlying T=some (.map K 3))(h:AP K 3 w b m f){key:Value}{kl:Lit}(hkey:keyOf Tryz.prog K key=some kl):
  ∃c:Int,(Instr.lookup T (.map (some b)) key true).run Tryz.prog w= .ok (.tuple #[.int .i64 c,.bool (f kl).isSome]) w/\(Instr.lookup T (.map (some b)) key false).run Tryz.prog w= .ok (.int .i64 c) w/\((f kl).elim (Lit.int .i64 0) id= .int .i64 c):=by
 obtain⟨D,h,h2,h3⟩:=h;have hz:(zeroValue 3).run Tryz.prog w= .ok (.int .i64 0) w:=by kernel_rfl
 have nS:plainElem (H:=Unit) Tryz.prog 3 (.int .i64 0)=some (.lit (.int .i64 0),[]):=plainElem_int Tryz.underlying3 (by decide);obtain⟨v,ps,hr,hv⟩:=h.look_ok law ht hz nS hkey;obtain⟨v',ps',wk,vO⟩:=h.lookup law ht hz nS hkey;obtain⟨c,rfl,hc,_⟩:=plainElem_int_inv Tryz.underlying3 hv;obtain⟨c',rfl,hc',_⟩:=plainElem_int_inv Tryz.underlying3 vO;simp only[Prod.mk.injEq]at hc hc';have h4:=h2 kl (.lit (.int .i64 0));have e1:(f kl).elim (Lit.int .i64 0) id= .int .i64 c:=by
  cases hf:f kl with
  |none=>rw[hf,hc.1]at h4;simpa using h4.symm
  |some d=>rw[hf,hc.1]at h4;simpa using h4.symm
 have e2:c=c':=by
  have:=hc.1.symm.trans hc'.1
  simpa using this
 subst e2;exact⟨c,by rw[<-h3];exact hr,wk,e1⟩
end
def Cg(env:Env)(t:Tx):Option Int:=env.foldl (fun o b=>if b.1=t then some b.2 else o) none
theorem Ot(env:Env)(b:Tx × Int)(t:Tx):Cg (env++[b]) t=if b.1=t then some b.2 else Cg env t:=by
 unfold Cg;rw[qaO];rfl
theorem Ou{env:Env}{t:Tx}(h:∀b∈env,b.1≠t):Cg env t=none:=by
 have key:∀(l:Env) (o:Option Int),(∀b∈l,b.1≠t)->l.foldl (fun o b=>if b.1=t then some b.2 else o) o=o:=by
  intro l
  induction l with
  |nil=>intro o _;rfl
  |cons b l ih=>
   intro o h;rw[qbd,if_neg (h b (by simp))];exact ih _ (fun c hc=>h c (qbs _ hc))
 exact key env none h
theorem Sr{env:Env}(ha:Eu env){b:Tx × Int}(h:b∈env):Cg env b.1=some b.2:=by
 have key:∀(l:Env) (o:Option Int),Eu l->b∈l->l.foldl (fun o c=>if c.1=b.1 then some c.2 else o) o=some b.2:=by
  intro l
  induction l with
  |nil=>intro o _ h;cases h
  |cons c l ih=>
   intro o ha h;unfold Eu Asc at ha;rw[qbU,qbG]at ha;rw[qbd];rcases qay.1 h with rfl|h
   ·rw[if_pos rfl];have Uv:∀(l:Env) (o:Option Int),(∀c∈l,c.1≠b.1)->l.foldl (fun o c=>if c.1=b.1 then some c.2 else o) o=o:=by
     intro l
     induction l with
     |nil=>intro o _;rfl
     |cons d l ih=>
      intro o h;rw[qbd,if_neg (h d (by simp))];exact ih _ (fun c hc=>h c (qbs _ hc))
    refine Uv l _ (fun d hd e=> ?_);have:=ha.1 d.1 (List.mem_map_of_mem hd);rw[e]at this;exact Ds _ this
   ·exact ih _ ha.2 h
 exact key env none ha h
theorem Ov{env:Env}(ha:Eu env)(hn:∀b∈env,0<=b.2)(t:Tx):Cg env t=if 0<=AH env t then some (AH env t) else none:=by
 by_cases h:∃b∈env,b.1=t
 ·obtain⟨b,hb,rfl⟩:=h;rw[Sr ha hb,SF ha hb,if_pos (hn b hb)]
 ·have h2:∀b∈env,b.1≠t:=fun b hb e=>h ⟨b,hb,e⟩
  rw[Ou h2,JO h2,if_neg (by decide)]
def JP(f:Tx->Option Int):Lit->Option Lit
 | .string t=>(f t).map (Lit.int .i64)
 |_=>none
def DR(w:World)(b m:Nat)(f:Tx->Option Int):Prop:=AP 9 3 w b m (JP f)
section
variable {w w':World} {b m:Nat} {f:Tx->Option Int}
theorem DR.made(w:World):DR (w.alloc (.map #[] 0)) w.heap.size 0 (fun _=>none):=(AP.made _ _ w).congr (fun k=>by cases k<;>rfl)
theorem DR.put(h:DR w b m f)(hm:m<maxLen)(t:Tx)(ht:t.length<=maxLen)(n:Int)(hn:(Lit.int .i64 n).wf=true):
  ∃w',(Instr.mapUpdate 149 (.map (some b)) (str t) (.int .i64 n)).run Tryz.prog w= .ok () w'/\DR w' b (m+1) (fun x=>if x=t then some n else f x)/\w.grownBy w' (some b):=by
 obtain⟨w',hr,ho,hg⟩:=AP.put (string_keyed Tryz.underlying9) Tryz.underlying149 h hm (ER t ht) (plainElem_int Tryz.underlying3 hn);refine⟨w',hr,AP.congr ho (fun k=> ?_),hg⟩;cases k with
 |string x=>
  by_cases hx:x=t
  ·subst hx;simp[JP]
  ·simp[JP,hx]
 |_=>simp[JP]
theorem DR.del(h:DR w b m f)(t:Tx)(ht:t.length<=maxLen)(ty:TypeId):
  ∃w',(Builtin.delete_ #[149,9] ty #[.map (some b),str t]).run Tryz.prog w= .ok (.tuple #[]) w'/\DR w' b m (fun x=>if x=t then none else f x)/\w.grownBy w' (some b):=by
 obtain⟨w',hr,ho,hg⟩:=AP.del (string_keyed Tryz.underlying9) Tryz.underlying149 h (ER t ht) ty;refine⟨w',hr,AP.congr ho (fun k=> ?_),hg⟩;cases k with
 |string x=>
  by_cases hx:x=t
  ·subst hx;simp[JP]
  ·simp[JP,hx]
 |_=>simp[JP]
theorem DR.look(h:DR w b m f)(t:Tx)(ht:t.length<=maxLen):
  (Instr.lookup 149 (.map (some b)) (str t) true).run Tryz.prog w= .ok (.tuple #[.int .i64 ((f t).getD 0),.bool (f t).isSome]) w/\(Instr.lookup 149 (.map (some b)) (str t) false).run Tryz.prog w= .ok (.int .i64 ((f t).getD 0)) w:=by
 obtain⟨c,h1,h2,h3⟩:=AP.look_int (string_keyed Tryz.underlying9) Tryz.underlying149 h (ER t ht);have e1:(JP f (.string t)).isSome=(f t).isSome:=by simp[JP]
 have e2:c=(f t).getD 0:=by
  cases hf:f t with
  |none=>simpa [JP,hf] using h3.symm
  |some d=>simpa [JP,hf] using h3.symm
 rw[e1]at h1;rw[<-e2];exact⟨h1,h2⟩
end
def Un(w:World)(g o:Nat)(b:Tx × Int):Prop:=w.cell? ⟨g,o,none⟩=some (str b.1)/\w.cell? ⟨g,o+1,none⟩=some (.int .i64 b.2)
def RdE(w:World)(v:Value)(env:Env):Prop:=∃A c,v= .slice A env.length c/\(0<env.length->∃g o,A=some ⟨g,o,none⟩/\g<w.heap.size/\∀i (hi:i<env.length),Un w g (o+i*2) env[i])
theorem RdE.ext{w w':World}{v:Value}{env:Env}(h:RdE w v env)(hx:Ext w w'):RdE w' v env:=by
 obtain⟨A,c,rfl,h⟩:=h;refine⟨A,c,rfl,fun hp=> ?_⟩;obtain⟨g,o,rfl,hg,hc⟩:=h hp;exact⟨g,o,rfl,qaj hg hx.size,fun i hi=>⟨(hx.cell hg).trans (hc i hi).1,(hx.cell hg).trans (hc i hi).2⟩⟩
theorem Blk.twoB{w:World}{g:Nat}{t:TypeId}{a b:Value}(h:Blk w g t #[a,b]):w.cell? ⟨g,0,none⟩=some a/\w.cell? ⟨g,1,none⟩=some b:=⟨h.cell 0,h.cell 1⟩
def TxE(env:Env):Prop:=∀b∈env,b.1.length<=1000000/\(Lit.int .i64 b.2).wf=true
theorem EC(w:World)(v:Value)(env:Env)(h:RdE w v env)(hn:env.length<=100000)(dy:TxE env):
  Calls Tryz.prog 97 #[v] w fun e w'=>∃b,e= .returned (.map (some b))/\w.heap.size<=b/\DR w' b env.length (Cg env)/\Ext w w':=by
 obtain⟨A,c,rfl,bj⟩:=h;have cw:=J bj;have fb:=J dy;obtain⟨n,bB⟩:∃n,n=env.length:=⟨_,rfl⟩;have HN:=J bB;rw[<-bB]at hn ⊢;have hmm:=fun W=> @run_makeMap Tryz.prog 149 W
 have pC:=J (DR.made w);have eo:=J ((Ext.refl w).alloc (.map #[] 0));clear bj dy bB;go_enter Tryz.func97,Tryz.ntmps97;go_upto_region 2 with fail;obtain⟨b,hb⟩:∃b,w.heap.size=b:=⟨_,rfl⟩;rw[hb]at pC ⊢;generalize w.alloc (.map #[] 0)=w1 at *;clear hmm;go_wp2_with fail;go_loopw [9] (fun s9 wr=>∃k:Nat,k<=n/\s9= .int .i64 (k:Int)/\DR wr b k (Cg (env.take k))/\Ext w wr) (fun s9 _=>n-(intOf s9).toNat)
 case atStart=>exact⟨0,qal _,rfl,by rw[qaK];exact pC.o,eo.o⟩
 case round=>
  clear pC eo;obtain⟨k,hk,rfl,ee,hx⟩:=hrel;by_cases hlt:k<n
  ·have bT:k<env.length:=by rw[<-HN.o];exact hlt
   obtain⟨gb,o,rfl,bC,hc⟩:=cw.o (by omega);obtain⟨p0,p1⟩:=hc k bT;rw[<-hx.cell bC]at p0 p1;have hgr:gb<wr.heap.size:=qaj bC hx.size;have g3:(0:Int)<=(k:Int):=by omega
   have oC:(k:Int)<(n:Int):=by omega
   have jn:IntKind.i64.wrap ((k:Int)+1)=(k:Int)+1:=IntWalk.i64_in _ (by omega);have kR:=fb.o _ (qap bT);have dP:Hid (Cg (env.take (k+1))=fun t=>if t=env[k].1 then some env[k].2 else Cg (env.take k) t):=J (by
    funext t
    rw[qah bT,Ot];by_cases e:env[k].1=t
    ·rw[if_pos e,if_pos e.symm]
    ·rw[if_neg e,if_neg (fun h=>e h.symm)])
   have uK:=J ee;have HX:=J hx;clear hc ee hx;generalize env[k]=y at *;obtain⟨t,z⟩:=y;simp only at p0 p1 dP kR;have aE:=J (fun W (h:DR W b k (Cg (env.take k)))=>h.put (by unfold maxLen;omega) t (by unfold maxLen;omega) z kR.2);obtain⟨s,hs⟩:∃s:ByteArray,str t= .string s:=⟨_,rfl⟩;rw[hs]at p0 aE;have i3:b<wr.heap.size:=by
    have:=uK.o;unfold DR at this;exact this.lt
   have mf:Hid (w.heap.size<=b):=J (by omega);clear hs kR bT;go_upto_region 5 with fail;have gl:=Blk.new wr 62 #[.string s,.int .i64 z];have bG:=(Ext.refl wr).alloc (.cells #[.string s,.int .i64 z] 62);generalize wr.alloc (.cells #[.string s,.int .i64 z] 62)=w7 at *;generalize wr.heap.size=nb at *;obtain⟨q0,q1⟩:=gl.twoB;obtain⟨w8,bq,qv,jh⟩:=aE.o w7 (AP.ext uK.o bG);have zO:=J qv;have cp:=J ((HX.o.trans bG).grown jh (fun j e=>by injection e with e;subst e;exact mf.o));clear qv jh gl bG p0 p1;go_wp2_with fail;go_roundw
   ·exact⟨k+1,hlt,by go_num,by rw[dP.o];exact zO.o,cp.o⟩
   ·simp only[intOf];omega
  ·obtain rfl:k=n:=by omega
   have HE:=J (And.intro (show DR wr b k (Cg env) by rw[show env.take k=env from qak (by rw[<-HN.o];exact qad _)]at ee;exact ee) hx);have my:Hid (w.heap.size<=b):=J (by omega);have hkk:decide ((k:Int)<(k:Int))=false:=decide_eq_false (by omega);clear ee hx;go_wp2_with fail;go_ret;exact⟨b,rfl,by omega,HE.o.1,HE.o.2⟩
end Big
end Go.Proofs.YtkoaogkknnelaaaGreatDoor
