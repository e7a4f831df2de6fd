import Derived.Test.YtkoaogkknnelaaaGreatDoorM34
import Derived.Test.YtkoaogkknnelaaaGreatDoorShelf5
import Derived.Sort.KeysCollected
set_option linter.unusedVariables false
set_option linter.unusedSimpArgs false
set_option maxHeartbeats 8000000
set_option maxRecDepth 100000
namespace Go.Proofs.YtkoaogkknnelaaaGreatDoor
namespace Big
open Lib (hid)
open Go.RowKit
def Uv(ns:List Nd)(i:Int):Int:=if 0<=i/\i<(ns.length:Int) then (((Ub ns).getD i.toNat 0:Nat):Int) else 0
def Uz(ns:List Nd)(i:Int):Value:=if 0<=i/\i<(ns.length:Int) then .tuple #[ndV (ns.getD i.toNat ⟨0,0,0,0,[]⟩),.bool true] else .tuple #[ndV ⟨0,0,0,0,[]⟩,.bool false]
open Go.RowKit Go.Maps Go.Sort
def Et(w:World)(b m:Nat)(S:Tx->Prop):Prop:=∃D:DataW Unit,w.ownsMap Tryz.prog 9 (plainElem Tryz.prog 4) b m D/\∀t,has D (.string t)=true↔S t
theorem Et.made(w:World):Et (w.alloc (.map #[] 0)) w.heap.size 0 (fun _=>False):=
 ⟨.map [],World.ownsMap_made w _ _ _,fun t=>⟨fun h=>Bool.noConfusion h,fun h=>h.elim⟩⟩
theorem Et.lt{w:World}{b m:Nat}{S:Tx->Prop}(h:Et w b m S):b<w.heap.size:=by
 obtain⟨D,h,_⟩:=h;exact h.lt
theorem Et.at{w w':World}{b m:Nat}{S:Tx->Prop}(h:Et w b m S)(hk:w'.heap[b]? =w.heap[b]?):Et w' b m S:=by
 obtain⟨D,⟨es,clock,hb,F,hs,hD⟩,h2⟩:=h;exact⟨D,⟨es,clock,hk.trans hb,F,hs,hD⟩,h2⟩
theorem Et.ext{w w':World}{b m:Nat}{S:Tx->Prop}(h:Et w b m S)(hx:Ext w w'):Et w' b m S:=h.at (hx.block b h.lt)
theorem Et.mono{w:World}{b m m':Nat}{S:Tx->Prop}(h:Et w b m S)(hm:m<=m'):Et w b m' S:=by
 obtain⟨D,h,h2⟩:=h;exact⟨D,h.mono hm,h2⟩
theorem Et.congr{w:World}{b m:Nat}{S S':Tx->Prop}(h:Et w b m S)(hs:∀t,S t↔S' t):Et w b m S':=by
 obtain⟨D,h,h2⟩:=h;exact⟨D,h,fun t=>(h2 t).trans (hs t)⟩
theorem Ru(t:Tx)(ht:t.length<=maxLen):keyOf Tryz.prog 9 (str t)=some (.string t):=by
 have hs:(⟨t.toArray⟩:ByteArray).size<=maxLen:=by rw[BZ];exact ht
 unfold keyOf;rw[Tryz.underlying9];simp[str,mapKey,Tryz.underlying9,hs]
theorem Et.store{w:World}{b m:Nat}{S:Tx->Prop}(h:Et w b m S)(hm:m<maxLen)(t:Tx)(ht:t.length<=maxLen):
  ∃w',(Instr.mapUpdate 151 (.map (some b)) (str t) (.bool true)).run Tryz.prog w= .ok () w'/\Et w' b (m+1) (fun x=>x=t\/S x)/\w.grownBy w' (some b):=by
 obtain⟨D,h,h2⟩:=h;obtain⟨w',hr,ho,hg⟩:=h.update (string_keyed Tryz.underlying9) Tryz.underlying151 hm (Ru t ht) (plainElem_bool Tryz.underlying4 true);refine⟨w',hr,⟨_,ho,fun x=> ?_⟩,hg⟩;by_cases hx:x=t
 ·subst hx;rw[has_put_same h.isMap (by trivial)];simp
 ·rw[has_put_other (by intro e;injection e with e;exact hx e),h2 x];simp[hx]
theorem Et.keys{w:World}{b m:Nat}{D:DataW Unit}(h:w.ownsMap Tryz.prog 9 (plainElem Tryz.prog 4) b m D)(t:Tx):t∈strKeys D↔has D (.string t)=true:=by
 obtain⟨es,rfl,hk⟩:=h.keysOf;rw[has_eq,List.any_eq_true];show t∈es.map (fun p=>strOf p.1)↔_;rw[List.mem_map];constructor
 ·rintro⟨p,hp,rfl⟩;obtain⟨v,hv⟩:=hk p hp;obtain⟨x,_,hx,_⟩:=Maps.keyOf_str Tryz.underlying9 hv;exact⟨p,hp,by rw[hx];simp[Lit.sameKey,strOf]⟩
 ·rintro⟨p,hp,hs⟩;obtain⟨v,hv⟩:=hk p hp;obtain⟨x,_,hx,_⟩:=Maps.keyOf_str Tryz.underlying9 hv;rw[hx]at hs;exact⟨p,hp,by rw[hx];simpa [Lit.sameKey,strOf] using hs⟩
def CH(l:List Bool):Array Value:=(l.map Value.bool).toArray
theorem EB(l:List Bool)(i:Nat)(x:Bool):(CH l).setIfInBounds i (.bool x)=CH (l.set i x):=by
 apply Array.ext';simp[CH,List.map_set]
theorem Cc(l:List Bool)(i:Nat)(h:i<l.length):(CH l)[i]? =some (.bool (l.getD i false)):=by
 unfold CH;rw[List.getElem?_toArray,List.getElem?_map,List.getD_eq_getElem?_getD,List.getElem?_eq_getElem h];rfl
theorem PZ:(Tryz.prog.info? 4).map (fun i=>(i.zero,i.size,i.bytes))=some (some (.bool false),1,1):=by kernel_rfl
theorem O7(n:Nat)(hn:n<=1000000)(W:World):(Instr.makeSlice 133 (.int .i64 (n:Int)) (.int .i64 (n:Int))).run Tryz.prog W=
  .ok (.slice (some ⟨W.heap.size,0,none⟩) n n) (W.alloc (.cells (CH (List.replicate n false)) 4)):=by
 obtain⟨i0,hi,aE,hz1,bx⟩:=info_parts PZ;have hr:=run_make (P:=Tryz.prog) W 133 4 i0 _ Tryz.underlying133 hi aE .i64 .i64 (n:Int) (n:Int) (by omega) (Int.le_refl _) (by rw[bx];omega) (by omega);have hm:madeCells (Value.cells (.bool false)) (n*1)=CH (List.replicate n false):=by
  apply Array.ext';apply List.ext_getElem?;intro i;simp only[madeCells,CH,Value.cells];rw[Array.getElem?_toList,Array.getElem?_map,List.getElem?_map,List.getElem?_replicate];rcases Nat.lt_or_ge i n with h|h
  ·rw[Array.getElem?_range,if_pos (by omega),if_pos h];simp[Nat.mod_one]
  ·rw[Array.getElem?_range,if_neg (by omega),if_neg (by omega)];rfl
 rw[hz1,Int.toNat_natCast,hm]at hr;exact hr
def NX(ns:List Nd)(i:Nat)(w:World)(e:Ending)(w':World):Prop:=∃b F,e= .returned (.slice (some ⟨b,0,none⟩) (i+1) (i+1))/\Blk w' b 4 (CH F)/\F.length=i+1/\(∀j,j<i+1->(F.getD j false=true↔B6 ns i j))/\Ext w w'
theorem MJ(w:World)(nv:Value)(ns:List Nd)(h:RNd w nv ns)(hs:AC ns)(hn:ns.length<=4096)(i:Nat)(hi:i<ns.length):
  Calls Tryz.prog 80 #[nv,.int .i64 (i:Int)] w (NX ns i w):=by
 have jA:=hid hs;have Zr:=hid hi;obtain⟨m,hm⟩:∃m,m=i+1:=⟨_,rfl⟩;have iD:m<=4096:=by omega
 have vE:i<m:=by omega
 have Wb:=hid hm;have cS:=O7 m (by omega);have UU:IntKind.i64.wrap ((i:Int)+1)=(m:Int):=by rw[IntWalk.i64_in _ (by omega)];omega
 have aQ:(0:Int)<=(i:Int):=by omega
 have XP:(i:Int)<(m:Int):=by omega
 obtain⟨n,gO⟩:∃n,n=ns.length:=⟨_,rfl⟩;have HN:=hid gO;obtain⟨A,c,rfl,my⟩:=h;have lC:=hid my;have zy:Hid (m<=n):=hid (by omega);unfold NX;rw[<-gO,<-hm];rw[<-gO]at hn;clear hs hi hm gO my;have z0:=(Blk.new w 4 (CH (List.replicate m false))).cell i;rw[Cc _ _ (by rw[List.length_replicate];omega)]at z0;have z1:=(Blk.new w 4 (CH (List.replicate m false))).frozen i;have aq:=Blk.new w 4 ((CH (List.replicate m false)).setIfInBounds i (.bool true));have aj:=(Ext.refl w).alloc (.cells ((CH (List.replicate m false)).setIfInBounds i (.bool true)) 4);go_enter Tryz.func80,Tryz.ntmps80;go_upto_region 3 with fail;generalize w.alloc (.cells ((CH (List.replicate m false)).setIfInBounds i (.bool true)) 4)=w2 at *;rw[EB]at aq;have ag:=hid aq;have ar:=hid aj;obtain⟨bm,nK⟩:∃bm,bm=w.heap.size:=⟨_,rfl⟩;rw[<-nK]at ag;rw[<-nK];have zV:Hid (w.heap.size<=bm):=hid (by omega);clear aq aj cS UU z0 z1 nK;go_wp2_with fail;go_loopw [6] (fun s6 wr=>∃(k:Nat) (z:Int),z=(k:Int)-1/\k<=m/\s6= .int .i64 z/\∃(F:List Bool),Blk wr bm 4 (CH F)/\C3 ns i k F/\F.length=m/\Ext w wr) (fun s6 _=>(intOf s6+1).toNat)
 case atStart=>
  refine⟨m,(i:Int),by have:=Wb.out;omega,Nat.le_refl _,rfl,(List.replicate m false).set i true,ag.out,?_,by simp,ar.out⟩;rw[Wb.out];refine C3.start jA.out (by simp) (by simp;exact Zr.out) (fun j hj=> ?_);rw[Kg];simp only[List.length_set,List.length_replicate]at hj ⊢;have hf:(List.replicate (i+1) false).getD j false=false:=by
   rw[List.getD_eq_getElem?_getD,List.getElem?_replicate];split<;>rfl
  rw[hf,Bool.or_false,decide_eq_true_iff];exact⟨fun h=>h.1,fun h=>⟨h,by omega⟩⟩
 case round=>
  clear ar ag;obtain⟨k,z,hz,Z3,rfl,F,hb,cS,uu,hx⟩:=hrel;have HX:=hid hx;have dR:=hid hb;have oK:=hid cS;have ix:=hid uu;clear hx hb cS uu;rcases k with _|q
  ·obtain rfl:z= -1:=by omega
   clear hz;have XE:decide ((-1:Int)>=0)=false:=by decide
   have HE:=hid (oK.out.done);clear oK;go_wp2_with fail;go_ret;exact⟨bm,F,rfl,dR.out,ix.out,fun j hj=>HE.out j (by rw[ix.out];exact hj),HX.out⟩
  ·obtain rfl:z=(q:Int):=by omega
   clear hz;have qe:q<m:=by omega
   have xi:q<ns.length:=by have:=HN.out;have:=zy.out;omega
   have ax:=jA.out.2 q _ (List.getElem?_eq_getElem xi);have bZ:=hid (oK.out.step jA.out (by rw[ix.out];exact qe));clear oK;have a5:IntKind.i64.wrap ((q:Int)-1)=(q:Int)-1:=IntWalk.i64_in _ (by omega);have oe:(0:Int)<=(q:Int):=by omega
   have Xk:(q:Int)<(m:Int):=by omega
   have ii:decide ((q:Int)>=0)=true:=decide_eq_true oe;have Xj:(q:Int)<(n:Int):=by have:=zy.out;omega
   obtain⟨gb,o,rfl,eR,hc⟩:=lC.out (by have:=HN.out;have:=zy.out;omega);obtain⟨p0,p1,p2,p3,p4⟩:=hc q xi;rw[<-HX.out.cell eR]at p0 p1 p2 p3 p4;have au:gb<wr.heap.size:=Nat.lt_of_lt_of_le eR HX.out.size;have Wk:Hid (bm<wr.heap.size):=hid dR.out.lt;cases hFq:F.getD q false
   case false=>
    have qp:Hw ns q F=F:=by unfold Hw;rw[if_neg (by rw[hFq];simp)]
    rw[qp]at bZ;clear qp ax hc;generalize ns[q]=x at *;obtain⟨y0,y1,y2,y3,y4⟩:=x;simp only at p0 p1 p2 p3 p4;obtain⟨s,ac⟩:∃s:ByteArray,str y4= .string s:=⟨_,rfl⟩;rw[ac]at p4;clear ac;have io:=Blk.new wr 95 #[.int .i64 y0,.int .i64 y1,.int .i64 y2,.int .i64 y3,.string s];have ch:=(Ext.refl wr).alloc (.cells #[.int .i64 y0,.int .i64 y1,.int .i64 y2,.int .i64 y3,.string s] 95);go_upto_region 7 with fail;generalize wr.alloc (.cells #[.int .i64 y0,.int .i64 y1,.int .i64 y2,.int .i64 y3,.string s] 95)=w7 at *;generalize wr.heap.size=nb at *;have gV:=hid io;have HX:=hid (HX.out.trans ch);have dR:=hid (dR.out.ext ch);clear io ch p0 p1 p2 p3 p4;have av:=gV.out.five;have z0:=dR.out.cell q;rw[Cc _ _ (by rw[ix.out];exact qe),hFq]at z0;go_wp2_with fail;go_roundw
    case rel=>exact⟨q,(q:Int)-1,rfl,by omega,by go_num,F,dR.out,bZ.out,ix.out,HX.out⟩
    case measure=>simp[intOf]<;>omega
   case true=>
    have qp:Hw ns q F=E0 F (Cg ns[q]):=by
     unfold Hw Cv;rw[if_pos (by rw[hFq]),List.getElem?_eq_getElem xi]
    rw[qp]at bZ;rcases ax with ⟨k,t,hx,ho⟩|⟨k,y,a,hx,ho,ha⟩|⟨k,a,b,hx,hkk,ha,hb⟩
    ·have nM:Cg ns[q]=[]:=by rw[hx];exact Df ho
     rw[nM]at bZ;have hk:=ho.lt;rw[hx]at p0 p1 p2 p3 p4;simp only at p0 p1 p2 p3 p4;obtain⟨s,ac⟩:∃s:ByteArray,str t= .string s:=⟨_,rfl⟩;rw[ac]at p4;clear ac hx ho qp nM hc;have i5:decide ((k:Int)>=5)=false:=decide_eq_false (by omega);have tT:decide (5<=k)=false:=decide_eq_false (by omega);have io:=Blk.new wr 95 #[.int .i64 (k:Int),.int .i64 0,.int .i64 0,.int .i64 0,.string s];have ch:=(Ext.refl wr).alloc (.cells #[.int .i64 (k:Int),.int .i64 0,.int .i64 0,.int .i64 0,.string s] 95);go_upto_region 7 with fail;generalize wr.alloc (.cells #[.int .i64 (k:Int),.int .i64 0,.int .i64 0,.int .i64 0,.string s] 95)=w7 at *;generalize wr.heap.size=nb at *;have gV:=hid io;have HX:=hid (HX.out.trans ch);have dR:=hid (dR.out.ext ch);clear io ch p0 p1 p2 p3 p4;have av:=gV.out.five;have z0:=dR.out.cell q;rw[Cc _ _ (by rw[ix.out];exact qe),hFq]at z0;go_wp2_with fail;go_roundw
     case rel=>exact⟨q,(q:Int)-1,rfl,by omega,by go_num,F,dR.out,bZ.out,ix.out,HX.out⟩
     case measure=>simp[intOf]<;>omega
    ·have nM:Cg ns[q]=[a]:=by rw[hx];exact DT ho
     rw[nM]at bZ;have hk:=ho.1;rw[hx]at p0 p1 p2 p3 p4;simp only at p0 p1 p2 p3 p4;obtain⟨s,ac⟩:∃s:ByteArray,str []= .string s:=⟨_,rfl⟩;rw[ac]at p4;clear ac hx ho qp nM hc;have i5:decide ((k:Int)>=5)=true:=decide_eq_true (by omega);have tT:decide (5<=k)=true:=decide_eq_true (by omega);have Vz:(0:Int)<=(a:Int):=by omega
     have Ye:(a:Int)<(m:Int):=by omega
     have io:=Blk.new wr 95 #[.int .i64 (k:Int),.int .i64 (a:Int),.int .i64 0,.int .i64 y,.string s];have ch:=(Ext.refl wr).alloc (.cells #[.int .i64 (k:Int),.int .i64 (a:Int),.int .i64 0,.int .i64 y,.string s] 95);go_upto_region 7 with fail;generalize wr.alloc (.cells #[.int .i64 (k:Int),.int .i64 (a:Int),.int .i64 0,.int .i64 y,.string s] 95)=w7 at *;generalize wr.heap.size=nb at *;have gV:=hid io;have HX:=hid (HX.out.trans ch);have dR:=hid (dR.out.ext ch);clear io ch p0 p1 p2 p3 p4;have av:=gV.out.five;have z0:=dR.out.cell q;rw[Cc _ _ (by rw[ix.out];exact qe),hFq]at z0;have za:=dR.out.cell a;rw[Cc _ _ (by rw[ix.out];omega)]at za;have fa:=dR.out.frozen a;generalize F.getD a false=va at za;have nL:=dR.out.set_ a (.bool true);rw[EB]at nL;have cp:=HX.out.setCell (p:=⟨bm,a,none⟩) zV.out (.bool true);have io:=gV.out.far (p:=⟨bm,a,none⟩) (show nb≠bm by have:=Wk.out;omega) (.bool true);go_upto_region 9 with fail;generalize w7.setCell ⟨bm,a,none⟩ (.bool true)=w8 at *;have iW:=hid nL;have df:=hid cp;have gV:=hid io;clear nL cp io av z0 za fa;have av:=gV.out.five;rcases hk with rfl|hk
     ·go_wp2_with fail;go_roundw
      case rel=>exact⟨q,(q:Int)-1,rfl,by omega,by go_num,F.set a true,iW.out,bZ.out,(by rw[List.length_set];exact ix.out),df.out⟩
      case measure=>simp[intOf]<;>omega
     ·have iG:decide ((k:Int)>=6)=true:=decide_eq_true (by omega);have xJ:decide (6<=k)=true:=decide_eq_true (by omega);have iF:decide ((k:Int)<=9)=false:=decide_eq_false (by omega);have xI:decide (k<=9)=false:=decide_eq_false (by omega);go_wp2_with fail;go_roundw
      case rel=>exact⟨q,(q:Int)-1,rfl,by omega,by go_num,F.set a true,iW.out,bZ.out,(by rw[List.length_set];exact ix.out),df.out⟩
      case measure=>simp[intOf]<;>omega
    ·have nM:Cg ns[q]=[a,b]:=by rw[hx];exact CY hkk
     rw[nM]at bZ;rw[hx]at p0 p1 p2 p3 p4;simp only at p0 p1 p2 p3 p4;obtain⟨s,ac⟩:∃s:ByteArray,str []= .string s:=⟨_,rfl⟩;rw[ac]at p4;clear ac hx qp nM hc;have i5:decide ((k:Int)>=5)=true:=decide_eq_true (by omega);have tT:decide (5<=k)=true:=decide_eq_true (by omega);have iG:decide ((k:Int)>=6)=true:=decide_eq_true (by omega);have xJ:decide (6<=k)=true:=decide_eq_true (by omega);have iF:decide ((k:Int)<=9)=true:=decide_eq_true (by omega);have xI:decide (k<=9)=true:=decide_eq_true (by omega);have Vz:(0:Int)<=(a:Int):=by omega
     have Ye:(a:Int)<(m:Int):=by omega
     have hb0:(0:Int)<=(b:Int):=by omega
     have nK:(b:Int)<(m:Int):=by omega
     have io:=Blk.new wr 95 #[.int .i64 (k:Int),.int .i64 (a:Int),.int .i64 (b:Int),.int .i64 0,.string s];have ch:=(Ext.refl wr).alloc (.cells #[.int .i64 (k:Int),.int .i64 (a:Int),.int .i64 (b:Int),.int .i64 0,.string s] 95);go_upto_region 7 with fail;generalize wr.alloc (.cells #[.int .i64 (k:Int),.int .i64 (a:Int),.int .i64 (b:Int),.int .i64 0,.string s] 95)=w7 at *;generalize wr.heap.size=nb at *;have gV:=hid io;have HX:=hid (HX.out.trans ch);have dR:=hid (dR.out.ext ch);clear io ch p0 p1 p2 p3 p4;have av:=gV.out.five;have z0:=dR.out.cell q;rw[Cc _ _ (by rw[ix.out];exact qe),hFq]at z0;have za:=dR.out.cell a;rw[Cc _ _ (by rw[ix.out];omega)]at za;have fa:=dR.out.frozen a;generalize F.getD a false=va at za;have nL:=dR.out.set_ a (.bool true);rw[EB]at nL;have cp:=HX.out.setCell (p:=⟨bm,a,none⟩) zV.out (.bool true);have io:=gV.out.far (p:=⟨bm,a,none⟩) (show nb≠bm by have:=Wk.out;omega) (.bool true);go_upto_region 9 with fail;generalize w7.setCell ⟨bm,a,none⟩ (.bool true)=w8 at *;have iW:=hid nL;have df:=hid cp;have gV:=hid io;clear nL cp io av z0 za fa;have av:=gV.out.five;have zb:=iW.out.cell b;rw[Cc _ _ (by rw[List.length_set,ix.out];omega)]at zb;have fb:=iW.out.frozen b;generalize (F.set a true).getD b false=vb at zb;have sr:=iW.out.set_ b (.bool true);rw[EB]at sr;have ZG:=hid sr;have eD:=hid (df.out.setCell (p:=⟨bm,b,none⟩) zV.out (.bool true));clear sr;go_wp2_with fail;go_roundw
     case rel=>exact⟨q,(q:Int)-1,rfl,by omega,by go_num,(F.set a true).set b true,ZG.out,bZ.out,(by rw[List.length_set,List.length_set];exact ix.out),eD.out⟩
     case measure=>simp[intOf]<;>omega
theorem JX(B g:Nat)(w:World)(ns:List Nd)(rv:Value)(h:GrR B g w ns rv)(x:Nd)(hx:CL ns.length x):
  Calls Tryz.prog 180 #[.pointer (some ⟨g,0,none⟩),ndV x] w fun e w'=>e= .returned (.bool true)/\Ext w w':=by
 have co:=hid (fun W=>J0 W x (by have:=hx.text;omega));rw[hx.plain]at co;have aO:=hid (fun W=>Bs W x.kind);rw[hx.oper]at aO;have vl:=hid (fun W=>Pm W x hx);have hlt:=hx.args_lt;have zH:=hid (fun W h (a:Nat) (ha:a<ns.length)=>(decide_eq_true (⟨by omega,by omega⟩:0<=(a:Int)/\(a:Int)<(ns.length:Int))) ▸ S0 B g W ns rv h (a:Int));have HG:=hid h;have hal:=hx.args_len;have hz1:(Cg x).length<1->x.a=0:=by
  intro hl;rcases hx with ⟨k,t,rfl,ho⟩|⟨k,n,j,rfl,ho,hj⟩|⟨k,j,q,rfl,hk,hj,hq⟩
  ·rfl
  ·rw[DT ho]at hl;simp at hl
  ·rw[CY hk]at hl;simp at hl
 have bx:(Cg x).length<2->x.b=0:=by
  intro hl;rcases hx with ⟨k,t,rfl,ho⟩|⟨k,n,j,rfl,ho,hj⟩|⟨k,j,q,rfl,hk,hj,hq⟩
  ·rfl
  ·rfl
  ·rw[CY hk]at hl;simp at hl
 have dl:Hid (∀i,i<(Cg x).length->(Cg x).getD i 0<ns.length):=hid (fun i hi=>by
  rw[List.getD_eq_getElem?_getD,List.getElem?_eq_getElem hi];exact hlt _ (List.getElem_mem hi))
 clear hlt hx;generalize Cg x=zs at *;obtain⟨k,a,d,n,t⟩:=x;simp only[ndV]at co aO vl hz1 bx ⊢;obtain⟨s,hs⟩:∃s:ByteArray,s=⟨t.toArray⟩:=⟨_,rfl⟩;have ac:str t= .string s:=by rw[hs];rfl
 rw[ac]at co vl ⊢;clear hs ac;obtain⟨A,c,rfl⟩:=h.row.shape;clear h;have ag:=hid (Blk.new w 95 #[.int .i64 k,.int .i64 a,.int .i64 d,.int .i64 n,.string s]);have ar:=hid ((Ext.refl w).alloc (.cells #[.int .i64 k,.int .i64 a,.int .i64 d,.int .i64 n,.string s] 95));obtain⟨w1,a5⟩:∃w1,w1=w.alloc (.cells #[.int .i64 k,.int .i64 a,.int .i64 d,.int .i64 n,.string s] 95):=⟨_,rfl⟩;rw[<-a5]at ag ar;have q0:=ag.out.five;obtain⟨m,hm⟩:∃m,m=zs.length:=⟨_,rfl⟩;rw[<-hm]at aO hz1 bx hal dl;have zv:=hid hm;clear hm;have h3:(m=0/\a=0/\d=0)\/(m=1/\d=0)\/m=2:=by
  have:m=0\/m=1\/m=2:=by omega
  rcases this with h|h|h
  ·exact .inl ⟨h,hz1 (by omega),bx (by omega)⟩
  ·exact .inr (.inl ⟨h,bx (by omega)⟩)
  ·exact .inr (.inr h)
 clear hz1 bx hal;rcases h3 with ⟨rfl,rfl,rfl⟩|⟨rfl,rfl⟩|rfl
 ·rw[show ((0:Nat):Int)=0 from rfl]at aO;go_enter Tryz.func180,Tryz.ntmps180;go_upto_region 1 with fail;rw[<-a5];clear a5;go_wp2_with fail;refine(aO.out _).mono ?_
  rintro e w2 ⟨rfl,rfl⟩;go_wp2_with fail;refine(co.out _).mono ?_
  rintro e w2 ⟨rfl,ah⟩;have aP:=hid (ar.out.trans ah);have aY:=hid (ag.out.ext ah);clear q0 ah;have q0:=aY.out.five;go_wp2_with fail;refine(vl.out _).mono ?_
  rintro e w3 ⟨A3,c3,rfl,ab,pm⟩;have ay:=hid (aP.out.trans ab);have nT:=hid pm;rw[<-zv.out]at nT ⊢;clear q0 ab pm;go_wp2_with fail;go_loopw [39] (fun lS wr=>∃i:Nat,i<=0/\lS= .int .i64 (i:Int)/\Ext w3 wr) (fun lS _=>0-(intOf lS).toNat)
  case atStart=>exact⟨0,Nat.zero_le _,rfl,Ext.refl w3⟩
  case round=>
   obtain⟨i,hi,rfl,hx⟩:=hrel;have HX:=hid hx;have nZ:IntKind.i64.wrap ((i:Int)+1)=(i:Int)+1:=IntWalk.i64_in _ (by omega);by_cases hlt:i<0
   ·obtain⟨b3,rfl,hb0,aq,iK⟩:=nT.out (by omega);have aa:=(hx.cell aq).trans (iK i hlt);have hz:=dl.out i hlt;generalize zs.getD i 0=za at *;have aQ:(0:Int)<=(i:Int):=by omega
    have i7:(i:Int)<0:=by omega
    clear hx iK;go_wp2_with fail;refine(zH.out _ (HG.out.keep (ay.out.trans HX.out)) za hz).mono ?_
    rintro e w4 ⟨rfl,bD⟩;have bu:=hid (HX.out.trans bD);clear bD aa;go_wp2_with fail;go_roundw
    case rel=>exact⟨i+1,hlt,by go_num,bu.out⟩
    case measure=>simp[intOf];omega
   ·go_wp2_with fail;go_ret;exact⟨rfl,ay.out.trans HX.out⟩
 ·rw[show ((1:Nat):Int)=1 from rfl]at aO;go_enter Tryz.func180,Tryz.ntmps180;go_upto_region 1 with fail;rw[<-a5];clear a5;go_wp2_with fail;refine(aO.out _).mono ?_
  rintro e w2 ⟨rfl,rfl⟩;go_wp2_with fail;refine(co.out _).mono ?_
  rintro e w2 ⟨rfl,ah⟩;have aP:=hid (ar.out.trans ah);have aY:=hid (ag.out.ext ah);clear q0 ah;have q0:=aY.out.five;go_wp2_with fail;refine(vl.out _).mono ?_
  rintro e w3 ⟨A3,c3,rfl,ab,pm⟩;have ay:=hid (aP.out.trans ab);have nT:=hid pm;rw[<-zv.out]at nT ⊢;clear q0 ab pm;go_wp2_with fail;go_loopw [39] (fun lS wr=>∃i:Nat,i<=1/\lS= .int .i64 (i:Int)/\Ext w3 wr) (fun lS _=>1-(intOf lS).toNat)
  case atStart=>exact⟨0,Nat.zero_le _,rfl,Ext.refl w3⟩
  case round=>
   obtain⟨i,hi,rfl,hx⟩:=hrel;have HX:=hid hx;have nZ:IntKind.i64.wrap ((i:Int)+1)=(i:Int)+1:=IntWalk.i64_in _ (by omega);by_cases hlt:i<1
   ·obtain⟨b3,rfl,hb0,aq,iK⟩:=nT.out (by omega);have aa:=(hx.cell aq).trans (iK i hlt);have hz:=dl.out i hlt;generalize zs.getD i 0=za at *;have aQ:(0:Int)<=(i:Int):=by omega
    have i7:(i:Int)<1:=by omega
    clear hx iK;go_wp2_with fail;refine(zH.out _ (HG.out.keep (ay.out.trans HX.out)) za hz).mono ?_
    rintro e w4 ⟨rfl,bD⟩;have bu:=hid (HX.out.trans bD);clear bD aa;go_wp2_with fail;go_roundw
    case rel=>exact⟨i+1,hlt,by go_num,bu.out⟩
    case measure=>simp[intOf];omega
   ·go_wp2_with fail;go_ret;exact⟨rfl,ay.out.trans HX.out⟩
 ·rw[show ((2:Nat):Int)=2 from rfl]at aO;go_enter Tryz.func180,Tryz.ntmps180;go_upto_region 1 with fail;rw[<-a5];clear a5;go_wp2_with fail;refine(aO.out _).mono ?_
  rintro e w2 ⟨rfl,rfl⟩;go_wp2_with fail;refine(co.out _).mono ?_
  rintro e w2 ⟨rfl,ah⟩;have aP:=hid (ar.out.trans ah);have aY:=hid (ag.out.ext ah);clear q0 ah;have q0:=aY.out.five;go_wp2_with fail;refine(vl.out _).mono ?_
  rintro e w3 ⟨A3,c3,rfl,ab,pm⟩;have ay:=hid (aP.out.trans ab);have nT:=hid pm;rw[<-zv.out]at nT ⊢;clear q0 ab pm;go_wp2_with fail;go_loopw [39] (fun lS wr=>∃i:Nat,i<=2/\lS= .int .i64 (i:Int)/\Ext w3 wr) (fun lS _=>2-(intOf lS).toNat)
  case atStart=>exact⟨0,Nat.zero_le _,rfl,Ext.refl w3⟩
  case round=>
   obtain⟨i,hi,rfl,hx⟩:=hrel;have HX:=hid hx;have nZ:IntKind.i64.wrap ((i:Int)+1)=(i:Int)+1:=IntWalk.i64_in _ (by omega);by_cases hlt:i<2
   ·obtain⟨b3,rfl,hb0,aq,iK⟩:=nT.out (by omega);have aa:=(hx.cell aq).trans (iK i hlt);have hz:=dl.out i hlt;generalize zs.getD i 0=za at *;have aQ:(0:Int)<=(i:Int):=by omega
    have i7:(i:Int)<2:=by omega
    clear hx iK;go_wp2_with fail;refine(zH.out _ (HG.out.keep (ay.out.trans HX.out)) za hz).mono ?_
    rintro e w4 ⟨rfl,bD⟩;have bu:=hid (HX.out.trans bD);clear bD aa;go_wp2_with fail;go_roundw
    case rel=>exact⟨i+1,hlt,by go_num,bu.out⟩
    case measure=>simp[intOf];omega
   ·go_wp2_with fail;go_ret;exact⟨rfl,ay.out.trans HX.out⟩
end Big
end Go.Proofs.YtkoaogkknnelaaaGreatDoor
