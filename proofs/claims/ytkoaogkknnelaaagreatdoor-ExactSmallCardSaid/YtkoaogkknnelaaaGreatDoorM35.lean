import Derived.Test.YtkoaogkknnelaaaGreatDoorM34
import Derived.Test.YtkoaogkknnelaaaGreatDoorShelf5
import Derived.Sort.KeysCollected
set_option linter.unusedVariables false
set_option linter.unusedSimpArgs false
set_option maxHeartbeats 8000000
set_option maxRecDepth 100000
namespace Go.Proofs.YtkoaogkknnelaaaGreatDoor
namespace Big
open Lib (hid)
open Go.RowKit
open Go.RowKit Go.Maps Go.Sort
def CO(l:List Bool):Array Value:=(l.map Value.bool).toArray
theorem EL(l:List Bool)(i:Nat)(x:Bool):(CO l).setIfInBounds i (.bool x)=CO (l.set i x):=by
 apply Array.ext';simp[CO,List.map_set]
theorem Cm(l:List Bool)(i:Nat)(h:i<l.length):(CO l)[i]? =some (.bool (l.getD i false)):=by
 unfold CO;rw[List.getElem?_toArray,List.getElem?_map,List.getD_eq_getElem?_getD,List.getElem?_eq_getElem h];rfl
theorem Qb:(Tryz.prog.info? 4).map (fun i=>(i.zero,i.size,i.bytes))=some (some (.bool false),1,1):=by kernel_rfl
theorem Pn(n:Nat)(hn:n<=1000000)(W:World):(Instr.makeSlice 133 (.int .i64 (n:Int)) (.int .i64 (n:Int))).run Tryz.prog W=
  .ok (.slice (some ⟨W.heap.size,0,none⟩) n n) (W.alloc (.cells (CO (List.replicate n false)) 4)):=by
 obtain⟨i0,hi,aE,hz1,ba⟩:=info_parts Qb;have hr:=run_make (P:=Tryz.prog) W 133 4 i0 _ Tryz.underlying133 hi aE .i64 .i64 (n:Int) (n:Int) (by omega) (Int.le_refl _) (by rw[ba];omega) (by omega);have hm:madeCells (Value.cells (.bool false)) (n*1)=CO (List.replicate n false):=by
  apply Array.ext';apply List.ext_getElem?;intro i;simp only[madeCells,CO,Value.cells];rw[Array.getElem?_toList,Array.getElem?_map,List.getElem?_map,List.getElem?_replicate];rcases Nat.lt_or_ge i n with h|h
  ·rw[Array.getElem?_range,if_pos (by omega),if_pos h];simp[Nat.mod_one]
  ·rw[Array.getElem?_range,if_neg (by omega),if_neg (by omega)];rfl
 rw[hz1,Int.toNat_natCast,hm]at hr;exact hr
def Od(ns:List Nd)(i:Nat)(w:World)(e:Ending)(w':World):Prop:=∃b F,e= .returned (.slice (some ⟨b,0,none⟩) (i+1) (i+1))/\Blk w' b 4 (CO F)/\F.length=i+1/\(∀j,j<i+1->(F.getD j false=true↔CI ns i j))/\Ext w w'
theorem M2(w:World)(nv:Value)(ns:List Nd)(h:RNd w nv ns)(hs:AH ns)(hn:ns.length<=4096)(i:Nat)(hi:i<ns.length):
  Calls Tryz.prog 80 #[nv,.int .i64 (i:Int)] w (Od ns i w):=by
 have iP:=hid hs;have HII:=hid hi;obtain⟨m,hm⟩:∃m,m=i+1:=⟨_,rfl⟩;have gM:m<=4096:=by omega
 have xj:i<m:=by omega
 have Yx:=hid hm;have df:=Pn m (by omega);have W9:IntKind.i64.wrap ((i:Int)+1)=(m:Int):=by rw[IntWalk.i64_in _ (by omega)];omega
 have aB:(0:Int)<=(i:Int):=by omega
 have himi:(i:Int)<(m:Int):=by omega
 obtain⟨n,hJ⟩:∃n,n=ns.length:=⟨_,rfl⟩;have HN:=hid hJ;obtain⟨A,c,rfl,lG⟩:=h;have mC:=hid lG;have Wf:Hid (m<=n):=hid (by omega);unfold Od;rw[<-hJ,<-hm];rw[<-hJ]at hn;clear hs hi hm hJ lG;have z0:=(Blk.new w 4 (CO (List.replicate m false))).cell i;rw[Cm _ _ (by rw[List.length_replicate];omega)]at z0;have z1:=(Blk.new w 4 (CO (List.replicate m false))).frozen i;have al:=Blk.new w 4 ((CO (List.replicate m false)).setIfInBounds i (.bool true));have ag:=(Ext.refl w).alloc (.cells ((CO (List.replicate m false)).setIfInBounds i (.bool true)) 4);go_enter Tryz.func80,Tryz.ntmps80;go_upto_region 3 with fail;generalize w.alloc (.cells ((CO (List.replicate m false)).setIfInBounds i (.bool true)) 4)=w2 at *;rw[EL]at al;have ai:=hid al;have ar:=hid ag;obtain⟨bm,kC⟩:∃bm,bm=w.heap.size:=⟨_,rfl⟩;rw[<-kC]at ai;rw[<-kC];have WH:Hid (w.heap.size<=bm):=hid (by omega);clear al ag df W9 z0 z1 kC;go_wp2_with fail;go_loopw [6] (fun s6 wr=>∃(k:Nat) (z:Int),z=(k:Int)-1/\k<=m/\s6= .int .i64 z/\∃(F:List Bool),Blk wr bm 4 (CO F)/\Dd ns i k F/\F.length=m/\Ext w wr) (fun s6 _=>(intOf s6+1).toNat)
 case atStart=>
  refine⟨m,(i:Int),by have:=Yx.out;omega,Nat.le_refl _,rfl,(List.replicate m false).set i true,ai.out,?_,by simp,ar.out⟩;rw[Yx.out];refine Dd.start iP.out (by simp) (by simp;exact HII.out) (fun j hj=> ?_);rw[KH];simp only[List.length_set,List.length_replicate]at hj ⊢;have hf:(List.replicate (i+1) false).getD j false=false:=by
   rw[List.getD_eq_getElem?_getD,List.getElem?_replicate];split<;>rfl
  rw[hf,Bool.or_false,decide_eq_true_iff];exact⟨fun h=>h.1,fun h=>⟨h,by omega⟩⟩
 case round=>
  clear ar ai;obtain⟨k,z,hz,hkm,rfl,F,hb,df,vG,hx⟩:=hrel;have HX:=hid hx;have ek:=hid hb;have jK:=hid df;have jc:=hid vG;clear hx hb df vG;rcases k with _|q
  ·obtain rfl:z= -1:=by omega
   clear hz;have hm0:decide ((-1:Int)>=0)=false:=by decide
   have HE:=hid (jK.out.done);clear jK;go_wp2_with fail;go_ret;exact⟨bm,F,rfl,ek.out,jc.out,fun j hj=>HE.out j (by rw[jc.out];exact hj),HX.out⟩
  ·obtain rfl:z=(q:Int):=by omega
   clear hz;have hqm:q<m:=by omega
   have yM:q<ns.length:=by have:=HN.out;have:=Wf.out;omega
   have az:=iP.out.2 q _ (List.getElem?_eq_getElem yM);have bG:=hid (jK.out.step iP.out (by rw[jc.out];exact hqm));clear jK;have aZ:IntKind.i64.wrap ((q:Int)-1)=(q:Int)-1:=IntWalk.i64_in _ (by omega);have mK:(0:Int)<=(q:Int):=by omega
   have yN:(q:Int)<(m:Int):=by omega
   have iB:decide ((q:Int)>=0)=true:=decide_eq_true mK;have ZR:(q:Int)<(n:Int):=by have:=Wf.out;omega
   obtain⟨gb,o,rfl,fD,hc⟩:=mC.out (by have:=HN.out;have:=Wf.out;omega);obtain⟨p0,p1,p2,p3,p4⟩:=hc q yM;rw[<-HX.out.cell fD]at p0 p1 p2 p3 p4;have aQ:gb<wr.heap.size:=Nat.lt_of_lt_of_le fD HX.out.size;have YF:Hid (bm<wr.heap.size):=hid ek.out.lt;cases hFq:F.getD q false
   case false=>
    have rF:Ij ns q F=F:=by unfold Ij;rw[if_neg (by rw[hFq];simp)]
    rw[rF]at bG;clear rF az hc;generalize ns[q]=x at *;obtain⟨y0,y1,y2,y3,y4⟩:=x;simp only at p0 p1 p2 p3 p4;obtain⟨s,hst⟩:∃s:ByteArray,str y4= .string s:=⟨_,rfl⟩;rw[hst]at p4;clear hst;have ik:=Blk.new wr 95 #[.int .i64 y0,.int .i64 y1,.int .i64 y2,.int .i64 y3,.string s];have bx:=(Ext.refl wr).alloc (.cells #[.int .i64 y0,.int .i64 y1,.int .i64 y2,.int .i64 y3,.string s] 95);go_upto_region 7 with fail;generalize wr.alloc (.cells #[.int .i64 y0,.int .i64 y1,.int .i64 y2,.int .i64 y3,.string s] 95)=w7 at *;generalize wr.heap.size=nb at *;have gR:=hid ik;have HX:=hid (HX.out.trans bx);have ek:=hid (ek.out.ext bx);clear ik bx p0 p1 p2 p3 p4;have an:=gR.out.five;have z0:=ek.out.cell q;rw[Cm _ _ (by rw[jc.out];exact hqm),hFq]at z0;go_wp2_with fail;go_roundw
    case rel=>exact⟨q,(q:Int)-1,rfl,by omega,by go_num,F,ek.out,bG.out,jc.out,HX.out⟩
    case measure=>simp[intOf]<;>omega
   case true=>
    have rF:Ij ns q F=Fb F (BF ns[q]):=by
     unfold Ij CH;rw[if_pos (by rw[hFq]),List.getElem?_eq_getElem yM]
    rw[rF]at bG;rcases az with ⟨k,t,hx,ho⟩|⟨k,y,a,hx,ho,ha⟩|⟨k,a,b,hx,hkk,ha,hb⟩
    ·have pc:BF ns[q]=[]:=by rw[hx];exact CG ho
     rw[pc]at bG;have hk:=ho.lt;rw[hx]at p0 p1 p2 p3 p4;simp only at p0 p1 p2 p3 p4;obtain⟨s,hst⟩:∃s:ByteArray,str t= .string s:=⟨_,rfl⟩;rw[hst]at p4;clear hst hx ho rF pc hc;have qn:decide ((k:Int)>=5)=false:=decide_eq_false (by omega);have vg:decide (5<=k)=false:=decide_eq_false (by omega);have ik:=Blk.new wr 95 #[.int .i64 (k:Int),.int .i64 0,.int .i64 0,.int .i64 0,.string s];have bx:=(Ext.refl wr).alloc (.cells #[.int .i64 (k:Int),.int .i64 0,.int .i64 0,.int .i64 0,.string s] 95);go_upto_region 7 with fail;generalize wr.alloc (.cells #[.int .i64 (k:Int),.int .i64 0,.int .i64 0,.int .i64 0,.string s] 95)=w7 at *;generalize wr.heap.size=nb at *;have gR:=hid ik;have HX:=hid (HX.out.trans bx);have ek:=hid (ek.out.ext bx);clear ik bx p0 p1 p2 p3 p4;have an:=gR.out.five;have z0:=ek.out.cell q;rw[Cm _ _ (by rw[jc.out];exact hqm),hFq]at z0;go_wp2_with fail;go_roundw
     case rel=>exact⟨q,(q:Int)-1,rfl,by omega,by go_num,F,ek.out,bG.out,jc.out,HX.out⟩
     case measure=>simp[intOf]<;>omega
    ·have pc:BF ns[q]=[a]:=by rw[hx];exact Cs ho
     rw[pc]at bG;have hk:=ho.1;rw[hx]at p0 p1 p2 p3 p4;simp only at p0 p1 p2 p3 p4;obtain⟨s,hst⟩:∃s:ByteArray,str []= .string s:=⟨_,rfl⟩;rw[hst]at p4;clear hst hx ho rF pc hc;have qn:decide ((k:Int)>=5)=true:=decide_eq_true (by omega);have vg:decide (5<=k)=true:=decide_eq_true (by omega);have zU:(0:Int)<=(a:Int):=by omega
     have ham:(a:Int)<(m:Int):=by omega
     have ik:=Blk.new wr 95 #[.int .i64 (k:Int),.int .i64 (a:Int),.int .i64 0,.int .i64 y,.string s];have bx:=(Ext.refl wr).alloc (.cells #[.int .i64 (k:Int),.int .i64 (a:Int),.int .i64 0,.int .i64 y,.string s] 95);go_upto_region 7 with fail;generalize wr.alloc (.cells #[.int .i64 (k:Int),.int .i64 (a:Int),.int .i64 0,.int .i64 y,.string s] 95)=w7 at *;generalize wr.heap.size=nb at *;have gR:=hid ik;have HX:=hid (HX.out.trans bx);have ek:=hid (ek.out.ext bx);clear ik bx p0 p1 p2 p3 p4;have an:=gR.out.five;have z0:=ek.out.cell q;rw[Cm _ _ (by rw[jc.out];exact hqm),hFq]at z0;have za:=ek.out.cell a;rw[Cm _ _ (by rw[jc.out];omega)]at za;have fa:=ek.out.frozen a;generalize F.getD a false=va at za;have sp:=ek.out.set_ a (.bool true);rw[EL]at sp;have bD:=HX.out.setCell (p:=⟨bm,a,none⟩) WH.out (.bool true);have ik:=gR.out.far (p:=⟨bm,a,none⟩) (show nb≠bm by have:=YF.out;omega) (.bool true);go_upto_region 9 with fail;generalize w7.setCell ⟨bm,a,none⟩ (.bool true)=w8 at *;have lT:=hid sp;have dq:=hid bD;have gR:=hid ik;clear sp bD ik an z0 za fa;have an:=gR.out.five;rcases hk with rfl|hk
     ·go_wp2_with fail;go_roundw
      case rel=>exact⟨q,(q:Int)-1,rfl,by omega,by go_num,F.set a true,lT.out,bG.out,(by rw[List.length_set];exact jc.out),dq.out⟩
      case measure=>simp[intOf]<;>omega
     ·have lD:decide ((k:Int)>=6)=true:=decide_eq_true (by omega);have zo:decide (6<=k)=true:=decide_eq_true (by omega);have jl:decide ((k:Int)<=9)=false:=decide_eq_false (by omega);have zn:decide (k<=9)=false:=decide_eq_false (by omega);go_wp2_with fail;go_roundw
      case rel=>exact⟨q,(q:Int)-1,rfl,by omega,by go_num,F.set a true,lT.out,bG.out,(by rw[List.length_set];exact jc.out),dq.out⟩
      case measure=>simp[intOf]<;>omega
    ·have pc:BF ns[q]=[a,b]:=by rw[hx];exact BP hkk
     rw[pc]at bG;rw[hx]at p0 p1 p2 p3 p4;simp only at p0 p1 p2 p3 p4;obtain⟨s,hst⟩:∃s:ByteArray,str []= .string s:=⟨_,rfl⟩;rw[hst]at p4;clear hst hx rF pc hc;have qn:decide ((k:Int)>=5)=true:=decide_eq_true (by omega);have vg:decide (5<=k)=true:=decide_eq_true (by omega);have lD:decide ((k:Int)>=6)=true:=decide_eq_true (by omega);have zo:decide (6<=k)=true:=decide_eq_true (by omega);have jl:decide ((k:Int)<=9)=true:=decide_eq_true (by omega);have zn:decide (k<=9)=true:=decide_eq_true (by omega);have zU:(0:Int)<=(a:Int):=by omega
     have ham:(a:Int)<(m:Int):=by omega
     have hb0:(0:Int)<=(b:Int):=by omega
     have kC:(b:Int)<(m:Int):=by omega
     have ik:=Blk.new wr 95 #[.int .i64 (k:Int),.int .i64 (a:Int),.int .i64 (b:Int),.int .i64 0,.string s];have bx:=(Ext.refl wr).alloc (.cells #[.int .i64 (k:Int),.int .i64 (a:Int),.int .i64 (b:Int),.int .i64 0,.string s] 95);go_upto_region 7 with fail;generalize wr.alloc (.cells #[.int .i64 (k:Int),.int .i64 (a:Int),.int .i64 (b:Int),.int .i64 0,.string s] 95)=w7 at *;generalize wr.heap.size=nb at *;have gR:=hid ik;have HX:=hid (HX.out.trans bx);have ek:=hid (ek.out.ext bx);clear ik bx p0 p1 p2 p3 p4;have an:=gR.out.five;have z0:=ek.out.cell q;rw[Cm _ _ (by rw[jc.out];exact hqm),hFq]at z0;have za:=ek.out.cell a;rw[Cm _ _ (by rw[jc.out];omega)]at za;have fa:=ek.out.frozen a;generalize F.getD a false=va at za;have sp:=ek.out.set_ a (.bool true);rw[EL]at sp;have bD:=HX.out.setCell (p:=⟨bm,a,none⟩) WH.out (.bool true);have ik:=gR.out.far (p:=⟨bm,a,none⟩) (show nb≠bm by have:=YF.out;omega) (.bool true);go_upto_region 9 with fail;generalize w7.setCell ⟨bm,a,none⟩ (.bool true)=w8 at *;have lT:=hid sp;have dq:=hid bD;have gR:=hid ik;clear sp bD ik an z0 za fa;have an:=gR.out.five;have zb:=lT.out.cell b;rw[Cm _ _ (by rw[List.length_set,jc.out];omega)]at zb;have fb:=lT.out.frozen b;generalize (F.set a true).getD b false=vb at zb;have lJ:=lT.out.set_ b (.bool true);rw[EL]at lJ;have xR:=hid lJ;have ei:=hid (dq.out.setCell (p:=⟨bm,b,none⟩) WH.out (.bool true));clear lJ;go_wp2_with fail;go_roundw
     case rel=>exact⟨q,(q:Int)-1,rfl,by omega,by go_num,(F.set a true).set b true,xR.out,bG.out,(by rw[List.length_set,List.length_set];exact jc.out),ei.out⟩
     case measure=>simp[intOf]<;>omega
theorem Kl(B g:Nat)(w:World)(ns:List Nd)(rv:Value)(h:GrR B g w ns rv)(x:Nd)(hx:Cw ns.length x):
  Calls Tryz.prog 180 #[.pointer (some ⟨g,0,none⟩),ndV x] w fun e w'=>e= .returned (.bool true)/\Ext w w':=by
 have cC:=hid (fun W=>Ks W x (by have:=hx.text;omega));rw[hx.plain]at cC;have aT:=hid (fun W=>BB W x.kind);rw[hx.oper]at aT;have wR:=hid (fun W=>Ko W x hx);have hlt:=hx.args_lt;have Wr:=hid (fun W h (a:Nat) (ha:a<ns.length)=>(decide_eq_true (⟨by omega,by omega⟩:0<=(a:Int)/\(a:Int)<(ns.length:Int))) ▸ OF B g W ns rv h (a:Int));have HG:=hid h;have kD:=hx.args_len;have hz1:(BF x).length<1->x.a=0:=by
  intro hl;rcases hx with ⟨k,t,rfl,ho⟩|⟨k,n,j,rfl,ho,hj⟩|⟨k,j,q,rfl,hk,hj,hq⟩
  ·rfl
  ·rw[Cs ho]at hl;simp at hl
  ·rw[BP hk]at hl;simp at hl
 have ba:(BF x).length<2->x.b=0:=by
  intro hl;rcases hx with ⟨k,t,rfl,ho⟩|⟨k,n,j,rfl,ho,hj⟩|⟨k,j,q,rfl,hk,hj,hq⟩
  ·rfl
  ·rfl
  ·rw[BP hk]at hl;simp at hl
 have dM:Hid (∀i,i<(BF x).length->(BF x).getD i 0<ns.length):=hid (fun i hi=>by
  rw[List.getD_eq_getElem?_getD,List.getElem?_eq_getElem hi];exact hlt _ (List.getElem_mem hi))
 clear hlt hx;generalize BF x=zs at *;obtain⟨k,a,d,n,t⟩:=x;simp only[ndV]at cC aT wR hz1 ba ⊢;obtain⟨s,hs⟩:∃s:ByteArray,s=⟨t.toArray⟩:=⟨_,rfl⟩;have hst:str t= .string s:=by rw[hs];rfl
 rw[hst]at cC wR ⊢;clear hs hst;obtain⟨A,c,rfl⟩:=h.row.shape;clear h;have ai:=hid (Blk.new w 95 #[.int .i64 k,.int .i64 a,.int .i64 d,.int .i64 n,.string s]);have ar:=hid ((Ext.refl w).alloc (.cells #[.int .i64 k,.int .i64 a,.int .i64 d,.int .i64 n,.string s] 95));obtain⟨w1,aZ⟩:∃w1,w1=w.alloc (.cells #[.int .i64 k,.int .i64 a,.int .i64 d,.int .i64 n,.string s] 95):=⟨_,rfl⟩;rw[<-aZ]at ai ar;have q0:=ai.out.five;obtain⟨m,hm⟩:∃m,m=zs.length:=⟨_,rfl⟩;rw[<-hm]at aT hz1 ba kD dM;have Wb:=hid hm;clear hm;have h3:(m=0/\a=0/\d=0)\/(m=1/\d=0)\/m=2:=by
  have:m=0\/m=1\/m=2:=by omega
  rcases this with h|h|h
  ·exact .inl ⟨h,hz1 (by omega),ba (by omega)⟩
  ·exact .inr (.inl ⟨h,ba (by omega)⟩)
  ·exact .inr (.inr h)
 clear hz1 ba kD;rcases h3 with ⟨rfl,rfl,rfl⟩|⟨rfl,rfl⟩|rfl
 ·rw[show ((0:Nat):Int)=0 from rfl]at aT;go_enter Tryz.func180,Tryz.ntmps180;go_upto_region 1 with fail;rw[<-aZ];clear aZ;go_wp2_with fail;refine(aT.out _).mono ?_
  rintro e w2 ⟨rfl,rfl⟩;go_wp2_with fail;refine(cC.out _).mono ?_
  rintro e w2 ⟨rfl,ae⟩;have aI:=hid (ar.out.trans ae);have a6:=hid (ai.out.ext ae);clear q0 ae;have q0:=a6.out.five;go_wp2_with fail;refine(wR.out _).mono ?_
  rintro e w3 ⟨A3,c3,rfl,ab,pb⟩;have aC:=hid (aI.out.trans ab);have pi:=hid pb;rw[<-Wb.out]at pi ⊢;clear q0 ab pb;go_wp2_with fail;go_loopw [39] (fun mY wr=>∃i:Nat,i<=0/\mY= .int .i64 (i:Int)/\Ext w3 wr) (fun mY _=>0-(intOf mY).toNat)
  case atStart=>exact⟨0,Nat.zero_le _,rfl,Ext.refl w3⟩
  case round=>
   obtain⟨i,hi,rfl,hx⟩:=hrel;have HX:=hid hx;have p7:IntKind.i64.wrap ((i:Int)+1)=(i:Int)+1:=IntWalk.i64_in _ (by omega);by_cases hlt:i<0
   ·obtain⟨b3,rfl,hb0,al,js⟩:=pi.out (by omega);have aa:=(hx.cell al).trans (js i hlt);have hz:=dM.out i hlt;generalize zs.getD i 0=za at *;have aB:(0:Int)<=(i:Int):=by omega
    have kA:(i:Int)<0:=by omega
    clear hx js;go_wp2_with fail;refine(Wr.out _ (HG.out.keep (aC.out.trans HX.out)) za hz).mono ?_
    rintro e w4 ⟨rfl,bc⟩;have bw:=hid (HX.out.trans bc);clear bc aa;go_wp2_with fail;go_roundw
    case rel=>exact⟨i+1,hlt,by go_num,bw.out⟩
    case measure=>simp[intOf];omega
   ·go_wp2_with fail;go_ret;exact⟨rfl,aC.out.trans HX.out⟩
 ·rw[show ((1:Nat):Int)=1 from rfl]at aT;go_enter Tryz.func180,Tryz.ntmps180;go_upto_region 1 with fail;rw[<-aZ];clear aZ;go_wp2_with fail;refine(aT.out _).mono ?_
  rintro e w2 ⟨rfl,rfl⟩;go_wp2_with fail;refine(cC.out _).mono ?_
  rintro e w2 ⟨rfl,ae⟩;have aI:=hid (ar.out.trans ae);have a6:=hid (ai.out.ext ae);clear q0 ae;have q0:=a6.out.five;go_wp2_with fail;refine(wR.out _).mono ?_
  rintro e w3 ⟨A3,c3,rfl,ab,pb⟩;have aC:=hid (aI.out.trans ab);have pi:=hid pb;rw[<-Wb.out]at pi ⊢;clear q0 ab pb;go_wp2_with fail;go_loopw [39] (fun mY wr=>∃i:Nat,i<=1/\mY= .int .i64 (i:Int)/\Ext w3 wr) (fun mY _=>1-(intOf mY).toNat)
  case atStart=>exact⟨0,Nat.zero_le _,rfl,Ext.refl w3⟩
  case round=>
   obtain⟨i,hi,rfl,hx⟩:=hrel;have HX:=hid hx;have p7:IntKind.i64.wrap ((i:Int)+1)=(i:Int)+1:=IntWalk.i64_in _ (by omega);by_cases hlt:i<1
   ·obtain⟨b3,rfl,hb0,al,js⟩:=pi.out (by omega);have aa:=(hx.cell al).trans (js i hlt);have hz:=dM.out i hlt;generalize zs.getD i 0=za at *;have aB:(0:Int)<=(i:Int):=by omega
    have kA:(i:Int)<1:=by omega
    clear hx js;go_wp2_with fail;refine(Wr.out _ (HG.out.keep (aC.out.trans HX.out)) za hz).mono ?_
    rintro e w4 ⟨rfl,bc⟩;have bw:=hid (HX.out.trans bc);clear bc aa;go_wp2_with fail;go_roundw
    case rel=>exact⟨i+1,hlt,by go_num,bw.out⟩
    case measure=>simp[intOf];omega
   ·go_wp2_with fail;go_ret;exact⟨rfl,aC.out.trans HX.out⟩
 ·rw[show ((2:Nat):Int)=2 from rfl]at aT;go_enter Tryz.func180,Tryz.ntmps180;go_upto_region 1 with fail;rw[<-aZ];clear aZ;go_wp2_with fail;refine(aT.out _).mono ?_
  rintro e w2 ⟨rfl,rfl⟩;go_wp2_with fail;refine(cC.out _).mono ?_
  rintro e w2 ⟨rfl,ae⟩;have aI:=hid (ar.out.trans ae);have a6:=hid (ai.out.ext ae);clear q0 ae;have q0:=a6.out.five;go_wp2_with fail;refine(wR.out _).mono ?_
  rintro e w3 ⟨A3,c3,rfl,ab,pb⟩;have aC:=hid (aI.out.trans ab);have pi:=hid pb;rw[<-Wb.out]at pi ⊢;clear q0 ab pb;go_wp2_with fail;go_loopw [39] (fun mY wr=>∃i:Nat,i<=2/\mY= .int .i64 (i:Int)/\Ext w3 wr) (fun mY _=>2-(intOf mY).toNat)
  case atStart=>exact⟨0,Nat.zero_le _,rfl,Ext.refl w3⟩
  case round=>
   obtain⟨i,hi,rfl,hx⟩:=hrel;have HX:=hid hx;have p7:IntKind.i64.wrap ((i:Int)+1)=(i:Int)+1:=IntWalk.i64_in _ (by omega);by_cases hlt:i<2
   ·obtain⟨b3,rfl,hb0,al,js⟩:=pi.out (by omega);have aa:=(hx.cell al).trans (js i hlt);have hz:=dM.out i hlt;generalize zs.getD i 0=za at *;have aB:(0:Int)<=(i:Int):=by omega
    have kA:(i:Int)<2:=by omega
    clear hx js;go_wp2_with fail;refine(Wr.out _ (HG.out.keep (aC.out.trans HX.out)) za hz).mono ?_
    rintro e w4 ⟨rfl,bc⟩;have bw:=hid (HX.out.trans bc);clear bc aa;go_wp2_with fail;go_roundw
    case rel=>exact⟨i+1,hlt,by go_num,bw.out⟩
    case measure=>simp[intOf];omega
   ·go_wp2_with fail;go_ret;exact⟨rfl,aC.out.trans HX.out⟩
end Big
end Go.Proofs.YtkoaogkknnelaaaGreatDoor
