import Derived.Test.YtkoaogkknnelaaaGreatDoorM34
import Derived.Test.YtkoaogkknnelaaaGreatDoorShelf5
import Derived.Sort.KeysCollected
set_option linter.unusedVariables false
set_option linter.unusedSimpArgs false
set_option maxHeartbeats 8000000
set_option maxRecDepth 100000
namespace Go.Proofs.YtkoaogkknnelaaaGreatDoor
namespace Big
open Lib renaming hid → J
open Go.RowKit
open Go.RowKit Go.Maps Go.Sort
def CW(l:List Bool):Array Value:=(l.map Value.bool).toArray
theorem E3(l:List Bool)(i:Nat)(x:Bool):(CW l).setIfInBounds i (.bool x)=CW (l.set i x):=by
 apply qck;simp[CW,List.map_set]
theorem Ct(l:List Bool)(i:Nat)(h:i<l.length):(CW l)[i]? =some (.bool (l.getD i false)):=by
 unfold CW;rw[qbL,qaP,qaa,qad h];rfl
theorem Qw:(Tryz.prog.info? 4).map (fun i=>(i.zero,i.size,i.bytes))=some (some (.bool false),1,1):=by kernel_rfl
theorem PE(n:Nat)(hn:n<=1000000)(W:World):(Instr.makeSlice 133 (.int .i64 (n:Int)) (.int .i64 (n:Int))).run Tryz.prog W=
  .ok (.slice (some ⟨W.heap.size,0,none⟩) n n) (W.alloc (.cells (CW (List.replicate n false)) 4)):=by
 obtain⟨i0,hi,aD,hz1,bu⟩:=info_parts Qw;have hr:=run_make (P:=Tryz.prog) W 133 4 i0 _ Tryz.underlying133 hi aD .i64 .i64 (n:Int) (n:Int) (by omega) (Int.le_refl _) (by rw[bu];omega) (by omega);have hm:madeCells (Value.cells (.bool false)) (n*1)=CW (List.replicate n false):=by
  apply qck;apply qct;intro i;simp only[madeCells,CW,Value.cells];rw[Array.getElem?_toList,Array.getElem?_map,qaP,qbQ];rcases qah i n with h|h
  ·rw[qca,if_pos (by omega),if_pos h];simp[Nat.mod_one]
  ·rw[qca,if_neg (by omega),if_neg (by omega)];rfl
 rw[hz1,qaq,hm]at hr;exact hr
def OE(ns:List Nd)(i:Nat)(w:World)(e:Ending)(w':World):Prop:=∃b F,e= .returned (.slice (some ⟨b,0,none⟩) (i+1) (i+1))/\Blk w' b 4 (CW F)/\F.length=i+1/\(∀j,j<i+1->(F.getD j false=true↔CS ns i j))/\Ext w w'
theorem Nn(w:World)(nv:Value)(ns:List Nd)(h:RNd w nv ns)(hs:AK ns)(hn:ns.length<=4096)(i:Nat)(hi:i<ns.length):
  Calls Tryz.prog 80 #[nv,.int .i64 (i:Int)] w (OE ns i w):=by
 have gN:=J hs;have HII:=J hi;obtain⟨m,hm⟩:∃m,m=i+1:=⟨_,rfl⟩;have im:m<=4096:=by omega
 have x7:i<m:=by omega
 have Zm:=J hm;have dp:=PE m (by omega);have XJ:IntKind.i64.wrap ((i:Int)+1)=(m:Int):=by rw[IntWalk.i64_in _ (by omega)];omega
 have aG:(0:Int)<=(i:Int):=by omega
 have himi:(i:Int)<(m:Int):=by omega
 obtain⟨n,dZ⟩:∃n,n=ns.length:=⟨_,rfl⟩;have HN:=J dZ;obtain⟨A,c,rfl,kK⟩:=h;have l8:=J kK;have WV:Hid (m<=n):=J (by omega);unfold OE;rw[<-dZ,<-hm];rw[<-dZ]at hn;clear hs hi hm dZ kK;have z0:=(Blk.new w 4 (CW (List.replicate m false))).cell i;rw[Ct _ _ (by rw[qaX];omega)]at z0;have z1:=(Blk.new w 4 (CW (List.replicate m false))).frozen i;have am:=Blk.new w 4 ((CW (List.replicate m false)).setIfInBounds i (.bool true));have ak:=(Ext.refl w).alloc (.cells ((CW (List.replicate m false)).setIfInBounds i (.bool true)) 4);go_enter Tryz.func80,Tryz.ntmps80;go_upto_region 3 with fail;generalize w.alloc (.cells ((CW (List.replicate m false)).setIfInBounds i (.bool true)) 4)=w2 at *;rw[E3]at am;have ag:=J am;have au:=J ak;obtain⟨bm,ye⟩:∃bm,bm=w.heap.size:=⟨_,rfl⟩;rw[<-ye]at ag;rw[<-ye];have Xn:Hid (w.heap.size<=bm):=J (by omega);clear am ak dp XJ z0 z1 ye;go_wp2_with fail;go_loopw [6] (fun s6 wr=>∃(k:Nat) (z:Int),z=(k:Int)-1/\k<=m/\s6= .int .i64 z/\∃(F:List Bool),Blk wr bm 4 (CW F)/\Dj ns i k F/\F.length=m/\Ext w wr) (fun s6 _=>(intOf s6+1).toNat)
 case atStart=>
  refine⟨m,(i:Int),by have:=Zm.o;omega,qab _,rfl,(List.replicate m false).set i true,ag.o,?_,by simp,au.o⟩;rw[Zm.o];refine Dj.start gN.o (by simp) (by simp;exact HII.o) (fun j hj=> ?_);rw[K1];simp only[qbm,qaX]at hj ⊢;have hf:(List.replicate (i+1) false).getD j false=false:=by
   rw[qaa,qbQ];split<;>rfl
  rw[hf,qbv,decide_eq_true_iff];exact⟨fun h=>h.1,fun h=>⟨h,by omega⟩⟩
 case round=>
  clear au ag;obtain⟨k,z,hz,hkm,rfl,F,hb,dp,wS,hx⟩:=hrel;have HX:=J hx;have ey:=J hb;have mw:=J dp;have jF:=J wS;clear hx hb dp wS;rcases k with _|q
  ·obtain rfl:z= -1:=by omega
   clear hz;have hm0:decide ((-1:Int)>=0)=false:=by decide
   have HE:=J (mw.o.done);clear mw;go_wp2_with fail;go_ret;exact⟨bm,F,rfl,ey.o,jF.o,fun j hj=>HE.o j (by rw[jF.o];exact hj),HX.o⟩
  ·obtain rfl:z=(q:Int):=by omega
   clear hz;have hqm:q<m:=by omega
   have zE:q<ns.length:=by have:=HN.o;have:=WV.o;omega
   have aA:=gN.o.2 q _ (qad zE);have bF:=J (mw.o.step gN.o (by rw[jF.o];exact hqm));clear mw;have aT:IntKind.i64.wrap ((q:Int)-1)=(q:Int)-1:=IntWalk.i64_in _ (by omega);have mg:(0:Int)<=(q:Int):=by omega
   have zF:(q:Int)<(m:Int):=by omega
   have i3:decide ((q:Int)>=0)=true:=decide_eq_true mg;have hqn2:(q:Int)<(n:Int):=by have:=WV.o;omega
   obtain⟨gb,o,rfl,eU,hc⟩:=l8.o (by have:=HN.o;have:=WV.o;omega);obtain⟨p0,p1,p2,p3,p4⟩:=hc q zE;rw[<-HX.o.cell eU]at p0 p1 p2 p3 p4;have aC:gb<wr.heap.size:=qan eU HX.o.size;have Zw:Hid (bm<wr.heap.size):=J ey.o.lt;cases hFq:F.getD q false
   case false=>
    have sw:IB ns q F=F:=by unfold IB;rw[if_neg (by rw[hFq];simp)]
    rw[sw]at bF;clear sw aA hc;generalize ns[q]=x at *;obtain⟨y0,y1,y2,y3,y4⟩:=x;simp only at p0 p1 p2 p3 p4;obtain⟨s,hst⟩:∃s:ByteArray,str y4= .string s:=⟨_,rfl⟩;rw[hst]at p4;clear hst;have fD:=Blk.new wr 95 #[.int .i64 y0,.int .i64 y1,.int .i64 y2,.int .i64 y3,.string s];have bH:=(Ext.refl wr).alloc (.cells #[.int .i64 y0,.int .i64 y1,.int .i64 y2,.int .i64 y3,.string s] 95);go_upto_region 7 with fail;generalize wr.alloc (.cells #[.int .i64 y0,.int .i64 y1,.int .i64 y2,.int .i64 y3,.string s] 95)=w7 at *;generalize wr.heap.size=nb at *;have fV:=J fD;have HX:=J (HX.o.trans bH);have ey:=J (ey.o.ext bH);clear fD bH p0 p1 p2 p3 p4;have ao:=fV.o.five;have z0:=ey.o.cell q;rw[Ct _ _ (by rw[jF.o];exact hqm),hFq]at z0;go_wp2_with fail;go_roundw
    case rel=>exact⟨q,(q:Int)-1,rfl,by omega,by go_num,F,ey.o,bF.o,jF.o,HX.o⟩
    case measure=>simp[intOf]<;>omega
   case true=>
    have sw:IB ns q F=Fr F (BN ns[q]):=by
     unfold IB CQ;rw[if_pos (by rw[hFq]),qad zE]
    rw[sw]at bF;rcases aA with ⟨k,t,hx,ho⟩|⟨k,y,a,hx,ho,ha⟩|⟨k,a,b,hx,hkk,ha,hb⟩
    ·have pP:BN ns[q]=[]:=by rw[hx];exact CP ho
     rw[pP]at bF;have hk:=ho.lt;rw[hx]at p0 p1 p2 p3 p4;simp only at p0 p1 p2 p3 p4;obtain⟨s,hst⟩:∃s:ByteArray,str t= .string s:=⟨_,rfl⟩;rw[hst]at p4;clear hst hx ho sw pP hc;have mQ:decide ((k:Int)>=5)=false:=decide_eq_false (by omega);have wi:decide (5<=k)=false:=decide_eq_false (by omega);have fD:=Blk.new wr 95 #[.int .i64 (k:Int),.int .i64 0,.int .i64 0,.int .i64 0,.string s];have bH:=(Ext.refl wr).alloc (.cells #[.int .i64 (k:Int),.int .i64 0,.int .i64 0,.int .i64 0,.string s] 95);go_upto_region 7 with fail;generalize wr.alloc (.cells #[.int .i64 (k:Int),.int .i64 0,.int .i64 0,.int .i64 0,.string s] 95)=w7 at *;generalize wr.heap.size=nb at *;have fV:=J fD;have HX:=J (HX.o.trans bH);have ey:=J (ey.o.ext bH);clear fD bH p0 p1 p2 p3 p4;have ao:=fV.o.five;have z0:=ey.o.cell q;rw[Ct _ _ (by rw[jF.o];exact hqm),hFq]at z0;go_wp2_with fail;go_roundw
     case rel=>exact⟨q,(q:Int)-1,rfl,by omega,by go_num,F,ey.o,bF.o,jF.o,HX.o⟩
     case measure=>simp[intOf]<;>omega
    ·have pP:BN ns[q]=[a]:=by rw[hx];exact Cz ho
     rw[pP]at bF;have hk:=ho.1;rw[hx]at p0 p1 p2 p3 p4;simp only at p0 p1 p2 p3 p4;obtain⟨s,hst⟩:∃s:ByteArray,str []= .string s:=⟨_,rfl⟩;rw[hst]at p4;clear hst hx ho sw pP hc;have mQ:decide ((k:Int)>=5)=true:=decide_eq_true (by omega);have wi:decide (5<=k)=true:=decide_eq_true (by omega);have VW:(0:Int)<=(a:Int):=by omega
     have ham:(a:Int)<(m:Int):=by omega
     have fD:=Blk.new wr 95 #[.int .i64 (k:Int),.int .i64 (a:Int),.int .i64 0,.int .i64 y,.string s];have bH:=(Ext.refl wr).alloc (.cells #[.int .i64 (k:Int),.int .i64 (a:Int),.int .i64 0,.int .i64 y,.string s] 95);go_upto_region 7 with fail;generalize wr.alloc (.cells #[.int .i64 (k:Int),.int .i64 (a:Int),.int .i64 0,.int .i64 y,.string s] 95)=w7 at *;generalize wr.heap.size=nb at *;have fV:=J fD;have HX:=J (HX.o.trans bH);have ey:=J (ey.o.ext bH);clear fD bH p0 p1 p2 p3 p4;have ao:=fV.o.five;have z0:=ey.o.cell q;rw[Ct _ _ (by rw[jF.o];exact hqm),hFq]at z0;have za:=ey.o.cell a;rw[Ct _ _ (by rw[jF.o];omega)]at za;have fa:=ey.o.frozen a;generalize F.getD a false=va at za;have sY:=ey.o.set_ a (.bool true);rw[E3]at sY;have bJ:=HX.o.setCell (p:=⟨bm,a,none⟩) Xn.o (.bool true);have fD:=fV.o.far (p:=⟨bm,a,none⟩) (show nb≠bm by have:=Zw.o;omega) (.bool true);go_upto_region 9 with fail;generalize w7.setCell ⟨bm,a,none⟩ (.bool true)=w8 at *;have mC:=J sY;have dF:=J bJ;have fV:=J fD;clear sY bJ fD ao z0 za fa;have ao:=fV.o.five;rcases hk with rfl|hk
     ·go_wp2_with fail;go_roundw
      case rel=>exact⟨q,(q:Int)-1,rfl,by omega,by go_num,F.set a true,mC.o,bF.o,(by rw[qbm];exact jF.o),dF.o⟩
      case measure=>simp[intOf]<;>omega
     ·have jN:decide ((k:Int)>=6)=true:=decide_eq_true (by omega);have z7:decide (6<=k)=true:=decide_eq_true (by omega);have jM:decide ((k:Int)<=9)=false:=decide_eq_false (by omega);have zZ:decide (k<=9)=false:=decide_eq_false (by omega);go_wp2_with fail;go_roundw
      case rel=>exact⟨q,(q:Int)-1,rfl,by omega,by go_num,F.set a true,mC.o,bF.o,(by rw[qbm];exact jF.o),dF.o⟩
      case measure=>simp[intOf]<;>omega
    ·have pP:BN ns[q]=[a,b]:=by rw[hx];exact BW hkk
     rw[pP]at bF;rw[hx]at p0 p1 p2 p3 p4;simp only at p0 p1 p2 p3 p4;obtain⟨s,hst⟩:∃s:ByteArray,str []= .string s:=⟨_,rfl⟩;rw[hst]at p4;clear hst hx sw pP hc;have mQ:decide ((k:Int)>=5)=true:=decide_eq_true (by omega);have wi:decide (5<=k)=true:=decide_eq_true (by omega);have jN:decide ((k:Int)>=6)=true:=decide_eq_true (by omega);have z7:decide (6<=k)=true:=decide_eq_true (by omega);have jM:decide ((k:Int)<=9)=true:=decide_eq_true (by omega);have zZ:decide (k<=9)=true:=decide_eq_true (by omega);have VW:(0:Int)<=(a:Int):=by omega
     have ham:(a:Int)<(m:Int):=by omega
     have hb0:(0:Int)<=(b:Int):=by omega
     have ye:(b:Int)<(m:Int):=by omega
     have fD:=Blk.new wr 95 #[.int .i64 (k:Int),.int .i64 (a:Int),.int .i64 (b:Int),.int .i64 0,.string s];have bH:=(Ext.refl wr).alloc (.cells #[.int .i64 (k:Int),.int .i64 (a:Int),.int .i64 (b:Int),.int .i64 0,.string s] 95);go_upto_region 7 with fail;generalize wr.alloc (.cells #[.int .i64 (k:Int),.int .i64 (a:Int),.int .i64 (b:Int),.int .i64 0,.string s] 95)=w7 at *;generalize wr.heap.size=nb at *;have fV:=J fD;have HX:=J (HX.o.trans bH);have ey:=J (ey.o.ext bH);clear fD bH p0 p1 p2 p3 p4;have ao:=fV.o.five;have z0:=ey.o.cell q;rw[Ct _ _ (by rw[jF.o];exact hqm),hFq]at z0;have za:=ey.o.cell a;rw[Ct _ _ (by rw[jF.o];omega)]at za;have fa:=ey.o.frozen a;generalize F.getD a false=va at za;have sY:=ey.o.set_ a (.bool true);rw[E3]at sY;have bJ:=HX.o.setCell (p:=⟨bm,a,none⟩) Xn.o (.bool true);have fD:=fV.o.far (p:=⟨bm,a,none⟩) (show nb≠bm by have:=Zw.o;omega) (.bool true);go_upto_region 9 with fail;generalize w7.setCell ⟨bm,a,none⟩ (.bool true)=w8 at *;have mC:=J sY;have dF:=J bJ;have fV:=J fD;clear sY bJ fD ao z0 za fa;have ao:=fV.o.five;have zb:=mC.o.cell b;rw[Ct _ _ (by rw[qbm,jF.o];omega)]at zb;have fb:=mC.o.frozen b;generalize (F.set a true).getD b false=vb at zb;have mq:=mC.o.set_ b (.bool true);rw[E3]at mq;have yG:=J mq;have eV:=J (dF.o.setCell (p:=⟨bm,b,none⟩) Xn.o (.bool true));clear mq;go_wp2_with fail;go_roundw
     case rel=>exact⟨q,(q:Int)-1,rfl,by omega,by go_num,(F.set a true).set b true,yG.o,bF.o,(by rw[qbm,qbm];exact jF.o),eV.o⟩
     case measure=>simp[intOf]<;>omega
end Big
end Go.Proofs.YtkoaogkknnelaaaGreatDoor
