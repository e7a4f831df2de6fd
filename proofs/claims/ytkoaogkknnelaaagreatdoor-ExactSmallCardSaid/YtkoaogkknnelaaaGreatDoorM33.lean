import Derived.Test.YtkoaogkknnelaaaGreatDoorM29
import Derived.Test.YtkoaogkknnelaaaGreatDoorShelf4
set_option linter.unusedVariables false
set_option linter.unusedSimpArgs false
set_option maxHeartbeats 4000000
set_option maxRecDepth 100000
namespace Go.Proofs.YtkoaogkknnelaaaGreatDoor
namespace Big
open Lib (hid)
open Go.RowKit
theorem C2(w:World)(o:Obj)(cs:Array Value)(t:TypeId)(j:Nat):((w.alloc o).alloc (.cells cs t)).cell? ⟨w.heap.size+1,j,none⟩=cs[j]? :=by
 have h:=(Blk.new (w.alloc o) t cs).cell j;have hs:(w.alloc o).heap.size=w.heap.size+1:=by simp
 rw[hs]at h;exact h
theorem Dp(w:World)(k a b n:Int)(s:ByteArray)(hk:k=1\/k=2\/k=3\/k=4):
  Calls Tryz.prog 107 #[.agg #[.int .i64 k,.int .i64 a,.int .i64 b,.int .i64 n,.string s]] w fun e w'=>e= .returned (.tuple #[.slice none 0 0,.bool true])/\Ext w w':=by
 rcases hk with rfl|rfl|rfl|rfl
 all_goals
  go_enter Tryz.func107,Tryz.ntmps107;go_wp2_with fail;go_ret2;exact⟨rfl,(Ext.refl w).alloc _⟩
theorem Fj(w:World)(k a b n:Int)(s:ByteArray)(hk:k=5\/k=10\/k=11\/k=12\/k=13\/k=14\/k=15\/k=16):
  Calls Tryz.prog 107 #[.agg #[.int .i64 k,.int .i64 a,.int .i64 b,.int .i64 n,.string s]] w fun e w'=>∃b,e= .returned (.tuple #[.slice (some ⟨b,0,none⟩) 1 1,.bool true])/\w'.cell? ⟨b,0,none⟩=some (.int .i64 a)/\w.heap.size<=b/\b<w'.heap.size/\Ext w w':=by
 rcases hk with rfl|rfl|rfl|rfl|rfl|rfl|rfl|rfl
 all_goals
  go_enter Tryz.func107,Tryz.ntmps107;go_wp2_with fail;go_ret2;exact⟨_,rfl,C2 _ _ _ _ 0,by simp,by simp,((Ext.refl w).alloc _).alloc _⟩
theorem Gz(w:World)(k a b n:Int)(s:ByteArray)(hk:k=6\/k=7\/k=8\/k=9):
  Calls Tryz.prog 107 #[.agg #[.int .i64 k,.int .i64 a,.int .i64 b,.int .i64 n,.string s]] w fun e w'=>∃c,e= .returned (.tuple #[.slice (some ⟨c,0,none⟩) 2 2,.bool true])/\w'.cell? ⟨c,0,none⟩=some (.int .i64 a)/\w'.cell? ⟨c,1,none⟩=some (.int .i64 b)/\w.heap.size<=c/\c<w'.heap.size/\Ext w w':=by
 rcases hk with rfl|rfl|rfl|rfl
 all_goals
  go_enter Tryz.func107,Tryz.ntmps107;go_wp2_with fail;go_ret2;exact⟨_,rfl,C2 _ _ _ _ 0,C2 _ _ _ _ 1,by simp,by simp,((Ext.refl w).alloc _).alloc _⟩
def F7(n:Nat)(x:Int):Bool:=decide (x<0) || decide ((n:Int)<=x)
theorem Qh(c g n m:Nat)(A:Option Addr)(W:World)(x:Int)(h0:W.cell? ⟨c,0,none⟩=some (.pointer (some ⟨g,0,none⟩)))(h1:W.cell? ⟨g,0,none⟩=some (.slice A n m))(hg:g<W.heap.size):
  FnGives Tryz.prog 200 #[.pointer (some ⟨c,0,none⟩)] #[.int .i64 x] (.bool (F7 n x)) W:=by
 unfold FnGives;show Calls Tryz.prog 200 #[.int .i64 x,.pointer (some ⟨c,0,none⟩)] W _;by_cases hx:x<0
 ·have hd:decide (x<0)=true:=decide_eq_true hx;have ho:F7 n x=true:=by unfold F7;rw[hd];rfl
  rw[ho];clear ho hx;go_enter Tryz.func200,Tryz.ntmps200;go_wp2_with fail;go_ret;exact⟨rfl,0,rfl⟩
 ·have hd:decide (x<0)=false:=decide_eq_false hx;by_cases hy:(n:Int)<=x
  ·have eN:decide ((n:Int)<=x)=true:=decide_eq_true hy;have ho:F7 n x=true:=by unfold F7;rw[hd,eN];rfl
   rw[ho];clear ho;go_enter Tryz.func200,Tryz.ntmps200;go_wp2_with fail;go_ret;exact⟨rfl,0,rfl⟩
  ·have eN:decide ((n:Int)<=x)=false:=decide_eq_false hy;have ho:F7 n x=false:=by unfold F7;rw[hd,eN];rfl
   rw[ho];clear ho;go_enter Tryz.func200,Tryz.ntmps200;go_wp2_with fail;go_ret;exact⟨rfl,0,rfl⟩
theorem EW (c g n m b k:Nat) (A:Option Addr) (zs:List Int) (W:World) (h0:W.cell? ⟨c,0,none⟩=some (.pointer (some ⟨g,0,none⟩))) (h1:W.cell? ⟨g,0,none⟩=some (.slice A n m))
  (hz:∀j (hj:j<zs.length),W.cell? ⟨b,j,none⟩=some (.int .i64 zs[j])) (hl:zs.length<=100):
  Calls Tryz.prog 199 #[.slice (some ⟨b,0,none⟩) zs.length k,.func (.func 200) #[] #[.pointer (some ⟨c,0,none⟩)]] W fun e w'=>e= .returned (.bool (zs.any (F7 n)))/\∃q,w'=W.drewN q:=by
 have hc:=World.block_lt_of_cell? W _ h0;have hg:=World.block_lt_of_cell? W _ h1;have h:=Tryz.slices_ContainsFunc (fun x:Int=> .int .i64 x) (F7 n) 200 #[.pointer (some ⟨c,0,none⟩)] (enters_of Tryz.func200 (by kernel_rfl) rfl) b 0 zs.length k zs W (fun W' x hb=>Qh c g n m A W' x ((hb.cell hc).trans h0) ((hb.cell hg).trans h1) (Nat.lt_of_lt_of_le hg hb.size)) (Nat.le_refl _) (by omega) (fun j hj=>by
  rw[Nat.zero_add,hz j hj,getElem!_pos zs j hj])
 rw[List.take_length]at h;exact h
theorem N1(B g b:Nat)(w:World)(ns:List Nd)(nv:Value)(h:GrP B g b w ns nv)(t:List UInt8)(ht:Bm t=0)(hm:Ce w):
  Calls Tryz.prog 159 #[.pointer (some ⟨g,0,none⟩),.agg #[.int .i64 1,.int .i64 0,.int .i64 0,.int .i64 0,str t]] w fun e w'=>e= .returned (.bool true)/\Ext w w':=by
 obtain⟨A,c,rfl⟩:=h.row.shape;have HG:=hid h.blk;clear h;have gB:=hid (fun W h=>F6 W t h);have HM:=hid hm;have HT:=hid ht;clear hm ht;obtain⟨s,hs⟩:∃s:ByteArray,s=⟨t.toArray⟩:=⟨_,rfl⟩;have hst:str t= .string s:=by rw[hs];rfl
 rw[hst]at gB ⊢;clear hs hst;have ai:=hid (Blk.new w 50 #[.pointer (some ⟨g,0,none⟩)]);have ar:=hid ((Ext.refl w).alloc (.cells #[.pointer (some ⟨g,0,none⟩)] 50));obtain⟨w1,aZ⟩:∃w1,w1=w.alloc (.cells #[.pointer (some ⟨g,0,none⟩)] 50):=⟨_,rfl⟩;have hs1:w1.heap.size=w.heap.size+1:=by rw[aZ];simp
 rw[<-aZ]at ai ar;have a6:=hid (Blk.new w1 95 #[.int .i64 1,.int .i64 0,.int .i64 0,.int .i64 0,.string s]);have aI:=hid ((Ext.refl w1).alloc (.cells #[.int .i64 1,.int .i64 0,.int .i64 0,.int .i64 0,.string s] 95));obtain⟨w2,cx⟩:∃w2,w2=w1.alloc (.cells #[.int .i64 1,.int .i64 0,.int .i64 0,.int .i64 0,.string s] 95):=⟨_,rfl⟩;have iI:w2.heap.size=w.heap.size+2:=by rw[cx];simp[hs1]
 rw[<-cx,hs1]at a6;rw[<-cx]at aI;have HX:=hid (ar.out.trans aI.out);have q0:=a6.out.five;go_enter Tryz.func159,Tryz.ntmps159;go_upto_region 1 with fail;rw[<-aZ,<-cx];clear aZ cx;go_wp2_with fail;refine(Dp w2 1 0 0 0 s (by decide)).mono ?_
 rintro e w3 ⟨rfl,ab⟩;have aC:=hid ab;have a8:=hid (a6.out.ext ab);clear ab q0;have q0:=a8.out.five;go_wp2_with fail;refine(Tryz.slices_ContainsFunc_empty (α:=Int) none 0 _ w3).mono ?_
 rintro e w4 ⟨rfl,rfl⟩;have ia:w.heap.size+1<w4.heap.size:=by
  have h1:=aC.out.size;omega
 have lj:Hid (w.heap.size+1≠w4.heap.size):=hid (by omega);have ge:Hid (w.heap.size<=w4.heap.size):=hid (by omega);have hx5:=(Ext.refl w4).alloc (.cells #[.int .i64 1,.int .i64 0,.int .i64 0,.int .i64 0,.string ⟨#[]⟩] 95);have iG:=hid (a8.out.ext hx5);have gc:=hid (Blk.new w4 95 #[.int .i64 1,.int .i64 0,.int .i64 0,.int .i64 0,.string ⟨#[]⟩]);have dr:=hid ((HX.out.trans aC.out).trans hx5);clear hx5 ia;obtain⟨y0,y1,y2,y3,y4⟩:=iG.out.five;obtain⟨p0,p1,p2,p3,p4⟩:=gc.out.five;obtain⟨w5,eE⟩:∃w5,w5=w4.alloc (.cells #[.int .i64 1,.int .i64 0,.int .i64 0,.int .i64 0,.string ⟨#[]⟩] 95):=⟨_,rfl⟩;rw[<-eE]at iG gc dr y0 y1 y2 y3 y4 p0 p1 p2 p3 p4;go_upto_region 5 with fail;rw[<-eE];clear eE q0;go_wp2_with fail;refine(gB.out _ (HM.out.ext dr.out)).mono ?_
 rintro e w6 ⟨v6,rfl,iA,cZ⟩;obtain⟨b6,n6,A6,c6,m6,D6,d6,rfl⟩:=iA.shape;clear iA y0 y1 y2 y3 y4 p0 p1 p2 p3 p4;rw[HT.out];have bx:=cZ.alloc (.cells #[.bool b6,.slice A6 n6 c6,.slice D6 m6 d6] 26);have mS:=hid (iG.out.ext bx);have lh:=hid (gc.out.ext bx);have dB:=hid (dr.out.trans bx);have q0:=mS.out.five;have r0:=lh.out.five;clear cZ bx;have wk:=hid (lh.out.set_ 4 (.string s));have ws:=hid (mS.out.far (p:=⟨w4.heap.size,4,none⟩) lj.out (.string s));have dZ:=hid (dB.out.setCell (p:=⟨w4.heap.size,4,none⟩) ge.out (.string s));have f6:=lh.out.frozen 4;obtain⟨y0,y1,y2,y3,y4⟩:=ws.out.five;obtain⟨p0,p1,p2,p3,p4⟩:=Blk.five wk.out;go_wp2_with fail;go_ret;exact⟨rfl,dZ.out⟩
theorem Qg(B g b:Nat)(w:World)(ns:List Nd)(nv:Value)(h:GrP B g b w ns nv)(t:List UInt8)(hn:Ej t=true):
  Calls Tryz.prog 159 #[.pointer (some ⟨g,0,none⟩),.agg #[.int .i64 2,.int .i64 0,.int .i64 0,.int .i64 0,str t]] w fun e w'=>e= .returned (.bool true)/\Ext w w':=by
 obtain⟨A,c,rfl⟩:=h.row.shape;have HG:=hid h.blk;clear h;have hw:=(Bool.and_eq_true_iff.1 hn).1;have hl:=Gj hw;have hr:Bk t=false:=by
  have rC:Ej t=(C0 t && !Bk t):=by rw[Ct];rfl
  rw[rC,Bool.and_eq_true_iff,Bool.not_eq_true']at hn;exact hn.2
 have HW:=hid (fun W=>LI W t (by omega));have eg:=hid (fun W=>Gr W t);rw[hw]at HW;rw[hr]at eg;clear hw hl hr hn;obtain⟨s,hs⟩:∃s:ByteArray,s=⟨t.toArray⟩:=⟨_,rfl⟩;have hst:str t= .string s:=by rw[hs];rfl
 rw[hst]at HW eg ⊢;clear hs hst;have ai:=hid (Blk.new w 50 #[.pointer (some ⟨g,0,none⟩)]);have ar:=hid ((Ext.refl w).alloc (.cells #[.pointer (some ⟨g,0,none⟩)] 50));obtain⟨w1,aZ⟩:∃w1,w1=w.alloc (.cells #[.pointer (some ⟨g,0,none⟩)] 50):=⟨_,rfl⟩;have hs1:w1.heap.size=w.heap.size+1:=by rw[aZ];simp
 rw[<-aZ]at ai ar;have a6:=hid (Blk.new w1 95 #[.int .i64 2,.int .i64 0,.int .i64 0,.int .i64 0,.string s]);have aI:=hid ((Ext.refl w1).alloc (.cells #[.int .i64 2,.int .i64 0,.int .i64 0,.int .i64 0,.string s] 95));obtain⟨w2,cx⟩:∃w2,w2=w1.alloc (.cells #[.int .i64 2,.int .i64 0,.int .i64 0,.int .i64 0,.string s] 95):=⟨_,rfl⟩;have iI:w2.heap.size=w.heap.size+2:=by rw[cx];simp[hs1]
 rw[<-cx,hs1]at a6;rw[<-cx]at aI;have HX:=hid (ar.out.trans aI.out);have q0:=a6.out.five;go_enter Tryz.func159,Tryz.ntmps159;go_upto_region 1 with fail;rw[<-aZ,<-cx];clear aZ cx;go_wp2_with fail;refine(Dp w2 2 0 0 0 s (by decide)).mono ?_
 rintro e w3 ⟨rfl,ab⟩;have aC:=hid ab;have a8:=hid (a6.out.ext ab);clear ab q0;have q0:=a8.out.five;go_wp2_with fail;refine(Tryz.slices_ContainsFunc_empty (α:=Int) none 0 _ w3).mono ?_
 rintro e w4 ⟨rfl,rfl⟩;have ia:w.heap.size+1<w4.heap.size:=by
  have h1:=aC.out.size;omega
 have lj:Hid (w.heap.size+1≠w4.heap.size):=hid (by omega);have ge:Hid (w.heap.size<=w4.heap.size):=hid (by omega);have hx5:=(Ext.refl w4).alloc (.cells #[.int .i64 2,.int .i64 0,.int .i64 0,.int .i64 0,.string ⟨#[]⟩] 95);have iG:=hid (a8.out.ext hx5);have gc:=hid (Blk.new w4 95 #[.int .i64 2,.int .i64 0,.int .i64 0,.int .i64 0,.string ⟨#[]⟩]);have dr:=hid ((HX.out.trans aC.out).trans hx5);clear hx5 ia;obtain⟨y0,y1,y2,y3,y4⟩:=iG.out.five;obtain⟨p0,p1,p2,p3,p4⟩:=gc.out.five;obtain⟨w5,eE⟩:∃w5,w5=w4.alloc (.cells #[.int .i64 2,.int .i64 0,.int .i64 0,.int .i64 0,.string ⟨#[]⟩] 95):=⟨_,rfl⟩;rw[<-eE]at iG gc dr y0 y1 y2 y3 y4 p0 p1 p2 p3 p4;go_upto_region 5 with fail;rw[<-eE];clear eE q0;go_upto_region 14 with fail;have lh:=hid (gc.out.set_ 4 (.string s));have mS:=hid (iG.out.far (p:=⟨w4.heap.size,4,none⟩) lj.out (.string s));have dB:=hid (dr.out.setCell (p:=⟨w4.heap.size,4,none⟩) ge.out (.string s));have f5:=gc.out.frozen 4;obtain⟨y0,y1,y2,y3,y4⟩:=mS.out.five;obtain⟨p0,p1,p2,p3,p4⟩:=Blk.five lh.out
 go_region_with (first|(refine(HW.out _).mono ?_;rintro e wz ⟨rfl,rfl⟩)|(refine(eg.out _).mono ?_;rintro e wz ⟨rfl,rfl⟩))
 all_goals go_wp2_with fail
 all_goals go_ret
 all_goals exact⟨rfl,dB.out.drew⟩
theorem KJ(B g b:Nat)(w:World)(ns:List Nd)(nv:Value)(h:GrP B g b w ns nv)(K:Int)(hK:K=3\/K=4):
  Calls Tryz.prog 159 #[.pointer (some ⟨g,0,none⟩),.agg #[.int .i64 K,.int .i64 0,.int .i64 0,.int .i64 0,.string ⟨#[]⟩]] w fun e w'=>e= .returned (.bool true)/\Ext w w':=by
 obtain⟨A,c,rfl⟩:=h.row.shape;have HG:=hid h.blk;clear h;have ww:Hid (K=1\/K=2\/K=3\/K=4):=hid (by omega);have e1:(K == 1)=false:=beq_eq_false_iff_ne.2 (by omega);have e2:(K == 2)=false:=beq_eq_false_iff_ne.2 (by omega);have sB:(K == 10)=false:=beq_eq_false_iff_ne.2 (by omega);clear hK;have ai:=hid (Blk.new w 50 #[.pointer (some ⟨g,0,none⟩)]);have ar:=hid ((Ext.refl w).alloc (.cells #[.pointer (some ⟨g,0,none⟩)] 50));obtain⟨w1,aZ⟩:∃w1,w1=w.alloc (.cells #[.pointer (some ⟨g,0,none⟩)] 50):=⟨_,rfl⟩;have hs1:w1.heap.size=w.heap.size+1:=by rw[aZ];simp
 rw[<-aZ]at ai ar;have a6:=hid (Blk.new w1 95 #[.int .i64 K,.int .i64 0,.int .i64 0,.int .i64 0,.string ⟨#[]⟩]);have aI:=hid ((Ext.refl w1).alloc (.cells #[.int .i64 K,.int .i64 0,.int .i64 0,.int .i64 0,.string ⟨#[]⟩] 95));obtain⟨w2,cx⟩:∃w2,w2=w1.alloc (.cells #[.int .i64 K,.int .i64 0,.int .i64 0,.int .i64 0,.string ⟨#[]⟩] 95):=⟨_,rfl⟩;have iI:w2.heap.size=w.heap.size+2:=by rw[cx];simp[hs1]
 rw[<-cx,hs1]at a6;rw[<-cx]at aI;have HX:=hid (ar.out.trans aI.out);have q0:=a6.out.five;go_enter Tryz.func159,Tryz.ntmps159;go_upto_region 1 with fail;rw[<-aZ,<-cx];clear aZ cx;go_wp2_with fail;refine(Dp w2 K 0 0 0 ⟨#[]⟩ ww.out).mono ?_
 rintro e w3 ⟨rfl,ab⟩;have aC:=hid ab;have a8:=hid (a6.out.ext ab);clear ab q0;have q0:=a8.out.five;go_wp2_with fail;refine(Tryz.slices_ContainsFunc_empty (α:=Int) none 0 _ w3).mono ?_
 rintro e w4 ⟨rfl,rfl⟩;have ia:w.heap.size+1<w4.heap.size:=by
  have h1:=aC.out.size;omega
 have lj:Hid (w.heap.size+1≠w4.heap.size):=hid (by omega);have ge:Hid (w.heap.size<=w4.heap.size):=hid (by omega);have hx5:=(Ext.refl w4).alloc (.cells #[.int .i64 K,.int .i64 0,.int .i64 0,.int .i64 0,.string ⟨#[]⟩] 95);have iG:=hid (a8.out.ext hx5);have gc:=hid (Blk.new w4 95 #[.int .i64 K,.int .i64 0,.int .i64 0,.int .i64 0,.string ⟨#[]⟩]);have dr:=hid ((HX.out.trans aC.out).trans hx5);clear hx5 ia;obtain⟨y0,y1,y2,y3,y4⟩:=iG.out.five;obtain⟨p0,p1,p2,p3,p4⟩:=gc.out.five;obtain⟨w5,eE⟩:∃w5,w5=w4.alloc (.cells #[.int .i64 K,.int .i64 0,.int .i64 0,.int .i64 0,.string ⟨#[]⟩] 95):=⟨_,rfl⟩;rw[<-eE]at iG gc dr y0 y1 y2 y3 y4 p0 p1 p2 p3 p4;go_upto_region 5 with fail;rw[<-eE];clear eE q0;go_wp2_with fail;go_ret;exact⟨rfl,dr.out⟩
theorem EU(B g b:Nat)(w:World)(ns:List Nd)(nv:Value)(h:GrP B g b w ns nv)(K:Int)(hK:K=5\/K=11\/K=12\/K=13\/K=14\/K=15\/K=16)(a:Int)(h0:0<=a)(h1:a<ns.length):
  Calls Tryz.prog 159 #[.pointer (some ⟨g,0,none⟩),.agg #[.int .i64 K,.int .i64 a,.int .i64 0,.int .i64 0,.string ⟨#[]⟩]] w fun e w'=>e= .returned (.bool true)/\Ext w w':=by
 obtain⟨A,c,rfl⟩:=h.row.shape;have HG:=hid h.blk;clear h;have ww:Hid (K=5\/K=10\/K=11\/K=12\/K=13\/K=14\/K=15\/K=16):=hid (by omega);have e1:(K == 1)=false:=beq_eq_false_iff_ne.2 (by omega);have e2:(K == 2)=false:=beq_eq_false_iff_ne.2 (by omega);have sB:(K == 10)=false:=beq_eq_false_iff_ne.2 (by omega);clear hK;have ai:=hid (Blk.new w 50 #[.pointer (some ⟨g,0,none⟩)]);have ar:=hid ((Ext.refl w).alloc (.cells #[.pointer (some ⟨g,0,none⟩)] 50));obtain⟨w1,aZ⟩:∃w1,w1=w.alloc (.cells #[.pointer (some ⟨g,0,none⟩)] 50):=⟨_,rfl⟩;have hs1:w1.heap.size=w.heap.size+1:=by rw[aZ];simp
 rw[<-aZ]at ai ar;have a6:=hid (Blk.new w1 95 #[.int .i64 K,.int .i64 a,.int .i64 0,.int .i64 0,.string ⟨#[]⟩]);have aI:=hid ((Ext.refl w1).alloc (.cells #[.int .i64 K,.int .i64 a,.int .i64 0,.int .i64 0,.string ⟨#[]⟩] 95));obtain⟨w2,cx⟩:∃w2,w2=w1.alloc (.cells #[.int .i64 K,.int .i64 a,.int .i64 0,.int .i64 0,.string ⟨#[]⟩] 95):=⟨_,rfl⟩;have iI:w2.heap.size=w.heap.size+2:=by rw[cx];simp[hs1]
 rw[<-cx,hs1]at a6;rw[<-cx]at aI;have HX:=hid (ar.out.trans aI.out);have q0:=a6.out.five;go_enter Tryz.func159,Tryz.ntmps159;go_upto_region 1 with fail;rw[<-aZ,<-cx];clear aZ cx;go_wp2_with fail;refine(Fj w2 K a 0 0 ⟨#[]⟩ ww.out).mono ?_
 rintro e w3 ⟨x3,rfl,hc0,_,Xp,ab⟩;have aC:=hid ab;have a8:=hid (a6.out.ext ab);have wP:=hid (EW w.heap.size g ns.length c x3 1 A [a] w3 ((ab.trans (Ext.refl _)).keep ((ai.out.ext aI.out).cell 0)) (((HX.out.trans ab).cell HG.out.lt).trans (HG.out.cell 0)) (fun j hj=>by
  match j,hj with
  |0,_=>exact hc0) (by simp))
 clear ab q0 hc0;have q0:=a8.out.five;go_wp2_with fail;refine wP.out.mono ?_
 rintro e WT ⟨rfl,y4,rfl⟩;have kf:[a].any (F7 ns.length)=false:=by
  simp only[List.any_cons,List.any_nil,Bool.or_false,F7,Bool.or_eq_false_iff,decide_eq_false_iff_not];omega
 rw[kf];clear kf;have gJ:=hid (a8.out.drewN y4);have bw:=hid (aC.out.drewN y4);clear aC a8 q0;generalize hw4:w3.drewN y4=w4 at *;clear hw4;have aC:=bw;have a8:=gJ;have q0:=a8.out.five;have ia:w.heap.size+1<w4.heap.size:=by
  have h1:=aC.out.size;omega
 have lj:Hid (w.heap.size+1≠w4.heap.size):=hid (by omega);have ge:Hid (w.heap.size<=w4.heap.size):=hid (by omega);have hx5:=(Ext.refl w4).alloc (.cells #[.int .i64 K,.int .i64 0,.int .i64 0,.int .i64 0,.string ⟨#[]⟩] 95);have iG:=hid (a8.out.ext hx5);have gc:=hid (Blk.new w4 95 #[.int .i64 K,.int .i64 0,.int .i64 0,.int .i64 0,.string ⟨#[]⟩]);have dr:=hid ((HX.out.trans aC.out).trans hx5);clear hx5 ia;obtain⟨y0,y1,y2,y3,y4⟩:=iG.out.five;obtain⟨p0,p1,p2,p3,p4⟩:=gc.out.five;obtain⟨w5,eE⟩:∃w5,w5=w4.alloc (.cells #[.int .i64 K,.int .i64 0,.int .i64 0,.int .i64 0,.string ⟨#[]⟩] 95):=⟨_,rfl⟩;rw[<-eE]at iG gc dr y0 y1 y2 y3 y4 p0 p1 p2 p3 p4;go_upto_region 5 with fail;rw[<-eE];clear eE q0;have lh:=hid (gc.out.set_ 1 (.int .i64 a));have mS:=hid (iG.out.far (p:=⟨w4.heap.size,1,none⟩) lj.out (.int .i64 a));have dB:=hid (dr.out.setCell (p:=⟨w4.heap.size,1,none⟩) ge.out (.int .i64 a));have f5:=gc.out.frozen 1;obtain⟨y0,y1,y2,y3,y4⟩:=mS.out.five;obtain⟨p0,p1,p2,p3,p4⟩:=Blk.five lh.out;go_wp2_with fail;go_ret;exact⟨rfl,dB.out⟩
theorem Sj(B g b:Nat)(w:World)(ns:List Nd)(nv:Value)(h:GrP B g b w ns nv)(a n:Int)(h0:0<=a)(h1:a<ns.length)(hn: -64<=n)(hn2:n<=64):
  Calls Tryz.prog 159 #[.pointer (some ⟨g,0,none⟩),.agg #[.int .i64 10,.int .i64 a,.int .i64 0,.int .i64 n,.string ⟨#[]⟩]] w fun e w'=>e= .returned (.bool true)/\Ext w w':=by
 obtain⟨A,c,rfl⟩:=h.row.shape;have HG:=hid h.blk;clear h;have ai:=hid (Blk.new w 50 #[.pointer (some ⟨g,0,none⟩)]);have ar:=hid ((Ext.refl w).alloc (.cells #[.pointer (some ⟨g,0,none⟩)] 50));obtain⟨w1,aZ⟩:∃w1,w1=w.alloc (.cells #[.pointer (some ⟨g,0,none⟩)] 50):=⟨_,rfl⟩;have hs1:w1.heap.size=w.heap.size+1:=by rw[aZ];simp
 rw[<-aZ]at ai ar;have a6:=hid (Blk.new w1 95 #[.int .i64 10,.int .i64 a,.int .i64 0,.int .i64 n,.string ⟨#[]⟩]);have aI:=hid ((Ext.refl w1).alloc (.cells #[.int .i64 10,.int .i64 a,.int .i64 0,.int .i64 n,.string ⟨#[]⟩] 95));obtain⟨w2,cx⟩:∃w2,w2=w1.alloc (.cells #[.int .i64 10,.int .i64 a,.int .i64 0,.int .i64 n,.string ⟨#[]⟩] 95):=⟨_,rfl⟩;have iI:w2.heap.size=w.heap.size+2:=by rw[cx];simp[hs1]
 rw[<-cx,hs1]at a6;rw[<-cx]at aI;have HX:=hid (ar.out.trans aI.out);have q0:=a6.out.five;go_enter Tryz.func159,Tryz.ntmps159;go_upto_region 1 with fail;rw[<-aZ,<-cx];clear aZ cx;go_wp2_with fail;refine(Fj w2 10 a 0 n ⟨#[]⟩ (by decide)).mono ?_
 rintro e w3 ⟨x3,rfl,hc0,_,Xp,ab⟩;have aC:=hid ab;have a8:=hid (a6.out.ext ab);have wP:=hid (EW w.heap.size g ns.length c x3 1 A [a] w3 ((ab.trans (Ext.refl _)).keep ((ai.out.ext aI.out).cell 0)) (((HX.out.trans ab).cell HG.out.lt).trans (HG.out.cell 0)) (fun j hj=>by
  match j,hj with
  |0,_=>exact hc0) (by simp))
 clear ab q0 hc0;have q0:=a8.out.five;go_wp2_with fail;refine wP.out.mono ?_
 rintro e WT ⟨rfl,y4,rfl⟩;have kf:[a].any (F7 ns.length)=false:=by
  simp only[List.any_cons,List.any_nil,Bool.or_false,F7,Bool.or_eq_false_iff,decide_eq_false_iff_not];omega
 rw[kf];clear kf;have gJ:=hid (a8.out.drewN y4);have bw:=hid (aC.out.drewN y4);clear aC a8 q0;generalize hw4:w3.drewN y4=w4 at *;clear hw4;have aC:=bw;have a8:=gJ;have q0:=a8.out.five;have ia:w.heap.size+1<w4.heap.size:=by
  have h1:=aC.out.size;omega
 have lj:Hid (w.heap.size+1≠w4.heap.size):=hid (by omega);have ge:Hid (w.heap.size<=w4.heap.size):=hid (by omega);have hx5:=(Ext.refl w4).alloc (.cells #[.int .i64 10,.int .i64 0,.int .i64 0,.int .i64 0,.string ⟨#[]⟩] 95);have iG:=hid (a8.out.ext hx5);have gc:=hid (Blk.new w4 95 #[.int .i64 10,.int .i64 0,.int .i64 0,.int .i64 0,.string ⟨#[]⟩]);have dr:=hid ((HX.out.trans aC.out).trans hx5);clear hx5 ia;obtain⟨y0,y1,y2,y3,y4⟩:=iG.out.five;obtain⟨p0,p1,p2,p3,p4⟩:=gc.out.five;obtain⟨w5,eE⟩:∃w5,w5=w4.alloc (.cells #[.int .i64 10,.int .i64 0,.int .i64 0,.int .i64 0,.string ⟨#[]⟩] 95):=⟨_,rfl⟩;rw[<-eE]at iG gc dr y0 y1 y2 y3 y4 p0 p1 p2 p3 p4;go_upto_region 5 with fail;rw[<-eE];clear eE q0;have lh:=hid (gc.out.set_ 1 (.int .i64 a));have mS:=hid (iG.out.far (p:=⟨w4.heap.size,1,none⟩) lj.out (.int .i64 a));have dB:=hid (dr.out.setCell (p:=⟨w4.heap.size,1,none⟩) ge.out (.int .i64 a));have f5:=gc.out.frozen 1;obtain⟨y0,y1,y2,y3,y4⟩:=mS.out.five;obtain⟨p0,p1,p2,p3,p4⟩:=Blk.five lh.out;go_upto_region 16 with fail;have wk:=hid (lh.out.set_ 3 (.int .i64 n));have ws:=hid (mS.out.far (p:=⟨w4.heap.size,3,none⟩) lj.out (.int .i64 n));have dZ:=hid (dB.out.setCell (p:=⟨w4.heap.size,3,none⟩) ge.out (.int .i64 n));have f6:=lh.out.frozen 3;obtain⟨y0,y1,y2,y3,y4⟩:=ws.out.five;obtain⟨p0,p1,p2,p3,p4⟩:=Blk.five wk.out;go_region
 all_goals go_wp2_with fail
 all_goals go_ret
 all_goals exact⟨rfl,dZ.out.drew⟩
theorem GM(B g b:Nat)(w:World)(ns:List Nd)(nv:Value)(h:GrP B g b w ns nv)(K:Int)(hK:K=6\/K=7\/K=8\/K=9)(a b':Int)(h0:0<=a)(h1:a<ns.length)(h2:0<=b')(h3:b'<ns.length):
  Calls Tryz.prog 159 #[.pointer (some ⟨g,0,none⟩),.agg #[.int .i64 K,.int .i64 a,.int .i64 b',.int .i64 0,.string ⟨#[]⟩]] w fun e w'=>e= .returned (.bool true)/\Ext w w':=by
 obtain⟨A,c,rfl⟩:=h.row.shape;have HG:=hid h.blk;clear h;have ww:Hid (K=6\/K=7\/K=8\/K=9):=hid (by omega);have e1:(K == 1)=false:=beq_eq_false_iff_ne.2 (by omega);have e2:(K == 2)=false:=beq_eq_false_iff_ne.2 (by omega);have sB:(K == 10)=false:=beq_eq_false_iff_ne.2 (by omega);clear hK;have ai:=hid (Blk.new w 50 #[.pointer (some ⟨g,0,none⟩)]);have ar:=hid ((Ext.refl w).alloc (.cells #[.pointer (some ⟨g,0,none⟩)] 50));obtain⟨w1,aZ⟩:∃w1,w1=w.alloc (.cells #[.pointer (some ⟨g,0,none⟩)] 50):=⟨_,rfl⟩;have hs1:w1.heap.size=w.heap.size+1:=by rw[aZ];simp
 rw[<-aZ]at ai ar;have a6:=hid (Blk.new w1 95 #[.int .i64 K,.int .i64 a,.int .i64 b',.int .i64 0,.string ⟨#[]⟩]);have aI:=hid ((Ext.refl w1).alloc (.cells #[.int .i64 K,.int .i64 a,.int .i64 b',.int .i64 0,.string ⟨#[]⟩] 95));obtain⟨w2,cx⟩:∃w2,w2=w1.alloc (.cells #[.int .i64 K,.int .i64 a,.int .i64 b',.int .i64 0,.string ⟨#[]⟩] 95):=⟨_,rfl⟩;have iI:w2.heap.size=w.heap.size+2:=by rw[cx];simp[hs1]
 rw[<-cx,hs1]at a6;rw[<-cx]at aI;have HX:=hid (ar.out.trans aI.out);have q0:=a6.out.five;go_enter Tryz.func159,Tryz.ntmps159;go_upto_region 1 with fail;rw[<-aZ,<-cx];clear aZ cx;go_wp2_with fail;refine(Gz w2 K a b' 0 ⟨#[]⟩ ww.out).mono ?_
 rintro e w3 ⟨x3,rfl,hc0,hc1,_,Xp,ab⟩;have aC:=hid ab;have a8:=hid (a6.out.ext ab);have wP:=hid (EW w.heap.size g ns.length c x3 2 A [a,b'] w3 ((ab.trans (Ext.refl _)).keep ((ai.out.ext aI.out).cell 0)) (((HX.out.trans ab).cell HG.out.lt).trans (HG.out.cell 0)) (fun j hj=>by
  match j,hj with
  |0,_=>exact hc0
  |1,_=>exact hc1) (by simp))
 clear ab q0 hc0 hc1;have q0:=a8.out.five;go_wp2_with fail;refine wP.out.mono ?_
 rintro e WT ⟨rfl,y4,rfl⟩;have kf:[a,b'].any (F7 ns.length)=false:=by
  simp only[List.any_cons,List.any_nil,Bool.or_false,F7,Bool.or_eq_false_iff,decide_eq_false_iff_not];omega
 rw[kf];clear kf;have gJ:=hid (a8.out.drewN y4);have bw:=hid (aC.out.drewN y4);clear aC a8 q0;generalize hw4:w3.drewN y4=w4 at *;clear hw4;have aC:=bw;have a8:=gJ;have q0:=a8.out.five;have ia:w.heap.size+1<w4.heap.size:=by
  have h1:=aC.out.size;omega
 have lj:Hid (w.heap.size+1≠w4.heap.size):=hid (by omega);have ge:Hid (w.heap.size<=w4.heap.size):=hid (by omega);have hx5:=(Ext.refl w4).alloc (.cells #[.int .i64 K,.int .i64 0,.int .i64 0,.int .i64 0,.string ⟨#[]⟩] 95);have iG:=hid (a8.out.ext hx5);have gc:=hid (Blk.new w4 95 #[.int .i64 K,.int .i64 0,.int .i64 0,.int .i64 0,.string ⟨#[]⟩]);have dr:=hid ((HX.out.trans aC.out).trans hx5);clear hx5 ia;obtain⟨y0,y1,y2,y3,y4⟩:=iG.out.five;obtain⟨p0,p1,p2,p3,p4⟩:=gc.out.five;obtain⟨w5,eE⟩:∃w5,w5=w4.alloc (.cells #[.int .i64 K,.int .i64 0,.int .i64 0,.int .i64 0,.string ⟨#[]⟩] 95):=⟨_,rfl⟩;rw[<-eE]at iG gc dr y0 y1 y2 y3 y4 p0 p1 p2 p3 p4;go_upto_region 5 with fail;rw[<-eE];clear eE q0;have lh:=hid (gc.out.set_ 1 (.int .i64 a));have mS:=hid (iG.out.far (p:=⟨w4.heap.size,1,none⟩) lj.out (.int .i64 a));have dB:=hid (dr.out.setCell (p:=⟨w4.heap.size,1,none⟩) ge.out (.int .i64 a));have f5:=gc.out.frozen 1;obtain⟨y0,y1,y2,y3,y4⟩:=mS.out.five;obtain⟨p0,p1,p2,p3,p4⟩:=Blk.five lh.out;have wk:=hid (lh.out.set_ 2 (.int .i64 b'));have ws:=hid (mS.out.far (p:=⟨w4.heap.size,2,none⟩) lj.out (.int .i64 b'));have dZ:=hid (dB.out.setCell (p:=⟨w4.heap.size,2,none⟩) ge.out (.int .i64 b'));have f6:=lh.out.frozen 2;obtain⟨y0,y1,y2,y3,y4⟩:=ws.out.five;obtain⟨p0,p1,p2,p3,p4⟩:=Blk.five wk.out;go_wp2_with fail;go_ret;exact⟨rfl,dZ.out⟩
open Go.RowKit Go.ChangeMaps
theorem KF(B g b:Nat)(w:World)(ns:List Nd)(nv:Value)(h:GrP B g b w ns nv)(x:Nd)(hx:Cw ns.length x)(hm:Ce w):
  Calls Tryz.prog 159 #[.pointer (some ⟨g,0,none⟩),ndV x] w fun e w'=>e= .returned (.bool true)/\Ext w w':=by
 have hE:(.string ⟨#[]⟩:Value)=str []:=rfl;rcases hx with ⟨k,t,rfl,⟨rfl,h1,_⟩|⟨rfl,h1⟩|⟨rfl|rfl,rfl⟩⟩|⟨k,n,j,rfl,⟨h1,h2,h3,h4⟩,hj⟩|⟨k,j,q,rfl,hk,hj,hq⟩
 ·exact N1 B g b w ns nv h t h1 hm
 ·exact Qg B g b w ns nv h t h1
 ·exact KJ B g b w ns nv h _ (.inl rfl)
 ·exact KJ B g b w ns nv h _ (.inr rfl)
 ·have hk:k=5\/k=10\/k=11\/k=12\/k=13\/k=14\/k=15\/k=16:=by omega
  have j0:(0:Int)<=(j:Int):=by omega
  have j1:(j:Int)<(ns.length:Int):=by omega
  rcases hk with rfl|rfl|rfl|rfl|rfl|rfl|rfl|rfl
  ·rw[h2 (by decide)];exact EU B g b w ns nv h _ (by simp only;omega) j j0 j1
  ·exact Sj B g b w ns nv h j n j0 j1 h3 h4
  ·rw[h2 (by decide)];exact EU B g b w ns nv h _ (by simp only;omega) j j0 j1
  ·rw[h2 (by decide)];exact EU B g b w ns nv h _ (by simp only;omega) j j0 j1
  ·rw[h2 (by decide)];exact EU B g b w ns nv h _ (by simp only;omega) j j0 j1
  ·rw[h2 (by decide)];exact EU B g b w ns nv h _ (by simp only;omega) j j0 j1
  ·rw[h2 (by decide)];exact EU B g b w ns nv h _ (by simp only;omega) j j0 j1
  ·rw[h2 (by decide)];exact EU B g b w ns nv h _ (by simp only;omega) j j0 j1
 ·have hk:k=6\/k=7\/k=8\/k=9:=by omega
  have j0:(0:Int)<=(j:Int):=by omega
  have j1:(j:Int)<(ns.length:Int):=by omega
  have q0:(0:Int)<=(q:Int):=by omega
  have q1:(q:Int)<(ns.length:Int):=by omega
  rcases hk with rfl|rfl|rfl|rfl
  ·exact GM B g b w ns nv h _ (by simp only;omega) j q j0 j1 q0 q1
  ·exact GM B g b w ns nv h _ (by simp only;omega) j q j0 j1 q0 q1
  ·exact GM B g b w ns nv h _ (by simp only;omega) j q j0 j1 q0 q1
  ·exact GM B g b w ns nv h _ (by simp only;omega) j q j0 j1 q0 q1
theorem Ci{w w':World}{B:Nat}{t:TypeId}{m:Nat}{v:Value}{n:Nat}{xs:List Value}(h:w.ownsRow B t m v n xs)(hk:∀k,v.ownBlock=some k->w'.heap[k]? =w.heap[k]?):w'.ownsRow B t m v n xs:=
 ⟨h.1,h.2.imp id (fun ⟨q,cap,cur,hv,hq,hh,r⟩=>⟨q,cap,cur,hv,hq,(hk q (by rw[hv];rfl)).trans hh,r⟩)⟩
theorem BV{w:World}{B:Nat}{t:TypeId}{m:Nat}{v:Value}{n:Nat}{xs:List Value}(h:w.ownsRow B t m v n xs){k:Nat}(hk:v.ownBlock=some k):k<w.heap.size:=by
 rcases h.2 with ⟨rfl,_⟩|⟨q,cap,cur,rfl,_,hh,_⟩
 ·cases hk
 ·simp only[Value.ownBlock,Option.some.injEq]at hk;subst hk;exact(Array.getElem?_eq_some_iff.1 hh).1
def LD(B g b:Nat)(ns:List Nd)(nv:Value)(x:Nd)(w:World)(e:Ending)(w':World):Prop:=
 ∃nv',e= .returned (.tuple #[.int .i64 ((Bo ns x).1:Int),.int .i64 0])/\KG g b nv nv' w w'/\GrP B g b w' (Bo ns x).2 nv'
theorem S7(B g b:Nat)(w:World)(ns:List Nd)(nv:Value)(h:GrP B g b w ns nv)(x:Nd)(hx:Cw ns.length x)(hm:Ce w)(hin:x∈ns):
  Calls Tryz.prog 104 #[.pointer (some ⟨g,0,none⟩),ndV x] w (LD B g b ns nv x w):=by
 have fz:=hid (fun W h=>KF B g b W ns nv h x hx);have HM:=hid hm;have HG:=hid h;have eX:=h.few;have ql:FX x:=hx.key (by omega);have lp:=hid (fun W (h:GrP B g b W ns nv)=>h.map.look (h.ok.keys (by omega)) h.ok.1 x ql (t:=78) Tryz.underlying78);have fH:(Bo ns x).1=Cv x ns:=by unfold Bo;rw[if_pos hin]
 have fr:(Bo ns x).2=ns:=by unfold Bo;rw[if_pos hin]
 have uE:F5 x ns=(Cv x ns:Int):=by unfold F5;rw[if_pos hin]
 rw[uE,decide_eq_true hin]at lp;have ti:=hid fH;have th:=hid fr;clear fH fr uE hin ql eX hm hx;obtain⟨A,c,rfl⟩:=h.row.shape;clear h;obtain⟨k,a,d,n,t⟩:=x;simp only[ndV]at fz lp ⊢;obtain⟨s,hs⟩:∃s:ByteArray,s=⟨t.toArray⟩:=⟨_,rfl⟩;have hst:str t= .string s:=by rw[hs];rfl
 rw[hst]at fz lp ⊢;clear hs hst;have ai:=hid (Blk.new w 95 #[.int .i64 k,.int .i64 a,.int .i64 d,.int .i64 n,.string s]);have ar:=hid ((Ext.refl w).alloc (.cells #[.int .i64 k,.int .i64 a,.int .i64 d,.int .i64 n,.string s] 95));obtain⟨w1,aZ⟩:∃w1,w1=w.alloc (.cells #[.int .i64 k,.int .i64 a,.int .i64 d,.int .i64 n,.string s] 95):=⟨_,rfl⟩;rw[<-aZ]at ai ar;have q0:=ai.out.five;go_enter Tryz.func104,Tryz.ntmps104;go_upto_region 1 with fail;rw[<-aZ];clear aZ;go_wp2_with fail;refine(fz.out w1 (HG.out.keep ar.out) (HM.out.ext ar.out)).mono ?_
 rintro e w2 ⟨rfl,ae⟩;have aI:=hid (ar.out.trans ae);have kj:=hid (HG.out.keep aI.out);have a6:=hid (ai.out.ext ae);clear q0 ae;have q0:=a6.out.five;have k0:=kj.out.blk.twoG;have tV:=lp.out w2 kj.out;have u9:=lp.out w2.drew (kj.out.keep (Ext.refl w2).drew);go_wp2_with fail;go_region;go_wp2_with fail;go_ret2;have ab:=aI.out.drew;refine⟨_,by rw[ti.out];rfl,KG.of_ext ab,?_⟩;rw[th.out];exact HG.out.keep ab
theorem S8(B g b:Nat)(w:World)(ns:List Nd)(nv:Value)(h:GrP B g b w ns nv)(x:Nd)(hx:Cw ns.length x)(hm:Ce w)(hin:x∉ns)(bI:ns.length<4096):
  Calls Tryz.prog 104 #[.pointer (some ⟨g,0,none⟩),ndV x] w (LD B g b ns nv x w):=by
 have fz:=hid (fun W h=>KF B g b W ns nv h x hx);have HM:=hid hm;have HG:=hid h;have ql:FX x:=hx.key (by omega);have lp:=hid (fun W (h:GrP B g b W ns nv)=>h.map.look (h.ok.keys (by omega)) h.ok.1 x ql (t:=78) Tryz.underlying78);have bG:=hid (fun W (h:DO W b ns)=>h.store (HG.out.ok.keys (by omega)) x ql hin (t:=78) Tryz.underlying78);have fH:(Bo ns x).1=ns.length:=by unfold Bo;rw[if_neg hin]
 have fr:(Bo ns x).2=ns++[x]:=by unfold Bo;rw[if_neg hin]
 have uE:F5 x ns=0:=by unfold F5;rw[if_neg hin]
 rw[uE,decide_eq_false hin]at lp;have iP:Hid (AH (ns++[x])):=hid (by rw[<-fr];exact h.ok.put hx);have ti:=hid fH;have th:=hid fr;clear fH fr uE hin ql hm hx;have fC:=h.lo;have rI:=h.lo2;have dy:=h.apart3;have YJ:=hid h.apart;have pX:=hid h.apart2;have zv:=h.lt;have hbz0:=h.map.lt;obtain⟨A,c,rfl⟩:=h.row.shape;clear h;obtain⟨i0,hi,aE,hz1,ba⟩:=info_parts FJ;obtain⟨k,a,d,n,t⟩:=x;simp only[ndV]at fz lp bG ⊢;obtain⟨s,hs⟩:∃s:ByteArray,s=⟨t.toArray⟩:=⟨_,rfl⟩;have pL:Hid (ndC ⟨k,a,d,n,t⟩=[.int .i64 k,.int .i64 a,.int .i64 d,.int .i64 n,.string s]):=hid (by rw[hs];rfl);have hst:str t= .string s:=by rw[hs];rfl
 rw[hst]at fz lp bG ⊢;clear hs hst;have ai:=hid (Blk.new w 95 #[.int .i64 k,.int .i64 a,.int .i64 d,.int .i64 n,.string s]);have ar:=hid ((Ext.refl w).alloc (.cells #[.int .i64 k,.int .i64 a,.int .i64 d,.int .i64 n,.string s] 95));obtain⟨w1,aZ⟩:∃w1,w1=w.alloc (.cells #[.int .i64 k,.int .i64 a,.int .i64 d,.int .i64 n,.string s] 95):=⟨_,rfl⟩;have hs1:w1.heap.size=w.heap.size+1:=by rw[aZ];simp
 rw[<-aZ]at ai ar;have q0:=ai.out.five;have pa:decide ((ns.length:Int)>=4096)=false:=decide_eq_false (by omega);have hd5:decide (4096<=(ns.length:Int))=false:=decide_eq_false (by omega);go_enter Tryz.func104,Tryz.ntmps104;go_upto_region 1 with fail;rw[<-aZ];clear aZ;go_wp2_with fail;refine(fz.out w1 (HG.out.keep ar.out) (HM.out.ext ar.out)).mono ?_
 rintro e w2 ⟨rfl,ae⟩;have aI:=hid (ar.out.trans ae);have kj:=hid (HG.out.keep aI.out);have a6:=hid (ai.out.ext ae);have iI:w.heap.size<w2.heap.size:=by have:=ae.size;omega
 clear q0 ae;have q0:=a6.out.five;obtain⟨k0,k1,f0,f1,er⟩:=kj.out.blk.twoG;have tV:=lp.out w2 kj.out;have u9:=lp.out w2.drew (kj.out.keep (Ext.refl w2).drew);go_wp2_with fail;go_region;go_upto_region 9 with fail;obtain⟨wA,ux⟩:∃wA,wA=w2.drew:=⟨_,rfl⟩;have yl:Ext w wA:=by rw[ux];exact aI.out.drew
 have Xe:w.heap.size<wA.heap.size:=by rw[ux];exact iI
 have bj:=hid yl;have kJ:=hid (HG.out.keep yl);have XE:Blk wA w.heap.size 95 #[.int .i64 k,.int .i64 a,.int .i64 d,.int .i64 n,.string s]:=by rw[ux];exact a6.out.drew
 have xQ:=hid XE;rw[<-ux];clear ux yl XE tV u9 q0 k0 k1 f0 f1 er;have q0:=xQ.out.five;obtain⟨k0,k1,f0,f1,er⟩:=kJ.out.blk.twoG;have jy:Hid (∀w':World,(wA.alloc (.cells #[.int .i64 k,.int .i64 a,.int .i64 d,.int .i64 n,.string s] 95)).drew.grownBy w' (Value.slice A ns.length c).ownBlock->Blk w' g 80 #[.slice A ns.length c,.map (some b)]/\DO w' b ns/\Blk w' w.heap.size 95 #[.int .i64 k,.int .i64 a,.int .i64 d,.int .i64 n,.string s]/\wA.grownBy w' (Value.slice A ns.length c).ownBlock):=hid (fun w' aQ=>by
  have kT:wA.grownBy w' (Value.slice A ns.length c).ownBlock:=by
   refine⟨aQ.os,aQ.tape,aQ.output,?_,fun i h1 h2=> ?_⟩
   ·have:=aQ.size;simp only[World.size_drew,World.size_alloc]at this;omega
   ·exact(aQ.block i (by simp only[World.size_drew,World.size_alloc];omega) h2).trans (Below.heap_alloc wA _ i h1)
  have hbN:some w.heap.size≠(Value.slice A ns.length c).ownBlock:=fun e=>by
   have h1:=kJ.out.row;unfold AU at h1;rcases(HG.out.row).2 with ⟨h2,_⟩|⟨q,cap,cur,h2,_,hh,_⟩
   ·rw[h2]at e;cases e
   ·rw[h2]at e;simp only[Value.ownBlock,Option.some.injEq]at e;have:=(Array.getElem?_eq_some_iff.1 hh).1;omega
  exact⟨(kT.block g er (fun e=>pX.out e.symm)).trans kJ.out.blk,kJ.out.map.kept (kT.block b kJ.out.map.lt (fun e=>YJ.out e.symm)),(kT.block w.heap.size Xe hbN).trans xQ.out,kT⟩)
 have cQ:Hid (∀(j:Nat) (u:Value),[.int .i64 k,.int .i64 a,.int .i64 d,.int .i64 n,.string s][j]? =some u->(wA.alloc (.cells #[.int .i64 k,.int .i64 a,.int .i64 d,.int .i64 n,.string s] 95)).drew.cell? ((⟨wA.heap.size,0,none⟩:Addr).add j)=some u):=hid (fun j u hj=>by
  have h1:=(Blk.new wA 95 #[.int .i64 k,.int .i64 a,.int .i64 d,.int .i64 n,.string s]).drew.cell j;have h2:(⟨wA.heap.size,0,none⟩:Addr).add j=⟨wA.heap.size,j,none⟩:=by
   unfold Addr.add;split
   ·rename_i h;subst h;rfl
   ·simp
  rw[h2,h1,<-hj];simp)
 have io:Hid ((wA.alloc (.cells #[.int .i64 k,.int .i64 a,.int .i64 d,.int .i64 n,.string s] 95)).drew.ownsRow B 95 5 (.slice A ns.length c) ns.length (C6 ns)):=hid (Aj kJ.out.row (fun k _ hk=>Below.heap_alloc wA _ k hk));have i6:Hid (ns.length+1<=maxLen):=hid (by unfold maxLen;omega);have ez:Hid ((ns.length+1)*48<=140737488355328):=hid (by omega);have tn:Hid (B<=(wA.alloc (.cells #[.int .i64 k,.int .i64 a,.int .i64 d,.int .i64 n,.string s] 95)).drew.heap.size):=hid (by simp only[World.size_drew,World.size_alloc];omega)
 go_region_law (refine step_append_lies _ rfl (.tmp 39) (.tmp 41) 77 rfl B 95 i0 _ 5 48 Tryz.underlying77 hi aE hz1 ba rfl (by decide) _ ns.length (C6 ns) rfl io.out ⟨wA.heap.size,0,none⟩ 1 1 [.int .i64 k,.int .i64 a,.int .i64 d,.int .i64 n,.string s] rfl rfl cQ.out (by simp[Value.oneCell']) (by decide) i6.out ez.out tn.out _ rfl ?_;intro g' c' w' aG aQ hat hlt;have pO:=hid aG;have eA:=hid (jy.out w' aQ);have fP:=hid hat;clear aG aQ hat;have m0:=eA.out.1.twoG)
 all_goals
  have uP:g'≠g:=by
   rcases fP.out with h4|h4
   ·exact fun e=>pX.out (h4.trans (congrArg some e))
   ·simp only[World.size_drew,World.size_alloc]at h4;omega
  have hne2:g'≠b:=by
   rcases fP.out with h4|h4
   ·exact fun e=>YJ.out (h4.trans (congrArg some e))
   ·have:=kJ.out.map.lt;simp only[World.size_drew,World.size_alloc]at h4;omega
  have eh:=eA.out.1.set_ 0 (.slice (some ⟨g',0,none⟩) (ns.length+1) c');have hN:DO (w'.setCell ⟨g,0,none⟩ (.slice (some ⟨g',0,none⟩) (ns.length+1) c')) b ns:=eA.out.2.1.kept (Below.heap_setCell _ _ _ b (fun e=>dy e.symm));have nX:=eA.out.2.2.1.far (p:=⟨g,0,none⟩) (by show w.heap.size≠g;omega) (.slice (some ⟨g',0,none⟩) (ns.length+1) c');have be:=Ci (w':=w'.setCell ⟨g,0,none⟩ (.slice (some ⟨g',0,none⟩) (ns.length+1) c')) pO.out (fun k hk=>Below.heap_setCell _ _ _ k (by
   simp only[Value.ownBlock,Option.some.injEq]at hk;show k≠g;omega))
  have eP:∀k,k<w.heap.size->k≠g->(Value.slice A ns.length c).ownBlock≠some k->(w'.setCell ⟨g,0,none⟩ (.slice (some ⟨g',0,none⟩) (ns.length+1) c')).heap[k]? =w.heap[k]? :=fun k h1 h2 h3=>
   (Below.heap_setCell _ _ _ k h2).trans ((eA.out.2.2.2.block k (by omega) (fun e=>h3 e.symm)).trans (bj.out.block k h1))
  have uH:(w'.setCell ⟨g,0,none⟩ (.slice (some ⟨g',0,none⟩) (ns.length+1) c')).os=w.os/\(w'.setCell ⟨g,0,none⟩ (.slice (some ⟨g',0,none⟩) (ns.length+1) c')).tape=w.tape/\(w'.setCell ⟨g,0,none⟩ (.slice (some ⟨g',0,none⟩) (ns.length+1) c')).output=w.output/\wA.heap.size<=(w'.setCell ⟨g,0,none⟩ (.slice (some ⟨g',0,none⟩) (ns.length+1) c')).heap.size:=by
   have h2:=Below.setCell (Below.refl g w') (p:=⟨g,0,none⟩) (Nat.le_refl _) (.slice (some ⟨g',0,none⟩) (ns.length+1) c');have h4:=eA.out.2.2.2;exact⟨h2.os.trans (h4.os.trans bj.out.os),h2.tape.trans (h4.tape.trans bj.out.tape),h2.output.trans (h4.output.trans bj.out.output),Nat.le_trans h4.size h2.size⟩
  generalize (w'.setCell ⟨g,0,none⟩ (.slice (some ⟨g',0,none⟩) (ns.length+1) c'))=wB at *;have pS:=hid eh;have iO:=hid be;have pV:=hid eP;have mp:=hid uH;clear q0 k0 k1 f0 f1 m0 be eP uH;have q0:=nX.five;obtain⟨k0,k1,f0,f1,vi⟩:=Blk.twoG eh;obtain⟨wC,fp,Xm,o7⟩:=bG.out wB.drew hN;have HNC:=hid Xm;have HGC:=hid o7;have lk:=hid hN;clear eh hN nX Xm o7;go_wp2_with fail;go_region;go_wp2_with fail;go_ret2;have o7:=HGC.out;have hzC:wB.heap.size<=wC.heap.size:=o7.size;have Zk:=mp.out.2.2.2;refine⟨(.slice (some ⟨g',0,none⟩) (ns.length+1) c'),by rw[ti.out];rfl,⟨o7.os.trans mp.out.1,o7.tape.trans mp.out.2.1,o7.output.trans mp.out.2.2.1,by omega,fun k h1 h2 h3 h4=> ?_,fun j hj=> ?_⟩,?_⟩
  ·exact(o7.block k (show k<wB.heap.size by omega) (fun e=>h3 (Option.some.inj e))).trans (pV.out k h1 h2 h4)
  ·have h5:g'=j:=Option.some.inj hj;rcases fP.out with h4|h4
   ·exact .inl (h4.trans (congrArg some h5))
   ·simp only[World.size_drew,World.size_alloc]at h4;exact .inr (by omega)
  ·rw[th.out];refine⟨(o7.block g (show g<wB.heap.size by omega) (fun e=>dy (Option.some.inj e))).trans pS.out,?_,HNC.out,fC,rI,iP.out,by simp only[List.length_append,List.length_singleton];omega,HG.out.low⟩;unfold AU;rw[Dx,Fm,pL.out,List.length_append,List.length_singleton];refine Ci iO.out (fun k hk=>o7.block k (BV iO.out hk) (fun e=> ?_));have h5:g'=k:=Option.some.inj hk;have h6:k=b:=Option.some.inj e;exact hne2 (h5.trans h6)
theorem Sf(B g b:Nat)(w:World)(ns:List Nd)(nv:Value)(h:GrP B g b w ns nv)(x:Nd)(hx:Cw ns.length x)(hm:Ce w)(bI:ns.length<4096):
  Calls Tryz.prog 104 #[.pointer (some ⟨g,0,none⟩),ndV x] w (LD B g b ns nv x w):=by
 by_cases hin:x∈ns
 ·exact S7 B g b w ns nv h x hx hm hin
 ·exact S8 B g b w ns nv h x hx hm hin bI
def CN(l:List Nat):Array Value:=(l.map din).toArray
theorem Nb(l:List Nat)(i x:Nat):(CN l).setIfInBounds i (.int .i64 (x:Int))=CN (l.set i x):=by
 apply Array.ext';simp[CN,List.map_set,din]
theorem F9(l:List Nat)(i:Nat)(h:i<l.length):(CN l)[i]? =some (.int .i64 ((l.getD i 0:Nat):Int)):=by
 unfold CN;rw[List.getElem?_toArray,Ik h,List.getD_eq_getElem?_getD,List.getElem?_eq_getElem h];rfl
theorem Pm(n:Nat)(hn:n<=1000000)(W:World):(Instr.makeSlice 41 (.int .i64 (n:Int)) (.int .i64 (n:Int))).run Tryz.prog W=
  .ok (.slice (some ⟨W.heap.size,0,none⟩) n n) (W.alloc (.cells (CN (List.replicate n 0)) 3)):=by
 obtain⟨i0,hi,aE,hz1,ba⟩:=info_parts JD;have hr:=run_make (P:=Tryz.prog) W 41 3 i0 _ Tryz.underlying41 hi aE .i64 .i64 (n:Int) (n:Int) (by omega) (Int.le_refl _) (by rw[ba];omega) (by omega);have hm:madeCells (Value.cells (.int .i64 0)) (n*1)=CN (List.replicate n 0):=by
  apply Array.ext';apply List.ext_getElem?;intro i;simp only[madeCells,CN,Value.cells];rw[Array.getElem?_toList,Array.getElem?_map,List.getElem?_map,List.getElem?_replicate];rcases Nat.lt_or_ge i n with h|h
  ·rw[Array.getElem?_range,if_pos (by omega),if_pos h];simp[din,Nat.mod_one]
  ·rw[Array.getElem?_range,if_neg (by omega),if_neg (by omega)];rfl
 rw[hz1,Int.toNat_natCast,hm]at hr;exact hr
def Ec(g b:Nat)(nv:Value)(w:World)(v:Value)(l:List Nd):Prop:=
 ∃A c,v= .slice A l.length c/\(0<l.length->∃q o,A=some ⟨q,o,none⟩/\q<w.heap.size/\q≠g/\q≠b/\nv.ownBlock≠some q/\∀i (hi:i<l.length),Oe w q (o+i*5) l[i])
theorem Ec.read{g b:Nat}{nv:Value}{w:World}{v:Value}{l:List Nd}(h:Ec g b nv w v l):RNd w v l:=by
 obtain⟨A,c,rfl,h1⟩:=h;refine⟨A,c,rfl,fun hp=> ?_⟩;obtain⟨q,o,rfl,hq,_,_,_,hc⟩:=h1 hp;exact⟨q,o,rfl,hq,hc⟩
theorem Ec.keep{g b:Nat}{nv nv':Value}{w w':World}{v:Value}{l:List Nd}(h:Ec g b nv w v l)(hk:KG g b nv nv' w w'):Ec g b nv' w' v l:=by
 obtain⟨A,c,rfl,h1⟩:=h;refine⟨A,c,rfl,fun hp=> ?_⟩;obtain⟨q,o,rfl,hq,h2,h3,h4,hc⟩:=h1 hp;have hb:=hk.block q hq h2 h3 h4;have hk2:∀o,w'.cell? ⟨q,o,none⟩=w.cell? ⟨q,o,none⟩:=fun o=>World.cell?_of_block (a:=⟨q,o,none⟩) hb
 refine⟨q,o,rfl,Nat.lt_of_lt_of_le hq hk.size,h2,h3,fun e=> ?_,fun i hi=> ?_⟩
 ·rcases hk.move q e with h5|h5
  ·exact h4 h5
  ·omega
 ·obtain⟨q0,q1,q2,q3,q4⟩:=hc i hi;exact⟨(hk2 _).trans q0,(hk2 _).trans q1,(hk2 _).trans q2,(hk2 _).trans q3,(hk2 _).trans q4⟩
theorem Ec.old{g b:Nat}{nv:Value}{w0 w:World}{v:Value}{l:List Nd}(h:RNd w0 v l)(hx:Ext w0 w)(hg:w0.heap.size<=g)(hb:w0.heap.size<=b)(hr:∀j,nv.ownBlock=some j->w0.heap.size<=j):Ec g b nv w v l:=by
 obtain⟨A,c,rfl,h1⟩:=h;refine⟨A,c,rfl,fun hp=> ?_⟩;obtain⟨q,o,rfl,hq,hc⟩:=h1 hp;exact⟨q,o,rfl,Nat.lt_of_lt_of_le hq hx.size,by omega,by omega,fun e=>by have:=hr q e;omega,fun i hi=>(hc i hi).ext hx hq⟩
def Gh(B g b m:Nat)(ns:List Nd)(nv:Value)(e:Ex)(v:Value)(w:World)(i:Nat)(wr:World):Prop:=
 ∃nv',KG g b nv nv' w wr/\GrP B g b wr (BH ([],ns) ((Ak 0 e).take i)).2 nv'/\Blk wr m 3 (CN ((BH ([],ns) ((Ak 0 e).take i)).1++List.replicate (e.size-i) 0))/\Ec g b nv' wr v (Ak 0 e)/\
  m≠g/\m≠b/\nv'.ownBlock≠some m/\w.heap.size<=m/\Ce wr/\v.ownBlock≠some m
theorem Gh.start{B g b:Nat}{ns:List Nd}{nv:Value}{e:Ex}{v:Value}{w w1:World}(h:GrP B g b w ns nv)(hv:Ec g b nv w v (Ak 0 e))(hx:Ext w w1)(hm:Ce w):
  Gh B g b w1.heap.size ns nv e v w 0 (w1.alloc (.cells (CN (List.replicate e.size 0)) 3)):=by
 have ae:=hx.alloc (.cells (CN (List.replicate e.size 0)) 3);have hg:=h.lt;have hb:=h.map.lt;have hs:=hx.size;refine⟨nv,KG.of_ext ae,?_,?_,hv.keep (KG.of_ext ae),by omega,by omega,fun e=> ?_,hs,hm.ext ae,?_⟩
 ·rw[List.take_zero];exact h.keep ae
 ·rw[List.take_zero];show Blk _ _ _ (CN ([]++List.replicate (e.size-0) 0));rw[List.nil_append,Nat.sub_zero];exact Blk.new _ _ _
 ·have:=BV h.row e;omega
 ·obtain⟨A,c,rfl,h1⟩:=hv;obtain⟨q,o,rfl,hq,_⟩:=h1 (by rw[AO];exact e.size_pos);intro he;have h2:q=w1.heap.size:=Option.some.inj he;omega
theorem Gh.next {B g b m:Nat} {ns:List Nd} {nv bL nv2:Value} {e:Ex} {v:Value} {w wr w1 w2:World} {i:Nat} (hg:e.Good) (hs:AH ns) (hi:i<e.size) (hl:i<(Ak 0 e).length)
  (h1:KG g b nv bL w wr) (h4:Ec g b bL wr v (Ak 0 e)) (hb:Blk wr m 3 (CN ((BH ([],ns) ((Ak 0 e).take i)).1++List.replicate (e.size-i) 0)))
  (m1:m≠g) (m2:m≠b) (m3:bL.ownBlock≠some m) (m4:w.heap.size<=m) (m5:v.ownBlock≠some m) (hm:Ce wr) (hx:Ext wr w1) (hk:KG g b bL nv2 w1 w2)
  (hB:B<=w.heap.size) (hp:GrP B g b w2 (Bo (BH ([],ns) ((Ak 0 e).take i)).2 (BW (BH ([],ns) ((Ak 0 e).take i)).1 (Ak 0 e)[i])).2 nv2) (hp0:GrP B g b w1 (BH ([],ns) ((Ak 0 e).take i)).2 bL):
  Gh B g b m ns nv e v w (i+1) (w2.setCell ⟨m,i,none⟩ (.int .i64 ((Bo (BH ([],ns) ((Ak 0 e).take i)).2 (BW (BH ([],ns) ((Ak 0 e).take i)).1 (Ak 0 e)[i])).1:Int))):=by
 have mh:=FG.at hs hg i (Nat.le_of_lt hi);have hmw:m<w1.heap.size:=Nat.lt_of_lt_of_le hb.lt hx.size;have k1:=(KG.of_ext hx).trans hk;have hb2:Blk w2 m 3 _:=k1.blk hb m1 m2 m3;have WW:nv2.ownBlock≠some m:=fun e=>by
  rcases k1.move m e with h5|h5
  ·exact m3 h5
  ·have:=hb.lt;omega
 have l7:∀u:Value,KG g b nv nv2 w (w2.setCell ⟨m,i,none⟩ u):=fun u=>by
  have k2:=h1.trans k1;have iI:(w2.setCell ⟨m,i,none⟩ u).heap.size=w2.heap.size:=by simp
  have ij:=Below.setCell (Below.refl m w2) (p:=⟨m,i,none⟩) (Nat.le_refl _) u;exact⟨ij.os.trans k2.os,ij.tape.trans k2.tape,ij.output.trans k2.output,by rw[iI];exact k2.size,fun k p1 p2 p3 p4=>(Below.heap_setCell _ _ _ k (by show k≠m;omega)).trans (k2.block k p1 p2 p3 p4),k2.move⟩
 have hst:BH ([],ns) ((Ak 0 e).take (i+1))=H5 (BH ([],ns) ((Ak 0 e).take i)) (Ak 0 e)[i]:=Ga _ _ _ hl;have nH:Ce w2:=(hm.ext hx).below (hk.below hp0) hp0.low;refine⟨nv2,l7 _,?_,?_,?_,m1,m2,WW,m4,nH.below (Below.setCell (Below.refl B w2) (p:=⟨m,i,none⟩) (by show B<=m;omega) _) hp.low,m5⟩
 ·rw[hst,Gp];refine⟨hp.blk.far (p:=⟨m,i,none⟩) (fun e=>m1 e.symm) _,?_,hp.map.kept (Below.heap_setCell _ _ _ b (fun e=>m2 e.symm)),hp.lo,hp.lo2,hp.ok,hp.few,hp.low⟩;exact Ci hp.row (fun k hk=>Below.heap_setCell _ _ _ k (fun e=>WW (by rw[hk];exact congrArg some e)))
 ·have h6:=hb2.set_ i (.int .i64 ((Bo (BH ([],ns) ((Ak 0 e).take i)).2 (BW (BH ([],ns) ((Ak 0 e).take i)).1 (Ak 0 e)[i])).1:Int));rw[Nb]at h6;rw[hst,Gp];have hl2:=mh.len;have h7:((BH ([],ns) ((Ak 0 e).take i)).1++List.replicate (e.size-i) 0).set i (Bo (BH ([],ns) ((Ak 0 e).take i)).2 (BW (BH ([],ns) ((Ak 0 e).take i)).1 (Ak 0 e)[i])).1=
    ((BH ([],ns) ((Ak 0 e).take i)).1++[(Bo (BH ([],ns) ((Ak 0 e).take i)).2 (BW (BH ([],ns) ((Ak 0 e).take i)).1 (Ak 0 e)[i])).1])++List.replicate (e.size-(i+1)) 0:=by
   rw[List.set_append_right _ _ (by omega),hl2,Nat.sub_self,show e.size-i=(e.size-(i+1))+1 by omega,List.replicate_succ,List.set_cons_zero,List.append_assoc];rfl
  rw[h7]at h6;exact h6
 ·have h8:=(h4.keep k1);obtain⟨A,c,rfl,h9⟩:=h8;refine⟨A,c,rfl,fun hp=> ?_⟩;obtain⟨q,o,rfl,hq,p2,p3,p4,hc⟩:=h9 hp;have hqm:q≠m:=fun e=>m5 (congrArg some e)
  have hk2:∀o u,(w2.setCell ⟨m,i,none⟩ u).cell? ⟨q,o,none⟩=w2.cell? ⟨q,o,none⟩:=fun o u=>World.cell?_of_block (a:=⟨q,o,none⟩) (Below.heap_setCell _ _ _ q hqm)
  refine⟨q,o,rfl,by simpa using hq,p2,p3,p4,fun j hj=> ?_⟩;obtain⟨q0,q1,q2,q3,q4⟩:=hc j hj;exact⟨(hk2 _ _).trans q0,(hk2 _ _).trans q1,(hk2 _ _).trans q2,(hk2 _ _).trans q3,(hk2 _ _).trans q4⟩
end Big
end Go.Proofs.YtkoaogkknnelaaaGreatDoor
