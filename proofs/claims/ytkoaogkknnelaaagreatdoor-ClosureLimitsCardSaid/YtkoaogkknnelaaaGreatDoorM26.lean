import Derived.Test.YtkoaogkknnelaaaGreatDoorM25
import Derived.Test.YtkoaogkknnelaaaGreatDoorShelf4
set_option linter.unusedVariables false
set_option linter.unusedSimpArgs false
set_option maxHeartbeats 4000000
set_option maxRecDepth 100000
namespace Go.Proofs.YtkoaogkknnelaaaGreatDoor
namespace Big
open Lib renaming hid → J
open Go.RowKit
def GL(n:Nat)(x:Int):Bool:=decide (x<0) || decide ((n:Int)<=x)
theorem Qq(c g n m:Nat)(A:Option Addr)(W:World)(x:Int)(h0:W.cell? ⟨c,0,none⟩=some (.pointer (some ⟨g,0,none⟩)))(h1:W.cell? ⟨g,0,none⟩=some (.slice A n m))(hg:g<W.heap.size):
  FnGives Tryz.prog 200 #[.pointer (some ⟨c,0,none⟩)] #[.int .i64 x] (.bool (GL n x)) W:=by
 unfold FnGives;show Calls Tryz.prog 200 #[.int .i64 x,.pointer (some ⟨c,0,none⟩)] W _;by_cases hx:x<0
 ·have hd:decide (x<0)=true:=decide_eq_true hx;have ho:GL n x=true:=by unfold GL;rw[hd];rfl
  rw[ho];clear ho hx;go_enter Tryz.func200,Tryz.ntmps200;go_wp2_with fail;go_ret;exact⟨rfl,0,rfl⟩
 ·have hd:decide (x<0)=false:=decide_eq_false hx;by_cases hy:(n:Int)<=x
  ·have ba:decide ((n:Int)<=x)=true:=decide_eq_true hy;have ho:GL n x=true:=by unfold GL;rw[hd,ba];rfl
   rw[ho];clear ho;go_enter Tryz.func200,Tryz.ntmps200;go_wp2_with fail;go_ret;exact⟨rfl,0,rfl⟩
  ·have ba:decide ((n:Int)<=x)=false:=decide_eq_false hy;have ho:GL n x=false:=by unfold GL;rw[hd,ba];rfl
   rw[ho];clear ho;go_enter Tryz.func200,Tryz.ntmps200;go_wp2_with fail;go_ret;exact⟨rfl,0,rfl⟩
theorem Fo (c g n m b k:Nat) (A:Option Addr) (zs:List Int) (W:World) (h0:W.cell? ⟨c,0,none⟩=some (.pointer (some ⟨g,0,none⟩))) (h1:W.cell? ⟨g,0,none⟩=some (.slice A n m))
  (hz:∀j (hj:j<zs.length),W.cell? ⟨b,j,none⟩=some (.int .i64 zs[j])) (hl:zs.length<=100):
  Calls Tryz.prog 199 #[.slice (some ⟨b,0,none⟩) zs.length k,.func (.func 200) #[] #[.pointer (some ⟨c,0,none⟩)]] W fun e w'=>e= .returned (.bool (zs.any (GL n)))/\∃q,w'=W.drewN q:=by
 have hc:=World.block_lt_of_cell? W _ h0;have hg:=World.block_lt_of_cell? W _ h1;have h:=Tryz.slices_ContainsFunc (fun x:Int=> .int .i64 x) (GL n) 200 #[.pointer (some ⟨c,0,none⟩)] (enters_of Tryz.func200 (by kernel_rfl) rfl) b 0 zs.length k zs W (fun W' x hb=>Qq c g n m A W' x ((hb.cell hc).trans h0) ((hb.cell hg).trans h1) (Nat.lt_of_lt_of_le hg hb.size)) (Nat.le_refl _) (by omega) (fun j hj=>by
  rw[Nat.zero_add,hz j hj,getElem!_pos zs j hj])
 rw[List.take_length]at h;exact h
theorem Oo(B g b:Nat)(w:World)(ns:List Nd)(nv:Value)(h:GrP B g b w ns nv)(t:List UInt8)(ht:Bs t=0)(hm:BC w):
  Calls Tryz.prog 159 #[.pointer (some ⟨g,0,none⟩),.agg #[.int .i64 1,.int .i64 0,.int .i64 0,.int .i64 0,str t]] w fun e w'=>e= .returned (.bool true)/\Ext w w':=by
 obtain⟨A,c,rfl⟩:=h.row.shape;have HG:=J h.blk;clear h;have sT:=J (fun W h=>Jv W t h);have HM:=J hm;have HT:=J ht;clear hm ht;obtain⟨s,hs⟩:∃s:ByteArray,s=⟨t.toArray⟩:=⟨_,rfl⟩;have ai:str t= .string s:=by rw[hs];rfl
 rw[ai]at sT ⊢;clear hs ai;have aM:=J (Blk.new w 50 #[.pointer (some ⟨g,0,none⟩)]);have ah:=J ((Ext.refl w).alloc (.cells #[.pointer (some ⟨g,0,none⟩)] 50));obtain⟨w1,aL⟩:∃w1,w1=w.alloc (.cells #[.pointer (some ⟨g,0,none⟩)] 50):=⟨_,rfl⟩;have eF:w1.heap.size=w.heap.size+1:=by rw[aL];simp
 rw[<-aL]at aM ah;have aP:=J (Blk.new w1 95 #[.int .i64 1,.int .i64 0,.int .i64 0,.int .i64 0,.string s]);have aq:=J ((Ext.refl w1).alloc (.cells #[.int .i64 1,.int .i64 0,.int .i64 0,.int .i64 0,.string s] 95));obtain⟨w2,aY⟩:∃w2,w2=w1.alloc (.cells #[.int .i64 1,.int .i64 0,.int .i64 0,.int .i64 0,.string s] 95):=⟨_,rfl⟩;have gk:w2.heap.size=w.heap.size+2:=by rw[aY];simp[eF]
 rw[<-aY,eF]at aP;rw[<-aY]at aq;have HX:=J (ah.o.trans aq.o);have q0:=aP.o.five;go_enter Tryz.func159,Tryz.ntmps159;go_upto_region 1 with fail;rw[<-aL,<-aY];clear aL aY;go_wp2_with fail;refine(C2 w2 1 0 0 0 s (by decide)).mono ?_
 rintro e w3 ⟨rfl,ae⟩;have aj:=J ae;have aD:=J (aP.o.ext ae);clear ae q0;have q0:=aD.o.five;go_wp2_with fail;refine(Tryz.slices_ContainsFunc_empty (α:=Int) none 0 _ w3).mono ?_
 rintro e w4 ⟨rfl,rfl⟩;have ik:w.heap.size+1<w4.heap.size:=by
  have h1:=aj.o.size;omega
 have cW:Hid (w.heap.size+1≠w4.heap.size):=J (by omega);have dN:Hid (w.heap.size<=w4.heap.size):=J (by omega);have hx5:=(Ext.refl w4).alloc (.cells #[.int .i64 1,.int .i64 0,.int .i64 0,.int .i64 0,.string ⟨#[]⟩] 95);have ef:=J (aD.o.ext hx5);have fY:=J (Blk.new w4 95 #[.int .i64 1,.int .i64 0,.int .i64 0,.int .i64 0,.string ⟨#[]⟩]);have bg:=J ((HX.o.trans aj.o).trans hx5);clear hx5 ik;obtain⟨y0,y1,y2,y3,y4⟩:=ef.o.five;obtain⟨p0,p1,p2,p3,p4⟩:=fY.o.five;obtain⟨w5,dQ⟩:∃w5,w5=w4.alloc (.cells #[.int .i64 1,.int .i64 0,.int .i64 0,.int .i64 0,.string ⟨#[]⟩] 95):=⟨_,rfl⟩;rw[<-dQ]at ef fY bg y0 y1 y2 y3 y4 p0 p1 p2 p3 p4;go_upto_region 5 with fail;rw[<-dQ];clear dQ q0;go_wp2_with fail;refine(sT.o _ (HM.o.ext bg.o)).mono ?_
 rintro e w6 ⟨v6,rfl,gl,be⟩;obtain⟨b6,n6,A6,c6,m6,D6,d6,rfl⟩:=gl.shape;clear gl y0 y1 y2 y3 y4 p0 p1 p2 p3 p4;rw[HT.o];have bq:=be.alloc (.cells #[.bool b6,.slice A6 n6 c6,.slice D6 m6 d6] 26);have iQ:=J (ef.o.ext bq);have k6:=J (fY.o.ext bq);have aO:=J (bg.o.trans bq);have q0:=iQ.o.five;have r0:=k6.o.five;clear be bq;have wW:=J (k6.o.set_ 4 (.string s));have fN:=J (iQ.o.far (p:=⟨w4.heap.size,4,none⟩) cW.o (.string s));have ay:=J (aO.o.setCell (p:=⟨w4.heap.size,4,none⟩) dN.o (.string s));have f6:=k6.o.frozen 4;obtain⟨y0,y1,y2,y3,y4⟩:=fN.o.five;obtain⟨p0,p1,p2,p3,p4⟩:=Blk.five wW.o;go_wp2_with fail;go_ret;exact⟨rfl,ay.o⟩
theorem Qp(B g b:Nat)(w:World)(ns:List Nd)(nv:Value)(h:GrP B g b w ns nv)(t:List UInt8)(hn:Cs t=true):
  Calls Tryz.prog 159 #[.pointer (some ⟨g,0,none⟩),.agg #[.int .i64 2,.int .i64 0,.int .i64 0,.int .i64 0,str t]] w fun e w'=>e= .returned (.bool true)/\Ext w w':=by
 obtain⟨A,c,rfl⟩:=h.row.shape;have HG:=J h.blk;clear h;have hw:=(Bool.and_eq_true_iff.1 hn).1;have hl:=FC hw;have hr:Bb t=false:=by
  have oW:Cs t=(CS t && !Bb t):=by rw[B3];rfl
  rw[oW,Bool.and_eq_true_iff,Bool.not_eq_true']at hn;exact hn.2
 have HW:=J (fun W=>I5 W t (by omega));have ec:=J (fun W=>Ff W t);rw[hw]at HW;rw[hr]at ec;clear hw hl hr hn;obtain⟨s,hs⟩:∃s:ByteArray,s=⟨t.toArray⟩:=⟨_,rfl⟩;have ai:str t= .string s:=by rw[hs];rfl
 rw[ai]at HW ec ⊢;clear hs ai;have aM:=J (Blk.new w 50 #[.pointer (some ⟨g,0,none⟩)]);have ah:=J ((Ext.refl w).alloc (.cells #[.pointer (some ⟨g,0,none⟩)] 50));obtain⟨w1,aL⟩:∃w1,w1=w.alloc (.cells #[.pointer (some ⟨g,0,none⟩)] 50):=⟨_,rfl⟩;have eF:w1.heap.size=w.heap.size+1:=by rw[aL];simp
 rw[<-aL]at aM ah;have aP:=J (Blk.new w1 95 #[.int .i64 2,.int .i64 0,.int .i64 0,.int .i64 0,.string s]);have aq:=J ((Ext.refl w1).alloc (.cells #[.int .i64 2,.int .i64 0,.int .i64 0,.int .i64 0,.string s] 95));obtain⟨w2,aY⟩:∃w2,w2=w1.alloc (.cells #[.int .i64 2,.int .i64 0,.int .i64 0,.int .i64 0,.string s] 95):=⟨_,rfl⟩;have gk:w2.heap.size=w.heap.size+2:=by rw[aY];simp[eF]
 rw[<-aY,eF]at aP;rw[<-aY]at aq;have HX:=J (ah.o.trans aq.o);have q0:=aP.o.five;go_enter Tryz.func159,Tryz.ntmps159;go_upto_region 1 with fail;rw[<-aL,<-aY];clear aL aY;go_wp2_with fail;refine(C2 w2 2 0 0 0 s (by decide)).mono ?_
 rintro e w3 ⟨rfl,ae⟩;have aj:=J ae;have aD:=J (aP.o.ext ae);clear ae q0;have q0:=aD.o.five;go_wp2_with fail;refine(Tryz.slices_ContainsFunc_empty (α:=Int) none 0 _ w3).mono ?_
 rintro e w4 ⟨rfl,rfl⟩;have ik:w.heap.size+1<w4.heap.size:=by
  have h1:=aj.o.size;omega
 have cW:Hid (w.heap.size+1≠w4.heap.size):=J (by omega);have dN:Hid (w.heap.size<=w4.heap.size):=J (by omega);have hx5:=(Ext.refl w4).alloc (.cells #[.int .i64 2,.int .i64 0,.int .i64 0,.int .i64 0,.string ⟨#[]⟩] 95);have ef:=J (aD.o.ext hx5);have fY:=J (Blk.new w4 95 #[.int .i64 2,.int .i64 0,.int .i64 0,.int .i64 0,.string ⟨#[]⟩]);have bg:=J ((HX.o.trans aj.o).trans hx5);clear hx5 ik;obtain⟨y0,y1,y2,y3,y4⟩:=ef.o.five;obtain⟨p0,p1,p2,p3,p4⟩:=fY.o.five;obtain⟨w5,dQ⟩:∃w5,w5=w4.alloc (.cells #[.int .i64 2,.int .i64 0,.int .i64 0,.int .i64 0,.string ⟨#[]⟩] 95):=⟨_,rfl⟩;rw[<-dQ]at ef fY bg y0 y1 y2 y3 y4 p0 p1 p2 p3 p4;go_upto_region 5 with fail;rw[<-dQ];clear dQ q0;go_upto_region 14 with fail;have k6:=J (fY.o.set_ 4 (.string s));have iQ:=J (ef.o.far (p:=⟨w4.heap.size,4,none⟩) cW.o (.string s));have aO:=J (bg.o.setCell (p:=⟨w4.heap.size,4,none⟩) dN.o (.string s));have f5:=fY.o.frozen 4;obtain⟨y0,y1,y2,y3,y4⟩:=iQ.o.five;obtain⟨p0,p1,p2,p3,p4⟩:=Blk.five k6.o
 go_region_with (first|(refine(HW.o _).mono ?_;rintro e wz ⟨rfl,rfl⟩)|(refine(ec.o _).mono ?_;rintro e wz ⟨rfl,rfl⟩))
 all_goals go_wp2_with fail
 all_goals go_ret
 all_goals exact⟨rfl,aO.o.drew⟩
theorem K6(B g b:Nat)(w:World)(ns:List Nd)(nv:Value)(h:GrP B g b w ns nv)(K:Int)(hK:K=3\/K=4):
  Calls Tryz.prog 159 #[.pointer (some ⟨g,0,none⟩),.agg #[.int .i64 K,.int .i64 0,.int .i64 0,.int .i64 0,.string ⟨#[]⟩]] w fun e w'=>e= .returned (.bool true)/\Ext w w':=by
 obtain⟨A,c,rfl⟩:=h.row.shape;have HG:=J h.blk;clear h;have xh:Hid (K=1\/K=2\/K=3\/K=4):=J (by omega);have e1:(K == 1)=false:=beq_eq_false_iff_ne.2 (by omega);have e2:(K == 2)=false:=beq_eq_false_iff_ne.2 (by omega);have UA:(K == 10)=false:=beq_eq_false_iff_ne.2 (by omega);clear hK;have aM:=J (Blk.new w 50 #[.pointer (some ⟨g,0,none⟩)]);have ah:=J ((Ext.refl w).alloc (.cells #[.pointer (some ⟨g,0,none⟩)] 50));obtain⟨w1,aL⟩:∃w1,w1=w.alloc (.cells #[.pointer (some ⟨g,0,none⟩)] 50):=⟨_,rfl⟩;have eF:w1.heap.size=w.heap.size+1:=by rw[aL];simp
 rw[<-aL]at aM ah;have aP:=J (Blk.new w1 95 #[.int .i64 K,.int .i64 0,.int .i64 0,.int .i64 0,.string ⟨#[]⟩]);have aq:=J ((Ext.refl w1).alloc (.cells #[.int .i64 K,.int .i64 0,.int .i64 0,.int .i64 0,.string ⟨#[]⟩] 95));obtain⟨w2,aY⟩:∃w2,w2=w1.alloc (.cells #[.int .i64 K,.int .i64 0,.int .i64 0,.int .i64 0,.string ⟨#[]⟩] 95):=⟨_,rfl⟩;have gk:w2.heap.size=w.heap.size+2:=by rw[aY];simp[eF]
 rw[<-aY,eF]at aP;rw[<-aY]at aq;have HX:=J (ah.o.trans aq.o);have q0:=aP.o.five;go_enter Tryz.func159,Tryz.ntmps159;go_upto_region 1 with fail;rw[<-aL,<-aY];clear aL aY;go_wp2_with fail;refine(C2 w2 K 0 0 0 ⟨#[]⟩ xh.o).mono ?_
 rintro e w3 ⟨rfl,ae⟩;have aj:=J ae;have aD:=J (aP.o.ext ae);clear ae q0;have q0:=aD.o.five;go_wp2_with fail;refine(Tryz.slices_ContainsFunc_empty (α:=Int) none 0 _ w3).mono ?_
 rintro e w4 ⟨rfl,rfl⟩;have ik:w.heap.size+1<w4.heap.size:=by
  have h1:=aj.o.size;omega
 have cW:Hid (w.heap.size+1≠w4.heap.size):=J (by omega);have dN:Hid (w.heap.size<=w4.heap.size):=J (by omega);have hx5:=(Ext.refl w4).alloc (.cells #[.int .i64 K,.int .i64 0,.int .i64 0,.int .i64 0,.string ⟨#[]⟩] 95);have ef:=J (aD.o.ext hx5);have fY:=J (Blk.new w4 95 #[.int .i64 K,.int .i64 0,.int .i64 0,.int .i64 0,.string ⟨#[]⟩]);have bg:=J ((HX.o.trans aj.o).trans hx5);clear hx5 ik;obtain⟨y0,y1,y2,y3,y4⟩:=ef.o.five;obtain⟨p0,p1,p2,p3,p4⟩:=fY.o.five;obtain⟨w5,dQ⟩:∃w5,w5=w4.alloc (.cells #[.int .i64 K,.int .i64 0,.int .i64 0,.int .i64 0,.string ⟨#[]⟩] 95):=⟨_,rfl⟩;rw[<-dQ]at ef fY bg y0 y1 y2 y3 y4 p0 p1 p2 p3 p4;go_upto_region 5 with fail;rw[<-dQ];clear dQ q0;go_wp2_with fail;go_ret;exact⟨rfl,bg.o⟩
theorem Fk(B g b:Nat)(w:World)(ns:List Nd)(nv:Value)(h:GrP B g b w ns nv)(K:Int)(hK:K=5\/K=11\/K=12\/K=13\/K=14\/K=15\/K=16)(a:Int)(h0:0<=a)(h1:a<ns.length):
  Calls Tryz.prog 159 #[.pointer (some ⟨g,0,none⟩),.agg #[.int .i64 K,.int .i64 a,.int .i64 0,.int .i64 0,.string ⟨#[]⟩]] w fun e w'=>e= .returned (.bool true)/\Ext w w':=by
 obtain⟨A,c,rfl⟩:=h.row.shape;have HG:=J h.blk;clear h;have xh:Hid (K=5\/K=10\/K=11\/K=12\/K=13\/K=14\/K=15\/K=16):=J (by omega);have e1:(K == 1)=false:=beq_eq_false_iff_ne.2 (by omega);have e2:(K == 2)=false:=beq_eq_false_iff_ne.2 (by omega);have UA:(K == 10)=false:=beq_eq_false_iff_ne.2 (by omega);clear hK;have aM:=J (Blk.new w 50 #[.pointer (some ⟨g,0,none⟩)]);have ah:=J ((Ext.refl w).alloc (.cells #[.pointer (some ⟨g,0,none⟩)] 50));obtain⟨w1,aL⟩:∃w1,w1=w.alloc (.cells #[.pointer (some ⟨g,0,none⟩)] 50):=⟨_,rfl⟩;have eF:w1.heap.size=w.heap.size+1:=by rw[aL];simp
 rw[<-aL]at aM ah;have aP:=J (Blk.new w1 95 #[.int .i64 K,.int .i64 a,.int .i64 0,.int .i64 0,.string ⟨#[]⟩]);have aq:=J ((Ext.refl w1).alloc (.cells #[.int .i64 K,.int .i64 a,.int .i64 0,.int .i64 0,.string ⟨#[]⟩] 95));obtain⟨w2,aY⟩:∃w2,w2=w1.alloc (.cells #[.int .i64 K,.int .i64 a,.int .i64 0,.int .i64 0,.string ⟨#[]⟩] 95):=⟨_,rfl⟩;have gk:w2.heap.size=w.heap.size+2:=by rw[aY];simp[eF]
 rw[<-aY,eF]at aP;rw[<-aY]at aq;have HX:=J (ah.o.trans aq.o);have q0:=aP.o.five;go_enter Tryz.func159,Tryz.ntmps159;go_upto_region 1 with fail;rw[<-aL,<-aY];clear aL aY;go_wp2_with fail;refine(EI w2 K a 0 0 ⟨#[]⟩ xh.o).mono ?_
 rintro e w3 ⟨x3,rfl,hc0,_,Wh,ae⟩;have aj:=J ae;have aD:=J (aP.o.ext ae);have xz:=J (Fo w.heap.size g ns.length c x3 1 A [a] w3 ((ae.trans (Ext.refl _)).keep ((aM.o.ext aq.o).cell 0)) (((HX.o.trans ae).cell HG.o.lt).trans (HG.o.cell 0)) (fun j hj=>by
  match j,hj with
  |0,_=>exact hc0) (by simp))
 clear ae q0 hc0;have q0:=aD.o.five;go_wp2_with fail;refine xz.o.mono ?_
 rintro e VB ⟨rfl,y4,rfl⟩;have jU:[a].any (GL ns.length)=false:=by
  simp only[List.any_cons,List.any_nil,Bool.or_false,GL,Bool.or_eq_false_iff,decide_eq_false_iff_not];omega
 rw[jU];clear jU;have eJ:=J (aD.o.drewN y4);have aE:=J (aj.o.drewN y4);clear aj aD q0;generalize hw4:w3.drewN y4=w4 at *;clear hw4;have aj:=aE;have aD:=eJ;have q0:=aD.o.five;have ik:w.heap.size+1<w4.heap.size:=by
  have h1:=aj.o.size;omega
 have cW:Hid (w.heap.size+1≠w4.heap.size):=J (by omega);have dN:Hid (w.heap.size<=w4.heap.size):=J (by omega);have hx5:=(Ext.refl w4).alloc (.cells #[.int .i64 K,.int .i64 0,.int .i64 0,.int .i64 0,.string ⟨#[]⟩] 95);have ef:=J (aD.o.ext hx5);have fY:=J (Blk.new w4 95 #[.int .i64 K,.int .i64 0,.int .i64 0,.int .i64 0,.string ⟨#[]⟩]);have bg:=J ((HX.o.trans aj.o).trans hx5);clear hx5 ik;obtain⟨y0,y1,y2,y3,y4⟩:=ef.o.five;obtain⟨p0,p1,p2,p3,p4⟩:=fY.o.five;obtain⟨w5,dQ⟩:∃w5,w5=w4.alloc (.cells #[.int .i64 K,.int .i64 0,.int .i64 0,.int .i64 0,.string ⟨#[]⟩] 95):=⟨_,rfl⟩;rw[<-dQ]at ef fY bg y0 y1 y2 y3 y4 p0 p1 p2 p3 p4;go_upto_region 5 with fail;rw[<-dQ];clear dQ q0;have k6:=J (fY.o.set_ 1 (.int .i64 a));have iQ:=J (ef.o.far (p:=⟨w4.heap.size,1,none⟩) cW.o (.int .i64 a));have aO:=J (bg.o.setCell (p:=⟨w4.heap.size,1,none⟩) dN.o (.int .i64 a));have f5:=fY.o.frozen 1;obtain⟨y0,y1,y2,y3,y4⟩:=iQ.o.five;obtain⟨p0,p1,p2,p3,p4⟩:=Blk.five k6.o;go_wp2_with fail;go_ret;exact⟨rfl,aO.o⟩
theorem RQ(B g b:Nat)(w:World)(ns:List Nd)(nv:Value)(h:GrP B g b w ns nv)(a n:Int)(h0:0<=a)(h1:a<ns.length)(hn: -64<=n)(hn2:n<=64):
  Calls Tryz.prog 159 #[.pointer (some ⟨g,0,none⟩),.agg #[.int .i64 10,.int .i64 a,.int .i64 0,.int .i64 n,.string ⟨#[]⟩]] w fun e w'=>e= .returned (.bool true)/\Ext w w':=by
 obtain⟨A,c,rfl⟩:=h.row.shape;have HG:=J h.blk;clear h;have aM:=J (Blk.new w 50 #[.pointer (some ⟨g,0,none⟩)]);have ah:=J ((Ext.refl w).alloc (.cells #[.pointer (some ⟨g,0,none⟩)] 50));obtain⟨w1,aL⟩:∃w1,w1=w.alloc (.cells #[.pointer (some ⟨g,0,none⟩)] 50):=⟨_,rfl⟩;have eF:w1.heap.size=w.heap.size+1:=by rw[aL];simp
 rw[<-aL]at aM ah;have aP:=J (Blk.new w1 95 #[.int .i64 10,.int .i64 a,.int .i64 0,.int .i64 n,.string ⟨#[]⟩]);have aq:=J ((Ext.refl w1).alloc (.cells #[.int .i64 10,.int .i64 a,.int .i64 0,.int .i64 n,.string ⟨#[]⟩] 95));obtain⟨w2,aY⟩:∃w2,w2=w1.alloc (.cells #[.int .i64 10,.int .i64 a,.int .i64 0,.int .i64 n,.string ⟨#[]⟩] 95):=⟨_,rfl⟩;have gk:w2.heap.size=w.heap.size+2:=by rw[aY];simp[eF]
 rw[<-aY,eF]at aP;rw[<-aY]at aq;have HX:=J (ah.o.trans aq.o);have q0:=aP.o.five;go_enter Tryz.func159,Tryz.ntmps159;go_upto_region 1 with fail;rw[<-aL,<-aY];clear aL aY;go_wp2_with fail;refine(EI w2 10 a 0 n ⟨#[]⟩ (by decide)).mono ?_
 rintro e w3 ⟨x3,rfl,hc0,_,Wh,ae⟩;have aj:=J ae;have aD:=J (aP.o.ext ae);have xz:=J (Fo w.heap.size g ns.length c x3 1 A [a] w3 ((ae.trans (Ext.refl _)).keep ((aM.o.ext aq.o).cell 0)) (((HX.o.trans ae).cell HG.o.lt).trans (HG.o.cell 0)) (fun j hj=>by
  match j,hj with
  |0,_=>exact hc0) (by simp))
 clear ae q0 hc0;have q0:=aD.o.five;go_wp2_with fail;refine xz.o.mono ?_
 rintro e VB ⟨rfl,y4,rfl⟩;have jU:[a].any (GL ns.length)=false:=by
  simp only[List.any_cons,List.any_nil,Bool.or_false,GL,Bool.or_eq_false_iff,decide_eq_false_iff_not];omega
 rw[jU];clear jU;have eJ:=J (aD.o.drewN y4);have aE:=J (aj.o.drewN y4);clear aj aD q0;generalize hw4:w3.drewN y4=w4 at *;clear hw4;have aj:=aE;have aD:=eJ;have q0:=aD.o.five;have ik:w.heap.size+1<w4.heap.size:=by
  have h1:=aj.o.size;omega
 have cW:Hid (w.heap.size+1≠w4.heap.size):=J (by omega);have dN:Hid (w.heap.size<=w4.heap.size):=J (by omega);have hx5:=(Ext.refl w4).alloc (.cells #[.int .i64 10,.int .i64 0,.int .i64 0,.int .i64 0,.string ⟨#[]⟩] 95);have ef:=J (aD.o.ext hx5);have fY:=J (Blk.new w4 95 #[.int .i64 10,.int .i64 0,.int .i64 0,.int .i64 0,.string ⟨#[]⟩]);have bg:=J ((HX.o.trans aj.o).trans hx5);clear hx5 ik;obtain⟨y0,y1,y2,y3,y4⟩:=ef.o.five;obtain⟨p0,p1,p2,p3,p4⟩:=fY.o.five;obtain⟨w5,dQ⟩:∃w5,w5=w4.alloc (.cells #[.int .i64 10,.int .i64 0,.int .i64 0,.int .i64 0,.string ⟨#[]⟩] 95):=⟨_,rfl⟩;rw[<-dQ]at ef fY bg y0 y1 y2 y3 y4 p0 p1 p2 p3 p4;go_upto_region 5 with fail;rw[<-dQ];clear dQ q0;have k6:=J (fY.o.set_ 1 (.int .i64 a));have iQ:=J (ef.o.far (p:=⟨w4.heap.size,1,none⟩) cW.o (.int .i64 a));have aO:=J (bg.o.setCell (p:=⟨w4.heap.size,1,none⟩) dN.o (.int .i64 a));have f5:=fY.o.frozen 1;obtain⟨y0,y1,y2,y3,y4⟩:=iQ.o.five;obtain⟨p0,p1,p2,p3,p4⟩:=Blk.five k6.o;go_upto_region 16 with fail;have wW:=J (k6.o.set_ 3 (.int .i64 n));have fN:=J (iQ.o.far (p:=⟨w4.heap.size,3,none⟩) cW.o (.int .i64 n));have ay:=J (aO.o.setCell (p:=⟨w4.heap.size,3,none⟩) dN.o (.int .i64 n));have f6:=k6.o.frozen 3;obtain⟨y0,y1,y2,y3,y4⟩:=fN.o.five;obtain⟨p0,p1,p2,p3,p4⟩:=Blk.five wW.o;go_region
 all_goals go_wp2_with fail
 all_goals go_ret
 all_goals exact⟨rfl,ay.o.drew⟩
theorem Hb(B g b:Nat)(w:World)(ns:List Nd)(nv:Value)(h:GrP B g b w ns nv)(K:Int)(hK:K=6\/K=7\/K=8\/K=9)(a b':Int)(h0:0<=a)(h1:a<ns.length)(h2:0<=b')(h3:b'<ns.length):
  Calls Tryz.prog 159 #[.pointer (some ⟨g,0,none⟩),.agg #[.int .i64 K,.int .i64 a,.int .i64 b',.int .i64 0,.string ⟨#[]⟩]] w fun e w'=>e= .returned (.bool true)/\Ext w w':=by
 obtain⟨A,c,rfl⟩:=h.row.shape;have HG:=J h.blk;clear h;have xh:Hid (K=6\/K=7\/K=8\/K=9):=J (by omega);have e1:(K == 1)=false:=beq_eq_false_iff_ne.2 (by omega);have e2:(K == 2)=false:=beq_eq_false_iff_ne.2 (by omega);have UA:(K == 10)=false:=beq_eq_false_iff_ne.2 (by omega);clear hK;have aM:=J (Blk.new w 50 #[.pointer (some ⟨g,0,none⟩)]);have ah:=J ((Ext.refl w).alloc (.cells #[.pointer (some ⟨g,0,none⟩)] 50));obtain⟨w1,aL⟩:∃w1,w1=w.alloc (.cells #[.pointer (some ⟨g,0,none⟩)] 50):=⟨_,rfl⟩;have eF:w1.heap.size=w.heap.size+1:=by rw[aL];simp
 rw[<-aL]at aM ah;have aP:=J (Blk.new w1 95 #[.int .i64 K,.int .i64 a,.int .i64 b',.int .i64 0,.string ⟨#[]⟩]);have aq:=J ((Ext.refl w1).alloc (.cells #[.int .i64 K,.int .i64 a,.int .i64 b',.int .i64 0,.string ⟨#[]⟩] 95));obtain⟨w2,aY⟩:∃w2,w2=w1.alloc (.cells #[.int .i64 K,.int .i64 a,.int .i64 b',.int .i64 0,.string ⟨#[]⟩] 95):=⟨_,rfl⟩;have gk:w2.heap.size=w.heap.size+2:=by rw[aY];simp[eF]
 rw[<-aY,eF]at aP;rw[<-aY]at aq;have HX:=J (ah.o.trans aq.o);have q0:=aP.o.five;go_enter Tryz.func159,Tryz.ntmps159;go_upto_region 1 with fail;rw[<-aL,<-aY];clear aL aY;go_wp2_with fail;refine(Fi w2 K a b' 0 ⟨#[]⟩ xh.o).mono ?_
 rintro e w3 ⟨x3,rfl,hc0,hc1,_,Wh,ae⟩;have aj:=J ae;have aD:=J (aP.o.ext ae);have xz:=J (Fo w.heap.size g ns.length c x3 2 A [a,b'] w3 ((ae.trans (Ext.refl _)).keep ((aM.o.ext aq.o).cell 0)) (((HX.o.trans ae).cell HG.o.lt).trans (HG.o.cell 0)) (fun j hj=>by
  match j,hj with
  |0,_=>exact hc0
  |1,_=>exact hc1) (by simp))
 clear ae q0 hc0 hc1;have q0:=aD.o.five;go_wp2_with fail;refine xz.o.mono ?_
 rintro e VB ⟨rfl,y4,rfl⟩;have jU:[a,b'].any (GL ns.length)=false:=by
  simp only[List.any_cons,List.any_nil,Bool.or_false,GL,Bool.or_eq_false_iff,decide_eq_false_iff_not];omega
 rw[jU];clear jU;have eJ:=J (aD.o.drewN y4);have aE:=J (aj.o.drewN y4);clear aj aD q0;generalize hw4:w3.drewN y4=w4 at *;clear hw4;have aj:=aE;have aD:=eJ;have q0:=aD.o.five;have ik:w.heap.size+1<w4.heap.size:=by
  have h1:=aj.o.size;omega
 have cW:Hid (w.heap.size+1≠w4.heap.size):=J (by omega);have dN:Hid (w.heap.size<=w4.heap.size):=J (by omega);have hx5:=(Ext.refl w4).alloc (.cells #[.int .i64 K,.int .i64 0,.int .i64 0,.int .i64 0,.string ⟨#[]⟩] 95);have ef:=J (aD.o.ext hx5);have fY:=J (Blk.new w4 95 #[.int .i64 K,.int .i64 0,.int .i64 0,.int .i64 0,.string ⟨#[]⟩]);have bg:=J ((HX.o.trans aj.o).trans hx5);clear hx5 ik;obtain⟨y0,y1,y2,y3,y4⟩:=ef.o.five;obtain⟨p0,p1,p2,p3,p4⟩:=fY.o.five;obtain⟨w5,dQ⟩:∃w5,w5=w4.alloc (.cells #[.int .i64 K,.int .i64 0,.int .i64 0,.int .i64 0,.string ⟨#[]⟩] 95):=⟨_,rfl⟩;rw[<-dQ]at ef fY bg y0 y1 y2 y3 y4 p0 p1 p2 p3 p4;go_upto_region 5 with fail;rw[<-dQ];clear dQ q0;have k6:=J (fY.o.set_ 1 (.int .i64 a));have iQ:=J (ef.o.far (p:=⟨w4.heap.size,1,none⟩) cW.o (.int .i64 a));have aO:=J (bg.o.setCell (p:=⟨w4.heap.size,1,none⟩) dN.o (.int .i64 a));have f5:=fY.o.frozen 1;obtain⟨y0,y1,y2,y3,y4⟩:=iQ.o.five;obtain⟨p0,p1,p2,p3,p4⟩:=Blk.five k6.o;have wW:=J (k6.o.set_ 2 (.int .i64 b'));have fN:=J (iQ.o.far (p:=⟨w4.heap.size,2,none⟩) cW.o (.int .i64 b'));have ay:=J (aO.o.setCell (p:=⟨w4.heap.size,2,none⟩) dN.o (.int .i64 b'));have f6:=k6.o.frozen 2;obtain⟨y0,y1,y2,y3,y4⟩:=fN.o.five;obtain⟨p0,p1,p2,p3,p4⟩:=Blk.five wW.o;go_wp2_with fail;go_ret;exact⟨rfl,ay.o⟩
open Go.RowKit Go.ChangeMaps
theorem H4(B g b:Nat)(w:World)(ns:List Nd)(nv:Value)(h:GrP B g b w ns nv)(x:Nd)(hx:CP ns.length x)(hm:BC w):
  Calls Tryz.prog 159 #[.pointer (some ⟨g,0,none⟩),ndV x] w fun e w'=>e= .returned (.bool true)/\Ext w w':=by
 have hE:(.string ⟨#[]⟩:Value)=str []:=rfl;rcases hx with ⟨k,t,rfl,⟨rfl,h1,_⟩|⟨rfl,h1⟩|⟨rfl|rfl,rfl⟩⟩|⟨k,n,j,rfl,⟨h1,h2,h3,h4⟩,hj⟩|⟨k,j,q,rfl,hk,hj,hq⟩
 ·exact Oo B g b w ns nv h t h1 hm
 ·exact Qp B g b w ns nv h t h1
 ·exact K6 B g b w ns nv h _ (.inl rfl)
 ·exact K6 B g b w ns nv h _ (.inr rfl)
 ·have hk:k=5\/k=10\/k=11\/k=12\/k=13\/k=14\/k=15\/k=16:=by omega
  have j0:(0:Int)<=(j:Int):=by omega
  have j1:(j:Int)<(ns.length:Int):=by omega
  rcases hk with rfl|rfl|rfl|rfl|rfl|rfl|rfl|rfl
  ·rw[h2 (by decide)];exact Fk B g b w ns nv h _ (by simp only;omega) j j0 j1
  ·exact RQ B g b w ns nv h j n j0 j1 h3 h4
  ·rw[h2 (by decide)];exact Fk B g b w ns nv h _ (by simp only;omega) j j0 j1
  ·rw[h2 (by decide)];exact Fk B g b w ns nv h _ (by simp only;omega) j j0 j1
  ·rw[h2 (by decide)];exact Fk B g b w ns nv h _ (by simp only;omega) j j0 j1
  ·rw[h2 (by decide)];exact Fk B g b w ns nv h _ (by simp only;omega) j j0 j1
  ·rw[h2 (by decide)];exact Fk B g b w ns nv h _ (by simp only;omega) j j0 j1
  ·rw[h2 (by decide)];exact Fk B g b w ns nv h _ (by simp only;omega) j j0 j1
 ·have hk:k=6\/k=7\/k=8\/k=9:=by omega
  have j0:(0:Int)<=(j:Int):=by omega
  have j1:(j:Int)<(ns.length:Int):=by omega
  have q0:(0:Int)<=(q:Int):=by omega
  have q1:(q:Int)<(ns.length:Int):=by omega
  rcases hk with rfl|rfl|rfl|rfl
  ·exact Hb B g b w ns nv h _ (by simp only;omega) j q j0 j1 q0 q1
  ·exact Hb B g b w ns nv h _ (by simp only;omega) j q j0 j1 q0 q1
  ·exact Hb B g b w ns nv h _ (by simp only;omega) j q j0 j1 q0 q1
  ·exact Hb B g b w ns nv h _ (by simp only;omega) j q j0 j1 q0 q1
theorem AU{w w':World}{B:Nat}{t:TypeId}{m:Nat}{v:Value}{n:Nat}{xs:List Value}(h:w.ownsRow B t m v n xs)(hk:∀k,v.ownBlock=some k->w'.heap[k]? =w.heap[k]?):w'.ownsRow B t m v n xs:=
 ⟨h.1,h.2.imp id (fun ⟨q,cap,cur,hv,hq,hh,r⟩=>⟨q,cap,cur,hv,hq,(hk q (by rw[hv];rfl)).trans hh,r⟩)⟩
theorem Ax{w:World}{B:Nat}{t:TypeId}{m:Nat}{v:Value}{n:Nat}{xs:List Value}(h:w.ownsRow B t m v n xs){k:Nat}(hk:v.ownBlock=some k):k<w.heap.size:=by
 rcases h.2 with ⟨rfl,_⟩|⟨q,cap,cur,rfl,_,hh,_⟩
 ·cases hk
 ·simp only[Value.ownBlock,Option.some.injEq]at hk;subst hk;exact(Array.getElem?_eq_some_iff.1 hh).1
def Hn(B g b:Nat)(ns:List Nd)(nv:Value)(x:Nd)(w:World)(e:Ending)(w':World):Prop:=
 ∃nv',e= .returned (.tuple #[.int .i64 ((AN ns x).1:Int),.int .i64 0])/\KG g b nv nv' w w'/\GrP B g b w' (AN ns x).2 nv'
theorem OS(B g b:Nat)(w:World)(ns:List Nd)(nv:Value)(h:GrP B g b w ns nv)(x:Nd)(hx:CP ns.length x)(hm:BC w)(hin:x∈ns):
  Calls Tryz.prog 104 #[.pointer (some ⟨g,0,none⟩),ndV x] w (Hn B g b ns nv x w):=by
 have dn:=J (fun W h=>H4 B g b W ns nv h x hx);have HM:=J hm;have HG:=J h;have hfew:=h.few;have pJ:F3 x:=hx.key (by omega);have gI:=J (fun W (h:GrP B g b W ns nv)=>h.map.look (h.ok.keys (by omega)) h.ok.1 x pJ (t:=78) Tryz.underlying78);have dS:(AN ns x).1=Cq x ns:=by unfold AN;rw[if_pos hin]
 have dp:(AN ns x).2=ns:=by unfold AN;rw[if_pos hin]
 have qA:Fh x ns=(Cq x ns:Int):=by unfold Fh;rw[if_pos hin]
 rw[qA,decide_eq_true hin]at gI;have jZ:=J dS;have k7:=J dp;clear dS dp qA hin pJ hfew hm hx;obtain⟨A,c,rfl⟩:=h.row.shape;clear h;obtain⟨k,a,d,n,t⟩:=x;simp only[ndV]at dn gI ⊢;obtain⟨s,hs⟩:∃s:ByteArray,s=⟨t.toArray⟩:=⟨_,rfl⟩;have ai:str t= .string s:=by rw[hs];rfl
 rw[ai]at dn gI ⊢;clear hs ai;have aM:=J (Blk.new w 95 #[.int .i64 k,.int .i64 a,.int .i64 d,.int .i64 n,.string s]);have ah:=J ((Ext.refl w).alloc (.cells #[.int .i64 k,.int .i64 a,.int .i64 d,.int .i64 n,.string s] 95));obtain⟨w1,aL⟩:∃w1,w1=w.alloc (.cells #[.int .i64 k,.int .i64 a,.int .i64 d,.int .i64 n,.string s] 95):=⟨_,rfl⟩;rw[<-aL]at aM ah;have q0:=aM.o.five;go_enter Tryz.func104,Tryz.ntmps104;go_upto_region 1 with fail;rw[<-aL];clear aL;go_wp2_with fail;refine(dn.o w1 (HG.o.keep ah.o) (HM.o.ext ah.o)).mono ?_
 rintro e w2 ⟨rfl,au⟩;have aq:=J (ah.o.trans au);have dE:=J (HG.o.keep aq.o);have aP:=J (aM.o.ext au);clear q0 au;have q0:=aP.o.five;have k0:=dE.o.blk.twoG;have kv:=gI.o w2 dE.o;have rV:=gI.o w2.drew (dE.o.keep (Ext.refl w2).drew);go_wp2_with fail;go_region;go_wp2_with fail;go_ret2;have ae:=aq.o.drew;refine⟨_,by rw[jZ.o];rfl,KG.of_ext ae,?_⟩;rw[k7.o];exact HG.o.keep ae
theorem OT(B g b:Nat)(w:World)(ns:List Nd)(nv:Value)(h:GrP B g b w ns nv)(x:Nd)(hx:CP ns.length x)(hm:BC w)(hin:x∉ns)(a5:ns.length<4096):
  Calls Tryz.prog 104 #[.pointer (some ⟨g,0,none⟩),ndV x] w (Hn B g b ns nv x w):=by
 have dn:=J (fun W h=>H4 B g b W ns nv h x hx);have HM:=J hm;have HG:=J h;have pJ:F3 x:=hx.key (by omega);have gI:=J (fun W (h:GrP B g b W ns nv)=>h.map.look (h.ok.keys (by omega)) h.ok.1 x pJ (t:=78) Tryz.underlying78);have aF:=J (fun W (h:DA W b ns)=>h.store (HG.o.ok.keys (by omega)) x pJ hin (t:=78) Tryz.underlying78);have dS:(AN ns x).1=ns.length:=by unfold AN;rw[if_neg hin]
 have dp:(AN ns x).2=ns++[x]:=by unfold AN;rw[if_neg hin]
 have qA:Fh x ns=0:=by unfold Fh;rw[if_neg hin]
 rw[qA,decide_eq_false hin]at gI;have cD:Hid (Aw (ns++[x])):=J (by rw[<-dp];exact h.ok.put hx);have jZ:=J dS;have k7:=J dp;clear dS dp qA hin pJ hm hx;have lC:=h.lo;have rT:=h.lo2;have cw:=h.apart3;have Xn:=J h.apart;have nh:=J h.apart2;have zG:=h.lt;have YY:=h.map.lt;obtain⟨A,c,rfl⟩:=h.row.shape;clear h;obtain⟨i0,hi,aU,hz1,a9⟩:=info_parts Dj;obtain⟨k,a,d,n,t⟩:=x;simp only[ndV]at dn gI aF ⊢;obtain⟨s,hs⟩:∃s:ByteArray,s=⟨t.toArray⟩:=⟨_,rfl⟩;have p9:Hid (ndC ⟨k,a,d,n,t⟩=[.int .i64 k,.int .i64 a,.int .i64 d,.int .i64 n,.string s]):=J (by rw[hs];rfl);have ai:str t= .string s:=by rw[hs];rfl
 rw[ai]at dn gI aF ⊢;clear hs ai;have aM:=J (Blk.new w 95 #[.int .i64 k,.int .i64 a,.int .i64 d,.int .i64 n,.string s]);have ah:=J ((Ext.refl w).alloc (.cells #[.int .i64 k,.int .i64 a,.int .i64 d,.int .i64 n,.string s] 95));obtain⟨w1,aL⟩:∃w1,w1=w.alloc (.cells #[.int .i64 k,.int .i64 a,.int .i64 d,.int .i64 n,.string s] 95):=⟨_,rfl⟩;have eF:w1.heap.size=w.heap.size+1:=by rw[aL];simp
 rw[<-aL]at aM ah;have q0:=aM.o.five;have oc:decide ((ns.length:Int)>=4096)=false:=decide_eq_false (by omega);have Wt:decide (4096<=(ns.length:Int))=false:=decide_eq_false (by omega);go_enter Tryz.func104,Tryz.ntmps104;go_upto_region 1 with fail;rw[<-aL];clear aL;go_wp2_with fail;refine(dn.o w1 (HG.o.keep ah.o) (HM.o.ext ah.o)).mono ?_
 rintro e w2 ⟨rfl,au⟩;have aq:=J (ah.o.trans au);have dE:=J (HG.o.keep aq.o);have aP:=J (aM.o.ext au);have gk:w.heap.size<w2.heap.size:=by have:=au.size;omega
 clear q0 au;have q0:=aP.o.five;obtain⟨k0,k1,f0,f1,fA⟩:=dE.o.blk.twoG;have kv:=gI.o w2 dE.o;have rV:=gI.o w2.drew (dE.o.keep (Ext.refl w2).drew);go_wp2_with fail;go_region;go_upto_region 9 with fail;obtain⟨wA,uw⟩:∃wA,wA=w2.drew:=⟨_,rfl⟩;have yM:Ext w wA:=by rw[uw];exact aq.o.drew
 have VS:w.heap.size<wA.heap.size:=by rw[uw];exact gk
 have ax:=J yM;have oN:=J (HG.o.keep yM);have Ww:Blk wA w.heap.size 95 #[.int .i64 k,.int .i64 a,.int .i64 d,.int .i64 n,.string s]:=by rw[uw];exact aP.o.drew
 have yl:=J Ww;rw[<-uw];clear uw yM Ww kv rV q0 k0 k1 f0 f1 fA;have q0:=yl.o.five;obtain⟨k0,k1,f0,f1,fA⟩:=oN.o.blk.twoG;have jo:Hid (∀w':World,(wA.alloc (.cells #[.int .i64 k,.int .i64 a,.int .i64 d,.int .i64 n,.string s] 95)).drew.grownBy w' (Value.slice A ns.length c).ownBlock->Blk w' g 80 #[.slice A ns.length c,.map (some b)]/\DA w' b ns/\Blk w' w.heap.size 95 #[.int .i64 k,.int .i64 a,.int .i64 d,.int .i64 n,.string s]/\wA.grownBy w' (Value.slice A ns.length c).ownBlock):=J (fun w' al=>by
  have kQ:wA.grownBy w' (Value.slice A ns.length c).ownBlock:=by
   refine⟨al.os,al.tape,al.output,?_,fun i h1 h2=> ?_⟩
   ·have:=al.size;simp only[World.size_drew,World.size_alloc]at this;omega
   ·exact(al.block i (by simp only[World.size_drew,World.size_alloc];omega) h2).trans (Below.heap_alloc wA _ i h1)
  have Y2:some w.heap.size≠(Value.slice A ns.length c).ownBlock:=fun e=>by
   have h1:=oN.o.row;unfold Ak at h1;rcases(HG.o.row).2 with ⟨h2,_⟩|⟨q,cap,cur,h2,_,hh,_⟩
   ·rw[h2]at e;cases e
   ·rw[h2]at e;simp only[Value.ownBlock,Option.some.injEq]at e;have:=(Array.getElem?_eq_some_iff.1 hh).1;omega
  exact⟨(kQ.block g fA (fun e=>nh.o e.symm)).trans oN.o.blk,oN.o.map.kept (kQ.block b oN.o.map.lt (fun e=>Xn.o e.symm)),(kQ.block w.heap.size VS Y2).trans yl.o,kQ⟩)
 have dW:Hid (∀(j:Nat) (u:Value),[.int .i64 k,.int .i64 a,.int .i64 d,.int .i64 n,.string s][j]? =some u->(wA.alloc (.cells #[.int .i64 k,.int .i64 a,.int .i64 d,.int .i64 n,.string s] 95)).drew.cell? ((⟨wA.heap.size,0,none⟩:Addr).add j)=some u):=J (fun j u hj=>by
  have h1:=(Blk.new wA 95 #[.int .i64 k,.int .i64 a,.int .i64 d,.int .i64 n,.string s]).drew.cell j;have h2:(⟨wA.heap.size,0,none⟩:Addr).add j=⟨wA.heap.size,j,none⟩:=by
   unfold Addr.add;split
   ·rename_i h;subst h;rfl
   ·simp
  rw[h2,h1,<-hj];simp)
 have cZ:Hid ((wA.alloc (.cells #[.int .i64 k,.int .i64 a,.int .i64 d,.int .i64 n,.string s] 95)).drew.ownsRow B 95 5 (.slice A ns.length c) ns.length (Bm ns)):=J (Ad oN.o.row (fun k _ hk=>Below.heap_alloc wA _ k hk));have gH:Hid (ns.length+1<=maxLen):=J (by unfold maxLen;omega);have dM:Hid ((ns.length+1)*48<=140737488355328):=J (by omega);have sW:Hid (B<=(wA.alloc (.cells #[.int .i64 k,.int .i64 a,.int .i64 d,.int .i64 n,.string s] 95)).drew.heap.size):=J (by simp only[World.size_drew,World.size_alloc];omega)
 go_region_law (refine step_append_lies _ rfl (.tmp 39) (.tmp 41) 77 rfl B 95 i0 _ 5 48 Tryz.underlying77 hi aU hz1 a9 rfl (by decide) _ ns.length (Bm ns) rfl cZ.o ⟨wA.heap.size,0,none⟩ 1 1 [.int .i64 k,.int .i64 a,.int .i64 d,.int .i64 n,.string s] rfl rfl dW.o (by simp[Value.oneCell']) (by decide) gH.o dM.o sW.o _ rfl ?_;intro g' c' w' ag al hat hlt;have gF:=J ag;have cS:=J (jo.o w' al);have jz:=J hat;clear ag al hat;have m0:=cS.o.1.twoG)
 all_goals
  have zl:g'≠g:=by
   rcases jz.o with h4|h4
   ·exact fun e=>nh.o (h4.trans (congrArg some e))
   ·simp only[World.size_drew,World.size_alloc]at h4;omega
  have hne2:g'≠b:=by
   rcases jz.o with h4|h4
   ·exact fun e=>Xn.o (h4.trans (congrArg some e))
   ·have:=oN.o.map.lt;simp only[World.size_drew,World.size_alloc]at h4;omega
  have eC:=cS.o.1.set_ 0 (.slice (some ⟨g',0,none⟩) (ns.length+1) c');have hN:DA (w'.setCell ⟨g,0,none⟩ (.slice (some ⟨g',0,none⟩) (ns.length+1) c')) b ns:=cS.o.2.1.kept (Below.heap_setCell _ _ _ b (fun e=>cw e.symm));have ol:=cS.o.2.2.1.far (p:=⟨g,0,none⟩) (by show w.heap.size≠g;omega) (.slice (some ⟨g',0,none⟩) (ns.length+1) c');have aH:=AU (w':=w'.setCell ⟨g,0,none⟩ (.slice (some ⟨g',0,none⟩) (ns.length+1) c')) gF.o (fun k hk=>Below.heap_setCell _ _ _ k (by
   simp only[Value.ownBlock,Option.some.injEq]at hk;show k≠g;omega))
  have fh:∀k,k<w.heap.size->k≠g->(Value.slice A ns.length c).ownBlock≠some k->(w'.setCell ⟨g,0,none⟩ (.slice (some ⟨g',0,none⟩) (ns.length+1) c')).heap[k]? =w.heap[k]? :=fun k h1 h2 h3=>
   (Below.heap_setCell _ _ _ k h2).trans ((cS.o.2.2.2.block k (by omega) (fun e=>h3 e.symm)).trans (ax.o.block k h1))
  have uS:(w'.setCell ⟨g,0,none⟩ (.slice (some ⟨g',0,none⟩) (ns.length+1) c')).os=w.os/\(w'.setCell ⟨g,0,none⟩ (.slice (some ⟨g',0,none⟩) (ns.length+1) c')).tape=w.tape/\(w'.setCell ⟨g,0,none⟩ (.slice (some ⟨g',0,none⟩) (ns.length+1) c')).output=w.output/\wA.heap.size<=(w'.setCell ⟨g,0,none⟩ (.slice (some ⟨g',0,none⟩) (ns.length+1) c')).heap.size:=by
   have h2:=Below.setCell (Below.refl g w') (p:=⟨g,0,none⟩) (Nat.le_refl _) (.slice (some ⟨g',0,none⟩) (ns.length+1) c');have h4:=cS.o.2.2.2;exact⟨h2.os.trans (h4.os.trans ax.o.os),h2.tape.trans (h4.tape.trans ax.o.tape),h2.output.trans (h4.output.trans ax.o.output),Nat.le_trans h4.size h2.size⟩
  generalize (w'.setCell ⟨g,0,none⟩ (.slice (some ⟨g',0,none⟩) (ns.length+1) c'))=wB at *;have qj:=J eC;have ee:=J aH;have ki:=J fh;have j6:=J uS;clear q0 k0 k1 f0 f1 m0 aH fh uS;have q0:=ol.five;obtain⟨k0,k1,f0,f1,zF⟩:=Blk.twoG eC;obtain⟨wC,aV,Wb,o4⟩:=aF.o wB.drew hN;have Z3:=J Wb;have HGC:=J o4;have bD:=J hN;clear eC hN ol Wb o4;go_wp2_with fail;go_region;go_wp2_with fail;go_ret2;have o4:=HGC.o;have hzC:wB.heap.size<=wC.heap.size:=o4.size;have XC:=j6.o.2.2.2;refine⟨(.slice (some ⟨g',0,none⟩) (ns.length+1) c'),by rw[jZ.o];rfl,⟨o4.os.trans j6.o.1,o4.tape.trans j6.o.2.1,o4.output.trans j6.o.2.2.1,by omega,fun k h1 h2 h3 h4=> ?_,fun j hj=> ?_⟩,?_⟩
  ·exact(o4.block k (show k<wB.heap.size by omega) (fun e=>h3 (Option.some.inj e))).trans (ki.o k h1 h2 h4)
  ·have h5:g'=j:=Option.some.inj hj;rcases jz.o with h4|h4
   ·exact .inl (h4.trans (congrArg some h5))
   ·simp only[World.size_drew,World.size_alloc]at h4;exact .inr (by omega)
  ·rw[k7.o];refine⟨(o4.block g (show g<wB.heap.size by omega) (fun e=>cw (Option.some.inj e))).trans qj.o,?_,Z3.o,lC,rT,cD.o,by simp only[List.length_append,List.length_singleton];omega,HG.o.low⟩;unfold Ak;rw[Cz,EY,p9.o,List.length_append,List.length_singleton];refine AU ee.o (fun k hk=>o4.block k (Ax ee.o hk) (fun e=> ?_));have h5:g'=k:=Option.some.inj hk;have h6:k=b:=Option.some.inj e;exact hne2 (h5.trans h6)
theorem JQ(B g b:Nat)(w:World)(ns:List Nd)(nv:Value)(h:GrP B g b w ns nv)(x:Nd)(hx:CP ns.length x)(hm:BC w)(a5:ns.length<4096):
  Calls Tryz.prog 104 #[.pointer (some ⟨g,0,none⟩),ndV x] w (Hn B g b ns nv x w):=by
 by_cases hin:x∈ns
 ·exact OS B g b w ns nv h x hx hm hin
 ·exact OT B g b w ns nv h x hx hm hin a5
def CY(l:List Nat):Array Value:=(l.map din).toArray
theorem Nw(l:List Nat)(i x:Nat):(CY l).setIfInBounds i (.int .i64 (x:Int))=CY (l.set i x):=by
 apply Array.ext';simp[CY,List.map_set,din]
theorem GM(l:List Nat)(i:Nat)(h:i<l.length):(CY l)[i]? =some (.int .i64 ((l.getD i 0:Nat):Int)):=by
 unfold CY;rw[List.getElem?_toArray,Iz h,List.getD_eq_getElem?_getD,List.getElem?_eq_getElem h];rfl
theorem PD(n:Nat)(hn:n<=1000000)(W:World):(Instr.makeSlice 41 (.int .i64 (n:Int)) (.int .i64 (n:Int))).run Tryz.prog W=
  .ok (.slice (some ⟨W.heap.size,0,none⟩) n n) (W.alloc (.cells (CY (List.replicate n 0)) 3)):=by
 obtain⟨i0,hi,aU,hz1,a9⟩:=info_parts G8;have hr:=run_make (P:=Tryz.prog) W 41 3 i0 _ Tryz.underlying41 hi aU .i64 .i64 (n:Int) (n:Int) (by omega) (Int.le_refl _) (by rw[a9];omega) (by omega);have hm:madeCells (Value.cells (.int .i64 0)) (n*1)=CY (List.replicate n 0):=by
  apply Array.ext';apply List.ext_getElem?;intro i;simp only[madeCells,CY,Value.cells];rw[Array.getElem?_toList,Array.getElem?_map,List.getElem?_map,List.getElem?_replicate];rcases Nat.lt_or_ge i n with h|h
  ·rw[Array.getElem?_range,if_pos (by omega),if_pos h];simp[din,Nat.mod_one]
  ·rw[Array.getElem?_range,if_neg (by omega),if_neg (by omega)];rfl
 rw[hz1,Int.toNat_natCast,hm]at hr;exact hr
def Cg(g b:Nat)(nv:Value)(w:World)(v:Value)(l:List Nd):Prop:=
 ∃A c,v= .slice A l.length c/\(0<l.length->∃q o,A=some ⟨q,o,none⟩/\q<w.heap.size/\q≠g/\q≠b/\nv.ownBlock≠some q/\∀i (hi:i<l.length),OM w q (o+i*5) l[i])
theorem Cg.read{g b:Nat}{nv:Value}{w:World}{v:Value}{l:List Nd}(h:Cg g b nv w v l):RNd w v l:=by
 obtain⟨A,c,rfl,h1⟩:=h;refine⟨A,c,rfl,fun hp=> ?_⟩;obtain⟨q,o,rfl,hq,_,_,_,hc⟩:=h1 hp;exact⟨q,o,rfl,hq,hc⟩
theorem Cg.keep{g b:Nat}{nv nv':Value}{w w':World}{v:Value}{l:List Nd}(h:Cg g b nv w v l)(hk:KG g b nv nv' w w'):Cg g b nv' w' v l:=by
 obtain⟨A,c,rfl,h1⟩:=h;refine⟨A,c,rfl,fun hp=> ?_⟩;obtain⟨q,o,rfl,hq,h2,h3,h4,hc⟩:=h1 hp;have hb:=hk.block q hq h2 h3 h4;have hk2:∀o,w'.cell? ⟨q,o,none⟩=w.cell? ⟨q,o,none⟩:=fun o=>World.cell?_of_block (a:=⟨q,o,none⟩) hb
 refine⟨q,o,rfl,Nat.lt_of_lt_of_le hq hk.size,h2,h3,fun e=> ?_,fun i hi=> ?_⟩
 ·rcases hk.move q e with h5|h5
  ·exact h4 h5
  ·omega
 ·obtain⟨q0,q1,q2,q3,q4⟩:=hc i hi;exact⟨(hk2 _).trans q0,(hk2 _).trans q1,(hk2 _).trans q2,(hk2 _).trans q3,(hk2 _).trans q4⟩
theorem Cg.old{g b:Nat}{nv:Value}{w0 w:World}{v:Value}{l:List Nd}(h:RNd w0 v l)(hx:Ext w0 w)(hg:w0.heap.size<=g)(hb:w0.heap.size<=b)(hr:∀j,nv.ownBlock=some j->w0.heap.size<=j):Cg g b nv w v l:=by
 obtain⟨A,c,rfl,h1⟩:=h;refine⟨A,c,rfl,fun hp=> ?_⟩;obtain⟨q,o,rfl,hq,hc⟩:=h1 hp;exact⟨q,o,rfl,Nat.lt_of_lt_of_le hq hx.size,by omega,by omega,fun e=>by have:=hr q e;omega,fun i hi=>(hc i hi).ext hx hq⟩
theorem Cg.new{B g b:Nat}{nv:Value}{w0 w:World}{v:Value}{l ns:List Nd}(h:Ak w0.heap.size w v l)(hg:GrP B g b w0 ns nv):Cg g b nv w v l:=by
 obtain⟨A,c,hv,h1⟩:=h.read;refine⟨A,c,hv,fun hp=> ?_⟩;obtain⟨q,o,rfl,hq,hc⟩:=h1 hp;have dU:=AC h q (by rw[hv];rfl);have h2:=hg.lt;have h3:=hg.map.lt;exact⟨q,o,rfl,hq,by omega,by omega,fun e=>by have:=Ax hg.row e;omega,hc⟩
theorem Cg.none{B g b:Nat}{w:World}{v:Value}{l ns:List Nd}(h:RNd w v l)(hg:GrP B g b w ns (.slice none 0 0)):Cg g b (.slice none 0 0) w v l:=by
 obtain⟨A,c,rfl,h1⟩:=h;refine⟨A,c,rfl,fun hp=> ?_⟩;obtain⟨q,o,rfl,hq,hc⟩:=h1 hp;have h0:=(hc 0 hp).1;refine⟨q,o,rfl,hq,?_,?_,fun e=>(by cases e),hc⟩
 ·rintro rfl;rw[hg.blk.cell]at h0;rcases o with _|_|o
  ·cases h0
  ·cases h0
  ·simp at h0
 ·rintro rfl;obtain⟨es,clock,hb,_⟩:=hg.map;simp[World.cell?,hb]at h0
def GQ(B g b m:Nat)(ns:List Nd)(nv:Value)(e:Ex)(v:Value)(w:World)(i:Nat)(wr:World):Prop:=
 ∃nv',KG g b nv nv' w wr/\GrP B g b wr (BD ([],ns) ((Ag 0 e).take i)).2 nv'/\Blk wr m 3 (CY ((BD ([],ns) ((Ag 0 e).take i)).1++List.replicate (e.size-i) 0))/\Cg g b nv' wr v (Ag 0 e)/\
  m≠g/\m≠b/\nv'.ownBlock≠some m/\w.heap.size<=m/\BC wr/\v.ownBlock≠some m
theorem GQ.start{B g b:Nat}{ns:List Nd}{nv:Value}{e:Ex}{v:Value}{w w1:World}(h:GrP B g b w ns nv)(hv:Cg g b nv w v (Ag 0 e))(hx:Ext w w1)(hm:BC w):
  GQ B g b w1.heap.size ns nv e v w 0 (w1.alloc (.cells (CY (List.replicate e.size 0)) 3)):=by
 have au:=hx.alloc (.cells (CY (List.replicate e.size 0)) 3);have hg:=h.lt;have hb:=h.map.lt;have hs:=hx.size;refine⟨nv,KG.of_ext au,?_,?_,hv.keep (KG.of_ext au),by omega,by omega,fun e=> ?_,hs,hm.ext au,?_⟩
 ·rw[List.take_zero];exact h.keep au
 ·rw[List.take_zero];show Blk _ _ _ (CY ([]++List.replicate (e.size-0) 0));rw[List.nil_append,Nat.sub_zero];exact Blk.new _ _ _
 ·have:=Ax h.row e;omega
 ·obtain⟨A,c,rfl,h1⟩:=hv;obtain⟨q,o,rfl,hq,_⟩:=h1 (by rw[AF];exact e.size_pos);intro he;have h2:q=w1.heap.size:=Option.some.inj he;omega
theorem GQ.next {B g b m:Nat} {ns:List Nd} {nv aZ nv2:Value} {e:Ex} {v:Value} {w wr w1 w2:World} {i:Nat} (hg:e.Good) (hs:Aw ns) (hi:i<e.size) (hl:i<(Ag 0 e).length)
  (h1:KG g b nv aZ w wr) (h4:Cg g b aZ wr v (Ag 0 e)) (hb:Blk wr m 3 (CY ((BD ([],ns) ((Ag 0 e).take i)).1++List.replicate (e.size-i) 0)))
  (m1:m≠g) (m2:m≠b) (m3:aZ.ownBlock≠some m) (m4:w.heap.size<=m) (m5:v.ownBlock≠some m) (hm:BC wr) (hx:Ext wr w1) (hk:KG g b aZ nv2 w1 w2)
  (hB:B<=w.heap.size) (hp:GrP B g b w2 (AN (BD ([],ns) ((Ag 0 e).take i)).2 (BX (BD ([],ns) ((Ag 0 e).take i)).1 (Ag 0 e)[i])).2 nv2) (hp0:GrP B g b w1 (BD ([],ns) ((Ag 0 e).take i)).2 aZ):
  GQ B g b m ns nv e v w (i+1) (w2.setCell ⟨m,i,none⟩ (.int .i64 ((AN (BD ([],ns) ((Ag 0 e).take i)).2 (BX (BD ([],ns) ((Ag 0 e).take i)).1 (Ag 0 e)[i])).1:Int))):=by
 have ml:=FG.at hs hg i (Nat.le_of_lt hi);have hmw:m<w1.heap.size:=Nat.lt_of_lt_of_le hb.lt hx.size;have k1:=(KG.of_ext hx).trans hk;have hb2:Blk w2 m 3 _:=k1.blk hb m1 m2 m3;have VG:nv2.ownBlock≠some m:=fun e=>by
  rcases k1.move m e with h5|h5
  ·exact m3 h5
  ·have:=hb.lt;omega
 have l9:∀u:Value,KG g b nv nv2 w (w2.setCell ⟨m,i,none⟩ u):=fun u=>by
  have k2:=h1.trans k1;have gk:(w2.setCell ⟨m,i,none⟩ u).heap.size=w2.heap.size:=by simp
  have iq:=Below.setCell (Below.refl m w2) (p:=⟨m,i,none⟩) (Nat.le_refl _) u;exact⟨iq.os.trans k2.os,iq.tape.trans k2.tape,iq.output.trans k2.output,by rw[gk];exact k2.size,fun k p1 p2 p3 p4=>(Below.heap_setCell _ _ _ k (by show k≠m;omega)).trans (k2.block k p1 p2 p3 p4),k2.move⟩
 have ai:BD ([],ns) ((Ag 0 e).take (i+1))=In (BD ([],ns) ((Ag 0 e).take i)) (Ag 0 e)[i]:=GN _ _ _ hl;have lz:BC w2:=(hm.ext hx).below (hk.below hp0) hp0.low;refine⟨nv2,l9 _,?_,?_,?_,m1,m2,VG,m4,lz.below (Below.setCell (Below.refl B w2) (p:=⟨m,i,none⟩) (by show B<=m;omega) _) hp.low,m5⟩
 ·rw[ai,GU];refine⟨hp.blk.far (p:=⟨m,i,none⟩) (fun e=>m1 e.symm) _,?_,hp.map.kept (Below.heap_setCell _ _ _ b (fun e=>m2 e.symm)),hp.lo,hp.lo2,hp.ok,hp.few,hp.low⟩;exact AU hp.row (fun k hk=>Below.heap_setCell _ _ _ k (fun e=>VG (by rw[hk];exact congrArg some e)))
 ·have h6:=hb2.set_ i (.int .i64 ((AN (BD ([],ns) ((Ag 0 e).take i)).2 (BX (BD ([],ns) ((Ag 0 e).take i)).1 (Ag 0 e)[i])).1:Int));rw[Nw]at h6;rw[ai,GU];have hl2:=ml.len;have h7:((BD ([],ns) ((Ag 0 e).take i)).1++List.replicate (e.size-i) 0).set i (AN (BD ([],ns) ((Ag 0 e).take i)).2 (BX (BD ([],ns) ((Ag 0 e).take i)).1 (Ag 0 e)[i])).1=
    ((BD ([],ns) ((Ag 0 e).take i)).1++[(AN (BD ([],ns) ((Ag 0 e).take i)).2 (BX (BD ([],ns) ((Ag 0 e).take i)).1 (Ag 0 e)[i])).1])++List.replicate (e.size-(i+1)) 0:=by
   rw[List.set_append_right _ _ (by omega),hl2,Nat.sub_self,show e.size-i=(e.size-(i+1))+1 by omega,List.replicate_succ,List.set_cons_zero,List.append_assoc];rfl
  rw[h7]at h6;exact h6
 ·have h8:=(h4.keep k1);obtain⟨A,c,rfl,h9⟩:=h8;refine⟨A,c,rfl,fun hp=> ?_⟩;obtain⟨q,o,rfl,hq,p2,p3,p4,hc⟩:=h9 hp;have uQ:q≠m:=fun e=>m5 (congrArg some e)
  have hk2:∀o u,(w2.setCell ⟨m,i,none⟩ u).cell? ⟨q,o,none⟩=w2.cell? ⟨q,o,none⟩:=fun o u=>World.cell?_of_block (a:=⟨q,o,none⟩) (Below.heap_setCell _ _ _ q uQ)
  refine⟨q,o,rfl,by simpa using hq,p2,p3,p4,fun j hj=> ?_⟩;obtain⟨q0,q1,q2,q3,q4⟩:=hc j hj;exact⟨(hk2 _ _).trans q0,(hk2 _ _).trans q1,(hk2 _ _).trans q2,(hk2 _ _).trans q3,(hk2 _ _).trans q4⟩
def Pk(B g b:Nat)(ns:List Nd)(nv:Value)(e:Ex)(w:World)(r:Ending)(w':World):Prop:=
 ∃nv',r= .returned (.tuple #[.int .i64 ((Ai ns e).1:Int),.int .i64 0])/\KG g b nv nv' w w'/\GrP B g b w' (Ai ns e).2 nv'
theorem QP(B g b:Nat)(w:World)(ns:List Nd)(nv v:Value)(e:Ex)(h:GrP B g b w ns nv)(hv:Cg g b nv w v (Ag 0 e))(eT:e.Good)(cQ:e.size<=200)(jh:e.depth<=40)(hm:BC w)(a5:ns.length+e.size<=4096):
  Calls Tryz.prog 70 #[.pointer (some ⟨g,0,none⟩),v] w (Pk B g b ns nv e w):=by
 have ox:=J (NS w v (Ag 0 e) hv.read (by rw[AF];omega) (K5 e eT 0) hm);rw[L0 e eT.well.1,eT.well.2,decide_eq_true ⟨cQ,jh⟩]at ox;have HG:=J h;have HV:=J hv;have HM:=J hm;have mF:=J (PD e.size (by omega));obtain⟨n,hn⟩:∃n,n=e.size:=⟨_,rfl⟩;have kS:=AF e 0;obtain⟨A1,c1,rfl,_⟩:=hv;rw[kS,<-hn]at ox HV ⊢;rw[<-hn]at mF;have HN:=J hn;have iz:=J kS;have dT:1<=n:=by rw[hn];exact e.size_pos
 have hn2:n<=200:=by omega
 obtain⟨A,c,rfl⟩:=h.row.shape;have cP:=J eT;have UV:=J a5;clear h hm hn kS eT cQ jh a5;go_enter Tryz.func70,Tryz.ntmps70;go_wp2_with fail;refine ox.o.mono ?_
 rintro r w1 ⟨rfl,am⟩;have ah:=J am;obtain⟨k0,k1,f0,f1,fA⟩:=(HG.o.keep am).blk.twoG;have dZ:=mF.o w1;clear am;have aL:∀i:Nat,i<n->IntKind.i64.wrap ((i:Int)+1)=(i:Int)+1:=fun i hi=>IntWalk.i64_in _ (by omega)
 have wI:=J aL;clear aL;go_wp2_with fail;go_loopw [27] (fun yy wr=>∃i:Nat,i<=n/\yy= .int .i64 (i:Int)/\GQ B g b w1.heap.size ns (.slice A ns.length c) e (.slice A1 n c1) w i wr) (fun yy _=>n-(intOf yy).toNat)
 case atStart=>
  have h0:=GQ.start HG.o HV.o ah.o HM.o;rw[<-HN.o]at h0;exact⟨0,Nat.zero_le _,rfl,h0⟩
 case round=>
  obtain⟨i,hi,rfl,aJ⟩:=hrel;by_cases hlt:i<n
  ·obtain⟨aZ,ju,al,aw,eL,m1,m2,m3,m4,lz,m5⟩:=aJ;have tQ:i<e.size:=by rw[<-HN.o];exact hlt
   have hl:i<(Ag 0 e).length:=by rw[AF];exact tQ
   have ml:=FG.at HG.o.ok cP.o i (Nat.le_of_lt tQ);have av:=H7 e cP.o 0 i _ (List.getElem?_eq_getElem hl);rw[Nat.zero_add]at av;have iY:=JI ml av;have sn:=ml.big;have ao:=ml.len;have lC:=HG.o.lo;have bO:=HG.o.lt;have fL:=J (fun nv2 w1' w2' (hx:Ext _ w1') hk hp hp0=>GQ.next (B:=B) (nv2:=nv2) (w1:=w1') (w2:=w2') cP.o HG.o.ok tQ hl ju eL aw m1 m2 m3 m4 m5 lz hx hk (by omega) hp hp0);have az:=J (fun W h hm=>JQ B g b W _ aZ h _ iY hm (by have:=UV.o;omega));obtain⟨A2,c2,he2,hc2⟩:=eL;obtain⟨q,o,hA,hq,p2,p3,p4,b7⟩:=hc2 (by omega);obtain⟨y0,y1,y2,y3,y4⟩:=b7 i hl;simp only[Value.slice.injEq]at he2;obtain⟨rfl,jb,rfl⟩:=he2;clear jb;subst hA;have hil:(i:Int)<(n:Int):=by omega
   have gA:(0:Int)<=(i:Int):=by omega
   have lr:=wI.o i hlt;have U5:=J p4;clear hc2 b7 iY sn p4;generalize ai:BD ([],ns) (List.take i (Ag 0 e))=st at *;clear ai;obtain⟨bp,gs⟩:=st;simp only at al aw ao fL az ml;rw[<-HN.o]at aw;have jM:∀j,j<i->(CY (bp++List.replicate (n-i) 0))[j]? =some (.int .i64 ((bp.getD j 0:Nat):Int)):=fun j hj=>by
    rw[GM _ _ (by rw[List.length_append];omega),EL _ _ (by omega)]
   have Wn:(CY (bp++List.replicate (n-i) 0))[i]? =some (.int .i64 (((bp++List.replicate (n-i) 0).getD i 0:Nat):Int)):=GM _ _ (by rw[List.length_append,List.length_replicate];omega)
   generalize (bp++List.replicate (n-i) 0).getD i 0=old at *;generalize CY (bp++List.replicate (n-i) 0)=CC at *;generalize (Ag 0 e)[i]=x at *;have fZ:=J aw;have gW:=J al;have lU:=J jM;have Vn:=J Wn;have mE:=J lz;have qZ:=J ju;have tc:=J m1;have cS:=J m2;have lO:=J m3;clear aw al jM Wn lz ju m1 m2 m3 m5 ml;rcases av with ⟨k,t,rfl,ho⟩|⟨k,nn,j,rfl,ho,hj⟩|⟨k,j,jq,rfl,hk,hj,tP⟩
   ·have d9:(k:Int)=1\/(k:Int)=2\/(k:Int)=3\/(k:Int)=4:=by rcases ho with ⟨h,_⟩|⟨h,_⟩|⟨h,_⟩<;>omega
    have jI:BX bp ⟨(k:Int),0,0,0,t⟩=⟨(k:Int),0,0,0,t⟩:=by
     unfold BX;rw[if_neg (by simp only;omega),if_neg (by simp only;omega)]
    rw[jI]at az fL;have ei:=J d9;clear d9 jI ho;simp only[ndV]at az;simp only at y0 y1 y2 y3 y4;generalize hkk:(k:Int)=kk at *;obtain⟨s,hs⟩:∃s:ByteArray,s=⟨(t:List UInt8).toArray⟩:=⟨_,rfl⟩;have ai:str t= .string s:=by rw[hs];rfl
    rw[ai]at y4 az;clear hs ai hkk;have aQ:=J (Blk.new wr 95 #[.int .i64 kk,.int .i64 0,.int .i64 0,.int .i64 0,.string s]);have ay:=J ((Ext.refl wr).alloc (.cells #[.int .i64 kk,.int .i64 0,.int .i64 0,.int .i64 0,.string s] 95));obtain⟨w7,cU⟩:∃w7,w7=wr.alloc (.cells #[.int .i64 kk,.int .i64 0,.int .i64 0,.int .i64 0,.string s] 95):=⟨_,rfl⟩;rw[<-cU]at aQ ay;have q0:=aQ.o.five;go_upto_region 8 with fail;rw[<-cU];clear cU y0 y1 y2 y3 y4;go_wp2_with fail;refine(C2 w7 kk 0 0 0 s ei.o).mono ?_
    rintro r w8 ⟨rfl,bI⟩;have bV:=J (ay.o.trans bI);have jn:=J (aQ.o.ext bI);clear q0 bI;have q0:=jn.o.five;go_wp2_with fail;refine(az.o w8 (gW.o.keep bV.o) (mE.o.ext bV.o)).mono ?_
    rintro r de ⟨nv2,rfl,cg,du⟩;have ii:=((KG.of_ext bV.o).trans cg).blk fZ.o tc.o cS.o lO.o;have z0:=(ii.cell i).trans Vn.o;have z1:=ii.frozen i;have fd:=J (fL.o nv2 w8 de bV.o cg du (gW.o.keep bV.o));clear ii cg du q0;generalize (AN gs _).1=pid at *;go_wp2_with fail;go_roundw
    case rel=>exact⟨i+1,hlt,by go_num,fd.o⟩
    case measure=>simp[intOf];omega
   ·have d9:(k:Int)=5\/(k:Int)=10\/(k:Int)=11\/(k:Int)=12\/(k:Int)=13\/(k:Int)=14\/(k:Int)=15\/(k:Int)=16:=by have:=ho.1;omega
    have jI:BX bp ⟨(k:Int),(j:Int),0,nn,[]⟩=⟨(k:Int),((bp.getD j 0:Nat):Int),0,nn,[]⟩:=by
     unfold BX;rw[if_pos (by simp only;omega),if_neg (by simp only;omega)];rfl
    rw[jI]at az fL;have ei:=J d9;have tn:=J (lU.o j hj);have pK:(j:Int)<(n:Int):=by omega
    have o3:(0:Int)<=(j:Int):=by omega
    clear d9 jI ho hj;generalize ((bp.getD j 0:Nat):Int)=va at *;simp only[ndV]at az;simp only at y0 y1 y2 y3 y4;generalize hkk:(k:Int)=kk at *;obtain⟨s,hs⟩:∃s:ByteArray,s=⟨([]:List UInt8).toArray⟩:=⟨_,rfl⟩;have ai:str []= .string s:=by rw[hs];rfl
    rw[ai]at y4 az;clear hs ai hkk;have aQ:=J (Blk.new wr 95 #[.int .i64 kk,.int .i64 (j:Int),.int .i64 0,.int .i64 nn,.string s]);have ay:=J ((Ext.refl wr).alloc (.cells #[.int .i64 kk,.int .i64 (j:Int),.int .i64 0,.int .i64 nn,.string s] 95));obtain⟨w7,cU⟩:∃w7,w7=wr.alloc (.cells #[.int .i64 kk,.int .i64 (j:Int),.int .i64 0,.int .i64 nn,.string s] 95):=⟨_,rfl⟩;rw[<-cU]at aQ ay;have q0:=aQ.o.five;go_upto_region 8 with fail;rw[<-cU];clear cU y0 y1 y2 y3 y4;go_wp2_with fail;refine(EI w7 kk (j:Int) 0 nn s ei.o).mono ?_
    rintro r w8 ⟨x8,rfl,_,_,_,bI⟩;have bV:=J (ay.o.trans bI);have jn:=J (aQ.o.ext bI);clear q0 bI;have q0:=jn.o.five;have tI:w1.heap.size<wr.heap.size:=fZ.o.lt;have pE:=fZ.o.ext bV.o;have v0:=(pE.cell j).trans tn.o;have f1:=jn.o.frozen 1;have dk:=J (jn.o.set_ 1 (.int .i64 va));have dz:=J (bV.o.setCell (p:=⟨wr.heap.size,1,none⟩) (Nat.le_refl _) (.int .i64 va));have r0:=Blk.five dk.o;go_wp2_with fail;refine(az.o (w8.setCell ⟨wr.heap.size,1,none⟩ (.int .i64 va)) (gW.o.keep dz.o) (mE.o.ext dz.o)).mono ?_
    rintro r de ⟨nv2,rfl,cg,du⟩;have ii:=((KG.of_ext dz.o).trans cg).blk fZ.o tc.o cS.o lO.o;have z0:=(ii.cell i).trans Vn.o;have z1:=ii.frozen i;have fd:=J (fL.o nv2 (w8.setCell ⟨wr.heap.size,1,none⟩ (.int .i64 va)) de dz.o cg du (gW.o.keep dz.o));clear ii cg du q0;generalize (AN gs _).1=pid at *;go_wp2_with fail;go_roundw
    case rel=>exact⟨i+1,hlt,by go_num,fd.o⟩
    case measure=>simp[intOf];omega
   ·have d9:(k:Int)=6\/(k:Int)=7\/(k:Int)=8\/(k:Int)=9:=by omega
    have jI:BX bp ⟨(k:Int),(j:Int),(jq:Int),0,[]⟩=⟨(k:Int),((bp.getD j 0:Nat):Int),((bp.getD jq 0:Nat):Int),0,[]⟩:=by
     unfold BX;rw[if_pos (by simp only;omega),if_pos (by simp only;omega)];rfl
    rw[jI]at az fL;have ei:=J d9;have tn:=J (lU.o j hj);have Vm:=J (lU.o jq tP);have pK:(j:Int)<(n:Int):=by omega
    have o3:(0:Int)<=(j:Int):=by omega
    have jb:(jq:Int)<(n:Int):=by omega
    have rI:(0:Int)<=(jq:Int):=by omega
    clear d9 jI hk hj tP;generalize ((bp.getD j 0:Nat):Int)=va at *;generalize ((bp.getD jq 0:Nat):Int)=vb at *;simp only[ndV]at az;simp only at y0 y1 y2 y3 y4;generalize hkk:(k:Int)=kk at *;obtain⟨s,hs⟩:∃s:ByteArray,s=⟨([]:List UInt8).toArray⟩:=⟨_,rfl⟩;have ai:str []= .string s:=by rw[hs];rfl
    rw[ai]at y4 az;clear hs ai hkk;have aQ:=J (Blk.new wr 95 #[.int .i64 kk,.int .i64 (j:Int),.int .i64 (jq:Int),.int .i64 0,.string s]);have ay:=J ((Ext.refl wr).alloc (.cells #[.int .i64 kk,.int .i64 (j:Int),.int .i64 (jq:Int),.int .i64 0,.string s] 95));obtain⟨w7,cU⟩:∃w7,w7=wr.alloc (.cells #[.int .i64 kk,.int .i64 (j:Int),.int .i64 (jq:Int),.int .i64 0,.string s] 95):=⟨_,rfl⟩;rw[<-cU]at aQ ay;have q0:=aQ.o.five;go_upto_region 8 with fail;rw[<-cU];clear cU y0 y1 y2 y3 y4;go_wp2_with fail;refine(Fi w7 kk (j:Int) (jq:Int) 0 s ei.o).mono ?_
    rintro r w8 ⟨x8,rfl,_,_,_,_,bI⟩;have bV:=J (ay.o.trans bI);have jn:=J (aQ.o.ext bI);clear q0 bI;have q0:=jn.o.five;have tI:w1.heap.size<wr.heap.size:=fZ.o.lt;have pE:=fZ.o.ext bV.o;have v0:=(pE.cell j).trans tn.o;have f1:=jn.o.frozen 1;have dk:=J (jn.o.set_ 1 (.int .i64 va));have dz:=J (bV.o.setCell (p:=⟨wr.heap.size,1,none⟩) (Nat.le_refl _) (.int .i64 va));have r0:=Blk.five dk.o;have Yv:=fZ.o.ext dz.o;have v1:=(Yv.cell jq).trans Vm.o;have f2:=dk.o.frozen 2;have sX:=J (Blk.set_ dk.o 2 (.int .i64 vb));have jl:=J (dz.o.setCell (p:=⟨wr.heap.size,2,none⟩) (Nat.le_refl _) (.int .i64 vb));have t0:=Blk.five sX.o;go_wp2_with fail;refine(az.o ((w8.setCell ⟨wr.heap.size,1,none⟩ (.int .i64 va)).setCell ⟨wr.heap.size,2,none⟩ (.int .i64 vb)) (gW.o.keep jl.o) (mE.o.ext jl.o)).mono ?_
    rintro r de ⟨nv2,rfl,cg,du⟩;have ii:=((KG.of_ext jl.o).trans cg).blk fZ.o tc.o cS.o lO.o;have z0:=(ii.cell i).trans Vn.o;have z1:=ii.frozen i;have fd:=J (fL.o nv2 ((w8.setCell ⟨wr.heap.size,1,none⟩ (.int .i64 va)).setCell ⟨wr.heap.size,2,none⟩ (.int .i64 vb)) de jl.o cg du (gW.o.keep jl.o));clear ii cg du q0;generalize (AN gs _).1=pid at *;go_wp2_with fail;go_roundw
    case rel=>exact⟨i+1,hlt,by go_num,fd.o⟩
    case measure=>simp[intOf];omega
  ·obtain⟨aZ,ju,al,aw,eL,m1,m2,m3,m4,lz,m5⟩:=aJ;obtain⟨more,lA,ob⟩:=K4 e cP.o ns;have hin:i=more.length+1:=by have:=HN.o;omega
   have Yk:n=more.length+1:=by have:=HN.o;omega
   rw[List.take_of_length_le (by rw[AF];omega),ob]at al aw;rw[show e.size-i=0 by omega,List.replicate_zero,List.append_nil]at aw;simp only at al aw;have ac:=(aw.cell more.length).trans (GM _ _ (by simp));rw[DO _ _ rfl]at ac;have qZ:=J ju;have gW:=J al;clear ju al aw eL m1 m2 m3 m4 lz m5 ob lA;subst hin;subst Yk;generalize more.length=kz at *;have hz1:IntKind.i64.wrap (((kz+1:Nat):Int)-1)=(kz:Int):=by rw[IntWalk.i64_in _ (by omega)];omega
   have a9:IntKind.i64.wrap ((kz:Int)+1-1)=(kz:Int):=by rw[IntWalk.i64_in _ (by omega)];omega
   have XF:IntKind.i64.wrap (kz:Int)=(kz:Int):=IntWalk.i64_in _ (by omega);have XE:(kz:Int)<(kz:Int)+1:=by omega
   have XD:(0:Int)<=(kz:Int):=by omega
   generalize hpid:(Ai ns e).1=pid at *;have sS:=J hpid;clear hpid;go_wp2_with fail;go_ret2;exact⟨aZ,by rw[sS.o];rfl,qZ.o,gW.o⟩
end Big
end Go.Proofs.YtkoaogkknnelaaaGreatDoor
