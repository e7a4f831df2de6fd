import Derived.Test.YtkoaogkknnelaaaGreatDoorM25
import Derived.Test.YtkoaogkknnelaaaGreatDoorShelf4
set_option linter.unusedVariables false
set_option linter.unusedSimpArgs false
set_option maxHeartbeats 4000000
set_option maxRecDepth 100000
namespace Go.Proofs.YtkoaogkknnelaaaGreatDoor
namespace Big
open Lib renaming hid → J
open Go.RowKit
def GC(n:Nat)(x:Int):Bool:=decide (x<0) || decide ((n:Int)<=x)
theorem QW(c g n m:Nat)(A:Option Addr)(W:World)(x:Int)(h0:W.cell? ⟨c,0,none⟩=some (.pointer (some ⟨g,0,none⟩)))(h1:W.cell? ⟨g,0,none⟩=some (.slice A n m))(hg:g<W.heap.size):
  FnGives Tryz.prog 200 #[.pointer (some ⟨c,0,none⟩)] #[.int .i64 x] (.bool (GC n x)) W:=by
 unfold FnGives;show Calls Tryz.prog 200 #[.int .i64 x,.pointer (some ⟨c,0,none⟩)] W _;by_cases hx:x<0
 ·have hd:decide (x<0)=true:=decide_eq_true hx;have ho:GC n x=true:=by unfold GC;rw[hd];rfl
  rw[ho];clear ho hx;go_enter Tryz.func200,Tryz.ntmps200;go_wp2_with fail;go_ret;exact⟨rfl,0,rfl⟩
 ·have hd:decide (x<0)=false:=decide_eq_false hx;by_cases hy:(n:Int)<=x
  ·have bE:decide ((n:Int)<=x)=true:=decide_eq_true hy;have ho:GC n x=true:=by unfold GC;rw[hd,bE];rfl
   rw[ho];clear ho;go_enter Tryz.func200,Tryz.ntmps200;go_wp2_with fail;go_ret;exact⟨rfl,0,rfl⟩
  ·have bE:decide ((n:Int)<=x)=false:=decide_eq_false hy;have ho:GC n x=false:=by unfold GC;rw[hd,bE];rfl
   rw[ho];clear ho;go_enter Tryz.func200,Tryz.ntmps200;go_wp2_with fail;go_ret;exact⟨rfl,0,rfl⟩
theorem Fk (c g n m b k:Nat) (A:Option Addr) (zs:List Int) (W:World) (h0:W.cell? ⟨c,0,none⟩=some (.pointer (some ⟨g,0,none⟩))) (h1:W.cell? ⟨g,0,none⟩=some (.slice A n m))
  (hz:∀j (hj:j<zs.length),W.cell? ⟨b,j,none⟩=some (.int .i64 zs[j])) (hl:zs.length<=100):
  Calls Tryz.prog 199 #[.slice (some ⟨b,0,none⟩) zs.length k,.func (.func 200) #[] #[.pointer (some ⟨c,0,none⟩)]] W fun e w'=>e= .returned (.bool (zs.any (GC n)))/\∃q,w'=W.drewN q:=by
 have hc:=World.block_lt_of_cell? W _ h0;have hg:=World.block_lt_of_cell? W _ h1;have h:=Tryz.slices_ContainsFunc (fun x:Int=> .int .i64 x) (GC n) 200 #[.pointer (some ⟨c,0,none⟩)] (enters_of Tryz.func200 (by kernel_rfl) rfl) b 0 zs.length k zs W (fun W' x hb=>QW c g n m A W' x ((hb.cell hc).trans h0) ((hb.cell hg).trans h1) (qaj hg hb.size)) (qad _) (by omega) (fun j hj=>by
  rw[qaF,hz j hj,getElem!_pos zs j hj])
 rw[qbr]at h;exact h
theorem OK(B g b:Nat)(w:World)(ns:List Nd)(nv:Value)(h:GrP B g b w ns nv)(t:List UInt8)(ht:Bz t=0)(hm:BT w):
  Calls Tryz.prog 159 #[.pointer (some ⟨g,0,none⟩),.agg #[.int .i64 1,.int .i64 0,.int .i64 0,.int .i64 0,str t]] w fun e w'=>e= .returned (.bool true)/\Ext w w':=by
 obtain⟨A,c,rfl⟩:=h.row.shape;have HG:=J h.blk;clear h;have ug:=J (fun W h=>Jn W t h);have HM:=J hm;have HT:=J ht;clear hm ht;obtain⟨s,hs⟩:∃s:ByteArray,s=⟨t.toArray⟩:=⟨_,rfl⟩;have af:str t= .string s:=by rw[hs];rfl
 rw[af]at ug ⊢;clear hs af;have aA:=J (Blk.new w 50 #[.pointer (some ⟨g,0,none⟩)]);have ah:=J ((Ext.refl w).alloc (.cells #[.pointer (some ⟨g,0,none⟩)] 50));obtain⟨w1,aB⟩:∃w1,w1=w.alloc (.cells #[.pointer (some ⟨g,0,none⟩)] 50):=⟨_,rfl⟩;have dU:w1.heap.size=w.heap.size+1:=by rw[aB];simp
 rw[<-aB]at aA ah;have aF:=J (Blk.new w1 95 #[.int .i64 1,.int .i64 0,.int .i64 0,.int .i64 0,.string s]);have am:=J ((Ext.refl w1).alloc (.cells #[.int .i64 1,.int .i64 0,.int .i64 0,.int .i64 0,.string s] 95));obtain⟨w2,aY⟩:∃w2,w2=w1.alloc (.cells #[.int .i64 1,.int .i64 0,.int .i64 0,.int .i64 0,.string s] 95):=⟨_,rfl⟩;have cn:w2.heap.size=w.heap.size+2:=by rw[aY];simp[dU]
 rw[<-aY,dU]at aF;rw[<-aY]at am;have HX:=J (ah.o.trans am.o);have q0:=aF.o.five;go_enter Tryz.func159,Tryz.ntmps159;go_upto_region 1 with fail;rw[<-aB,<-aY];clear aB aY;go_wp2_with fail;refine(C0 w2 1 0 0 0 s (by decide)).mono ?_
 rintro e w3 ⟨rfl,ae⟩;have ag:=J ae;have aC:=J (aF.o.ext ae);clear ae q0;have q0:=aC.o.five;go_wp2_with fail;refine(Tryz.slices_ContainsFunc_empty (α:=Int) none 0 _ w3).mono ?_
 rintro e w4 ⟨rfl,rfl⟩;have iC:w.heap.size+1<w4.heap.size:=by
  have h1:=ag.o.size;omega
 have fF:Hid (w.heap.size+1≠w4.heap.size):=J (by omega);have fm:Hid (w.heap.size<=w4.heap.size):=J (by omega);have hx5:=(Ext.refl w4).alloc (.cells #[.int .i64 1,.int .i64 0,.int .i64 0,.int .i64 0,.string ⟨#[]⟩] 95);have ef:=J (aC.o.ext hx5);have gp:=J (Blk.new w4 95 #[.int .i64 1,.int .i64 0,.int .i64 0,.int .i64 0,.string ⟨#[]⟩]);have ba:=J ((HX.o.trans ag.o).trans hx5);clear hx5 iC;obtain⟨y0,y1,y2,y3,y4⟩:=ef.o.five;obtain⟨p0,p1,p2,p3,p4⟩:=gp.o.five;obtain⟨w5,cA⟩:∃w5,w5=w4.alloc (.cells #[.int .i64 1,.int .i64 0,.int .i64 0,.int .i64 0,.string ⟨#[]⟩] 95):=⟨_,rfl⟩;rw[<-cA]at ef gp ba y0 y1 y2 y3 y4 p0 p1 p2 p3 p4;go_upto_region 5 with fail;rw[<-cA];clear cA q0;go_wp2_with fail;refine(ug.o _ (HM.o.ext ba.o)).mono ?_
 rintro e w6 ⟨v6,rfl,iu,bz⟩;obtain⟨b6,n6,A6,c6,m6,D6,d6,rfl⟩:=iu.shape;clear iu y0 y1 y2 y3 y4 p0 p1 p2 p3 p4;rw[HT.o];have bG:=bz.alloc (.cells #[.bool b6,.slice A6 n6 c6,.slice D6 m6 d6] 26);have i8:=J (ef.o.ext bG);have lE:=J (gp.o.ext bG);have aZ:=J (ba.o.trans bG);have q0:=i8.o.five;have r0:=lE.o.five;clear bz bG;have yp:=J (lE.o.set_ 4 (.string s));have de:=J (i8.o.far (p:=⟨w4.heap.size,4,none⟩) fF.o (.string s));have aN:=J (aZ.o.setCell (p:=⟨w4.heap.size,4,none⟩) fm.o (.string s));have f6:=lE.o.frozen 4;obtain⟨y0,y1,y2,y3,y4⟩:=de.o.five;obtain⟨p0,p1,p2,p3,p4⟩:=Blk.five yp.o;go_wp2_with fail;go_ret;exact⟨rfl,aN.o⟩
theorem QV(B g b:Nat)(w:World)(ns:List Nd)(nv:Value)(h:GrP B g b w ns nv)(t:List UInt8)(hn:CQ t=true):
  Calls Tryz.prog 159 #[.pointer (some ⟨g,0,none⟩),.agg #[.int .i64 2,.int .i64 0,.int .i64 0,.int .i64 0,str t]] w fun e w'=>e= .returned (.bool true)/\Ext w w':=by
 obtain⟨A,c,rfl⟩:=h.row.shape;have HG:=J h.blk;clear h;have hw:=(qbu.1 hn).1;have hl:=EM hw;have hr:AY t=false:=by
  have sY:CQ t=(CO t && !AY t):=by rw[Ca];rfl
  rw[sY,qbu,Bool.not_eq_true']at hn;exact hn.2
 have HW:=J (fun W=>IX W t (by omega));have bU:=J (fun W=>Fc W t);rw[hw]at HW;rw[hr]at bU;clear hw hl hr hn;obtain⟨s,hs⟩:∃s:ByteArray,s=⟨t.toArray⟩:=⟨_,rfl⟩;have af:str t= .string s:=by rw[hs];rfl
 rw[af]at HW bU ⊢;clear hs af;have aA:=J (Blk.new w 50 #[.pointer (some ⟨g,0,none⟩)]);have ah:=J ((Ext.refl w).alloc (.cells #[.pointer (some ⟨g,0,none⟩)] 50));obtain⟨w1,aB⟩:∃w1,w1=w.alloc (.cells #[.pointer (some ⟨g,0,none⟩)] 50):=⟨_,rfl⟩;have dU:w1.heap.size=w.heap.size+1:=by rw[aB];simp
 rw[<-aB]at aA ah;have aF:=J (Blk.new w1 95 #[.int .i64 2,.int .i64 0,.int .i64 0,.int .i64 0,.string s]);have am:=J ((Ext.refl w1).alloc (.cells #[.int .i64 2,.int .i64 0,.int .i64 0,.int .i64 0,.string s] 95));obtain⟨w2,aY⟩:∃w2,w2=w1.alloc (.cells #[.int .i64 2,.int .i64 0,.int .i64 0,.int .i64 0,.string s] 95):=⟨_,rfl⟩;have cn:w2.heap.size=w.heap.size+2:=by rw[aY];simp[dU]
 rw[<-aY,dU]at aF;rw[<-aY]at am;have HX:=J (ah.o.trans am.o);have q0:=aF.o.five;go_enter Tryz.func159,Tryz.ntmps159;go_upto_region 1 with fail;rw[<-aB,<-aY];clear aB aY;go_wp2_with fail;refine(C0 w2 2 0 0 0 s (by decide)).mono ?_
 rintro e w3 ⟨rfl,ae⟩;have ag:=J ae;have aC:=J (aF.o.ext ae);clear ae q0;have q0:=aC.o.five;go_wp2_with fail;refine(Tryz.slices_ContainsFunc_empty (α:=Int) none 0 _ w3).mono ?_
 rintro e w4 ⟨rfl,rfl⟩;have iC:w.heap.size+1<w4.heap.size:=by
  have h1:=ag.o.size;omega
 have fF:Hid (w.heap.size+1≠w4.heap.size):=J (by omega);have fm:Hid (w.heap.size<=w4.heap.size):=J (by omega);have hx5:=(Ext.refl w4).alloc (.cells #[.int .i64 2,.int .i64 0,.int .i64 0,.int .i64 0,.string ⟨#[]⟩] 95);have ef:=J (aC.o.ext hx5);have gp:=J (Blk.new w4 95 #[.int .i64 2,.int .i64 0,.int .i64 0,.int .i64 0,.string ⟨#[]⟩]);have ba:=J ((HX.o.trans ag.o).trans hx5);clear hx5 iC;obtain⟨y0,y1,y2,y3,y4⟩:=ef.o.five;obtain⟨p0,p1,p2,p3,p4⟩:=gp.o.five;obtain⟨w5,cA⟩:∃w5,w5=w4.alloc (.cells #[.int .i64 2,.int .i64 0,.int .i64 0,.int .i64 0,.string ⟨#[]⟩] 95):=⟨_,rfl⟩;rw[<-cA]at ef gp ba y0 y1 y2 y3 y4 p0 p1 p2 p3 p4;go_upto_region 5 with fail;rw[<-cA];clear cA q0;go_upto_region 14 with fail;have lE:=J (gp.o.set_ 4 (.string s));have i8:=J (ef.o.far (p:=⟨w4.heap.size,4,none⟩) fF.o (.string s));have aZ:=J (ba.o.setCell (p:=⟨w4.heap.size,4,none⟩) fm.o (.string s));have f5:=gp.o.frozen 4;obtain⟨y0,y1,y2,y3,y4⟩:=i8.o.five;obtain⟨p0,p1,p2,p3,p4⟩:=Blk.five lE.o
 go_region_with (first|(refine(HW.o _).mono ?_;rintro e wz ⟨rfl,rfl⟩)|(refine(bU.o _).mono ?_;rintro e wz ⟨rfl,rfl⟩))
 all_goals go_wp2_with fail
 all_goals go_ret
 all_goals exact⟨rfl,aZ.o.drew⟩
theorem K3(B g b:Nat)(w:World)(ns:List Nd)(nv:Value)(h:GrP B g b w ns nv)(K:Int)(hK:K=3\/K=4):
  Calls Tryz.prog 159 #[.pointer (some ⟨g,0,none⟩),.agg #[.int .i64 K,.int .i64 0,.int .i64 0,.int .i64 0,.string ⟨#[]⟩]] w fun e w'=>e= .returned (.bool true)/\Ext w w':=by
 obtain⟨A,c,rfl⟩:=h.row.shape;have HG:=J h.blk;clear h;have yC:Hid (K=1\/K=2\/K=3\/K=4):=J (by omega);have e1:(K == 1)=false:=beq_eq_false_iff_ne.2 (by omega);have e2:(K == 2)=false:=beq_eq_false_iff_ne.2 (by omega);have Wf:(K == 10)=false:=beq_eq_false_iff_ne.2 (by omega);clear hK;have aA:=J (Blk.new w 50 #[.pointer (some ⟨g,0,none⟩)]);have ah:=J ((Ext.refl w).alloc (.cells #[.pointer (some ⟨g,0,none⟩)] 50));obtain⟨w1,aB⟩:∃w1,w1=w.alloc (.cells #[.pointer (some ⟨g,0,none⟩)] 50):=⟨_,rfl⟩;have dU:w1.heap.size=w.heap.size+1:=by rw[aB];simp
 rw[<-aB]at aA ah;have aF:=J (Blk.new w1 95 #[.int .i64 K,.int .i64 0,.int .i64 0,.int .i64 0,.string ⟨#[]⟩]);have am:=J ((Ext.refl w1).alloc (.cells #[.int .i64 K,.int .i64 0,.int .i64 0,.int .i64 0,.string ⟨#[]⟩] 95));obtain⟨w2,aY⟩:∃w2,w2=w1.alloc (.cells #[.int .i64 K,.int .i64 0,.int .i64 0,.int .i64 0,.string ⟨#[]⟩] 95):=⟨_,rfl⟩;have cn:w2.heap.size=w.heap.size+2:=by rw[aY];simp[dU]
 rw[<-aY,dU]at aF;rw[<-aY]at am;have HX:=J (ah.o.trans am.o);have q0:=aF.o.five;go_enter Tryz.func159,Tryz.ntmps159;go_upto_region 1 with fail;rw[<-aB,<-aY];clear aB aY;go_wp2_with fail;refine(C0 w2 K 0 0 0 ⟨#[]⟩ yC.o).mono ?_
 rintro e w3 ⟨rfl,ae⟩;have ag:=J ae;have aC:=J (aF.o.ext ae);clear ae q0;have q0:=aC.o.five;go_wp2_with fail;refine(Tryz.slices_ContainsFunc_empty (α:=Int) none 0 _ w3).mono ?_
 rintro e w4 ⟨rfl,rfl⟩;have iC:w.heap.size+1<w4.heap.size:=by
  have h1:=ag.o.size;omega
 have fF:Hid (w.heap.size+1≠w4.heap.size):=J (by omega);have fm:Hid (w.heap.size<=w4.heap.size):=J (by omega);have hx5:=(Ext.refl w4).alloc (.cells #[.int .i64 K,.int .i64 0,.int .i64 0,.int .i64 0,.string ⟨#[]⟩] 95);have ef:=J (aC.o.ext hx5);have gp:=J (Blk.new w4 95 #[.int .i64 K,.int .i64 0,.int .i64 0,.int .i64 0,.string ⟨#[]⟩]);have ba:=J ((HX.o.trans ag.o).trans hx5);clear hx5 iC;obtain⟨y0,y1,y2,y3,y4⟩:=ef.o.five;obtain⟨p0,p1,p2,p3,p4⟩:=gp.o.five;obtain⟨w5,cA⟩:∃w5,w5=w4.alloc (.cells #[.int .i64 K,.int .i64 0,.int .i64 0,.int .i64 0,.string ⟨#[]⟩] 95):=⟨_,rfl⟩;rw[<-cA]at ef gp ba y0 y1 y2 y3 y4 p0 p1 p2 p3 p4;go_upto_region 5 with fail;rw[<-cA];clear cA q0;go_wp2_with fail;go_ret;exact⟨rfl,ba.o⟩
theorem Fj(B g b:Nat)(w:World)(ns:List Nd)(nv:Value)(h:GrP B g b w ns nv)(K:Int)(hK:K=5\/K=11\/K=12\/K=13\/K=14\/K=15\/K=16)(a:Int)(h0:0<=a)(h1:a<ns.length):
  Calls Tryz.prog 159 #[.pointer (some ⟨g,0,none⟩),.agg #[.int .i64 K,.int .i64 a,.int .i64 0,.int .i64 0,.string ⟨#[]⟩]] w fun e w'=>e= .returned (.bool true)/\Ext w w':=by
 obtain⟨A,c,rfl⟩:=h.row.shape;have HG:=J h.blk;clear h;have yC:Hid (K=5\/K=10\/K=11\/K=12\/K=13\/K=14\/K=15\/K=16):=J (by omega);have e1:(K == 1)=false:=beq_eq_false_iff_ne.2 (by omega);have e2:(K == 2)=false:=beq_eq_false_iff_ne.2 (by omega);have Wf:(K == 10)=false:=beq_eq_false_iff_ne.2 (by omega);clear hK;have aA:=J (Blk.new w 50 #[.pointer (some ⟨g,0,none⟩)]);have ah:=J ((Ext.refl w).alloc (.cells #[.pointer (some ⟨g,0,none⟩)] 50));obtain⟨w1,aB⟩:∃w1,w1=w.alloc (.cells #[.pointer (some ⟨g,0,none⟩)] 50):=⟨_,rfl⟩;have dU:w1.heap.size=w.heap.size+1:=by rw[aB];simp
 rw[<-aB]at aA ah;have aF:=J (Blk.new w1 95 #[.int .i64 K,.int .i64 a,.int .i64 0,.int .i64 0,.string ⟨#[]⟩]);have am:=J ((Ext.refl w1).alloc (.cells #[.int .i64 K,.int .i64 a,.int .i64 0,.int .i64 0,.string ⟨#[]⟩] 95));obtain⟨w2,aY⟩:∃w2,w2=w1.alloc (.cells #[.int .i64 K,.int .i64 a,.int .i64 0,.int .i64 0,.string ⟨#[]⟩] 95):=⟨_,rfl⟩;have cn:w2.heap.size=w.heap.size+2:=by rw[aY];simp[dU]
 rw[<-aY,dU]at aF;rw[<-aY]at am;have HX:=J (ah.o.trans am.o);have q0:=aF.o.five;go_enter Tryz.func159,Tryz.ntmps159;go_upto_region 1 with fail;rw[<-aB,<-aY];clear aB aY;go_wp2_with fail;refine(EB w2 K a 0 0 ⟨#[]⟩ yC.o).mono ?_
 rintro e w3 ⟨x3,rfl,hc0,_,XT,ae⟩;have ag:=J ae;have aC:=J (aF.o.ext ae);have yS:=J (Fk w.heap.size g ns.length c x3 1 A [a] w3 ((ae.trans (Ext.refl _)).keep ((aA.o.ext am.o).cell 0)) (((HX.o.trans ae).cell HG.o.lt).trans (HG.o.cell 0)) (fun j hj=>by
  match j,hj with
  |0,_=>exact hc0) (by simp))
 clear ae q0 hc0;have q0:=aC.o.five;go_wp2_with fail;refine yS.o.mono ?_
 rintro e Xi ⟨rfl,y4,rfl⟩;have kB:[a].any (GC ns.length)=false:=by
  simp only[List.any_cons,List.any_nil,qbv,GC,qch,decide_eq_false_iff_not];omega
 rw[kB];clear kB;have eK:=J (aC.o.drewN y4);have aD:=J (ag.o.drewN y4);clear ag aC q0;generalize hw4:w3.drewN y4=w4 at *;clear hw4;have ag:=aD;have aC:=eK;have q0:=aC.o.five;have iC:w.heap.size+1<w4.heap.size:=by
  have h1:=ag.o.size;omega
 have fF:Hid (w.heap.size+1≠w4.heap.size):=J (by omega);have fm:Hid (w.heap.size<=w4.heap.size):=J (by omega);have hx5:=(Ext.refl w4).alloc (.cells #[.int .i64 K,.int .i64 0,.int .i64 0,.int .i64 0,.string ⟨#[]⟩] 95);have ef:=J (aC.o.ext hx5);have gp:=J (Blk.new w4 95 #[.int .i64 K,.int .i64 0,.int .i64 0,.int .i64 0,.string ⟨#[]⟩]);have ba:=J ((HX.o.trans ag.o).trans hx5);clear hx5 iC;obtain⟨y0,y1,y2,y3,y4⟩:=ef.o.five;obtain⟨p0,p1,p2,p3,p4⟩:=gp.o.five;obtain⟨w5,cA⟩:∃w5,w5=w4.alloc (.cells #[.int .i64 K,.int .i64 0,.int .i64 0,.int .i64 0,.string ⟨#[]⟩] 95):=⟨_,rfl⟩;rw[<-cA]at ef gp ba y0 y1 y2 y3 y4 p0 p1 p2 p3 p4;go_upto_region 5 with fail;rw[<-cA];clear cA q0;have lE:=J (gp.o.set_ 1 (.int .i64 a));have i8:=J (ef.o.far (p:=⟨w4.heap.size,1,none⟩) fF.o (.int .i64 a));have aZ:=J (ba.o.setCell (p:=⟨w4.heap.size,1,none⟩) fm.o (.int .i64 a));have f5:=gp.o.frozen 1;obtain⟨y0,y1,y2,y3,y4⟩:=i8.o.five;obtain⟨p0,p1,p2,p3,p4⟩:=Blk.five lE.o;go_wp2_with fail;go_ret;exact⟨rfl,aZ.o⟩
theorem SC(B g b:Nat)(w:World)(ns:List Nd)(nv:Value)(h:GrP B g b w ns nv)(a n:Int)(h0:0<=a)(h1:a<ns.length)(hn: -64<=n)(hn2:n<=64):
  Calls Tryz.prog 159 #[.pointer (some ⟨g,0,none⟩),.agg #[.int .i64 10,.int .i64 a,.int .i64 0,.int .i64 n,.string ⟨#[]⟩]] w fun e w'=>e= .returned (.bool true)/\Ext w w':=by
 obtain⟨A,c,rfl⟩:=h.row.shape;have HG:=J h.blk;clear h;have aA:=J (Blk.new w 50 #[.pointer (some ⟨g,0,none⟩)]);have ah:=J ((Ext.refl w).alloc (.cells #[.pointer (some ⟨g,0,none⟩)] 50));obtain⟨w1,aB⟩:∃w1,w1=w.alloc (.cells #[.pointer (some ⟨g,0,none⟩)] 50):=⟨_,rfl⟩;have dU:w1.heap.size=w.heap.size+1:=by rw[aB];simp
 rw[<-aB]at aA ah;have aF:=J (Blk.new w1 95 #[.int .i64 10,.int .i64 a,.int .i64 0,.int .i64 n,.string ⟨#[]⟩]);have am:=J ((Ext.refl w1).alloc (.cells #[.int .i64 10,.int .i64 a,.int .i64 0,.int .i64 n,.string ⟨#[]⟩] 95));obtain⟨w2,aY⟩:∃w2,w2=w1.alloc (.cells #[.int .i64 10,.int .i64 a,.int .i64 0,.int .i64 n,.string ⟨#[]⟩] 95):=⟨_,rfl⟩;have cn:w2.heap.size=w.heap.size+2:=by rw[aY];simp[dU]
 rw[<-aY,dU]at aF;rw[<-aY]at am;have HX:=J (ah.o.trans am.o);have q0:=aF.o.five;go_enter Tryz.func159,Tryz.ntmps159;go_upto_region 1 with fail;rw[<-aB,<-aY];clear aB aY;go_wp2_with fail;refine(EB w2 10 a 0 n ⟨#[]⟩ (by decide)).mono ?_
 rintro e w3 ⟨x3,rfl,hc0,_,XT,ae⟩;have ag:=J ae;have aC:=J (aF.o.ext ae);have yS:=J (Fk w.heap.size g ns.length c x3 1 A [a] w3 ((ae.trans (Ext.refl _)).keep ((aA.o.ext am.o).cell 0)) (((HX.o.trans ae).cell HG.o.lt).trans (HG.o.cell 0)) (fun j hj=>by
  match j,hj with
  |0,_=>exact hc0) (by simp))
 clear ae q0 hc0;have q0:=aC.o.five;go_wp2_with fail;refine yS.o.mono ?_
 rintro e Xi ⟨rfl,y4,rfl⟩;have kB:[a].any (GC ns.length)=false:=by
  simp only[List.any_cons,List.any_nil,qbv,GC,qch,decide_eq_false_iff_not];omega
 rw[kB];clear kB;have eK:=J (aC.o.drewN y4);have aD:=J (ag.o.drewN y4);clear ag aC q0;generalize hw4:w3.drewN y4=w4 at *;clear hw4;have ag:=aD;have aC:=eK;have q0:=aC.o.five;have iC:w.heap.size+1<w4.heap.size:=by
  have h1:=ag.o.size;omega
 have fF:Hid (w.heap.size+1≠w4.heap.size):=J (by omega);have fm:Hid (w.heap.size<=w4.heap.size):=J (by omega);have hx5:=(Ext.refl w4).alloc (.cells #[.int .i64 10,.int .i64 0,.int .i64 0,.int .i64 0,.string ⟨#[]⟩] 95);have ef:=J (aC.o.ext hx5);have gp:=J (Blk.new w4 95 #[.int .i64 10,.int .i64 0,.int .i64 0,.int .i64 0,.string ⟨#[]⟩]);have ba:=J ((HX.o.trans ag.o).trans hx5);clear hx5 iC;obtain⟨y0,y1,y2,y3,y4⟩:=ef.o.five;obtain⟨p0,p1,p2,p3,p4⟩:=gp.o.five;obtain⟨w5,cA⟩:∃w5,w5=w4.alloc (.cells #[.int .i64 10,.int .i64 0,.int .i64 0,.int .i64 0,.string ⟨#[]⟩] 95):=⟨_,rfl⟩;rw[<-cA]at ef gp ba y0 y1 y2 y3 y4 p0 p1 p2 p3 p4;go_upto_region 5 with fail;rw[<-cA];clear cA q0;have lE:=J (gp.o.set_ 1 (.int .i64 a));have i8:=J (ef.o.far (p:=⟨w4.heap.size,1,none⟩) fF.o (.int .i64 a));have aZ:=J (ba.o.setCell (p:=⟨w4.heap.size,1,none⟩) fm.o (.int .i64 a));have f5:=gp.o.frozen 1;obtain⟨y0,y1,y2,y3,y4⟩:=i8.o.five;obtain⟨p0,p1,p2,p3,p4⟩:=Blk.five lE.o;go_upto_region 16 with fail;have yp:=J (lE.o.set_ 3 (.int .i64 n));have de:=J (i8.o.far (p:=⟨w4.heap.size,3,none⟩) fF.o (.int .i64 n));have aN:=J (aZ.o.setCell (p:=⟨w4.heap.size,3,none⟩) fm.o (.int .i64 n));have f6:=lE.o.frozen 3;obtain⟨y0,y1,y2,y3,y4⟩:=de.o.five;obtain⟨p0,p1,p2,p3,p4⟩:=Blk.five yp.o;go_region
 all_goals go_wp2_with fail
 all_goals go_ret
 all_goals exact⟨rfl,aN.o.drew⟩
theorem G6(B g b:Nat)(w:World)(ns:List Nd)(nv:Value)(h:GrP B g b w ns nv)(K:Int)(hK:K=6\/K=7\/K=8\/K=9)(a b':Int)(h0:0<=a)(h1:a<ns.length)(h2:0<=b')(h3:b'<ns.length):
  Calls Tryz.prog 159 #[.pointer (some ⟨g,0,none⟩),.agg #[.int .i64 K,.int .i64 a,.int .i64 b',.int .i64 0,.string ⟨#[]⟩]] w fun e w'=>e= .returned (.bool true)/\Ext w w':=by
 obtain⟨A,c,rfl⟩:=h.row.shape;have HG:=J h.blk;clear h;have yC:Hid (K=6\/K=7\/K=8\/K=9):=J (by omega);have e1:(K == 1)=false:=beq_eq_false_iff_ne.2 (by omega);have e2:(K == 2)=false:=beq_eq_false_iff_ne.2 (by omega);have Wf:(K == 10)=false:=beq_eq_false_iff_ne.2 (by omega);clear hK;have aA:=J (Blk.new w 50 #[.pointer (some ⟨g,0,none⟩)]);have ah:=J ((Ext.refl w).alloc (.cells #[.pointer (some ⟨g,0,none⟩)] 50));obtain⟨w1,aB⟩:∃w1,w1=w.alloc (.cells #[.pointer (some ⟨g,0,none⟩)] 50):=⟨_,rfl⟩;have dU:w1.heap.size=w.heap.size+1:=by rw[aB];simp
 rw[<-aB]at aA ah;have aF:=J (Blk.new w1 95 #[.int .i64 K,.int .i64 a,.int .i64 b',.int .i64 0,.string ⟨#[]⟩]);have am:=J ((Ext.refl w1).alloc (.cells #[.int .i64 K,.int .i64 a,.int .i64 b',.int .i64 0,.string ⟨#[]⟩] 95));obtain⟨w2,aY⟩:∃w2,w2=w1.alloc (.cells #[.int .i64 K,.int .i64 a,.int .i64 b',.int .i64 0,.string ⟨#[]⟩] 95):=⟨_,rfl⟩;have cn:w2.heap.size=w.heap.size+2:=by rw[aY];simp[dU]
 rw[<-aY,dU]at aF;rw[<-aY]at am;have HX:=J (ah.o.trans am.o);have q0:=aF.o.five;go_enter Tryz.func159,Tryz.ntmps159;go_upto_region 1 with fail;rw[<-aB,<-aY];clear aB aY;go_wp2_with fail;refine(Ff w2 K a b' 0 ⟨#[]⟩ yC.o).mono ?_
 rintro e w3 ⟨x3,rfl,hc0,hc1,_,XT,ae⟩;have ag:=J ae;have aC:=J (aF.o.ext ae);have yS:=J (Fk w.heap.size g ns.length c x3 2 A [a,b'] w3 ((ae.trans (Ext.refl _)).keep ((aA.o.ext am.o).cell 0)) (((HX.o.trans ae).cell HG.o.lt).trans (HG.o.cell 0)) (fun j hj=>by
  match j,hj with
  |0,_=>exact hc0
  |1,_=>exact hc1) (by simp))
 clear ae q0 hc0 hc1;have q0:=aC.o.five;go_wp2_with fail;refine yS.o.mono ?_
 rintro e Xi ⟨rfl,y4,rfl⟩;have kB:[a,b'].any (GC ns.length)=false:=by
  simp only[List.any_cons,List.any_nil,qbv,GC,qch,decide_eq_false_iff_not];omega
 rw[kB];clear kB;have eK:=J (aC.o.drewN y4);have aD:=J (ag.o.drewN y4);clear ag aC q0;generalize hw4:w3.drewN y4=w4 at *;clear hw4;have ag:=aD;have aC:=eK;have q0:=aC.o.five;have iC:w.heap.size+1<w4.heap.size:=by
  have h1:=ag.o.size;omega
 have fF:Hid (w.heap.size+1≠w4.heap.size):=J (by omega);have fm:Hid (w.heap.size<=w4.heap.size):=J (by omega);have hx5:=(Ext.refl w4).alloc (.cells #[.int .i64 K,.int .i64 0,.int .i64 0,.int .i64 0,.string ⟨#[]⟩] 95);have ef:=J (aC.o.ext hx5);have gp:=J (Blk.new w4 95 #[.int .i64 K,.int .i64 0,.int .i64 0,.int .i64 0,.string ⟨#[]⟩]);have ba:=J ((HX.o.trans ag.o).trans hx5);clear hx5 iC;obtain⟨y0,y1,y2,y3,y4⟩:=ef.o.five;obtain⟨p0,p1,p2,p3,p4⟩:=gp.o.five;obtain⟨w5,cA⟩:∃w5,w5=w4.alloc (.cells #[.int .i64 K,.int .i64 0,.int .i64 0,.int .i64 0,.string ⟨#[]⟩] 95):=⟨_,rfl⟩;rw[<-cA]at ef gp ba y0 y1 y2 y3 y4 p0 p1 p2 p3 p4;go_upto_region 5 with fail;rw[<-cA];clear cA q0;have lE:=J (gp.o.set_ 1 (.int .i64 a));have i8:=J (ef.o.far (p:=⟨w4.heap.size,1,none⟩) fF.o (.int .i64 a));have aZ:=J (ba.o.setCell (p:=⟨w4.heap.size,1,none⟩) fm.o (.int .i64 a));have f5:=gp.o.frozen 1;obtain⟨y0,y1,y2,y3,y4⟩:=i8.o.five;obtain⟨p0,p1,p2,p3,p4⟩:=Blk.five lE.o;have yp:=J (lE.o.set_ 2 (.int .i64 b'));have de:=J (i8.o.far (p:=⟨w4.heap.size,2,none⟩) fF.o (.int .i64 b'));have aN:=J (aZ.o.setCell (p:=⟨w4.heap.size,2,none⟩) fm.o (.int .i64 b'));have f6:=lE.o.frozen 2;obtain⟨y0,y1,y2,y3,y4⟩:=de.o.five;obtain⟨p0,p1,p2,p3,p4⟩:=Blk.five yp.o;go_wp2_with fail;go_ret;exact⟨rfl,aN.o⟩
open Go.RowKit Go.ChangeMaps
theorem Hz(B g b:Nat)(w:World)(ns:List Nd)(nv:Value)(h:GrP B g b w ns nv)(x:Nd)(hx:CA ns.length x)(hm:BT w):
  Calls Tryz.prog 159 #[.pointer (some ⟨g,0,none⟩),ndV x] w fun e w'=>e= .returned (.bool true)/\Ext w w':=by
 have hE:(.string ⟨#[]⟩:Value)=str []:=rfl;rcases hx with ⟨k,t,rfl,⟨rfl,h1,_⟩|⟨rfl,h1⟩|⟨rfl|rfl,rfl⟩⟩|⟨k,n,j,rfl,⟨h1,h2,h3,h4⟩,hj⟩|⟨k,j,q,rfl,hk,hj,hq⟩
 ·exact OK B g b w ns nv h t h1 hm
 ·exact QV B g b w ns nv h t h1
 ·exact K3 B g b w ns nv h _ (.inl rfl)
 ·exact K3 B g b w ns nv h _ (.inr rfl)
 ·have hk:k=5\/k=10\/k=11\/k=12\/k=13\/k=14\/k=15\/k=16:=by omega
  have j0:(0:Int)<=(j:Int):=by omega
  have j1:(j:Int)<(ns.length:Int):=by omega
  rcases hk with rfl|rfl|rfl|rfl|rfl|rfl|rfl|rfl
  ·rw[h2 (by decide)];exact Fj B g b w ns nv h _ (by simp only;omega) j j0 j1
  ·exact SC B g b w ns nv h j n j0 j1 h3 h4
  ·rw[h2 (by decide)];exact Fj B g b w ns nv h _ (by simp only;omega) j j0 j1
  ·rw[h2 (by decide)];exact Fj B g b w ns nv h _ (by simp only;omega) j j0 j1
  ·rw[h2 (by decide)];exact Fj B g b w ns nv h _ (by simp only;omega) j j0 j1
  ·rw[h2 (by decide)];exact Fj B g b w ns nv h _ (by simp only;omega) j j0 j1
  ·rw[h2 (by decide)];exact Fj B g b w ns nv h _ (by simp only;omega) j j0 j1
  ·rw[h2 (by decide)];exact Fj B g b w ns nv h _ (by simp only;omega) j j0 j1
 ·have hk:k=6\/k=7\/k=8\/k=9:=by omega
  have j0:(0:Int)<=(j:Int):=by omega
  have j1:(j:Int)<(ns.length:Int):=by omega
  have q0:(0:Int)<=(q:Int):=by omega
  have q1:(q:Int)<(ns.length:Int):=by omega
  rcases hk with rfl|rfl|rfl|rfl
  ·exact G6 B g b w ns nv h _ (by simp only;omega) j q j0 j1 q0 q1
  ·exact G6 B g b w ns nv h _ (by simp only;omega) j q j0 j1 q0 q1
  ·exact G6 B g b w ns nv h _ (by simp only;omega) j q j0 j1 q0 q1
  ·exact G6 B g b w ns nv h _ (by simp only;omega) j q j0 j1 q0 q1
theorem AD{w w':World}{B:Nat}{t:TypeId}{m:Nat}{v:Value}{n:Nat}{xs:List Value}(h:w.ownsRow B t m v n xs)(hk:∀k,v.ownBlock=some k->w'.heap[k]? =w.heap[k]?):w'.ownsRow B t m v n xs:=
 ⟨h.1,h.2.imp id (fun ⟨q,cap,cur,hv,hq,hh,r⟩=>⟨q,cap,cur,hv,hq,(hk q (by rw[hv];rfl)).trans hh,r⟩)⟩
theorem Aj{w:World}{B:Nat}{t:TypeId}{m:Nat}{v:Value}{n:Nat}{xs:List Value}(h:w.ownsRow B t m v n xs){k:Nat}(hk:v.ownBlock=some k):k<w.heap.size:=by
 rcases h.2 with ⟨rfl,_⟩|⟨q,cap,cur,rfl,_,hh,_⟩
 ·cases hk
 ·simp only[Value.ownBlock,qaw]at hk;subst hk;exact(Array.getElem?_eq_some_iff.1 hh).1
def Hi(B g b:Nat)(ns:List Nd)(nv:Value)(x:Nd)(w:World)(e:Ending)(w':World):Prop:=
 ∃nv',e= .returned (.tuple #[.int .i64 ((Bc ns x).1:Int),.int .i64 0])/\KG g b nv nv' w w'/\GrP B g b w' (Bc ns x).2 nv'
theorem Pc(B g b:Nat)(w:World)(ns:List Nd)(nv:Value)(h:GrP B g b w ns nv)(x:Nd)(hx:CA ns.length x)(hm:BT w)(hin:x∈ns):
  Calls Tryz.prog 104 #[.pointer (some ⟨g,0,none⟩),ndV x] w (Hi B g b ns nv x w):=by
 have et:=J (fun W h=>Hz B g b W ns nv h x hx);have HM:=J hm;have HG:=J h;have hfew:=h.few;have lk:F1 x:=hx.key (by omega);have gQ:=J (fun W (h:GrP B g b W ns nv)=>h.map.look (h.ok.keys (by omega)) h.ok.1 x lk (t:=78) Tryz.underlying78);have dV:(Bc ns x).1=Cz x ns:=by unfold Bc;rw[if_pos hin]
 have dM:(Bc ns x).2=ns:=by unfold Bc;rw[if_pos hin]
 have ry:Fe x ns=(Cz x ns:Int):=by unfold Fe;rw[if_pos hin]
 rw[ry,decide_eq_true hin]at gQ;have kF:=J dV;have lF:=J dM;clear dV dM ry hin lk hfew hm hx;obtain⟨A,c,rfl⟩:=h.row.shape;clear h;obtain⟨k,a,d,n,t⟩:=x;simp only[ndV]at et gQ ⊢;obtain⟨s,hs⟩:∃s:ByteArray,s=⟨t.toArray⟩:=⟨_,rfl⟩;have af:str t= .string s:=by rw[hs];rfl
 rw[af]at et gQ ⊢;clear hs af;have aA:=J (Blk.new w 95 #[.int .i64 k,.int .i64 a,.int .i64 d,.int .i64 n,.string s]);have ah:=J ((Ext.refl w).alloc (.cells #[.int .i64 k,.int .i64 a,.int .i64 d,.int .i64 n,.string s] 95));obtain⟨w1,aB⟩:∃w1,w1=w.alloc (.cells #[.int .i64 k,.int .i64 a,.int .i64 d,.int .i64 n,.string s] 95):=⟨_,rfl⟩;rw[<-aB]at aA ah;have q0:=aA.o.five;go_enter Tryz.func104,Tryz.ntmps104;go_upto_region 1 with fail;rw[<-aB];clear aB;go_wp2_with fail;refine(et.o w1 (HG.o.keep ah.o) (HM.o.ext ah.o)).mono ?_
 rintro e w2 ⟨rfl,al⟩;have am:=J (ah.o.trans al);have du:=J (HG.o.keep am.o);have aF:=J (aA.o.ext al);clear q0 al;have q0:=aF.o.five;have k0:=du.o.blk.twoG;have lZ:=gQ.o w2 du.o;have tj:=gQ.o w2.drew (du.o.keep (Ext.refl w2).drew);go_wp2_with fail;go_region;go_wp2_with fail;go_ret2;have ae:=am.o.drew;refine⟨_,by rw[kF.o];rfl,KG.of_ext ae,?_⟩;rw[lF.o];exact HG.o.keep ae
theorem Pd(B g b:Nat)(w:World)(ns:List Nd)(nv:Value)(h:GrP B g b w ns nv)(x:Nd)(hx:CA ns.length x)(hm:BT w)(hin:x∉ns)(br:ns.length<4096):
  Calls Tryz.prog 104 #[.pointer (some ⟨g,0,none⟩),ndV x] w (Hi B g b ns nv x w):=by
 have et:=J (fun W h=>Hz B g b W ns nv h x hx);have HM:=J hm;have HG:=J h;have lk:F1 x:=hx.key (by omega);have gQ:=J (fun W (h:GrP B g b W ns nv)=>h.map.look (h.ok.keys (by omega)) h.ok.1 x lk (t:=78) Tryz.underlying78);have aP:=J (fun W (h:Dq W b ns)=>h.store (HG.o.ok.keys (by omega)) x lk hin (t:=78) Tryz.underlying78);have dV:(Bc ns x).1=ns.length:=by unfold Bc;rw[if_neg hin]
 have dM:(Bc ns x).2=ns++[x]:=by unfold Bc;rw[if_neg hin]
 have ry:Fe x ns=0:=by unfold Fe;rw[if_neg hin]
 rw[ry,decide_eq_false hin]at gQ;have bV:Hid (Ax (ns++[x])):=J (by rw[<-dM];exact h.ok.put hx);have kF:=J dV;have lF:=J dM;clear dV dM ry hin lk hm hx;have jt:=h.lo;have th:=h.lo2;have cW:=h.apart3;have vo:=J h.apart;have j5:=J h.apart2;have Vr:=h.lt;have hbz0:=h.map.lt;obtain⟨A,c,rfl⟩:=h.row.shape;clear h;obtain⟨i0,hi,aR,hz1,aU⟩:=info_parts BI;obtain⟨k,a,d,n,t⟩:=x;simp only[ndV]at et gQ aP ⊢;obtain⟨s,hs⟩:∃s:ByteArray,s=⟨t.toArray⟩:=⟨_,rfl⟩;have qW:Hid (ndC ⟨k,a,d,n,t⟩=[.int .i64 k,.int .i64 a,.int .i64 d,.int .i64 n,.string s]):=J (by rw[hs];rfl);have af:str t= .string s:=by rw[hs];rfl
 rw[af]at et gQ aP ⊢;clear hs af;have aA:=J (Blk.new w 95 #[.int .i64 k,.int .i64 a,.int .i64 d,.int .i64 n,.string s]);have ah:=J ((Ext.refl w).alloc (.cells #[.int .i64 k,.int .i64 a,.int .i64 d,.int .i64 n,.string s] 95));obtain⟨w1,aB⟩:∃w1,w1=w.alloc (.cells #[.int .i64 k,.int .i64 a,.int .i64 d,.int .i64 n,.string s] 95):=⟨_,rfl⟩;have dU:w1.heap.size=w.heap.size+1:=by rw[aB];simp
 rw[<-aB]at aA ah;have q0:=aA.o.five;have mP:decide ((ns.length:Int)>=4096)=false:=decide_eq_false (by omega);have X9:decide (4096<=(ns.length:Int))=false:=decide_eq_false (by omega);go_enter Tryz.func104,Tryz.ntmps104;go_upto_region 1 with fail;rw[<-aB];clear aB;go_wp2_with fail;refine(et.o w1 (HG.o.keep ah.o) (HM.o.ext ah.o)).mono ?_
 rintro e w2 ⟨rfl,al⟩;have am:=J (ah.o.trans al);have du:=J (HG.o.keep am.o);have aF:=J (aA.o.ext al);have cn:w.heap.size<w2.heap.size:=by have:=al.size;omega
 clear q0 al;have q0:=aF.o.five;obtain⟨k0,k1,f0,f1,ea⟩:=du.o.blk.twoG;have lZ:=gQ.o w2 du.o;have tj:=gQ.o w2.drew (du.o.keep (Ext.refl w2).drew);go_wp2_with fail;go_region;go_upto_region 9 with fail;obtain⟨wA,vL⟩:∃wA,wA=w2.drew:=⟨_,rfl⟩;have UC:Ext w wA:=by rw[vL];exact am.o.drew
 have Xx:w.heap.size<wA.heap.size:=by rw[vL];exact cn
 have aM:=J UC;have pJ:=J (HG.o.keep UC);have Yc:Blk wA w.heap.size 95 #[.int .i64 k,.int .i64 a,.int .i64 d,.int .i64 n,.string s]:=by rw[vL];exact aF.o.drew
 have zV:=J Yc;rw[<-vL];clear vL UC Yc lZ tj q0 k0 k1 f0 f1 ea;have q0:=zV.o.five;obtain⟨k0,k1,f0,f1,ea⟩:=pJ.o.blk.twoG;have jJ:Hid (∀w':World,(wA.alloc (.cells #[.int .i64 k,.int .i64 a,.int .i64 d,.int .i64 n,.string s] 95)).drew.grownBy w' (Value.slice A ns.length c).ownBlock->Blk w' g 80 #[.slice A ns.length c,.map (some b)]/\Dq w' b ns/\Blk w' w.heap.size 95 #[.int .i64 k,.int .i64 a,.int .i64 d,.int .i64 n,.string s]/\wA.grownBy w' (Value.slice A ns.length c).ownBlock):=J (fun w' hgr=>by
  have lm:wA.grownBy w' (Value.slice A ns.length c).ownBlock:=by
   refine⟨hgr.os,hgr.tape,hgr.output,?_,fun i h1 h2=> ?_⟩
   ·have:=hgr.size;simp only[World.size_drew,World.size_alloc]at this;omega
   ·exact(hgr.block i (by simp only[World.size_drew,World.size_alloc];omega) h2).trans (Below.heap_alloc wA _ i h1)
  have hbN:some w.heap.size≠(Value.slice A ns.length c).ownBlock:=fun e=>by
   have h1:=pJ.o.row;unfold Ai at h1;rcases(HG.o.row).2 with ⟨h2,_⟩|⟨q,cap,cur,h2,_,hh,_⟩
   ·rw[h2]at e;cases e
   ·rw[h2]at e;simp only[Value.ownBlock,qaw]at e;have:=(Array.getElem?_eq_some_iff.1 hh).1;omega
  exact⟨(lm.block g ea (fun e=>j5.o e.symm)).trans pJ.o.blk,pJ.o.map.kept (lm.block b pJ.o.map.lt (fun e=>vo.o e.symm)),(lm.block w.heap.size Xx hbN).trans zV.o,lm⟩)
 have gB:Hid (∀(j:Nat) (u:Value),[.int .i64 k,.int .i64 a,.int .i64 d,.int .i64 n,.string s][j]? =some u->(wA.alloc (.cells #[.int .i64 k,.int .i64 a,.int .i64 d,.int .i64 n,.string s] 95)).drew.cell? ((⟨wA.heap.size,0,none⟩:Addr).add j)=some u):=J (fun j u hj=>by
  have h1:=(Blk.new wA 95 #[.int .i64 k,.int .i64 a,.int .i64 d,.int .i64 n,.string s]).drew.cell j;have h2:(⟨wA.heap.size,0,none⟩:Addr).add j=⟨wA.heap.size,j,none⟩:=by
   unfold Addr.add;split
   ·rename_i h;subst h;rfl
   ·simp
  rw[h2,h1,<-hj];simp)
 have dt:Hid ((wA.alloc (.cells #[.int .i64 k,.int .i64 a,.int .i64 d,.int .i64 n,.string s] 95)).drew.ownsRow B 95 5 (.slice A ns.length c) ns.length (AN ns)):=J (Ac pJ.o.row (fun k _ hk=>Below.heap_alloc wA _ k hk));have bJ:Hid (ns.length+1<=maxLen):=J (by unfold maxLen;omega);have dQ:Hid ((ns.length+1)*48<=140737488355328):=J (by omega);have um:Hid (B<=(wA.alloc (.cells #[.int .i64 k,.int .i64 a,.int .i64 d,.int .i64 n,.string s] 95)).drew.heap.size):=J (by simp only[World.size_drew,World.size_alloc];omega)
 go_region_law (refine step_append_lies _ rfl (.tmp 39) (.tmp 41) 77 rfl B 95 i0 _ 5 48 Tryz.underlying77 hi aR hz1 aU rfl (by decide) _ ns.length (AN ns) rfl dt.o ⟨wA.heap.size,0,none⟩ 1 1 [.int .i64 k,.int .i64 a,.int .i64 d,.int .i64 n,.string s] rfl rfl gB.o (by simp[Value.oneCell']) (by decide) bJ.o dQ.o um.o _ rfl ?_;intro g' c' w' ac hgr hat hlt;have gK:=J ac;have dK:=J (jJ.o w' hgr);have fH:=J hat;clear ac hgr hat;have m0:=dK.o.1.twoG)
 all_goals
  have U4:g'≠g:=by
   rcases fH.o with h4|h4
   ·exact fun e=>j5.o (h4.trans (congrArg some e))
   ·simp only[World.size_drew,World.size_alloc]at h4;omega
  have hne2:g'≠b:=by
   rcases fH.o with h4|h4
   ·exact fun e=>vo.o (h4.trans (congrArg some e))
   ·have:=pJ.o.map.lt;simp only[World.size_drew,World.size_alloc]at h4;omega
  have en:=dK.o.1.set_ 0 (.slice (some ⟨g',0,none⟩) (ns.length+1) c');have hN:Dq (w'.setCell ⟨g,0,none⟩ (.slice (some ⟨g',0,none⟩) (ns.length+1) c')) b ns:=dK.o.2.1.kept (Below.heap_setCell _ _ _ b (fun e=>cW e.symm));have oW:=dK.o.2.2.1.far (p:=⟨g,0,none⟩) (by show w.heap.size≠g;omega) (.slice (some ⟨g',0,none⟩) (ns.length+1) c');have au:=AD (w':=w'.setCell ⟨g,0,none⟩ (.slice (some ⟨g',0,none⟩) (ns.length+1) c')) gK.o (fun k hk=>Below.heap_setCell _ _ _ k (by
   simp only[Value.ownBlock,qaw]at hk;show k≠g;omega))
  have eM:∀k,k<w.heap.size->k≠g->(Value.slice A ns.length c).ownBlock≠some k->(w'.setCell ⟨g,0,none⟩ (.slice (some ⟨g',0,none⟩) (ns.length+1) c')).heap[k]? =w.heap[k]? :=fun k h1 h2 h3=>
   (Below.heap_setCell _ _ _ k h2).trans ((dK.o.2.2.2.block k (by omega) (fun e=>h3 e.symm)).trans (aM.o.block k h1))
  have ws:(w'.setCell ⟨g,0,none⟩ (.slice (some ⟨g',0,none⟩) (ns.length+1) c')).os=w.os/\(w'.setCell ⟨g,0,none⟩ (.slice (some ⟨g',0,none⟩) (ns.length+1) c')).tape=w.tape/\(w'.setCell ⟨g,0,none⟩ (.slice (some ⟨g',0,none⟩) (ns.length+1) c')).output=w.output/\wA.heap.size<=(w'.setCell ⟨g,0,none⟩ (.slice (some ⟨g',0,none⟩) (ns.length+1) c')).heap.size:=by
   have h2:=Below.setCell (Below.refl g w') (p:=⟨g,0,none⟩) (qad _) (.slice (some ⟨g',0,none⟩) (ns.length+1) c');have h4:=dK.o.2.2.2;exact⟨h2.os.trans (h4.os.trans aM.o.os),h2.tape.trans (h4.tape.trans aM.o.tape),h2.output.trans (h4.output.trans aM.o.output),qaf h4.size h2.size⟩
  generalize (w'.setCell ⟨g,0,none⟩ (.slice (some ⟨g',0,none⟩) (ns.length+1) c'))=wB at *;have lc:=J en;have i6:=J au;have kO:=J eM;have nc:=J ws;clear q0 k0 k1 f0 f1 m0 au eM ws;have q0:=oW.five;obtain⟨k0,k1,f0,f1,Vq⟩:=Blk.twoG en;obtain⟨wC,bq,XJ,pX⟩:=aP.o wB.drew hN;have nh:=J XJ;have HGC:=J pX;have aX:=J hN;clear en hN oW XJ pX;go_wp2_with fail;go_region;go_wp2_with fail;go_ret2;have pX:=HGC.o;have hzC:wB.heap.size<=wC.heap.size:=pX.size;have Zf:=nc.o.2.2.2;refine⟨(.slice (some ⟨g',0,none⟩) (ns.length+1) c'),by rw[kF.o];rfl,⟨pX.os.trans nc.o.1,pX.tape.trans nc.o.2.1,pX.output.trans nc.o.2.2.1,by omega,fun k h1 h2 h3 h4=> ?_,fun j hj=> ?_⟩,?_⟩
  ·exact(pX.block k (show k<wB.heap.size by omega) (fun e=>h3 (qaA e))).trans (kO.o k h1 h2 h4)
  ·have h5:g'=j:=qaA hj;rcases fH.o with h4|h4
   ·exact .inl (h4.trans (congrArg some h5))
   ·simp only[World.size_drew,World.size_alloc]at h4;exact .inr (by omega)
  ·rw[lF.o];refine⟨(pX.block g (show g<wB.heap.size by omega) (fun e=>cW (qaA e))).trans lc.o,?_,nh.o,jt,th,bV.o,by simp only[qab,qae];omega,HG.o.low⟩;unfold Ai;rw[Bl,Bw,qW.o,qab,qae];refine AD i6.o (fun k hk=>pX.block k (Aj i6.o hk) (fun e=> ?_));have h5:g'=k:=qaA hk;have h6:k=b:=qaA e;exact hne2 (h5.trans h6)
theorem JK(B g b:Nat)(w:World)(ns:List Nd)(nv:Value)(h:GrP B g b w ns nv)(x:Nd)(hx:CA ns.length x)(hm:BT w)(br:ns.length<4096):
  Calls Tryz.prog 104 #[.pointer (some ⟨g,0,none⟩),ndV x] w (Hi B g b ns nv x w):=by
 by_cases hin:x∈ns
 ·exact Pc B g b w ns nv h x hx hm hin
 ·exact Pd B g b w ns nv h x hx hm hin br
def AI(l:List Nat):Array Value:=(l.map din).toArray
theorem C7(l:List Nat)(i x:Nat):(AI l).setIfInBounds i (.int .i64 (x:Int))=AI (l.set i x):=by
 apply qcg;simp[AI,List.map_set,din]
theorem Bd(l:List Nat)(i:Nat)(h:i<l.length):(AI l)[i]? =some (.int .i64 ((l.getD i 0:Nat):Int)):=by
 unfold AI;rw[qbL,Iu h,qac,qaa h];rfl
theorem Hs(n:Nat)(hn:n<=1000000)(W:World):(Instr.makeSlice 41 (.int .i64 (n:Int)) (.int .i64 (n:Int))).run Tryz.prog W=
  .ok (.slice (some ⟨W.heap.size,0,none⟩) n n) (W.alloc (.cells (AI (List.replicate n 0)) 3)):=by
 obtain⟨i0,hi,aR,hz1,aU⟩:=info_parts DJ;have hr:=run_make (P:=Tryz.prog) W 41 3 i0 _ Tryz.underlying41 hi aR .i64 .i64 (n:Int) (n:Int) (by omega) (Int.le_refl _) (by rw[aU];omega) (by omega);have hm:madeCells (Value.cells (.int .i64 0)) (n*1)=AI (List.replicate n 0):=by
  apply qcg;apply qcb;intro i;simp only[madeCells,AI,Value.cells];rw[qcc,Array.getElem?_map,qaD,qbZ];rcases qam i n with h|h
  ·rw[qbO,if_pos (by omega),if_pos h];simp[din,Nat.mod_one]
  ·rw[qbO,if_neg (by omega),if_neg (by omega)];rfl
 rw[hz1,qaq,hm]at hr;exact hr
def CS(g b:Nat)(nv:Value)(w:World)(v:Value)(l:List Nd):Prop:=
 ∃A c,v= .slice A l.length c/\(0<l.length->∃q o,A=some ⟨q,o,none⟩/\q<w.heap.size/\q≠g/\q≠b/\nv.ownBlock≠some q/\∀i (hi:i<l.length),Hj w q (o+i*5) l[i])
theorem CS.read{g b:Nat}{nv:Value}{w:World}{v:Value}{l:List Nd}(h:CS g b nv w v l):RNd w v l:=by
 obtain⟨A,c,rfl,h1⟩:=h;refine⟨A,c,rfl,fun hp=> ?_⟩;obtain⟨q,o,rfl,hq,_,_,_,hc⟩:=h1 hp;exact⟨q,o,rfl,hq,hc⟩
theorem CS.keep{g b:Nat}{nv nv':Value}{w w':World}{v:Value}{l:List Nd}(h:CS g b nv w v l)(hk:KG g b nv nv' w w'):CS g b nv' w' v l:=by
 obtain⟨A,c,rfl,h1⟩:=h;refine⟨A,c,rfl,fun hp=> ?_⟩;obtain⟨q,o,rfl,hq,h2,h3,h4,hc⟩:=h1 hp;have hb:=hk.block q hq h2 h3 h4;have hk2:∀o,w'.cell? ⟨q,o,none⟩=w.cell? ⟨q,o,none⟩:=fun o=>World.cell?_of_block (a:=⟨q,o,none⟩) hb
 refine⟨q,o,rfl,qaj hq hk.size,h2,h3,fun e=> ?_,fun i hi=> ?_⟩
 ·rcases hk.move q e with h5|h5
  ·exact h4 h5
  ·omega
 ·obtain⟨q0,q1,q2,q3,q4⟩:=hc i hi;exact⟨(hk2 _).trans q0,(hk2 _).trans q1,(hk2 _).trans q2,(hk2 _).trans q3,(hk2 _).trans q4⟩
theorem CS.new{B g b:Nat}{nv:Value}{w0 w:World}{v:Value}{l ns:List Nd}(h:Ai w0.heap.size w v l)(hg:GrP B g b w0 ns nv):CS g b nv w v l:=by
 obtain⟨A,c,hv,h1⟩:=h.read;refine⟨A,c,hv,fun hp=> ?_⟩;obtain⟨q,o,rfl,hq,hc⟩:=h1 hp;have fh:=Ay h q (by rw[hv];rfl);have h2:=hg.lt;have h3:=hg.map.lt;exact⟨q,o,rfl,hq,by omega,by omega,fun e=>by have:=Aj hg.row e;omega,hc⟩
def GK(B g b m:Nat)(ns:List Nd)(nv:Value)(e:Ex)(v:Value)(w:World)(i:Nat)(wr:World):Prop:=
 ∃nv',KG g b nv nv' w wr/\GrP B g b wr (BJ ([],ns) ((Ag 0 e).take i)).2 nv'/\Blk wr m 3 (AI ((BJ ([],ns) ((Ag 0 e).take i)).1++List.replicate (e.size-i) 0))/\CS g b nv' wr v (Ag 0 e)/\
  m≠g/\m≠b/\nv'.ownBlock≠some m/\w.heap.size<=m/\BT wr/\v.ownBlock≠some m
theorem GK.start{B g b:Nat}{ns:List Nd}{nv:Value}{e:Ex}{v:Value}{w w1:World}(h:GrP B g b w ns nv)(hv:CS g b nv w v (Ag 0 e))(hx:Ext w w1)(hm:BT w):
  GK B g b w1.heap.size ns nv e v w 0 (w1.alloc (.cells (AI (List.replicate e.size 0)) 3)):=by
 have al:=hx.alloc (.cells (AI (List.replicate e.size 0)) 3);have hg:=h.lt;have hb:=h.map.lt;have hs:=hx.size;refine⟨nv,KG.of_ext al,?_,?_,hv.keep (KG.of_ext al),by omega,by omega,fun e=> ?_,hs,hm.ext al,?_⟩
 ·rw[qaK];exact h.keep al
 ·rw[qaK];show Blk _ _ _ (AI ([]++List.replicate (e.size-0) 0));rw[qaG,Nat.sub_zero];exact Blk.new _ _ _
 ·have:=Aj h.row e;omega
 ·obtain⟨A,c,rfl,h1⟩:=hv;obtain⟨q,o,rfl,hq,_⟩:=h1 (by rw[Ak];exact e.size_pos);intro he;have h2:q=w1.heap.size:=qaA he;omega
theorem GK.next {B g b m:Nat} {ns:List Nd} {nv bh nv2:Value} {e:Ex} {v:Value} {w wr w1 w2:World} {i:Nat} (hg:e.Good) (hs:Ax ns) (hi:i<e.size) (hl:i<(Ag 0 e).length)
  (h1:KG g b nv bh w wr) (h4:CS g b bh wr v (Ag 0 e)) (hb:Blk wr m 3 (AI ((BJ ([],ns) ((Ag 0 e).take i)).1++List.replicate (e.size-i) 0)))
  (m1:m≠g) (m2:m≠b) (m3:bh.ownBlock≠some m) (m4:w.heap.size<=m) (m5:v.ownBlock≠some m) (hm:BT wr) (hx:Ext wr w1) (hk:KG g b bh nv2 w1 w2)
  (hB:B<=w.heap.size) (hp:GrP B g b w2 (Bc (BJ ([],ns) ((Ag 0 e).take i)).2 (B6 (BJ ([],ns) ((Ag 0 e).take i)).1 (Ag 0 e)[i])).2 nv2) (hp0:GrP B g b w1 (BJ ([],ns) ((Ag 0 e).take i)).2 bh):
  GK B g b m ns nv e v w (i+1) (w2.setCell ⟨m,i,none⟩ (.int .i64 ((Bc (BJ ([],ns) ((Ag 0 e).take i)).2 (B6 (BJ ([],ns) ((Ag 0 e).take i)).1 (Ag 0 e)[i])).1:Int))):=by
 have jS:=FG.at hs hg i (qaR hi);have hmw:m<w1.heap.size:=qaj hb.lt hx.size;have k1:=(KG.of_ext hx).trans hk;have hb2:Blk w2 m 3 _:=k1.blk hb m1 m2 m3;have Xl:nv2.ownBlock≠some m:=fun e=>by
  rcases k1.move m e with h5|h5
  ·exact m3 h5
  ·have:=hb.lt;omega
 have mH:∀u:Value,KG g b nv nv2 w (w2.setCell ⟨m,i,none⟩ u):=fun u=>by
  have k2:=h1.trans k1;have cn:(w2.setCell ⟨m,i,none⟩ u).heap.size=w2.heap.size:=by simp
  have iJ:=Below.setCell (Below.refl m w2) (p:=⟨m,i,none⟩) (qad _) u;exact⟨iJ.os.trans k2.os,iJ.tape.trans k2.tape,iJ.output.trans k2.output,by rw[cn];exact k2.size,fun k p1 p2 p3 p4=>(Below.heap_setCell _ _ _ k (by show k≠m;omega)).trans (k2.block k p1 p2 p3 p4),k2.move⟩
 have af:BJ ([],ns) ((Ag 0 e).take (i+1))=Ik (BJ ([],ns) ((Ag 0 e).take i)) (Ag 0 e)[i]:=GF _ _ _ hl;have lX:BT w2:=(hm.ext hx).below (hk.below hp0) hp0.low;refine⟨nv2,mH _,?_,?_,?_,m1,m2,Xl,m4,lX.below (Below.setCell (Below.refl B w2) (p:=⟨m,i,none⟩) (by show B<=m;omega) _) hp.low,m5⟩
 ·rw[af,GO];refine⟨hp.blk.far (p:=⟨m,i,none⟩) (fun e=>m1 e.symm) _,?_,hp.map.kept (Below.heap_setCell _ _ _ b (fun e=>m2 e.symm)),hp.lo,hp.lo2,hp.ok,hp.few,hp.low⟩;exact AD hp.row (fun k hk=>Below.heap_setCell _ _ _ k (fun e=>Xl (by rw[hk];exact congrArg some e)))
 ·have h6:=hb2.set_ i (.int .i64 ((Bc (BJ ([],ns) ((Ag 0 e).take i)).2 (B6 (BJ ([],ns) ((Ag 0 e).take i)).1 (Ag 0 e)[i])).1:Int));rw[C7]at h6;rw[af,GO];have hl2:=jS.len;have h7:((BJ ([],ns) ((Ag 0 e).take i)).1++List.replicate (e.size-i) 0).set i (Bc (BJ ([],ns) ((Ag 0 e).take i)).2 (B6 (BJ ([],ns) ((Ag 0 e).take i)).1 (Ag 0 e)[i])).1=
    ((BJ ([],ns) ((Ag 0 e).take i)).1++[(Bc (BJ ([],ns) ((Ag 0 e).take i)).2 (B6 (BJ ([],ns) ((Ag 0 e).take i)).1 (Ag 0 e)[i])).1])++List.replicate (e.size-(i+1)) 0:=by
   rw[qbk _ _ (by omega),hl2,qaX,show e.size-i=(e.size-(i+1))+1 by omega,qbS,qbF,qan];rfl
  rw[h7]at h6;exact h6
 ·have h8:=(h4.keep k1);obtain⟨A,c,rfl,h9⟩:=h8;refine⟨A,c,rfl,fun hp=> ?_⟩;obtain⟨q,o,rfl,hq,p2,p3,p4,hc⟩:=h9 hp;have sQ:q≠m:=fun e=>m5 (congrArg some e)
  have hk2:∀o u,(w2.setCell ⟨m,i,none⟩ u).cell? ⟨q,o,none⟩=w2.cell? ⟨q,o,none⟩:=fun o u=>World.cell?_of_block (a:=⟨q,o,none⟩) (Below.heap_setCell _ _ _ q sQ)
  refine⟨q,o,rfl,by simpa using hq,p2,p3,p4,fun j hj=> ?_⟩;obtain⟨q0,q1,q2,q3,q4⟩:=hc j hj;exact⟨(hk2 _ _).trans q0,(hk2 _ _).trans q1,(hk2 _ _).trans q2,(hk2 _ _).trans q3,(hk2 _ _).trans q4⟩
def PF(B g b:Nat)(ns:List Nd)(nv:Value)(e:Ex)(w:World)(r:Ending)(w':World):Prop:=
 ∃nv',r= .returned (.tuple #[.int .i64 ((AC ns e).1:Int),.int .i64 0])/\KG g b nv nv' w w'/\GrP B g b w' (AC ns e).2 nv'
theorem Rl(B g b:Nat)(w:World)(ns:List Nd)(nv v:Value)(e:Ex)(h:GrP B g b w ns nv)(hv:CS g b nv w v (Ag 0 e))(be:e.Good)(hsz:e.size<=200)(jw:e.depth<=40)(hm:BT w)(br:ns.length+e.size<=4096):
  Calls Tryz.prog 70 #[.pointer (some ⟨g,0,none⟩),v] w (PF B g b ns nv e w):=by
 have kD:=J (N6 w v (Ag 0 e) hv.read (by rw[Ak];omega) (Gc e be 0) hm);rw[L3 e be.well.1,be.well.2,decide_eq_true ⟨hsz,jw⟩]at kD;have HG:=J h;have HV:=J hv;have HM:=J hm;have ni:=J (Hs e.size (by omega));obtain⟨n,hn⟩:∃n,n=e.size:=⟨_,rfl⟩;have lq:=Ak e 0;obtain⟨A1,c1,rfl,_⟩:=hv;rw[lq,<-hn]at kD HV ⊢;rw[<-hn]at ni;have HN:=J hn;have jk:=J lq;have dA:1<=n:=by rw[hn];exact e.size_pos
 have hn2:n<=200:=by omega
 obtain⟨A,c,rfl⟩:=h.row.shape;have eQ:=J be;have Wy:=J br;clear h hm hn lq be hsz jw br;go_enter Tryz.func70,Tryz.ntmps70;go_wp2_with fail;refine kD.o.mono ?_
 rintro r w1 ⟨rfl,ar⟩;have ah:=J ar;obtain⟨k0,k1,f0,f1,ea⟩:=(HG.o.keep ar).blk.twoG;have dF:=ni.o w1;clear ar;have aB:∀i:Nat,i<n->IntKind.i64.wrap ((i:Int)+1)=(i:Int)+1:=fun i hi=>IntWalk.i64_in _ (by omega)
 have yb:=J aB;clear aB;go_wp2_with fail;go_loopw [27] (fun Up wr=>∃i:Nat,i<=n/\Up= .int .i64 (i:Int)/\GK B g b w1.heap.size ns (.slice A ns.length c) e (.slice A1 n c1) w i wr) (fun Up _=>n-(intOf Up).toNat)
 case atStart=>
  have h0:=GK.start HG.o HV.o ah.o HM.o;rw[<-HN.o]at h0;exact⟨0,qal _,rfl,h0⟩
 case round=>
  obtain⟨i,hi,rfl,aL⟩:=hrel;by_cases hlt:i<n
  ·obtain⟨bh,cd,hgr,ax,eL,m1,m2,m3,m4,lX,m5⟩:=aL;have uW:i<e.size:=by rw[<-HN.o];exact hlt
   have hl:i<(Ag 0 e).length:=by rw[Ak];exact uW
   have jS:=FG.at HG.o.ok eQ.o i (qaR uW);have an:=EW e eQ.o 0 i _ (qaa hl);rw[qaF]at an;have jd:=JC jS an;have jz:=jS.big;have ak:=jS.len;have jt:=HG.o.lo;have bC:=HG.o.lt;have cV:=J (fun nv2 w1' w2' (hx:Ext _ w1') hk hp hp0=>GK.next (B:=B) (nv2:=nv2) (w1:=w1') (w2:=w2') eQ.o HG.o.ok uW hl cd eL ax m1 m2 m3 m4 m5 lX hx hk (by omega) hp hp0);have aE:=J (fun W h hm=>JK B g b W _ bh h _ jd hm (by have:=Wy.o;omega));obtain⟨A2,c2,he2,dG⟩:=eL;obtain⟨q,o,hA,hq,p2,p3,p4,bZ⟩:=dG (by omega);obtain⟨y0,y1,y2,y3,y4⟩:=bZ i hl;simp only[Value.slice.injEq]at he2;obtain⟨rfl,jr,rfl⟩:=he2;clear jr;subst hA;have hil:(i:Int)<(n:Int):=by omega
   have dW:(0:Int)<=(i:Int):=by omega
   have lS:=yb.o i hlt;have HNV:=J p4;clear dG bZ jd jz p4;generalize af:BJ ([],ns) (List.take i (Ag 0 e))=st at *;clear af;obtain⟨ids,gs⟩:=st;simp only at hgr ax ak cV aE jS;rw[<-HN.o]at ax;have ko:∀j,j<i->(AI (ids++List.replicate (n-i) 0))[j]? =some (.int .i64 ((ids.getD j 0:Nat):Int)):=fun j hj=>by
    rw[Bd _ _ (by rw[qab];omega),Cq _ _ (by omega)]
   have X4:(AI (ids++List.replicate (n-i) 0))[i]? =some (.int .i64 (((ids++List.replicate (n-i) 0).getD i 0:Nat):Int)):=Bd _ _ (by rw[qab,qaL];omega)
   generalize (ids++List.replicate (n-i) 0).getD i 0=old at *;generalize AI (ids++List.replicate (n-i) 0)=CC at *;generalize (Ag 0 e)[i]=x at *;have gC:=J ax;have f7:=J hgr;have mn:=J ko;have W2:=J X4;have jI:=J lX;have cH:=J cd;have ur:=J m1;have dK:=J m2;have lK:=J m3;clear ax hgr ko X4 lX cd m1 m2 m3 m5 jS;rcases an with ⟨k,t,rfl,ho⟩|⟨k,nn,j,rfl,ho,hj⟩|⟨k,j,jq,rfl,hk,hj,rG⟩
   ·have eJ:(k:Int)=1\/(k:Int)=2\/(k:Int)=3\/(k:Int)=4:=by rcases ho with ⟨h,_⟩|⟨h,_⟩|⟨h,_⟩<;>omega
    have kj:B6 ids ⟨(k:Int),0,0,0,t⟩=⟨(k:Int),0,0,0,t⟩:=by
     unfold B6;rw[if_neg (by simp only;omega),if_neg (by simp only;omega)]
    rw[kj]at aE cV;have dl:=J eJ;clear eJ kj ho;simp only[ndV]at aE;simp only at y0 y1 y2 y3 y4;generalize hkk:(k:Int)=kk at *;obtain⟨s,hs⟩:∃s:ByteArray,s=⟨(t:List UInt8).toArray⟩:=⟨_,rfl⟩;have af:str t= .string s:=by rw[hs];rfl
    rw[af]at y4 aE;clear hs af hkk;have aW:=J (Blk.new wr 95 #[.int .i64 kk,.int .i64 0,.int .i64 0,.int .i64 0,.string s]);have aN:=J ((Ext.refl wr).alloc (.cells #[.int .i64 kk,.int .i64 0,.int .i64 0,.int .i64 0,.string s] 95));obtain⟨w7,dk⟩:∃w7,w7=wr.alloc (.cells #[.int .i64 kk,.int .i64 0,.int .i64 0,.int .i64 0,.string s] 95):=⟨_,rfl⟩;rw[<-dk]at aW aN;have q0:=aW.o.five;go_upto_region 8 with fail;rw[<-dk];clear dk y0 y1 y2 y3 y4;go_wp2_with fail;refine(C0 w7 kk 0 0 0 s dl.o).mono ?_
    rintro r w8 ⟨rfl,bS⟩;have cp:=J (aN.o.trans bS);have mi:=J (aW.o.ext bS);clear q0 bS;have q0:=mi.o.five;go_wp2_with fail;refine(aE.o w8 (f7.o.keep cp.o) (jI.o.ext cp.o)).mono ?_
    rintro r dj ⟨nv2,rfl,cQ,bQ⟩;have iA:=((KG.of_ext cp.o).trans cQ).blk gC.o ur.o dK.o lK.o;have z0:=(iA.cell i).trans W2.o;have z1:=iA.frozen i;have fe:=J (cV.o nv2 w8 dj cp.o cQ bQ (f7.o.keep cp.o));clear iA cQ bQ q0;generalize (Bc gs _).1=pid at *;go_wp2_with fail;go_roundw
    case rel=>exact⟨i+1,hlt,by go_num,fe.o⟩
    case measure=>simp[intOf];omega
   ·have eJ:(k:Int)=5\/(k:Int)=10\/(k:Int)=11\/(k:Int)=12\/(k:Int)=13\/(k:Int)=14\/(k:Int)=15\/(k:Int)=16:=by have:=ho.1;omega
    have kj:B6 ids ⟨(k:Int),(j:Int),0,nn,[]⟩=⟨(k:Int),((ids.getD j 0:Nat):Int),0,nn,[]⟩:=by
     unfold B6;rw[if_pos (by simp only;omega),if_neg (by simp only;omega)];rfl
    rw[kj]at aE cV;have dl:=J eJ;have uB:=J (mn.o j hj);have qD:(j:Int)<(n:Int):=by omega
    have mO:(0:Int)<=(j:Int):=by omega
    clear eJ kj ho hj;generalize ((ids.getD j 0:Nat):Int)=va at *;simp only[ndV]at aE;simp only at y0 y1 y2 y3 y4;generalize hkk:(k:Int)=kk at *;obtain⟨s,hs⟩:∃s:ByteArray,s=⟨([]:List UInt8).toArray⟩:=⟨_,rfl⟩;have af:str []= .string s:=by rw[hs];rfl
    rw[af]at y4 aE;clear hs af hkk;have aW:=J (Blk.new wr 95 #[.int .i64 kk,.int .i64 (j:Int),.int .i64 0,.int .i64 nn,.string s]);have aN:=J ((Ext.refl wr).alloc (.cells #[.int .i64 kk,.int .i64 (j:Int),.int .i64 0,.int .i64 nn,.string s] 95));obtain⟨w7,dk⟩:∃w7,w7=wr.alloc (.cells #[.int .i64 kk,.int .i64 (j:Int),.int .i64 0,.int .i64 nn,.string s] 95):=⟨_,rfl⟩;rw[<-dk]at aW aN;have q0:=aW.o.five;go_upto_region 8 with fail;rw[<-dk];clear dk y0 y1 y2 y3 y4;go_wp2_with fail;refine(EB w7 kk (j:Int) 0 nn s dl.o).mono ?_
    rintro r w8 ⟨x8,rfl,_,_,_,bS⟩;have cp:=J (aN.o.trans bS);have mi:=J (aW.o.ext bS);clear q0 bS;have q0:=mi.o.five;have fO:w1.heap.size<wr.heap.size:=gC.o.lt;have qv:=gC.o.ext cp.o;have v0:=(qv.cell j).trans uB.o;have f1:=mi.o.frozen 1;have fl:=J (mi.o.set_ 1 (.int .i64 va));have dI:=J (cp.o.setCell (p:=⟨wr.heap.size,1,none⟩) (qad _) (.int .i64 va));have r0:=Blk.five fl.o;go_wp2_with fail;refine(aE.o (w8.setCell ⟨wr.heap.size,1,none⟩ (.int .i64 va)) (f7.o.keep dI.o) (jI.o.ext dI.o)).mono ?_
    rintro r dj ⟨nv2,rfl,cQ,bQ⟩;have iA:=((KG.of_ext dI.o).trans cQ).blk gC.o ur.o dK.o lK.o;have z0:=(iA.cell i).trans W2.o;have z1:=iA.frozen i;have fe:=J (cV.o nv2 (w8.setCell ⟨wr.heap.size,1,none⟩ (.int .i64 va)) dj dI.o cQ bQ (f7.o.keep dI.o));clear iA cQ bQ q0;generalize (Bc gs _).1=pid at *;go_wp2_with fail;go_roundw
    case rel=>exact⟨i+1,hlt,by go_num,fe.o⟩
    case measure=>simp[intOf];omega
   ·have eJ:(k:Int)=6\/(k:Int)=7\/(k:Int)=8\/(k:Int)=9:=by omega
    have kj:B6 ids ⟨(k:Int),(j:Int),(jq:Int),0,[]⟩=⟨(k:Int),((ids.getD j 0:Nat):Int),((ids.getD jq 0:Nat):Int),0,[]⟩:=by
     unfold B6;rw[if_pos (by simp only;omega),if_pos (by simp only;omega)];rfl
    rw[kj]at aE cV;have dl:=J eJ;have uB:=J (mn.o j hj);have yL:=J (mn.o jq rG);have qD:(j:Int)<(n:Int):=by omega
    have mO:(0:Int)<=(j:Int):=by omega
    have jr:(jq:Int)<(n:Int):=by omega
    have pV:(0:Int)<=(jq:Int):=by omega
    clear eJ kj hk hj rG;generalize ((ids.getD j 0:Nat):Int)=va at *;generalize ((ids.getD jq 0:Nat):Int)=vb at *;simp only[ndV]at aE;simp only at y0 y1 y2 y3 y4;generalize hkk:(k:Int)=kk at *;obtain⟨s,hs⟩:∃s:ByteArray,s=⟨([]:List UInt8).toArray⟩:=⟨_,rfl⟩;have af:str []= .string s:=by rw[hs];rfl
    rw[af]at y4 aE;clear hs af hkk;have aW:=J (Blk.new wr 95 #[.int .i64 kk,.int .i64 (j:Int),.int .i64 (jq:Int),.int .i64 0,.string s]);have aN:=J ((Ext.refl wr).alloc (.cells #[.int .i64 kk,.int .i64 (j:Int),.int .i64 (jq:Int),.int .i64 0,.string s] 95));obtain⟨w7,dk⟩:∃w7,w7=wr.alloc (.cells #[.int .i64 kk,.int .i64 (j:Int),.int .i64 (jq:Int),.int .i64 0,.string s] 95):=⟨_,rfl⟩;rw[<-dk]at aW aN;have q0:=aW.o.five;go_upto_region 8 with fail;rw[<-dk];clear dk y0 y1 y2 y3 y4;go_wp2_with fail;refine(Ff w7 kk (j:Int) (jq:Int) 0 s dl.o).mono ?_
    rintro r w8 ⟨x8,rfl,_,_,_,_,bS⟩;have cp:=J (aN.o.trans bS);have mi:=J (aW.o.ext bS);clear q0 bS;have q0:=mi.o.five;have fO:w1.heap.size<wr.heap.size:=gC.o.lt;have qv:=gC.o.ext cp.o;have v0:=(qv.cell j).trans uB.o;have f1:=mi.o.frozen 1;have fl:=J (mi.o.set_ 1 (.int .i64 va));have dI:=J (cp.o.setCell (p:=⟨wr.heap.size,1,none⟩) (qad _) (.int .i64 va));have r0:=Blk.five fl.o;have Z1:=gC.o.ext dI.o;have v1:=(Z1.cell jq).trans yL.o;have f2:=fl.o.frozen 2;have uo:=J (Blk.set_ fl.o 2 (.int .i64 vb));have jB:=J (dI.o.setCell (p:=⟨wr.heap.size,2,none⟩) (qad _) (.int .i64 vb));have t0:=Blk.five uo.o;go_wp2_with fail;refine(aE.o ((w8.setCell ⟨wr.heap.size,1,none⟩ (.int .i64 va)).setCell ⟨wr.heap.size,2,none⟩ (.int .i64 vb)) (f7.o.keep jB.o) (jI.o.ext jB.o)).mono ?_
    rintro r dj ⟨nv2,rfl,cQ,bQ⟩;have iA:=((KG.of_ext jB.o).trans cQ).blk gC.o ur.o dK.o lK.o;have z0:=(iA.cell i).trans W2.o;have z1:=iA.frozen i;have fe:=J (cV.o nv2 ((w8.setCell ⟨wr.heap.size,1,none⟩ (.int .i64 va)).setCell ⟨wr.heap.size,2,none⟩ (.int .i64 vb)) dj jB.o cQ bQ (f7.o.keep jB.o));clear iA cQ bQ q0;generalize (Bc gs _).1=pid at *;go_wp2_with fail;go_roundw
    case rel=>exact⟨i+1,hlt,by go_num,fe.o⟩
    case measure=>simp[intOf];omega
  ·obtain⟨bh,cd,hgr,ax,eL,m1,m2,m3,m4,lX,m5⟩:=aL;obtain⟨more,lY,oP⟩:=K2 e eQ.o ns;have hin:i=more.length+1:=by have:=HN.o;omega
   have ZR:n=more.length+1:=by have:=HN.o;omega
   rw[qak (by rw[Ak];omega),oP]at hgr ax;rw[show e.size-i=0 by omega,qci,qaW]at ax;simp only at hgr ax;have aa:=(ax.cell more.length).trans (Bd _ _ (by simp));rw[BM _ _ rfl]at aa;have cH:=J cd;have f7:=J hgr;clear cd hgr ax eL m1 m2 m3 m4 lX m5 oP lY;subst hin;subst ZR;generalize more.length=kz at *;have hz1:IntKind.i64.wrap (((kz+1:Nat):Int)-1)=(kz:Int):=by rw[IntWalk.i64_in _ (by omega)];omega
   have aU:IntKind.i64.wrap ((kz:Int)+1-1)=(kz:Int):=by rw[IntWalk.i64_in _ (by omega)];omega
   have Zi:IntKind.i64.wrap (kz:Int)=(kz:Int):=IntWalk.i64_in _ (by omega);have Zh:(kz:Int)<(kz:Int)+1:=by omega
   have Zg:(0:Int)<=(kz:Int):=by omega
   generalize hpid:(AC ns e).1=pid at *;have uf:=J hpid;clear hpid;go_wp2_with fail;go_ret2;exact⟨bh,by rw[uf.o];rfl,cH.o,f7.o⟩
end Big
end Go.Proofs.YtkoaogkknnelaaaGreatDoor
