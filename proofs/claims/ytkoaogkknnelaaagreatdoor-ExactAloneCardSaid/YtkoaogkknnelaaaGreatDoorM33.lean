import Derived.Test.YtkoaogkknnelaaaGreatDoorM29
import Derived.Test.YtkoaogkknnelaaaGreatDoorShelf4
set_option linter.unusedVariables false
set_option linter.unusedSimpArgs false
set_option maxHeartbeats 4000000
set_option maxRecDepth 100000
namespace Go.Proofs.YtkoaogkknnelaaaGreatDoor
namespace Big
open Lib (hid)
open Go.RowKit
theorem CV(w:World)(o:Obj)(cs:Array Value)(t:TypeId)(j:Nat):((w.alloc o).alloc (.cells cs t)).cell? ⟨w.heap.size+1,j,none⟩=cs[j]? :=by
 have h:=(Blk.new (w.alloc o) t cs).cell j;have hs:(w.alloc o).heap.size=w.heap.size+1:=by simp
 rw[hs]at h;exact h
theorem Dh(w:World)(k a b n:Int)(s:ByteArray)(hk:k=1\/k=2\/k=3\/k=4):
  Calls Tryz.prog 107 #[.agg #[.int .i64 k,.int .i64 a,.int .i64 b,.int .i64 n,.string s]] w fun e w'=>e= .returned (.tuple #[.slice none 0 0,.bool true])/\Ext w w':=by
 rcases hk with rfl|rfl|rfl|rfl
 all_goals
  go_enter Tryz.func107,Tryz.ntmps107;go_wp2_with fail;go_ret2;exact⟨rfl,(Ext.refl w).alloc _⟩
theorem Fa(w:World)(k a b n:Int)(s:ByteArray)(hk:k=5\/k=10\/k=11\/k=12\/k=13\/k=14\/k=15\/k=16):
  Calls Tryz.prog 107 #[.agg #[.int .i64 k,.int .i64 a,.int .i64 b,.int .i64 n,.string s]] w fun e w'=>∃b,e= .returned (.tuple #[.slice (some ⟨b,0,none⟩) 1 1,.bool true])/\w'.cell? ⟨b,0,none⟩=some (.int .i64 a)/\w.heap.size<=b/\b<w'.heap.size/\Ext w w':=by
 rcases hk with rfl|rfl|rfl|rfl|rfl|rfl|rfl|rfl
 all_goals
  go_enter Tryz.func107,Tryz.ntmps107;go_wp2_with fail;go_ret2;exact⟨_,rfl,CV _ _ _ _ 0,by simp,by simp,((Ext.refl w).alloc _).alloc _⟩
theorem Ge(w:World)(k a b n:Int)(s:ByteArray)(hk:k=6\/k=7\/k=8\/k=9):
  Calls Tryz.prog 107 #[.agg #[.int .i64 k,.int .i64 a,.int .i64 b,.int .i64 n,.string s]] w fun e w'=>∃c,e= .returned (.tuple #[.slice (some ⟨c,0,none⟩) 2 2,.bool true])/\w'.cell? ⟨c,0,none⟩=some (.int .i64 a)/\w'.cell? ⟨c,1,none⟩=some (.int .i64 b)/\w.heap.size<=c/\c<w'.heap.size/\Ext w w':=by
 rcases hk with rfl|rfl|rfl|rfl
 all_goals
  go_enter Tryz.func107,Tryz.ntmps107;go_wp2_with fail;go_ret2;exact⟨_,rfl,CV _ _ _ _ 0,CV _ _ _ _ 1,by simp,by simp,((Ext.refl w).alloc _).alloc _⟩
def FU(n:Nat)(x:Int):Bool:=decide (x<0) || decide ((n:Int)<=x)
theorem P7(c g n m:Nat)(A:Option Addr)(W:World)(x:Int)(h0:W.cell? ⟨c,0,none⟩=some (.pointer (some ⟨g,0,none⟩)))(h1:W.cell? ⟨g,0,none⟩=some (.slice A n m))(hg:g<W.heap.size):
  FnGives Tryz.prog 200 #[.pointer (some ⟨c,0,none⟩)] #[.int .i64 x] (.bool (FU n x)) W:=by
 unfold FnGives;show Calls Tryz.prog 200 #[.int .i64 x,.pointer (some ⟨c,0,none⟩)] W _;by_cases hx:x<0
 ·have hd:decide (x<0)=true:=decide_eq_true hx;have ho:FU n x=true:=by unfold FU;rw[hd];rfl
  rw[ho];clear ho hx;go_enter Tryz.func200,Tryz.ntmps200;go_wp2_with fail;go_ret;exact⟨rfl,0,rfl⟩
 ·have hd:decide (x<0)=false:=decide_eq_false hx;by_cases hy:(n:Int)<=x
  ·have ed:decide ((n:Int)<=x)=true:=decide_eq_true hy;have ho:FU n x=true:=by unfold FU;rw[hd,ed];rfl
   rw[ho];clear ho;go_enter Tryz.func200,Tryz.ntmps200;go_wp2_with fail;go_ret;exact⟨rfl,0,rfl⟩
  ·have ed:decide ((n:Int)<=x)=false:=decide_eq_false hy;have ho:FU n x=false:=by unfold FU;rw[hd,ed];rfl
   rw[ho];clear ho;go_enter Tryz.func200,Tryz.ntmps200;go_wp2_with fail;go_ret;exact⟨rfl,0,rfl⟩
theorem EN (c g n m b k:Nat) (A:Option Addr) (zs:List Int) (W:World) (h0:W.cell? ⟨c,0,none⟩=some (.pointer (some ⟨g,0,none⟩))) (h1:W.cell? ⟨g,0,none⟩=some (.slice A n m))
  (hz:∀j (hj:j<zs.length),W.cell? ⟨b,j,none⟩=some (.int .i64 zs[j])) (hl:zs.length<=100):
  Calls Tryz.prog 199 #[.slice (some ⟨b,0,none⟩) zs.length k,.func (.func 200) #[] #[.pointer (some ⟨c,0,none⟩)]] W fun e w'=>e= .returned (.bool (zs.any (FU n)))/\∃q,w'=W.drewN q:=by
 have hc:=World.block_lt_of_cell? W _ h0;have hg:=World.block_lt_of_cell? W _ h1;have h:=Tryz.slices_ContainsFunc (fun x:Int=> .int .i64 x) (FU n) 200 #[.pointer (some ⟨c,0,none⟩)] (enters_of Tryz.func200 (by kernel_rfl) rfl) b 0 zs.length k zs W (fun W' x hb=>P7 c g n m A W' x ((hb.cell hc).trans h0) ((hb.cell hg).trans h1) (Nat.lt_of_lt_of_le hg hb.size)) (Nat.le_refl _) (by omega) (fun j hj=>by
  rw[Nat.zero_add,hz j hj,getElem!_pos zs j hj])
 rw[List.take_length]at h;exact h
theorem NM(B g b:Nat)(w:World)(ns:List Nd)(nv:Value)(h:GrP B g b w ns nv)(t:List UInt8)(ht:AX t=0)(hm:BW w):
  Calls Tryz.prog 159 #[.pointer (some ⟨g,0,none⟩),.agg #[.int .i64 1,.int .i64 0,.int .i64 0,.int .i64 0,str t]] w fun e w'=>e= .returned (.bool true)/\Ext w w':=by
 obtain⟨A,c,rfl⟩:=h.row.shape;have HG:=hid h.blk;clear h;have iq:=hid (fun W h=>FT W t h);have HM:=hid hm;have HT:=hid ht;clear hm ht;obtain⟨s,hs⟩:∃s:ByteArray,s=⟨t.toArray⟩:=⟨_,rfl⟩;have ac:str t= .string s:=by rw[hs];rfl
 rw[ac]at iq ⊢;clear hs ac;have ag:=hid (Blk.new w 50 #[.pointer (some ⟨g,0,none⟩)]);have ar:=hid ((Ext.refl w).alloc (.cells #[.pointer (some ⟨g,0,none⟩)] 50));obtain⟨w1,a5⟩:∃w1,w1=w.alloc (.cells #[.pointer (some ⟨g,0,none⟩)] 50):=⟨_,rfl⟩;have cg:w1.heap.size=w.heap.size+1:=by rw[a5];simp
 rw[<-a5]at ag ar;have aY:=hid (Blk.new w1 95 #[.int .i64 1,.int .i64 0,.int .i64 0,.int .i64 0,.string s]);have aP:=hid ((Ext.refl w1).alloc (.cells #[.int .i64 1,.int .i64 0,.int .i64 0,.int .i64 0,.string s] 95));obtain⟨w2,ck⟩:∃w2,w2=w1.alloc (.cells #[.int .i64 1,.int .i64 0,.int .i64 0,.int .i64 0,.string s] 95):=⟨_,rfl⟩;have iz:w2.heap.size=w.heap.size+2:=by rw[ck];simp[cg]
 rw[<-ck,cg]at aY;rw[<-ck]at aP;have HX:=hid (ar.out.trans aP.out);have q0:=aY.out.five;go_enter Tryz.func159,Tryz.ntmps159;go_upto_region 1 with fail;rw[<-a5,<-ck];clear a5 ck;go_wp2_with fail;refine(Dh w2 1 0 0 0 s (by decide)).mono ?_
 rintro e w3 ⟨rfl,ab⟩;have ay:=hid ab;have aZ:=hid (aY.out.ext ab);clear ab q0;have q0:=aZ.out.five;go_wp2_with fail;refine(Tryz.slices_ContainsFunc_empty (α:=Int) none 0 _ w3).mono ?_
 rintro e w4 ⟨rfl,rfl⟩;have gw:w.heap.size+1<w4.heap.size:=by
  have h1:=ay.out.size;omega
 have iS:Hid (w.heap.size+1≠w4.heap.size):=hid (by omega);have gH:Hid (w.heap.size<=w4.heap.size):=hid (by omega);have hx5:=(Ext.refl w4).alloc (.cells #[.int .i64 1,.int .i64 0,.int .i64 0,.int .i64 0,.string ⟨#[]⟩] 95);have eU:=hid (aZ.out.ext hx5);have ft:=hid (Blk.new w4 95 #[.int .i64 1,.int .i64 0,.int .i64 0,.int .i64 0,.string ⟨#[]⟩]);have cW:=hid ((HX.out.trans ay.out).trans hx5);clear hx5 gw;obtain⟨y0,y1,y2,y3,y4⟩:=eU.out.five;obtain⟨p0,p1,p2,p3,p4⟩:=ft.out.five;obtain⟨w5,eh⟩:∃w5,w5=w4.alloc (.cells #[.int .i64 1,.int .i64 0,.int .i64 0,.int .i64 0,.string ⟨#[]⟩] 95):=⟨_,rfl⟩;rw[<-eh]at eU ft cW y0 y1 y2 y3 y4 p0 p1 p2 p3 p4;go_upto_region 5 with fail;rw[<-eh];clear eh q0;go_wp2_with fail;refine(iq.out _ (HM.out.ext cW.out)).mono ?_
 rintro e w6 ⟨v6,rfl,iA,cF⟩;obtain⟨b6,n6,A6,c6,m6,D6,d6,rfl⟩:=iA.shape;clear iA y0 y1 y2 y3 y4 p0 p1 p2 p3 p4;rw[HT.out];have ch:=cF.alloc (.cells #[.bool b6,.slice A6 n6 c6,.slice D6 m6 d6] 26);have lN:=hid (eU.out.ext ch);have ke:=hid (ft.out.ext ch);have cV:=hid (cW.out.trans ch);have q0:=lN.out.five;have r0:=ke.out.five;clear cF ch;have uR:=hid (ke.out.set_ 4 (.string s));have lu:=hid (lN.out.far (p:=⟨w4.heap.size,4,none⟩) iS.out (.string s));have cU:=hid (cV.out.setCell (p:=⟨w4.heap.size,4,none⟩) gH.out (.string s));have f6:=ke.out.frozen 4;obtain⟨y0,y1,y2,y3,y4⟩:=lu.out.five;obtain⟨p0,p1,p2,p3,p4⟩:=Blk.five uR.out;go_wp2_with fail;go_ret;exact⟨rfl,cU.out⟩
theorem P6(B g b:Nat)(w:World)(ns:List Nd)(nv:Value)(h:GrP B g b w ns nv)(t:List UInt8)(hn:Dv t=true):
  Calls Tryz.prog 159 #[.pointer (some ⟨g,0,none⟩),.agg #[.int .i64 2,.int .i64 0,.int .i64 0,.int .i64 0,str t]] w fun e w'=>e= .returned (.bool true)/\Ext w w':=by
 obtain⟨A,c,rfl⟩:=h.row.shape;have HG:=hid h.blk;clear h;have hw:=(Bool.and_eq_true_iff.1 hn).1;have hl:=F4 hw;have hr:Bc t=false:=by
  have qn:Dv t=(CT t && !Bc t):=by rw[Ci];rfl
  rw[qn,Bool.and_eq_true_iff,Bool.not_eq_true']at hn;exact hn.2
 have HW:=hid (fun W=>Li W t (by omega));have dL:=hid (fun W=>F9 W t);rw[hw]at HW;rw[hr]at dL;clear hw hl hr hn;obtain⟨s,hs⟩:∃s:ByteArray,s=⟨t.toArray⟩:=⟨_,rfl⟩;have ac:str t= .string s:=by rw[hs];rfl
 rw[ac]at HW dL ⊢;clear hs ac;have ag:=hid (Blk.new w 50 #[.pointer (some ⟨g,0,none⟩)]);have ar:=hid ((Ext.refl w).alloc (.cells #[.pointer (some ⟨g,0,none⟩)] 50));obtain⟨w1,a5⟩:∃w1,w1=w.alloc (.cells #[.pointer (some ⟨g,0,none⟩)] 50):=⟨_,rfl⟩;have cg:w1.heap.size=w.heap.size+1:=by rw[a5];simp
 rw[<-a5]at ag ar;have aY:=hid (Blk.new w1 95 #[.int .i64 2,.int .i64 0,.int .i64 0,.int .i64 0,.string s]);have aP:=hid ((Ext.refl w1).alloc (.cells #[.int .i64 2,.int .i64 0,.int .i64 0,.int .i64 0,.string s] 95));obtain⟨w2,ck⟩:∃w2,w2=w1.alloc (.cells #[.int .i64 2,.int .i64 0,.int .i64 0,.int .i64 0,.string s] 95):=⟨_,rfl⟩;have iz:w2.heap.size=w.heap.size+2:=by rw[ck];simp[cg]
 rw[<-ck,cg]at aY;rw[<-ck]at aP;have HX:=hid (ar.out.trans aP.out);have q0:=aY.out.five;go_enter Tryz.func159,Tryz.ntmps159;go_upto_region 1 with fail;rw[<-a5,<-ck];clear a5 ck;go_wp2_with fail;refine(Dh w2 2 0 0 0 s (by decide)).mono ?_
 rintro e w3 ⟨rfl,ab⟩;have ay:=hid ab;have aZ:=hid (aY.out.ext ab);clear ab q0;have q0:=aZ.out.five;go_wp2_with fail;refine(Tryz.slices_ContainsFunc_empty (α:=Int) none 0 _ w3).mono ?_
 rintro e w4 ⟨rfl,rfl⟩;have gw:w.heap.size+1<w4.heap.size:=by
  have h1:=ay.out.size;omega
 have iS:Hid (w.heap.size+1≠w4.heap.size):=hid (by omega);have gH:Hid (w.heap.size<=w4.heap.size):=hid (by omega);have hx5:=(Ext.refl w4).alloc (.cells #[.int .i64 2,.int .i64 0,.int .i64 0,.int .i64 0,.string ⟨#[]⟩] 95);have eU:=hid (aZ.out.ext hx5);have ft:=hid (Blk.new w4 95 #[.int .i64 2,.int .i64 0,.int .i64 0,.int .i64 0,.string ⟨#[]⟩]);have cW:=hid ((HX.out.trans ay.out).trans hx5);clear hx5 gw;obtain⟨y0,y1,y2,y3,y4⟩:=eU.out.five;obtain⟨p0,p1,p2,p3,p4⟩:=ft.out.five;obtain⟨w5,eh⟩:∃w5,w5=w4.alloc (.cells #[.int .i64 2,.int .i64 0,.int .i64 0,.int .i64 0,.string ⟨#[]⟩] 95):=⟨_,rfl⟩;rw[<-eh]at eU ft cW y0 y1 y2 y3 y4 p0 p1 p2 p3 p4;go_upto_region 5 with fail;rw[<-eh];clear eh q0;go_upto_region 14 with fail;have ke:=hid (ft.out.set_ 4 (.string s));have lN:=hid (eU.out.far (p:=⟨w4.heap.size,4,none⟩) iS.out (.string s));have cV:=hid (cW.out.setCell (p:=⟨w4.heap.size,4,none⟩) gH.out (.string s));have f5:=ft.out.frozen 4;obtain⟨y0,y1,y2,y3,y4⟩:=lN.out.five;obtain⟨p0,p1,p2,p3,p4⟩:=Blk.five ke.out
 go_region_with (first|(refine(HW.out _).mono ?_;rintro e wz ⟨rfl,rfl⟩)|(refine(dL.out _).mono ?_;rintro e wz ⟨rfl,rfl⟩))
 all_goals go_wp2_with fail
 all_goals go_ret
 all_goals exact⟨rfl,cV.out.drew⟩
theorem Ki(B g b:Nat)(w:World)(ns:List Nd)(nv:Value)(h:GrP B g b w ns nv)(K:Int)(hK:K=3\/K=4):
  Calls Tryz.prog 159 #[.pointer (some ⟨g,0,none⟩),.agg #[.int .i64 K,.int .i64 0,.int .i64 0,.int .i64 0,.string ⟨#[]⟩]] w fun e w'=>e= .returned (.bool true)/\Ext w w':=by
 obtain⟨A,c,rfl⟩:=h.row.shape;have HG:=hid h.blk;clear h;have uY:Hid (K=1\/K=2\/K=3\/K=4):=hid (by omega);have e1:(K == 1)=false:=beq_eq_false_iff_ne.2 (by omega);have e2:(K == 2)=false:=beq_eq_false_iff_ne.2 (by omega);have vO:(K == 10)=false:=beq_eq_false_iff_ne.2 (by omega);clear hK;have ag:=hid (Blk.new w 50 #[.pointer (some ⟨g,0,none⟩)]);have ar:=hid ((Ext.refl w).alloc (.cells #[.pointer (some ⟨g,0,none⟩)] 50));obtain⟨w1,a5⟩:∃w1,w1=w.alloc (.cells #[.pointer (some ⟨g,0,none⟩)] 50):=⟨_,rfl⟩;have cg:w1.heap.size=w.heap.size+1:=by rw[a5];simp
 rw[<-a5]at ag ar;have aY:=hid (Blk.new w1 95 #[.int .i64 K,.int .i64 0,.int .i64 0,.int .i64 0,.string ⟨#[]⟩]);have aP:=hid ((Ext.refl w1).alloc (.cells #[.int .i64 K,.int .i64 0,.int .i64 0,.int .i64 0,.string ⟨#[]⟩] 95));obtain⟨w2,ck⟩:∃w2,w2=w1.alloc (.cells #[.int .i64 K,.int .i64 0,.int .i64 0,.int .i64 0,.string ⟨#[]⟩] 95):=⟨_,rfl⟩;have iz:w2.heap.size=w.heap.size+2:=by rw[ck];simp[cg]
 rw[<-ck,cg]at aY;rw[<-ck]at aP;have HX:=hid (ar.out.trans aP.out);have q0:=aY.out.five;go_enter Tryz.func159,Tryz.ntmps159;go_upto_region 1 with fail;rw[<-a5,<-ck];clear a5 ck;go_wp2_with fail;refine(Dh w2 K 0 0 0 ⟨#[]⟩ uY.out).mono ?_
 rintro e w3 ⟨rfl,ab⟩;have ay:=hid ab;have aZ:=hid (aY.out.ext ab);clear ab q0;have q0:=aZ.out.five;go_wp2_with fail;refine(Tryz.slices_ContainsFunc_empty (α:=Int) none 0 _ w3).mono ?_
 rintro e w4 ⟨rfl,rfl⟩;have gw:w.heap.size+1<w4.heap.size:=by
  have h1:=ay.out.size;omega
 have iS:Hid (w.heap.size+1≠w4.heap.size):=hid (by omega);have gH:Hid (w.heap.size<=w4.heap.size):=hid (by omega);have hx5:=(Ext.refl w4).alloc (.cells #[.int .i64 K,.int .i64 0,.int .i64 0,.int .i64 0,.string ⟨#[]⟩] 95);have eU:=hid (aZ.out.ext hx5);have ft:=hid (Blk.new w4 95 #[.int .i64 K,.int .i64 0,.int .i64 0,.int .i64 0,.string ⟨#[]⟩]);have cW:=hid ((HX.out.trans ay.out).trans hx5);clear hx5 gw;obtain⟨y0,y1,y2,y3,y4⟩:=eU.out.five;obtain⟨p0,p1,p2,p3,p4⟩:=ft.out.five;obtain⟨w5,eh⟩:∃w5,w5=w4.alloc (.cells #[.int .i64 K,.int .i64 0,.int .i64 0,.int .i64 0,.string ⟨#[]⟩] 95):=⟨_,rfl⟩;rw[<-eh]at eU ft cW y0 y1 y2 y3 y4 p0 p1 p2 p3 p4;go_upto_region 5 with fail;rw[<-eh];clear eh q0;go_wp2_with fail;go_ret;exact⟨rfl,cW.out⟩
theorem EL(B g b:Nat)(w:World)(ns:List Nd)(nv:Value)(h:GrP B g b w ns nv)(K:Int)(hK:K=5\/K=11\/K=12\/K=13\/K=14\/K=15\/K=16)(a:Int)(h0:0<=a)(h1:a<ns.length):
  Calls Tryz.prog 159 #[.pointer (some ⟨g,0,none⟩),.agg #[.int .i64 K,.int .i64 a,.int .i64 0,.int .i64 0,.string ⟨#[]⟩]] w fun e w'=>e= .returned (.bool true)/\Ext w w':=by
 obtain⟨A,c,rfl⟩:=h.row.shape;have HG:=hid h.blk;clear h;have uY:Hid (K=5\/K=10\/K=11\/K=12\/K=13\/K=14\/K=15\/K=16):=hid (by omega);have e1:(K == 1)=false:=beq_eq_false_iff_ne.2 (by omega);have e2:(K == 2)=false:=beq_eq_false_iff_ne.2 (by omega);have vO:(K == 10)=false:=beq_eq_false_iff_ne.2 (by omega);clear hK;have ag:=hid (Blk.new w 50 #[.pointer (some ⟨g,0,none⟩)]);have ar:=hid ((Ext.refl w).alloc (.cells #[.pointer (some ⟨g,0,none⟩)] 50));obtain⟨w1,a5⟩:∃w1,w1=w.alloc (.cells #[.pointer (some ⟨g,0,none⟩)] 50):=⟨_,rfl⟩;have cg:w1.heap.size=w.heap.size+1:=by rw[a5];simp
 rw[<-a5]at ag ar;have aY:=hid (Blk.new w1 95 #[.int .i64 K,.int .i64 a,.int .i64 0,.int .i64 0,.string ⟨#[]⟩]);have aP:=hid ((Ext.refl w1).alloc (.cells #[.int .i64 K,.int .i64 a,.int .i64 0,.int .i64 0,.string ⟨#[]⟩] 95));obtain⟨w2,ck⟩:∃w2,w2=w1.alloc (.cells #[.int .i64 K,.int .i64 a,.int .i64 0,.int .i64 0,.string ⟨#[]⟩] 95):=⟨_,rfl⟩;have iz:w2.heap.size=w.heap.size+2:=by rw[ck];simp[cg]
 rw[<-ck,cg]at aY;rw[<-ck]at aP;have HX:=hid (ar.out.trans aP.out);have q0:=aY.out.five;go_enter Tryz.func159,Tryz.ntmps159;go_upto_region 1 with fail;rw[<-a5,<-ck];clear a5 ck;go_wp2_with fail;refine(Fa w2 K a 0 0 ⟨#[]⟩ uY.out).mono ?_
 rintro e w3 ⟨x3,rfl,hc0,_,Vf,ab⟩;have ay:=hid ab;have aZ:=hid (aY.out.ext ab);have vj:=hid (EN w.heap.size g ns.length c x3 1 A [a] w3 ((ab.trans (Ext.refl _)).keep ((ag.out.ext aP.out).cell 0)) (((HX.out.trans ab).cell HG.out.lt).trans (HG.out.cell 0)) (fun j hj=>by
  match j,hj with
  |0,_=>exact hc0) (by simp))
 clear ab q0 hc0;have q0:=aZ.out.five;go_wp2_with fail;refine vj.out.mono ?_
 rintro e St ⟨rfl,y4,rfl⟩;have jd:[a].any (FU ns.length)=false:=by
  simp only[List.any_cons,List.any_nil,Bool.or_false,FU,Bool.or_eq_false_iff,decide_eq_false_iff_not];omega
 rw[jd];clear jd;have fP:=hid (aZ.out.drewN y4);have bu:=hid (ay.out.drewN y4);clear ay aZ q0;generalize hw4:w3.drewN y4=w4 at *;clear hw4;have ay:=bu;have aZ:=fP;have q0:=aZ.out.five;have gw:w.heap.size+1<w4.heap.size:=by
  have h1:=ay.out.size;omega
 have iS:Hid (w.heap.size+1≠w4.heap.size):=hid (by omega);have gH:Hid (w.heap.size<=w4.heap.size):=hid (by omega);have hx5:=(Ext.refl w4).alloc (.cells #[.int .i64 K,.int .i64 0,.int .i64 0,.int .i64 0,.string ⟨#[]⟩] 95);have eU:=hid (aZ.out.ext hx5);have ft:=hid (Blk.new w4 95 #[.int .i64 K,.int .i64 0,.int .i64 0,.int .i64 0,.string ⟨#[]⟩]);have cW:=hid ((HX.out.trans ay.out).trans hx5);clear hx5 gw;obtain⟨y0,y1,y2,y3,y4⟩:=eU.out.five;obtain⟨p0,p1,p2,p3,p4⟩:=ft.out.five;obtain⟨w5,eh⟩:∃w5,w5=w4.alloc (.cells #[.int .i64 K,.int .i64 0,.int .i64 0,.int .i64 0,.string ⟨#[]⟩] 95):=⟨_,rfl⟩;rw[<-eh]at eU ft cW y0 y1 y2 y3 y4 p0 p1 p2 p3 p4;go_upto_region 5 with fail;rw[<-eh];clear eh q0;have ke:=hid (ft.out.set_ 1 (.int .i64 a));have lN:=hid (eU.out.far (p:=⟨w4.heap.size,1,none⟩) iS.out (.int .i64 a));have cV:=hid (cW.out.setCell (p:=⟨w4.heap.size,1,none⟩) gH.out (.int .i64 a));have f5:=ft.out.frozen 1;obtain⟨y0,y1,y2,y3,y4⟩:=lN.out.five;obtain⟨p0,p1,p2,p3,p4⟩:=Blk.five ke.out;go_wp2_with fail;go_ret;exact⟨rfl,cV.out⟩
theorem RG(B g b:Nat)(w:World)(ns:List Nd)(nv:Value)(h:GrP B g b w ns nv)(a n:Int)(h0:0<=a)(h1:a<ns.length)(hn: -64<=n)(hn2:n<=64):
  Calls Tryz.prog 159 #[.pointer (some ⟨g,0,none⟩),.agg #[.int .i64 10,.int .i64 a,.int .i64 0,.int .i64 n,.string ⟨#[]⟩]] w fun e w'=>e= .returned (.bool true)/\Ext w w':=by
 obtain⟨A,c,rfl⟩:=h.row.shape;have HG:=hid h.blk;clear h;have ag:=hid (Blk.new w 50 #[.pointer (some ⟨g,0,none⟩)]);have ar:=hid ((Ext.refl w).alloc (.cells #[.pointer (some ⟨g,0,none⟩)] 50));obtain⟨w1,a5⟩:∃w1,w1=w.alloc (.cells #[.pointer (some ⟨g,0,none⟩)] 50):=⟨_,rfl⟩;have cg:w1.heap.size=w.heap.size+1:=by rw[a5];simp
 rw[<-a5]at ag ar;have aY:=hid (Blk.new w1 95 #[.int .i64 10,.int .i64 a,.int .i64 0,.int .i64 n,.string ⟨#[]⟩]);have aP:=hid ((Ext.refl w1).alloc (.cells #[.int .i64 10,.int .i64 a,.int .i64 0,.int .i64 n,.string ⟨#[]⟩] 95));obtain⟨w2,ck⟩:∃w2,w2=w1.alloc (.cells #[.int .i64 10,.int .i64 a,.int .i64 0,.int .i64 n,.string ⟨#[]⟩] 95):=⟨_,rfl⟩;have iz:w2.heap.size=w.heap.size+2:=by rw[ck];simp[cg]
 rw[<-ck,cg]at aY;rw[<-ck]at aP;have HX:=hid (ar.out.trans aP.out);have q0:=aY.out.five;go_enter Tryz.func159,Tryz.ntmps159;go_upto_region 1 with fail;rw[<-a5,<-ck];clear a5 ck;go_wp2_with fail;refine(Fa w2 10 a 0 n ⟨#[]⟩ (by decide)).mono ?_
 rintro e w3 ⟨x3,rfl,hc0,_,Vf,ab⟩;have ay:=hid ab;have aZ:=hid (aY.out.ext ab);have vj:=hid (EN w.heap.size g ns.length c x3 1 A [a] w3 ((ab.trans (Ext.refl _)).keep ((ag.out.ext aP.out).cell 0)) (((HX.out.trans ab).cell HG.out.lt).trans (HG.out.cell 0)) (fun j hj=>by
  match j,hj with
  |0,_=>exact hc0) (by simp))
 clear ab q0 hc0;have q0:=aZ.out.five;go_wp2_with fail;refine vj.out.mono ?_
 rintro e St ⟨rfl,y4,rfl⟩;have jd:[a].any (FU ns.length)=false:=by
  simp only[List.any_cons,List.any_nil,Bool.or_false,FU,Bool.or_eq_false_iff,decide_eq_false_iff_not];omega
 rw[jd];clear jd;have fP:=hid (aZ.out.drewN y4);have bu:=hid (ay.out.drewN y4);clear ay aZ q0;generalize hw4:w3.drewN y4=w4 at *;clear hw4;have ay:=bu;have aZ:=fP;have q0:=aZ.out.five;have gw:w.heap.size+1<w4.heap.size:=by
  have h1:=ay.out.size;omega
 have iS:Hid (w.heap.size+1≠w4.heap.size):=hid (by omega);have gH:Hid (w.heap.size<=w4.heap.size):=hid (by omega);have hx5:=(Ext.refl w4).alloc (.cells #[.int .i64 10,.int .i64 0,.int .i64 0,.int .i64 0,.string ⟨#[]⟩] 95);have eU:=hid (aZ.out.ext hx5);have ft:=hid (Blk.new w4 95 #[.int .i64 10,.int .i64 0,.int .i64 0,.int .i64 0,.string ⟨#[]⟩]);have cW:=hid ((HX.out.trans ay.out).trans hx5);clear hx5 gw;obtain⟨y0,y1,y2,y3,y4⟩:=eU.out.five;obtain⟨p0,p1,p2,p3,p4⟩:=ft.out.five;obtain⟨w5,eh⟩:∃w5,w5=w4.alloc (.cells #[.int .i64 10,.int .i64 0,.int .i64 0,.int .i64 0,.string ⟨#[]⟩] 95):=⟨_,rfl⟩;rw[<-eh]at eU ft cW y0 y1 y2 y3 y4 p0 p1 p2 p3 p4;go_upto_region 5 with fail;rw[<-eh];clear eh q0;have ke:=hid (ft.out.set_ 1 (.int .i64 a));have lN:=hid (eU.out.far (p:=⟨w4.heap.size,1,none⟩) iS.out (.int .i64 a));have cV:=hid (cW.out.setCell (p:=⟨w4.heap.size,1,none⟩) gH.out (.int .i64 a));have f5:=ft.out.frozen 1;obtain⟨y0,y1,y2,y3,y4⟩:=lN.out.five;obtain⟨p0,p1,p2,p3,p4⟩:=Blk.five ke.out;go_upto_region 16 with fail;have uR:=hid (ke.out.set_ 3 (.int .i64 n));have lu:=hid (lN.out.far (p:=⟨w4.heap.size,3,none⟩) iS.out (.int .i64 n));have cU:=hid (cV.out.setCell (p:=⟨w4.heap.size,3,none⟩) gH.out (.int .i64 n));have f6:=ke.out.frozen 3;obtain⟨y0,y1,y2,y3,y4⟩:=lu.out.five;obtain⟨p0,p1,p2,p3,p4⟩:=Blk.five uR.out;go_region
 all_goals go_wp2_with fail
 all_goals go_ret
 all_goals exact⟨rfl,cU.out.drew⟩
theorem Gr(B g b:Nat)(w:World)(ns:List Nd)(nv:Value)(h:GrP B g b w ns nv)(K:Int)(hK:K=6\/K=7\/K=8\/K=9)(a b':Int)(h0:0<=a)(h1:a<ns.length)(h2:0<=b')(h3:b'<ns.length):
  Calls Tryz.prog 159 #[.pointer (some ⟨g,0,none⟩),.agg #[.int .i64 K,.int .i64 a,.int .i64 b',.int .i64 0,.string ⟨#[]⟩]] w fun e w'=>e= .returned (.bool true)/\Ext w w':=by
 obtain⟨A,c,rfl⟩:=h.row.shape;have HG:=hid h.blk;clear h;have uY:Hid (K=6\/K=7\/K=8\/K=9):=hid (by omega);have e1:(K == 1)=false:=beq_eq_false_iff_ne.2 (by omega);have e2:(K == 2)=false:=beq_eq_false_iff_ne.2 (by omega);have vO:(K == 10)=false:=beq_eq_false_iff_ne.2 (by omega);clear hK;have ag:=hid (Blk.new w 50 #[.pointer (some ⟨g,0,none⟩)]);have ar:=hid ((Ext.refl w).alloc (.cells #[.pointer (some ⟨g,0,none⟩)] 50));obtain⟨w1,a5⟩:∃w1,w1=w.alloc (.cells #[.pointer (some ⟨g,0,none⟩)] 50):=⟨_,rfl⟩;have cg:w1.heap.size=w.heap.size+1:=by rw[a5];simp
 rw[<-a5]at ag ar;have aY:=hid (Blk.new w1 95 #[.int .i64 K,.int .i64 a,.int .i64 b',.int .i64 0,.string ⟨#[]⟩]);have aP:=hid ((Ext.refl w1).alloc (.cells #[.int .i64 K,.int .i64 a,.int .i64 b',.int .i64 0,.string ⟨#[]⟩] 95));obtain⟨w2,ck⟩:∃w2,w2=w1.alloc (.cells #[.int .i64 K,.int .i64 a,.int .i64 b',.int .i64 0,.string ⟨#[]⟩] 95):=⟨_,rfl⟩;have iz:w2.heap.size=w.heap.size+2:=by rw[ck];simp[cg]
 rw[<-ck,cg]at aY;rw[<-ck]at aP;have HX:=hid (ar.out.trans aP.out);have q0:=aY.out.five;go_enter Tryz.func159,Tryz.ntmps159;go_upto_region 1 with fail;rw[<-a5,<-ck];clear a5 ck;go_wp2_with fail;refine(Ge w2 K a b' 0 ⟨#[]⟩ uY.out).mono ?_
 rintro e w3 ⟨x3,rfl,hc0,hc1,_,Vf,ab⟩;have ay:=hid ab;have aZ:=hid (aY.out.ext ab);have vj:=hid (EN w.heap.size g ns.length c x3 2 A [a,b'] w3 ((ab.trans (Ext.refl _)).keep ((ag.out.ext aP.out).cell 0)) (((HX.out.trans ab).cell HG.out.lt).trans (HG.out.cell 0)) (fun j hj=>by
  match j,hj with
  |0,_=>exact hc0
  |1,_=>exact hc1) (by simp))
 clear ab q0 hc0 hc1;have q0:=aZ.out.five;go_wp2_with fail;refine vj.out.mono ?_
 rintro e St ⟨rfl,y4,rfl⟩;have jd:[a,b'].any (FU ns.length)=false:=by
  simp only[List.any_cons,List.any_nil,Bool.or_false,FU,Bool.or_eq_false_iff,decide_eq_false_iff_not];omega
 rw[jd];clear jd;have fP:=hid (aZ.out.drewN y4);have bu:=hid (ay.out.drewN y4);clear ay aZ q0;generalize hw4:w3.drewN y4=w4 at *;clear hw4;have ay:=bu;have aZ:=fP;have q0:=aZ.out.five;have gw:w.heap.size+1<w4.heap.size:=by
  have h1:=ay.out.size;omega
 have iS:Hid (w.heap.size+1≠w4.heap.size):=hid (by omega);have gH:Hid (w.heap.size<=w4.heap.size):=hid (by omega);have hx5:=(Ext.refl w4).alloc (.cells #[.int .i64 K,.int .i64 0,.int .i64 0,.int .i64 0,.string ⟨#[]⟩] 95);have eU:=hid (aZ.out.ext hx5);have ft:=hid (Blk.new w4 95 #[.int .i64 K,.int .i64 0,.int .i64 0,.int .i64 0,.string ⟨#[]⟩]);have cW:=hid ((HX.out.trans ay.out).trans hx5);clear hx5 gw;obtain⟨y0,y1,y2,y3,y4⟩:=eU.out.five;obtain⟨p0,p1,p2,p3,p4⟩:=ft.out.five;obtain⟨w5,eh⟩:∃w5,w5=w4.alloc (.cells #[.int .i64 K,.int .i64 0,.int .i64 0,.int .i64 0,.string ⟨#[]⟩] 95):=⟨_,rfl⟩;rw[<-eh]at eU ft cW y0 y1 y2 y3 y4 p0 p1 p2 p3 p4;go_upto_region 5 with fail;rw[<-eh];clear eh q0;have ke:=hid (ft.out.set_ 1 (.int .i64 a));have lN:=hid (eU.out.far (p:=⟨w4.heap.size,1,none⟩) iS.out (.int .i64 a));have cV:=hid (cW.out.setCell (p:=⟨w4.heap.size,1,none⟩) gH.out (.int .i64 a));have f5:=ft.out.frozen 1;obtain⟨y0,y1,y2,y3,y4⟩:=lN.out.five;obtain⟨p0,p1,p2,p3,p4⟩:=Blk.five ke.out;have uR:=hid (ke.out.set_ 2 (.int .i64 b'));have lu:=hid (lN.out.far (p:=⟨w4.heap.size,2,none⟩) iS.out (.int .i64 b'));have cU:=hid (cV.out.setCell (p:=⟨w4.heap.size,2,none⟩) gH.out (.int .i64 b'));have f6:=ke.out.frozen 2;obtain⟨y0,y1,y2,y3,y4⟩:=lu.out.five;obtain⟨p0,p1,p2,p3,p4⟩:=Blk.five uR.out;go_wp2_with fail;go_ret;exact⟨rfl,cU.out⟩
open Go.RowKit Go.ChangeMaps
theorem Kf(B g b:Nat)(w:World)(ns:List Nd)(nv:Value)(h:GrP B g b w ns nv)(x:Nd)(hx:CL ns.length x)(hm:BW w):
  Calls Tryz.prog 159 #[.pointer (some ⟨g,0,none⟩),ndV x] w fun e w'=>e= .returned (.bool true)/\Ext w w':=by
 have hE:(.string ⟨#[]⟩:Value)=str []:=rfl;rcases hx with ⟨k,t,rfl,⟨rfl,h1,_⟩|⟨rfl,h1⟩|⟨rfl|rfl,rfl⟩⟩|⟨k,n,j,rfl,⟨h1,h2,h3,h4⟩,hj⟩|⟨k,j,q,rfl,hk,hj,hq⟩
 ·exact NM B g b w ns nv h t h1 hm
 ·exact P6 B g b w ns nv h t h1
 ·exact Ki B g b w ns nv h _ (.inl rfl)
 ·exact Ki B g b w ns nv h _ (.inr rfl)
 ·have hk:k=5\/k=10\/k=11\/k=12\/k=13\/k=14\/k=15\/k=16:=by omega
  have j0:(0:Int)<=(j:Int):=by omega
  have j1:(j:Int)<(ns.length:Int):=by omega
  rcases hk with rfl|rfl|rfl|rfl|rfl|rfl|rfl|rfl
  ·rw[h2 (by decide)];exact EL B g b w ns nv h _ (by simp only;omega) j j0 j1
  ·exact RG B g b w ns nv h j n j0 j1 h3 h4
  ·rw[h2 (by decide)];exact EL B g b w ns nv h _ (by simp only;omega) j j0 j1
  ·rw[h2 (by decide)];exact EL B g b w ns nv h _ (by simp only;omega) j j0 j1
  ·rw[h2 (by decide)];exact EL B g b w ns nv h _ (by simp only;omega) j j0 j1
  ·rw[h2 (by decide)];exact EL B g b w ns nv h _ (by simp only;omega) j j0 j1
  ·rw[h2 (by decide)];exact EL B g b w ns nv h _ (by simp only;omega) j j0 j1
  ·rw[h2 (by decide)];exact EL B g b w ns nv h _ (by simp only;omega) j j0 j1
 ·have hk:k=6\/k=7\/k=8\/k=9:=by omega
  have j0:(0:Int)<=(j:Int):=by omega
  have j1:(j:Int)<(ns.length:Int):=by omega
  have q0:(0:Int)<=(q:Int):=by omega
  have q1:(q:Int)<(ns.length:Int):=by omega
  rcases hk with rfl|rfl|rfl|rfl
  ·exact Gr B g b w ns nv h _ (by simp only;omega) j q j0 j1 q0 q1
  ·exact Gr B g b w ns nv h _ (by simp only;omega) j q j0 j1 q0 q1
  ·exact Gr B g b w ns nv h _ (by simp only;omega) j q j0 j1 q0 q1
  ·exact Gr B g b w ns nv h _ (by simp only;omega) j q j0 j1 q0 q1
theorem B9{w w':World}{B:Nat}{t:TypeId}{m:Nat}{v:Value}{n:Nat}{xs:List Value}(h:w.ownsRow B t m v n xs)(hk:∀k,v.ownBlock=some k->w'.heap[k]? =w.heap[k]?):w'.ownsRow B t m v n xs:=
 ⟨h.1,h.2.imp id (fun ⟨q,cap,cur,hv,hq,hh,r⟩=>⟨q,cap,cur,hv,hq,(hk q (by rw[hv];rfl)).trans hh,r⟩)⟩
theorem BE{w:World}{B:Nat}{t:TypeId}{m:Nat}{v:Value}{n:Nat}{xs:List Value}(h:w.ownsRow B t m v n xs){k:Nat}(hk:v.ownBlock=some k):k<w.heap.size:=by
 rcases h.2 with ⟨rfl,_⟩|⟨q,cap,cur,rfl,_,hh,_⟩
 ·cases hk
 ·simp only[Value.ownBlock,Option.some.injEq]at hk;subst hk;exact(Array.getElem?_eq_some_iff.1 hh).1
def It(B g b:Nat)(ns:List Nd)(nv:Value)(x:Nd)(w:World)(e:Ending)(w':World):Prop:=
 ∃nv',e= .returned (.tuple #[.int .i64 ((Bg ns x).1:Int),.int .i64 0])/\KG g b nv nv' w w'/\GrP B g b w' (Bg ns x).2 nv'
theorem SC(B g b:Nat)(w:World)(ns:List Nd)(nv:Value)(h:GrP B g b w ns nv)(x:Nd)(hx:CL ns.length x)(hm:BW w)(hin:x∈ns):
  Calls Tryz.prog 104 #[.pointer (some ⟨g,0,none⟩),ndV x] w (It B g b ns nv x w):=by
 have eO:=hid (fun W h=>Kf B g b W ns nv h x hx);have HM:=hid hm;have HG:=hid h;have ei:=h.few;have pd:FL x:=hx.key (by omega);have ki:=hid (fun W (h:GrP B g b W ns nv)=>h.map.look (h.ok.keys (by omega)) h.ok.1 x pd (t:=78) Tryz.underlying78);have gm:(Bg ns x).1=Cl x ns:=by unfold Bg;rw[if_pos hin]
 have eX:(Bg ns x).2=ns:=by unfold Bg;rw[if_pos hin]
 have tp:FS x ns=(Cl x ns:Int):=by unfold FS;rw[if_pos hin]
 rw[tp,decide_eq_true hin]at ki;have ru:=hid gm;have rt:=hid eX;clear gm eX tp hin pd ei hm hx;obtain⟨A,c,rfl⟩:=h.row.shape;clear h;obtain⟨k,a,d,n,t⟩:=x;simp only[ndV]at eO ki ⊢;obtain⟨s,hs⟩:∃s:ByteArray,s=⟨t.toArray⟩:=⟨_,rfl⟩;have ac:str t= .string s:=by rw[hs];rfl
 rw[ac]at eO ki ⊢;clear hs ac;have ag:=hid (Blk.new w 95 #[.int .i64 k,.int .i64 a,.int .i64 d,.int .i64 n,.string s]);have ar:=hid ((Ext.refl w).alloc (.cells #[.int .i64 k,.int .i64 a,.int .i64 d,.int .i64 n,.string s] 95));obtain⟨w1,a5⟩:∃w1,w1=w.alloc (.cells #[.int .i64 k,.int .i64 a,.int .i64 d,.int .i64 n,.string s] 95):=⟨_,rfl⟩;rw[<-a5]at ag ar;have q0:=ag.out.five;go_enter Tryz.func104,Tryz.ntmps104;go_upto_region 1 with fail;rw[<-a5];clear a5;go_wp2_with fail;refine(eO.out w1 (HG.out.keep ar.out) (HM.out.ext ar.out)).mono ?_
 rintro e w2 ⟨rfl,ah⟩;have aP:=hid (ar.out.trans ah);have jD:=hid (HG.out.keep aP.out);have aY:=hid (ag.out.ext ah);clear q0 ah;have q0:=aY.out.five;have k0:=jD.out.blk.twoG;have sh:=ki.out w2 jD.out;have tP:=ki.out w2.drew (jD.out.keep (Ext.refl w2).drew);go_wp2_with fail;go_region;go_wp2_with fail;go_ret2;have ab:=aP.out.drew;refine⟨_,by rw[ru.out];rfl,KG.of_ext ab,?_⟩;rw[rt.out];exact HG.out.keep ab
theorem SD(B g b:Nat)(w:World)(ns:List Nd)(nv:Value)(h:GrP B g b w ns nv)(x:Nd)(hx:CL ns.length x)(hm:BW w)(hin:x∉ns)(cn:ns.length<4096):
  Calls Tryz.prog 104 #[.pointer (some ⟨g,0,none⟩),ndV x] w (It B g b ns nv x w):=by
 have eO:=hid (fun W h=>Kf B g b W ns nv h x hx);have HM:=hid hm;have HG:=hid h;have pd:FL x:=hx.key (by omega);have ki:=hid (fun W (h:GrP B g b W ns nv)=>h.map.look (h.ok.keys (by omega)) h.ok.1 x pd (t:=78) Tryz.underlying78);have bZ:=hid (fun W (h:DC W b ns)=>h.store (HG.out.ok.keys (by omega)) x pd hin (t:=78) Tryz.underlying78);have gm:(Bg ns x).1=ns.length:=by unfold Bg;rw[if_neg hin]
 have eX:(Bg ns x).2=ns++[x]:=by unfold Bg;rw[if_neg hin]
 have tp:FS x ns=0:=by unfold FS;rw[if_neg hin]
 rw[tp,decide_eq_false hin]at ki;have jA:Hid (AC (ns++[x])):=hid (by rw[<-eX];exact h.ok.put hx);have ru:=hid gm;have rt:=hid eX;clear gm eX tp hin pd hm hx;have iE:=h.lo;have qq:=h.lo2;have dc:=h.apart3;have Wm:=hid h.apart;have oU:=hid h.apart2;have xQ:=h.lt;have X8:=h.map.lt;obtain⟨A,c,rfl⟩:=h.row.shape;clear h;obtain⟨i0,hi,aE,hz1,bx⟩:=info_parts Eo;obtain⟨k,a,d,n,t⟩:=x;simp only[ndV]at eO ki bZ ⊢;obtain⟨s,hs⟩:∃s:ByteArray,s=⟨t.toArray⟩:=⟨_,rfl⟩;have oF:Hid (ndC ⟨k,a,d,n,t⟩=[.int .i64 k,.int .i64 a,.int .i64 d,.int .i64 n,.string s]):=hid (by rw[hs];rfl);have ac:str t= .string s:=by rw[hs];rfl
 rw[ac]at eO ki bZ ⊢;clear hs ac;have ag:=hid (Blk.new w 95 #[.int .i64 k,.int .i64 a,.int .i64 d,.int .i64 n,.string s]);have ar:=hid ((Ext.refl w).alloc (.cells #[.int .i64 k,.int .i64 a,.int .i64 d,.int .i64 n,.string s] 95));obtain⟨w1,a5⟩:∃w1,w1=w.alloc (.cells #[.int .i64 k,.int .i64 a,.int .i64 d,.int .i64 n,.string s] 95):=⟨_,rfl⟩;have cg:w1.heap.size=w.heap.size+1:=by rw[a5];simp
 rw[<-a5]at ag ar;have q0:=ag.out.five;have nI:decide ((ns.length:Int)>=4096)=false:=decide_eq_false (by omega);have X4:decide (4096<=(ns.length:Int))=false:=decide_eq_false (by omega);go_enter Tryz.func104,Tryz.ntmps104;go_upto_region 1 with fail;rw[<-a5];clear a5;go_wp2_with fail;refine(eO.out w1 (HG.out.keep ar.out) (HM.out.ext ar.out)).mono ?_
 rintro e w2 ⟨rfl,ah⟩;have aP:=hid (ar.out.trans ah);have jD:=hid (HG.out.keep aP.out);have aY:=hid (ag.out.ext ah);have iz:w.heap.size<w2.heap.size:=by have:=ah.size;omega
 clear q0 ah;have q0:=aY.out.five;obtain⟨k0,k1,f0,f1,eC⟩:=jD.out.blk.twoG;have sh:=ki.out w2 jD.out;have tP:=ki.out w2.drew (jD.out.keep (Ext.refl w2).drew);go_wp2_with fail;go_region;go_upto_region 9 with fail;obtain⟨wA,sW⟩:∃wA,wA=w2.drew:=⟨_,rfl⟩;have wL:Ext w wA:=by rw[sW];exact aP.out.drew
 have U5:w.heap.size<wA.heap.size:=by rw[sW];exact iz
 have be:=hid wL;have nj:=hid (HG.out.keep wL);have Vt:Blk wA w.heap.size 95 #[.int .i64 k,.int .i64 a,.int .i64 d,.int .i64 n,.string s]:=by rw[sW];exact aY.out.drew
 have wi:=hid Vt;rw[<-sW];clear sW wL Vt sh tP q0 k0 k1 f0 f1 eC;have q0:=wi.out.five;obtain⟨k0,k1,f0,f1,eC⟩:=nj.out.blk.twoG;have iM:Hid (∀w':World,(wA.alloc (.cells #[.int .i64 k,.int .i64 a,.int .i64 d,.int .i64 n,.string s] 95)).drew.grownBy w' (Value.slice A ns.length c).ownBlock->Blk w' g 80 #[.slice A ns.length c,.map (some b)]/\DC w' b ns/\Blk w' w.heap.size 95 #[.int .i64 k,.int .i64 a,.int .i64 d,.int .i64 n,.string s]/\wA.grownBy w' (Value.slice A ns.length c).ownBlock):=hid (fun w' au=>by
  have jS:wA.grownBy w' (Value.slice A ns.length c).ownBlock:=by
   refine⟨au.os,au.tape,au.output,?_,fun i h1 h2=> ?_⟩
   ·have:=au.size;simp only[World.size_drew,World.size_alloc]at this;omega
   ·exact(au.block i (by simp only[World.size_drew,World.size_alloc];omega) h2).trans (Below.heap_alloc wA _ i h1)
  have Ya:some w.heap.size≠(Value.slice A ns.length c).ownBlock:=fun e=>by
   have h1:=nj.out.row;unfold AB at h1;rcases(HG.out.row).2 with ⟨h2,_⟩|⟨q,cap,cur,h2,_,hh,_⟩
   ·rw[h2]at e;cases e
   ·rw[h2]at e;simp only[Value.ownBlock,Option.some.injEq]at e;have:=(Array.getElem?_eq_some_iff.1 hh).1;omega
  exact⟨(jS.block g eC (fun e=>oU.out e.symm)).trans nj.out.blk,nj.out.map.kept (jS.block b nj.out.map.lt (fun e=>Wm.out e.symm)),(jS.block w.heap.size U5 Ya).trans wi.out,jS⟩)
 have jE:Hid (∀(j:Nat) (u:Value),[.int .i64 k,.int .i64 a,.int .i64 d,.int .i64 n,.string s][j]? =some u->(wA.alloc (.cells #[.int .i64 k,.int .i64 a,.int .i64 d,.int .i64 n,.string s] 95)).drew.cell? ((⟨wA.heap.size,0,none⟩:Addr).add j)=some u):=hid (fun j u hj=>by
  have h1:=(Blk.new wA 95 #[.int .i64 k,.int .i64 a,.int .i64 d,.int .i64 n,.string s]).drew.cell j;have h2:(⟨wA.heap.size,0,none⟩:Addr).add j=⟨wA.heap.size,j,none⟩:=by
   unfold Addr.add;split
   ·rename_i h;subst h;rfl
   ·simp
  rw[h2,h1,<-hj];simp)
 have dA:Hid ((wA.alloc (.cells #[.int .i64 k,.int .i64 a,.int .i64 d,.int .i64 n,.string s] 95)).drew.ownsRow B 95 5 (.slice A ns.length c) ns.length (Bz ns)):=hid (Af nj.out.row (fun k _ hk=>Below.heap_alloc wA _ k hk));have ir:Hid (ns.length+1<=maxLen):=hid (by unfold maxLen;omega);have ef:Hid ((ns.length+1)*48<=140737488355328):=hid (by omega);have rA:Hid (B<=(wA.alloc (.cells #[.int .i64 k,.int .i64 a,.int .i64 d,.int .i64 n,.string s] 95)).drew.heap.size):=hid (by simp only[World.size_drew,World.size_alloc];omega)
 go_region_law (refine step_append_lies _ rfl (.tmp 39) (.tmp 41) 77 rfl B 95 i0 _ 5 48 Tryz.underlying77 hi aE hz1 bx rfl (by decide) _ ns.length (Bz ns) rfl dA.out ⟨wA.heap.size,0,none⟩ 1 1 [.int .i64 k,.int .i64 a,.int .i64 d,.int .i64 n,.string s] rfl rfl jE.out (by simp[Value.oneCell']) (by decide) ir.out ef.out rA.out _ rfl ?_;intro g' c' w' ai au hat hlt;have oI:=hid ai;have eg:=hid (iM.out w' au);have fW:=hid hat;clear ai au hat;have m0:=eg.out.1.twoG)
 all_goals
  have xq:g'≠g:=by
   rcases fW.out with h4|h4
   ·exact fun e=>oU.out (h4.trans (congrArg some e))
   ·simp only[World.size_drew,World.size_alloc]at h4;omega
  have hne2:g'≠b:=by
   rcases fW.out with h4|h4
   ·exact fun e=>Wm.out (h4.trans (congrArg some e))
   ·have:=nj.out.map.lt;simp only[World.size_drew,World.size_alloc]at h4;omega
  have dY:=eg.out.1.set_ 0 (.slice (some ⟨g',0,none⟩) (ns.length+1) c');have hN:DC (w'.setCell ⟨g,0,none⟩ (.slice (some ⟨g',0,none⟩) (ns.length+1) c')) b ns:=eg.out.2.1.kept (Below.heap_setCell _ _ _ b (fun e=>dc e.symm));have mB:=eg.out.2.2.1.far (p:=⟨g,0,none⟩) (by show w.heap.size≠g;omega) (.slice (some ⟨g',0,none⟩) (ns.length+1) c');have a9:=B9 (w':=w'.setCell ⟨g,0,none⟩ (.slice (some ⟨g',0,none⟩) (ns.length+1) c')) oI.out (fun k hk=>Below.heap_setCell _ _ _ k (by
   simp only[Value.ownBlock,Option.some.injEq]at hk;show k≠g;omega))
  have eS:∀k,k<w.heap.size->k≠g->(Value.slice A ns.length c).ownBlock≠some k->(w'.setCell ⟨g,0,none⟩ (.slice (some ⟨g',0,none⟩) (ns.length+1) c')).heap[k]? =w.heap[k]? :=fun k h1 h2 h3=>
   (Below.heap_setCell _ _ _ k h2).trans ((eg.out.2.2.2.block k (by omega) (fun e=>h3 e.symm)).trans (be.out.block k h1))
  have tu:(w'.setCell ⟨g,0,none⟩ (.slice (some ⟨g',0,none⟩) (ns.length+1) c')).os=w.os/\(w'.setCell ⟨g,0,none⟩ (.slice (some ⟨g',0,none⟩) (ns.length+1) c')).tape=w.tape/\(w'.setCell ⟨g,0,none⟩ (.slice (some ⟨g',0,none⟩) (ns.length+1) c')).output=w.output/\wA.heap.size<=(w'.setCell ⟨g,0,none⟩ (.slice (some ⟨g',0,none⟩) (ns.length+1) c')).heap.size:=by
   have h2:=Below.setCell (Below.refl g w') (p:=⟨g,0,none⟩) (Nat.le_refl _) (.slice (some ⟨g',0,none⟩) (ns.length+1) c');have h4:=eg.out.2.2.2;exact⟨h2.os.trans (h4.os.trans be.out.os),h2.tape.trans (h4.tape.trans be.out.tape),h2.output.trans (h4.output.trans be.out.output),Nat.le_trans h4.size h2.size⟩
  generalize (w'.setCell ⟨g,0,none⟩ (.slice (some ⟨g',0,none⟩) (ns.length+1) c'))=wB at *;have oN:=hid dY;have ic:=hid a9;have rU:=hid eS;have lm:=hid tu;clear q0 k0 k1 f0 f1 m0 a9 eS tu;have q0:=mB.five;obtain⟨k0,k1,f0,f1,tV⟩:=Blk.twoG dY;obtain⟨wC,fw,Vb,nF⟩:=bZ.out wB.drew hN;have Zn:=hid Vb;have Zv:=hid nF;have rz:=hid hN;clear dY hN mB Vb nF;go_wp2_with fail;go_region;go_wp2_with fail;go_ret2;have nF:=Zv.out;have ZU:wB.heap.size<=wC.heap.size:=nF.size;have WL:=lm.out.2.2.2;refine⟨(.slice (some ⟨g',0,none⟩) (ns.length+1) c'),by rw[ru.out];rfl,⟨nF.os.trans lm.out.1,nF.tape.trans lm.out.2.1,nF.output.trans lm.out.2.2.1,by omega,fun k h1 h2 h3 h4=> ?_,fun j hj=> ?_⟩,?_⟩
  ·exact(nF.block k (show k<wB.heap.size by omega) (fun e=>h3 (Option.some.inj e))).trans (rU.out k h1 h2 h4)
  ·have h5:g'=j:=Option.some.inj hj;rcases fW.out with h4|h4
   ·exact .inl (h4.trans (congrArg some h5))
   ·simp only[World.size_drew,World.size_alloc]at h4;exact .inr (by omega)
  ·rw[rt.out];refine⟨(nF.block g (show g<wB.heap.size by omega) (fun e=>dc (Option.some.inj e))).trans oN.out,?_,Zn.out,iE,qq,jA.out,by simp only[List.length_append,List.length_singleton];omega,HG.out.low⟩;unfold AB;rw[CW,Ek,oF.out,List.length_append,List.length_singleton];refine B9 ic.out (fun k hk=>nF.block k (BE ic.out hk) (fun e=> ?_));have h5:g'=k:=Option.some.inj hk;have h6:k=b:=Option.some.inj e;exact hne2 (h5.trans h6)
theorem Mi(B g b:Nat)(w:World)(ns:List Nd)(nv:Value)(h:GrP B g b w ns nv)(x:Nd)(hx:CL ns.length x)(hm:BW w)(cn:ns.length<4096):
  Calls Tryz.prog 104 #[.pointer (some ⟨g,0,none⟩),ndV x] w (It B g b ns nv x w):=by
 by_cases hin:x∈ns
 ·exact SC B g b w ns nv h x hx hm hin
 ·exact SD B g b w ns nv h x hx hm hin cn
def CG(l:List Nat):Array Value:=(l.map din).toArray
theorem MS(l:List Nat)(i x:Nat):(CG l).setIfInBounds i (.int .i64 (x:Int))=CG (l.set i x):=by
 apply Array.ext';simp[CG,List.map_set,din]
theorem FX(l:List Nat)(i:Nat)(h:i<l.length):(CG l)[i]? =some (.int .i64 ((l.getD i 0:Nat):Int)):=by
 unfold CG;rw[List.getElem?_toArray,Hx h,List.getD_eq_getElem?_getD,List.getElem?_eq_getElem h];rfl
theorem O6(n:Nat)(hn:n<=1000000)(W:World):(Instr.makeSlice 41 (.int .i64 (n:Int)) (.int .i64 (n:Int))).run Tryz.prog W=
  .ok (.slice (some ⟨W.heap.size,0,none⟩) n n) (W.alloc (.cells (CG (List.replicate n 0)) 3)):=by
 obtain⟨i0,hi,aE,hz1,bx⟩:=info_parts Jd;have hr:=run_make (P:=Tryz.prog) W 41 3 i0 _ Tryz.underlying41 hi aE .i64 .i64 (n:Int) (n:Int) (by omega) (Int.le_refl _) (by rw[bx];omega) (by omega);have hm:madeCells (Value.cells (.int .i64 0)) (n*1)=CG (List.replicate n 0):=by
  apply Array.ext';apply List.ext_getElem?;intro i;simp only[madeCells,CG,Value.cells];rw[Array.getElem?_toList,Array.getElem?_map,List.getElem?_map,List.getElem?_replicate];rcases Nat.lt_or_ge i n with h|h
  ·rw[Array.getElem?_range,if_pos (by omega),if_pos h];simp[din,Nat.mod_one]
  ·rw[Array.getElem?_range,if_neg (by omega),if_neg (by omega)];rfl
 rw[hz1,Int.toNat_natCast,hm]at hr;exact hr
def CD(g b:Nat)(nv:Value)(w:World)(v:Value)(l:List Nd):Prop:=
 ∃A c,v= .slice A l.length c/\(0<l.length->∃q o,A=some ⟨q,o,none⟩/\q<w.heap.size/\q≠g/\q≠b/\nv.ownBlock≠some q/\∀i (hi:i<l.length),N0 w q (o+i*5) l[i])
theorem CD.read{g b:Nat}{nv:Value}{w:World}{v:Value}{l:List Nd}(h:CD g b nv w v l):RNd w v l:=by
 obtain⟨A,c,rfl,h1⟩:=h;refine⟨A,c,rfl,fun hp=> ?_⟩;obtain⟨q,o,rfl,hq,_,_,_,hc⟩:=h1 hp;exact⟨q,o,rfl,hq,hc⟩
theorem CD.keep{g b:Nat}{nv nv':Value}{w w':World}{v:Value}{l:List Nd}(h:CD g b nv w v l)(hk:KG g b nv nv' w w'):CD g b nv' w' v l:=by
 obtain⟨A,c,rfl,h1⟩:=h;refine⟨A,c,rfl,fun hp=> ?_⟩;obtain⟨q,o,rfl,hq,h2,h3,h4,hc⟩:=h1 hp;have hb:=hk.block q hq h2 h3 h4;have hk2:∀o,w'.cell? ⟨q,o,none⟩=w.cell? ⟨q,o,none⟩:=fun o=>World.cell?_of_block (a:=⟨q,o,none⟩) hb
 refine⟨q,o,rfl,Nat.lt_of_lt_of_le hq hk.size,h2,h3,fun e=> ?_,fun i hi=> ?_⟩
 ·rcases hk.move q e with h5|h5
  ·exact h4 h5
  ·omega
 ·obtain⟨q0,q1,q2,q3,q4⟩:=hc i hi;exact⟨(hk2 _).trans q0,(hk2 _).trans q1,(hk2 _).trans q2,(hk2 _).trans q3,(hk2 _).trans q4⟩
theorem CD.old{g b:Nat}{nv:Value}{w0 w:World}{v:Value}{l:List Nd}(h:RNd w0 v l)(hx:Ext w0 w)(hg:w0.heap.size<=g)(hb:w0.heap.size<=b)(hr:∀j,nv.ownBlock=some j->w0.heap.size<=j):CD g b nv w v l:=by
 obtain⟨A,c,rfl,h1⟩:=h;refine⟨A,c,rfl,fun hp=> ?_⟩;obtain⟨q,o,rfl,hq,hc⟩:=h1 hp;exact⟨q,o,rfl,Nat.lt_of_lt_of_le hq hx.size,by omega,by omega,fun e=>by have:=hr q e;omega,fun i hi=>(hc i hi).ext hx hq⟩
theorem CD.new{B g b:Nat}{nv:Value}{w0 w:World}{v:Value}{l ns:List Nd}(h:AB w0.heap.size w v l)(hg:GrP B g b w0 ns nv):CD g b nv w v l:=by
 obtain⟨A,c,hv,h1⟩:=h.read;refine⟨A,c,hv,fun hp=> ?_⟩;obtain⟨q,o,rfl,hq,hc⟩:=h1 hp;have ew:=AH h q (by rw[hv];rfl);have h2:=hg.lt;have h3:=hg.map.lt;exact⟨q,o,rfl,hq,by omega,by omega,fun e=>by have:=BE hg.row e;omega,hc⟩
theorem CD.none{B g b:Nat}{w:World}{v:Value}{l ns:List Nd}(h:RNd w v l)(hg:GrP B g b w ns (.slice none 0 0)):CD g b (.slice none 0 0) w v l:=by
 obtain⟨A,c,rfl,h1⟩:=h;refine⟨A,c,rfl,fun hp=> ?_⟩;obtain⟨q,o,rfl,hq,hc⟩:=h1 hp;have h0:=(hc 0 hp).1;refine⟨q,o,rfl,hq,?_,?_,fun e=>(by cases e),hc⟩
 ·rintro rfl;rw[hg.blk.cell]at h0;rcases o with _|_|o
  ·cases h0
  ·cases h0
  ·simp at h0
 ·rintro rfl;obtain⟨es,clock,hb,_⟩:=hg.map;simp[World.cell?,hb]at h0
def F2(B g b m:Nat)(ns:List Nd)(nv:Value)(e:Ex)(v:Value)(w:World)(i:Nat)(wr:World):Prop:=
 ∃nv',KG g b nv nv' w wr/\GrP B g b wr (Bx ([],ns) ((Ah 0 e).take i)).2 nv'/\Blk wr m 3 (CG ((Bx ([],ns) ((Ah 0 e).take i)).1++List.replicate (e.size-i) 0))/\CD g b nv' wr v (Ah 0 e)/\
  m≠g/\m≠b/\nv'.ownBlock≠some m/\w.heap.size<=m/\BW wr/\v.ownBlock≠some m
theorem F2.start{B g b:Nat}{ns:List Nd}{nv:Value}{e:Ex}{v:Value}{w w1:World}(h:GrP B g b w ns nv)(hv:CD g b nv w v (Ah 0 e))(hx:Ext w w1)(hm:BW w):
  F2 B g b w1.heap.size ns nv e v w 0 (w1.alloc (.cells (CG (List.replicate e.size 0)) 3)):=by
 have ah:=hx.alloc (.cells (CG (List.replicate e.size 0)) 3);have hg:=h.lt;have hb:=h.map.lt;have hs:=hx.size;refine⟨nv,KG.of_ext ah,?_,?_,hv.keep (KG.of_ext ah),by omega,by omega,fun e=> ?_,hs,hm.ext ah,?_⟩
 ·rw[List.take_zero];exact h.keep ah
 ·rw[List.take_zero];show Blk _ _ _ (CG ([]++List.replicate (e.size-0) 0));rw[List.nil_append,Nat.sub_zero];exact Blk.new _ _ _
 ·have:=BE h.row e;omega
 ·obtain⟨A,c,rfl,h1⟩:=hv;obtain⟨q,o,rfl,hq,_⟩:=h1 (by rw[AE];exact e.size_pos);intro he;have h2:q=w1.heap.size:=Option.some.inj he;omega
theorem F2.next {B g b m:Nat} {ns:List Nd} {nv bC nv2:Value} {e:Ex} {v:Value} {w wr w1 w2:World} {i:Nat} (hg:e.Good) (hs:AC ns) (hi:i<e.size) (hl:i<(Ah 0 e).length)
  (h1:KG g b nv bC w wr) (h4:CD g b bC wr v (Ah 0 e)) (hb:Blk wr m 3 (CG ((Bx ([],ns) ((Ah 0 e).take i)).1++List.replicate (e.size-i) 0)))
  (m1:m≠g) (m2:m≠b) (m3:bC.ownBlock≠some m) (m4:w.heap.size<=m) (m5:v.ownBlock≠some m) (hm:BW wr) (hx:Ext wr w1) (hk:KG g b bC nv2 w1 w2)
  (hB:B<=w.heap.size) (hp:GrP B g b w2 (Bg (Bx ([],ns) ((Ah 0 e).take i)).2 (BO (Bx ([],ns) ((Ah 0 e).take i)).1 (Ah 0 e)[i])).2 nv2) (hp0:GrP B g b w1 (Bx ([],ns) ((Ah 0 e).take i)).2 bC):
  F2 B g b m ns nv e v w (i+1) (w2.setCell ⟨m,i,none⟩ (.int .i64 ((Bg (Bx ([],ns) ((Ah 0 e).take i)).2 (BO (Bx ([],ns) ((Ah 0 e).take i)).1 (Ah 0 e)[i])).1:Int))):=by
 have lb:=FG.at hs hg i (Nat.le_of_lt hi);have Z1:m<w1.heap.size:=Nat.lt_of_lt_of_le hb.lt hx.size;have k1:=(KG.of_ext hx).trans hk;have hb2:Blk w2 m 3 _:=k1.blk hb m1 m2 m3;have UN:nv2.ownBlock≠some m:=fun e=>by
  rcases k1.move m e with h5|h5
  ·exact m3 h5
  ·have:=hb.lt;omega
 have jM:∀u:Value,KG g b nv nv2 w (w2.setCell ⟨m,i,none⟩ u):=fun u=>by
  have k2:=h1.trans k1;have iz:(w2.setCell ⟨m,i,none⟩ u).heap.size=w2.heap.size:=by simp
  have gD:=Below.setCell (Below.refl m w2) (p:=⟨m,i,none⟩) (Nat.le_refl _) u;exact⟨gD.os.trans k2.os,gD.tape.trans k2.tape,gD.output.trans k2.output,by rw[iz];exact k2.size,fun k p1 p2 p3 p4=>(Below.heap_setCell _ _ _ k (by show k≠m;omega)).trans (k2.block k p1 p2 p3 p4),k2.move⟩
 have ac:Bx ([],ns) ((Ah 0 e).take (i+1))=Hh (Bx ([],ns) ((Ah 0 e).take i)) (Ah 0 e)[i]:=FY _ _ _ hl;have mi:BW w2:=(hm.ext hx).below (hk.below hp0) hp0.low;refine⟨nv2,jM _,?_,?_,?_,m1,m2,UN,m4,mi.below (Below.setCell (Below.refl B w2) (p:=⟨m,i,none⟩) (by show B<=m;omega) _) hp.low,m5⟩
 ·rw[ac,F7];refine⟨hp.blk.far (p:=⟨m,i,none⟩) (fun e=>m1 e.symm) _,?_,hp.map.kept (Below.heap_setCell _ _ _ b (fun e=>m2 e.symm)),hp.lo,hp.lo2,hp.ok,hp.few,hp.low⟩;exact B9 hp.row (fun k hk=>Below.heap_setCell _ _ _ k (fun e=>UN (by rw[hk];exact congrArg some e)))
 ·have h6:=hb2.set_ i (.int .i64 ((Bg (Bx ([],ns) ((Ah 0 e).take i)).2 (BO (Bx ([],ns) ((Ah 0 e).take i)).1 (Ah 0 e)[i])).1:Int));rw[MS]at h6;rw[ac,F7];have hl2:=lb.len;have h7:((Bx ([],ns) ((Ah 0 e).take i)).1++List.replicate (e.size-i) 0).set i (Bg (Bx ([],ns) ((Ah 0 e).take i)).2 (BO (Bx ([],ns) ((Ah 0 e).take i)).1 (Ah 0 e)[i])).1=
    ((Bx ([],ns) ((Ah 0 e).take i)).1++[(Bg (Bx ([],ns) ((Ah 0 e).take i)).2 (BO (Bx ([],ns) ((Ah 0 e).take i)).1 (Ah 0 e)[i])).1])++List.replicate (e.size-(i+1)) 0:=by
   rw[List.set_append_right _ _ (by omega),hl2,Nat.sub_self,show e.size-i=(e.size-(i+1))+1 by omega,List.replicate_succ,List.set_cons_zero,List.append_assoc];rfl
  rw[h7]at h6;exact h6
 ·have h8:=(h4.keep k1);obtain⟨A,c,rfl,h9⟩:=h8;refine⟨A,c,rfl,fun hp=> ?_⟩;obtain⟨q,o,rfl,hq,p2,p3,p4,hc⟩:=h9 hp;have qe:q≠m:=fun e=>m5 (congrArg some e)
  have hk2:∀o u,(w2.setCell ⟨m,i,none⟩ u).cell? ⟨q,o,none⟩=w2.cell? ⟨q,o,none⟩:=fun o u=>World.cell?_of_block (a:=⟨q,o,none⟩) (Below.heap_setCell _ _ _ q qe)
  refine⟨q,o,rfl,by simpa using hq,p2,p3,p4,fun j hj=> ?_⟩;obtain⟨q0,q1,q2,q3,q4⟩:=hc j hj;exact⟨(hk2 _ _).trans q0,(hk2 _ _).trans q1,(hk2 _ _).trans q2,(hk2 _ _).trans q3,(hk2 _ _).trans q4⟩
end Big
end Go.Proofs.YtkoaogkknnelaaaGreatDoor
