import Derived.Test.YtaccjdbbkmhanaaGreatDoorM29
import Derived.Test.YtaccjdbbkmhanaaGreatDoorShelf4
import Derived.Test.YtaccjdbbkmhanaaGreatDoorM16
import Derived.Test.YtaccjdbbkmhanaaGreatDoorM23
import Derived.Deep.AppendLies
import Derived.Deep.RegionLaw
import Derived.Test.YtaccjdbbkmhanaaGreatDoorM21
import Derived.Test.YtaccjdbbkmhanaaGreatDoorM24
namespace Go.Proofs.YtaccjdbbkmhanaaGreatDoor
namespace Big
open Go.RowKit
def outN (n:Nat) (x:Int):Bool:=decide (x<0) || decide ((n:Int)≤x)
set_option maxRecDepth 100000 in
theorem fits1_any (c g n m:Nat) (A:Option Addr) (W:World) (x:Int) (h0:W.cell? ⟨c,0,none⟩=some (.pointer (some ⟨g,0,none⟩))) (h1:W.cell? ⟨g,0,none⟩=some (.slice A n m)) (hg:g<W.heap.size):
  FnGives Tryz.prog 76 #[.pointer (some ⟨c,0,none⟩)] #[.int .i64 x] (.bool (outN n x)) W:=by
 unfold FnGives
 show Calls Tryz.prog 76 #[.int .i64 x,.pointer (some ⟨c,0,none⟩)] W _
 by_cases hx:x<0
 ·have hd:decide (x<0)=true:=decide_eq_true hx
  have ho:outN n x=true:=by unfold outN;rw [hd];rfl
  rw [ho]
  clear ho hx
  go_enter Tryz.func76,Tryz.ntmps76
  go_wp2_with fail
  go_ret
  exact ⟨rfl,0,rfl⟩
 ·have hd:decide (x<0)=false:=decide_eq_false hx
  by_cases hy:(n:Int)≤x
  ·have hd2:decide ((n:Int)≤x)=true:=decide_eq_true hy
   have ho:outN n x=true:=by unfold outN;rw [hd,hd2];rfl
   rw [ho]
   clear ho
   go_enter Tryz.func76,Tryz.ntmps76
   go_wp2_with fail
   go_ret
   exact ⟨rfl,0,rfl⟩
  ·have hd2:decide ((n:Int)≤x)=false:=decide_eq_false hy
   have ho:outN n x=false:=by unfold outN;rw [hd,hd2];rfl
   rw [ho]
   clear ho
   go_enter Tryz.func76,Tryz.ntmps76
   go_wp2_with fail
   go_ret
   exact ⟨rfl,0,rfl⟩
theorem contains_any (c g n m b k:Nat) (A:Option Addr) (zs:List Int) (W:World) (h0:W.cell? ⟨c,0,none⟩=some (.pointer (some ⟨g,0,none⟩))) (h1:W.cell? ⟨g,0,none⟩=some (.slice A n m))
  (hz:∀j (hj:j<zs.length),W.cell? ⟨b,j,none⟩=some (.int .i64 zs[j])) (hl:zs.length≤100):
  Calls Tryz.prog 75 #[.slice (some ⟨b,0,none⟩) zs.length k,.func (.func 76) #[] #[.pointer (some ⟨c,0,none⟩)]] W fun e w'=>e= .returned (.bool (zs.any (outN n)))∧∃q,w'=W.drewN q:=by
 have hc:=World.block_lt_of_cell? W _ h0
 have hg:=World.block_lt_of_cell? W _ h1
 have h:=Tryz.slices_ContainsFunc (fun x:Int=> .int .i64 x) (outN n) 76 #[.pointer (some ⟨c,0,none⟩)] (enters_of Tryz.func76 (by kernel_rfl) rfl) b 0 zs.length k zs W (fun W' x hb=>fits1_any c g n m A W' x ((hb.cell hc).trans h0) ((hb.cell hg).trans h1) (Nat.lt_of_lt_of_le hg hb.size)) (Nat.le_refl _) (by omega) (fun j hj=>by
  rw [Nat.zero_add,hz j hj,getElem!_pos zs j hj])
 rw [List.take_length] at h
 exact h
end Big
end Go.Proofs.YtaccjdbbkmhanaaGreatDoor
namespace Go.Proofs.YtaccjdbbkmhanaaGreatDoor
namespace Big
open Go.RowKit
set_option maxHeartbeats 4000000 in
set_option maxRecDepth 100000 in
theorem fits_const (B g b:Nat) (w:World) (ns:List Nd) (nv:Value) (h:GrP B g b w ns nv) (t:List UInt8) (ht:code7 t=0) (hm:MaxV w):
  Calls Tryz.prog 53 #[.pointer (some ⟨g,0,none⟩),.agg #[.int .i64 1,.int .i64 0,.int .i64 0,.int .i64 0,str t]] w fun e w'=>e= .returned (.bool true)∧Ext w w':=by
 obtain ⟨A,c,rfl⟩:=h.row.shape
 have HG:=Lib.hid h.blk
 clear h
 have HPA:=Lib.hid (fun W h=>parse7_any W t h)
 have HM:=Lib.hid hm
 have HT:=Lib.hid ht
 clear hm ht
 obtain ⟨s,hs⟩:∃s:ByteArray,s=⟨t.toArray⟩:=⟨_,rfl⟩
 have hst:str t= .string s:=by rw [hs];rfl
 rw [hst] at HPA ⊢
 clear hs hst
 have HB1:=Lib.hid (Blk.new w 29 #[.pointer (some ⟨g,0,none⟩)])
 have HX1:=Lib.hid ((Ext.refl w).alloc (.cells #[.pointer (some ⟨g,0,none⟩)] 29))
 obtain ⟨w1,hw1⟩:∃w1,w1=w.alloc (.cells #[.pointer (some ⟨g,0,none⟩)] 29):=⟨_,rfl⟩
 have hs1:w1.heap.size=w.heap.size+1:=by rw [hw1];simp
 rw [←hw1] at HB1 HX1
 have HB2:=Lib.hid (Blk.new w1 50 #[.int .i64 1,.int .i64 0,.int .i64 0,.int .i64 0,.string s])
 have HX2:=Lib.hid ((Ext.refl w1).alloc (.cells #[.int .i64 1,.int .i64 0,.int .i64 0,.int .i64 0,.string s] 50))
 obtain ⟨w2,hw2⟩:∃w2,w2=w1.alloc (.cells #[.int .i64 1,.int .i64 0,.int .i64 0,.int .i64 0,.string s] 50):=⟨_,rfl⟩
 have hs2:w2.heap.size=w.heap.size+2:=by rw [hw2];simp [hs1]
 rw [←hw2,hs1] at HB2
 rw [←hw2] at HX2
 have HX:=Lib.hid (HX1.out.trans HX2.out)
 obtain ⟨q0,q1,q2,q3,q4⟩:=HB2.out.five
 go_enter Tryz.func53,Tryz.ntmps53
 go_upto_region 1 with fail
 rw [←hw1,←hw2]
 clear hw1 hw2
 go_wp2_with fail
 refine (operands_leaf w2 1 0 0 0 s (by decide)).mono ?_
 rintro e w3 ⟨rfl,hx3⟩
 have HX3:=Lib.hid hx3
 have HB3:=Lib.hid (HB2.out.ext hx3)
 clear hx3 q0 q1 q2 q3 q4
 obtain ⟨q0,q1,q2,q3,q4⟩:=HB3.out.five
 go_wp2_with fail
 refine (Tryz.slices_ContainsFunc_empty (α:=Int) none 0 _ w3).mono ?_
 rintro e w4 ⟨rfl,rfl⟩
 have hlt4:w.heap.size+1<w4.heap.size:=by
  have h1:=HX3.out.size
  omega
 have HNE:Hid (w.heap.size+1≠w4.heap.size):=Lib.hid (by omega)
 have HLE:Hid (w.heap.size≤w4.heap.size):=Lib.hid (by omega)
 have hx5:=(Ext.refl w4).alloc (.cells #[.int .i64 1,.int .i64 0,.int .i64 0,.int .i64 0,.string ⟨#[]⟩] 50)
 have HN5:=Lib.hid (HB3.out.ext hx5)
 have HP5:=Lib.hid (Blk.new w4 50 #[.int .i64 1,.int .i64 0,.int .i64 0,.int .i64 0,.string ⟨#[]⟩])
 have HX5:=Lib.hid ((HX.out.trans HX3.out).trans hx5)
 clear hx5 hlt4
 obtain ⟨y0,y1,y2,y3,y4⟩:=HN5.out.five
 obtain ⟨p0,p1,p2,p3,p4⟩:=HP5.out.five
 obtain ⟨w5,hw5⟩:∃w5,w5=w4.alloc (.cells #[.int .i64 1,.int .i64 0,.int .i64 0,.int .i64 0,.string ⟨#[]⟩] 50):=⟨_,rfl⟩
 rw [←hw5] at HN5 HP5 HX5 y0 y1 y2 y3 y4 p0 p1 p2 p3 p4
 go_upto_region 5 with fail
 rw [←hw5]
 clear hw5 q0 q1 q2 q3 q4
 go_wp2_with fail
 refine (HPA.out _ (HM.out.ext HX5.out)).mono ?_
 rintro e w6 ⟨v6,rfl,hr6,hx6⟩
 obtain ⟨b6,n6,A6,c6,m6,D6,d6,rfl⟩:=hr6.shape
 clear hr6 y0 y1 y2 y3 y4 p0 p1 p2 p3 p4
 rw [HT.out]
 have hx7:=hx6.alloc (.cells #[.bool b6,.slice A6 n6 c6,.slice D6 m6 d6] 117)
 have HN6:=Lib.hid (HN5.out.ext hx7)
 have HP6:=Lib.hid (HP5.out.ext hx7)
 have HX6:=Lib.hid (HX5.out.trans hx7)
 obtain ⟨q0,q1,q2,q3,q4⟩:=HN6.out.five
 obtain ⟨r0,r1,r2,r3,r4⟩:=HP6.out.five
 clear hx6 hx7
 have HP7:=Lib.hid (HP6.out.set_ 4 (.string s))
 have HN7:=Lib.hid (HN6.out.far (p:=⟨w4.heap.size,4,none⟩) HNE.out (.string s))
 have HX7:=Lib.hid (HX6.out.setCell (p:=⟨w4.heap.size,4,none⟩) HLE.out (.string s))
 have f6:=HP6.out.frozen 4
 obtain ⟨y0,y1,y2,y3,y4⟩:=HN7.out.five
 obtain ⟨p0,p1,p2,p3,p4⟩:=Blk.five HP7.out
 go_wp2_with fail
 go_ret
 exact ⟨rfl,HX7.out⟩
set_option maxHeartbeats 4000000 in
set_option maxRecDepth 100000 in
theorem fits_name (B g b:Nat) (w:World) (ns:List Nd) (nv:Value) (h:GrP B g b w ns nv) (t:List UInt8) (hn:nameB t=true):
  Calls Tryz.prog 53 #[.pointer (some ⟨g,0,none⟩),.agg #[.int .i64 2,.int .i64 0,.int .i64 0,.int .i64 0,str t]] w fun e w'=>e= .returned (.bool true)∧Ext w w':=by
 obtain ⟨A,c,rfl⟩:=h.row.shape
 have HG:=Lib.hid h.blk
 clear h
 have hw:=(Bool.and_eq_true_iff.1 hn).1
 have hl:=wordB_le hw
 have hr:reservedB t=false:=by
  have hnm:nameB t=(wordB t && !reservedB t):=by rw [reservedB_mem];rfl
  rw [hnm,Bool.and_eq_true_iff,Bool.not_eq_true'] at hn
  exact hn.2
 have HW:=Lib.hid (fun W=>word_any W t (by omega))
 have HRS:=Lib.hid (fun W=>reserved_any W t)
 rw [hw] at HW
 rw [hr] at HRS
 clear hw hl hr hn
 obtain ⟨s,hs⟩:∃s:ByteArray,s=⟨t.toArray⟩:=⟨_,rfl⟩
 have hst:str t= .string s:=by rw [hs];rfl
 rw [hst] at HW HRS ⊢
 clear hs hst
 have HB1:=Lib.hid (Blk.new w 29 #[.pointer (some ⟨g,0,none⟩)])
 have HX1:=Lib.hid ((Ext.refl w).alloc (.cells #[.pointer (some ⟨g,0,none⟩)] 29))
 obtain ⟨w1,hw1⟩:∃w1,w1=w.alloc (.cells #[.pointer (some ⟨g,0,none⟩)] 29):=⟨_,rfl⟩
 have hs1:w1.heap.size=w.heap.size+1:=by rw [hw1];simp
 rw [←hw1] at HB1 HX1
 have HB2:=Lib.hid (Blk.new w1 50 #[.int .i64 2,.int .i64 0,.int .i64 0,.int .i64 0,.string s])
 have HX2:=Lib.hid ((Ext.refl w1).alloc (.cells #[.int .i64 2,.int .i64 0,.int .i64 0,.int .i64 0,.string s] 50))
 obtain ⟨w2,hw2⟩:∃w2,w2=w1.alloc (.cells #[.int .i64 2,.int .i64 0,.int .i64 0,.int .i64 0,.string s] 50):=⟨_,rfl⟩
 have hs2:w2.heap.size=w.heap.size+2:=by rw [hw2];simp [hs1]
 rw [←hw2,hs1] at HB2
 rw [←hw2] at HX2
 have HX:=Lib.hid (HX1.out.trans HX2.out)
 obtain ⟨q0,q1,q2,q3,q4⟩:=HB2.out.five
 go_enter Tryz.func53,Tryz.ntmps53
 go_upto_region 1 with fail
 rw [←hw1,←hw2]
 clear hw1 hw2
 go_wp2_with fail
 refine (operands_leaf w2 2 0 0 0 s (by decide)).mono ?_
 rintro e w3 ⟨rfl,hx3⟩
 have HX3:=Lib.hid hx3
 have HB3:=Lib.hid (HB2.out.ext hx3)
 clear hx3 q0 q1 q2 q3 q4
 obtain ⟨q0,q1,q2,q3,q4⟩:=HB3.out.five
 go_wp2_with fail
 refine (Tryz.slices_ContainsFunc_empty (α:=Int) none 0 _ w3).mono ?_
 rintro e w4 ⟨rfl,rfl⟩
 have hlt4:w.heap.size+1<w4.heap.size:=by
  have h1:=HX3.out.size
  omega
 have HNE:Hid (w.heap.size+1≠w4.heap.size):=Lib.hid (by omega)
 have HLE:Hid (w.heap.size≤w4.heap.size):=Lib.hid (by omega)
 have hx5:=(Ext.refl w4).alloc (.cells #[.int .i64 2,.int .i64 0,.int .i64 0,.int .i64 0,.string ⟨#[]⟩] 50)
 have HN5:=Lib.hid (HB3.out.ext hx5)
 have HP5:=Lib.hid (Blk.new w4 50 #[.int .i64 2,.int .i64 0,.int .i64 0,.int .i64 0,.string ⟨#[]⟩])
 have HX5:=Lib.hid ((HX.out.trans HX3.out).trans hx5)
 clear hx5 hlt4
 obtain ⟨y0,y1,y2,y3,y4⟩:=HN5.out.five
 obtain ⟨p0,p1,p2,p3,p4⟩:=HP5.out.five
 obtain ⟨w5,hw5⟩:∃w5,w5=w4.alloc (.cells #[.int .i64 2,.int .i64 0,.int .i64 0,.int .i64 0,.string ⟨#[]⟩] 50):=⟨_,rfl⟩
 rw [←hw5] at HN5 HP5 HX5 y0 y1 y2 y3 y4 p0 p1 p2 p3 p4
 go_upto_region 5 with fail
 rw [←hw5]
 clear hw5 q0 q1 q2 q3 q4
 go_upto_region 14 with fail
 have HP6:=Lib.hid (HP5.out.set_ 4 (.string s))
 have HN6:=Lib.hid (HN5.out.far (p:=⟨w4.heap.size,4,none⟩) HNE.out (.string s))
 have HX6:=Lib.hid (HX5.out.setCell (p:=⟨w4.heap.size,4,none⟩) HLE.out (.string s))
 have f5:=HP5.out.frozen 4
 obtain ⟨y0,y1,y2,y3,y4⟩:=HN6.out.five
 obtain ⟨p0,p1,p2,p3,p4⟩:=Blk.five HP6.out
 go_region_with (first|(refine (HW.out _).mono ?_;rintro e wz ⟨rfl,rfl⟩)|(refine (HRS.out _).mono ?_;rintro e wz ⟨rfl,rfl⟩))
 all_goals go_wp2_with fail
 all_goals go_ret
 all_goals exact ⟨rfl,HX6.out.drew⟩
set_option maxHeartbeats 4000000 in
set_option maxRecDepth 100000 in
theorem fits_k3 (B g b:Nat) (w:World) (ns:List Nd) (nv:Value) (h:GrP B g b w ns nv):
  Calls Tryz.prog 53 #[.pointer (some ⟨g,0,none⟩),.agg #[.int .i64 3,.int .i64 0,.int .i64 0,.int .i64 0,.string ⟨#[]⟩]] w fun e w'=>e= .returned (.bool true)∧Ext w w':=by
 obtain ⟨A,c,rfl⟩:=h.row.shape
 have HG:=Lib.hid h.blk
 clear h
 have HB1:=Lib.hid (Blk.new w 29 #[.pointer (some ⟨g,0,none⟩)])
 have HX1:=Lib.hid ((Ext.refl w).alloc (.cells #[.pointer (some ⟨g,0,none⟩)] 29))
 obtain ⟨w1,hw1⟩:∃w1,w1=w.alloc (.cells #[.pointer (some ⟨g,0,none⟩)] 29):=⟨_,rfl⟩
 have hs1:w1.heap.size=w.heap.size+1:=by rw [hw1];simp
 rw [←hw1] at HB1 HX1
 have HB2:=Lib.hid (Blk.new w1 50 #[.int .i64 3,.int .i64 0,.int .i64 0,.int .i64 0,.string ⟨#[]⟩])
 have HX2:=Lib.hid ((Ext.refl w1).alloc (.cells #[.int .i64 3,.int .i64 0,.int .i64 0,.int .i64 0,.string ⟨#[]⟩] 50))
 obtain ⟨w2,hw2⟩:∃w2,w2=w1.alloc (.cells #[.int .i64 3,.int .i64 0,.int .i64 0,.int .i64 0,.string ⟨#[]⟩] 50):=⟨_,rfl⟩
 have hs2:w2.heap.size=w.heap.size+2:=by rw [hw2];simp [hs1]
 rw [←hw2,hs1] at HB2
 rw [←hw2] at HX2
 have HX:=Lib.hid (HX1.out.trans HX2.out)
 obtain ⟨q0,q1,q2,q3,q4⟩:=HB2.out.five
 go_enter Tryz.func53,Tryz.ntmps53
 go_upto_region 1 with fail
 rw [←hw1,←hw2]
 clear hw1 hw2
 go_wp2_with fail
 refine (operands_leaf w2 3 0 0 0 ⟨#[]⟩ (by decide)).mono ?_
 rintro e w3 ⟨rfl,hx3⟩
 have HX3:=Lib.hid hx3
 have HB3:=Lib.hid (HB2.out.ext hx3)
 clear hx3 q0 q1 q2 q3 q4
 obtain ⟨q0,q1,q2,q3,q4⟩:=HB3.out.five
 go_wp2_with fail
 refine (Tryz.slices_ContainsFunc_empty (α:=Int) none 0 _ w3).mono ?_
 rintro e w4 ⟨rfl,rfl⟩
 have hlt4:w.heap.size+1<w4.heap.size:=by
  have h1:=HX3.out.size
  omega
 have HNE:Hid (w.heap.size+1≠w4.heap.size):=Lib.hid (by omega)
 have HLE:Hid (w.heap.size≤w4.heap.size):=Lib.hid (by omega)
 have hx5:=(Ext.refl w4).alloc (.cells #[.int .i64 3,.int .i64 0,.int .i64 0,.int .i64 0,.string ⟨#[]⟩] 50)
 have HN5:=Lib.hid (HB3.out.ext hx5)
 have HP5:=Lib.hid (Blk.new w4 50 #[.int .i64 3,.int .i64 0,.int .i64 0,.int .i64 0,.string ⟨#[]⟩])
 have HX5:=Lib.hid ((HX.out.trans HX3.out).trans hx5)
 clear hx5 hlt4
 obtain ⟨y0,y1,y2,y3,y4⟩:=HN5.out.five
 obtain ⟨p0,p1,p2,p3,p4⟩:=HP5.out.five
 obtain ⟨w5,hw5⟩:∃w5,w5=w4.alloc (.cells #[.int .i64 3,.int .i64 0,.int .i64 0,.int .i64 0,.string ⟨#[]⟩] 50):=⟨_,rfl⟩
 rw [←hw5] at HN5 HP5 HX5 y0 y1 y2 y3 y4 p0 p1 p2 p3 p4
 go_upto_region 5 with fail
 rw [←hw5]
 clear hw5 q0 q1 q2 q3 q4
 go_wp2_with fail
 go_ret
 exact ⟨rfl,HX5.out⟩
set_option maxHeartbeats 4000000 in
set_option maxRecDepth 100000 in
theorem fits_k4 (B g b:Nat) (w:World) (ns:List Nd) (nv:Value) (h:GrP B g b w ns nv):
  Calls Tryz.prog 53 #[.pointer (some ⟨g,0,none⟩),.agg #[.int .i64 4,.int .i64 0,.int .i64 0,.int .i64 0,.string ⟨#[]⟩]] w fun e w'=>e= .returned (.bool true)∧Ext w w':=by
 obtain ⟨A,c,rfl⟩:=h.row.shape
 have HG:=Lib.hid h.blk
 clear h
 have HB1:=Lib.hid (Blk.new w 29 #[.pointer (some ⟨g,0,none⟩)])
 have HX1:=Lib.hid ((Ext.refl w).alloc (.cells #[.pointer (some ⟨g,0,none⟩)] 29))
 obtain ⟨w1,hw1⟩:∃w1,w1=w.alloc (.cells #[.pointer (some ⟨g,0,none⟩)] 29):=⟨_,rfl⟩
 have hs1:w1.heap.size=w.heap.size+1:=by rw [hw1];simp
 rw [←hw1] at HB1 HX1
 have HB2:=Lib.hid (Blk.new w1 50 #[.int .i64 4,.int .i64 0,.int .i64 0,.int .i64 0,.string ⟨#[]⟩])
 have HX2:=Lib.hid ((Ext.refl w1).alloc (.cells #[.int .i64 4,.int .i64 0,.int .i64 0,.int .i64 0,.string ⟨#[]⟩] 50))
 obtain ⟨w2,hw2⟩:∃w2,w2=w1.alloc (.cells #[.int .i64 4,.int .i64 0,.int .i64 0,.int .i64 0,.string ⟨#[]⟩] 50):=⟨_,rfl⟩
 have hs2:w2.heap.size=w.heap.size+2:=by rw [hw2];simp [hs1]
 rw [←hw2,hs1] at HB2
 rw [←hw2] at HX2
 have HX:=Lib.hid (HX1.out.trans HX2.out)
 obtain ⟨q0,q1,q2,q3,q4⟩:=HB2.out.five
 go_enter Tryz.func53,Tryz.ntmps53
 go_upto_region 1 with fail
 rw [←hw1,←hw2]
 clear hw1 hw2
 go_wp2_with fail
 refine (operands_leaf w2 4 0 0 0 ⟨#[]⟩ (by decide)).mono ?_
 rintro e w3 ⟨rfl,hx3⟩
 have HX3:=Lib.hid hx3
 have HB3:=Lib.hid (HB2.out.ext hx3)
 clear hx3 q0 q1 q2 q3 q4
 obtain ⟨q0,q1,q2,q3,q4⟩:=HB3.out.five
 go_wp2_with fail
 refine (Tryz.slices_ContainsFunc_empty (α:=Int) none 0 _ w3).mono ?_
 rintro e w4 ⟨rfl,rfl⟩
 have hlt4:w.heap.size+1<w4.heap.size:=by
  have h1:=HX3.out.size
  omega
 have HNE:Hid (w.heap.size+1≠w4.heap.size):=Lib.hid (by omega)
 have HLE:Hid (w.heap.size≤w4.heap.size):=Lib.hid (by omega)
 have hx5:=(Ext.refl w4).alloc (.cells #[.int .i64 4,.int .i64 0,.int .i64 0,.int .i64 0,.string ⟨#[]⟩] 50)
 have HN5:=Lib.hid (HB3.out.ext hx5)
 have HP5:=Lib.hid (Blk.new w4 50 #[.int .i64 4,.int .i64 0,.int .i64 0,.int .i64 0,.string ⟨#[]⟩])
 have HX5:=Lib.hid ((HX.out.trans HX3.out).trans hx5)
 clear hx5 hlt4
 obtain ⟨y0,y1,y2,y3,y4⟩:=HN5.out.five
 obtain ⟨p0,p1,p2,p3,p4⟩:=HP5.out.five
 obtain ⟨w5,hw5⟩:∃w5,w5=w4.alloc (.cells #[.int .i64 4,.int .i64 0,.int .i64 0,.int .i64 0,.string ⟨#[]⟩] 50):=⟨_,rfl⟩
 rw [←hw5] at HN5 HP5 HX5 y0 y1 y2 y3 y4 p0 p1 p2 p3 p4
 go_upto_region 5 with fail
 rw [←hw5]
 clear hw5 q0 q1 q2 q3 q4
 go_wp2_with fail
 go_ret
 exact ⟨rfl,HX5.out⟩
set_option maxHeartbeats 4000000 in
set_option maxRecDepth 100000 in
theorem fits_k5 (B g b:Nat) (w:World) (ns:List Nd) (nv:Value) (h:GrP B g b w ns nv) (a:Int) (h0:0≤a) (h1:a<ns.length):
  Calls Tryz.prog 53 #[.pointer (some ⟨g,0,none⟩),.agg #[.int .i64 5,.int .i64 a,.int .i64 0,.int .i64 0,.string ⟨#[]⟩]] w fun e w'=>e= .returned (.bool true)∧Ext w w':=by
 obtain ⟨A,c,rfl⟩:=h.row.shape
 have HG:=Lib.hid h.blk
 clear h
 have HB1:=Lib.hid (Blk.new w 29 #[.pointer (some ⟨g,0,none⟩)])
 have HX1:=Lib.hid ((Ext.refl w).alloc (.cells #[.pointer (some ⟨g,0,none⟩)] 29))
 obtain ⟨w1,hw1⟩:∃w1,w1=w.alloc (.cells #[.pointer (some ⟨g,0,none⟩)] 29):=⟨_,rfl⟩
 have hs1:w1.heap.size=w.heap.size+1:=by rw [hw1];simp
 rw [←hw1] at HB1 HX1
 have HB2:=Lib.hid (Blk.new w1 50 #[.int .i64 5,.int .i64 a,.int .i64 0,.int .i64 0,.string ⟨#[]⟩])
 have HX2:=Lib.hid ((Ext.refl w1).alloc (.cells #[.int .i64 5,.int .i64 a,.int .i64 0,.int .i64 0,.string ⟨#[]⟩] 50))
 obtain ⟨w2,hw2⟩:∃w2,w2=w1.alloc (.cells #[.int .i64 5,.int .i64 a,.int .i64 0,.int .i64 0,.string ⟨#[]⟩] 50):=⟨_,rfl⟩
 have hs2:w2.heap.size=w.heap.size+2:=by rw [hw2];simp [hs1]
 rw [←hw2,hs1] at HB2
 rw [←hw2] at HX2
 have HX:=Lib.hid (HX1.out.trans HX2.out)
 obtain ⟨q0,q1,q2,q3,q4⟩:=HB2.out.five
 go_enter Tryz.func53,Tryz.ntmps53
 go_upto_region 1 with fail
 rw [←hw1,←hw2]
 clear hw1 hw2
 go_wp2_with fail
 refine (operands_un w2 5 a 0 0 ⟨#[]⟩ (by decide)).mono ?_
 rintro e w3 ⟨x3,rfl,hc0,_,hl3,hx3⟩
 have HX3:=Lib.hid hx3
 have HB3:=Lib.hid (HB2.out.ext hx3)
 have HCF:=Lib.hid (contains_any w.heap.size g ns.length c x3 1 A [a] w3 ((hx3.trans (Ext.refl _)).keep ((HB1.out.ext HX2.out).cell 0)) (((HX.out.trans hx3).cell HG.out.lt).trans (HG.out.cell 0)) (fun j hj=>by
  match j,hj with
  |0,_=>exact hc0) (by simp))
 clear hx3 q0 q1 q2 q3 q4 hc0
 obtain ⟨q0,q1,q2,q3,q4⟩:=HB3.out.five
 go_wp2_with fail
 refine HCF.out.mono ?_
 rintro e w4' ⟨rfl,y4,rfl⟩
 have hany:[a].any (outN ns.length)=false:=by
  simp only [List.any_cons,List.any_nil,Bool.or_false,outN,Bool.or_eq_false_iff,decide_eq_false_iff_not]
  omega
 rw [hany]
 clear hany
 have HB4:=Lib.hid (HB3.out.drewN y4)
 have HX4:=Lib.hid (HX3.out.drewN y4)
 clear HX3 HB3 q0 q1 q2 q3 q4
 generalize hw4:w3.drewN y4=w4 at *
 clear hw4
 have HX3:=HX4
 have HB3:=HB4
 obtain ⟨q0,q1,q2,q3,q4⟩:=HB3.out.five
 have hlt4:w.heap.size+1<w4.heap.size:=by
  have h1:=HX3.out.size
  omega
 have HNE:Hid (w.heap.size+1≠w4.heap.size):=Lib.hid (by omega)
 have HLE:Hid (w.heap.size≤w4.heap.size):=Lib.hid (by omega)
 have hx5:=(Ext.refl w4).alloc (.cells #[.int .i64 5,.int .i64 0,.int .i64 0,.int .i64 0,.string ⟨#[]⟩] 50)
 have HN5:=Lib.hid (HB3.out.ext hx5)
 have HP5:=Lib.hid (Blk.new w4 50 #[.int .i64 5,.int .i64 0,.int .i64 0,.int .i64 0,.string ⟨#[]⟩])
 have HX5:=Lib.hid ((HX.out.trans HX3.out).trans hx5)
 clear hx5 hlt4
 obtain ⟨y0,y1,y2,y3,y4⟩:=HN5.out.five
 obtain ⟨p0,p1,p2,p3,p4⟩:=HP5.out.five
 obtain ⟨w5,hw5⟩:∃w5,w5=w4.alloc (.cells #[.int .i64 5,.int .i64 0,.int .i64 0,.int .i64 0,.string ⟨#[]⟩] 50):=⟨_,rfl⟩
 rw [←hw5] at HN5 HP5 HX5 y0 y1 y2 y3 y4 p0 p1 p2 p3 p4
 go_upto_region 5 with fail
 rw [←hw5]
 clear hw5 q0 q1 q2 q3 q4
 have HP6:=Lib.hid (HP5.out.set_ 1 (.int .i64 a))
 have HN6:=Lib.hid (HN5.out.far (p:=⟨w4.heap.size,1,none⟩) HNE.out (.int .i64 a))
 have HX6:=Lib.hid (HX5.out.setCell (p:=⟨w4.heap.size,1,none⟩) HLE.out (.int .i64 a))
 have f5:=HP5.out.frozen 1
 obtain ⟨y0,y1,y2,y3,y4⟩:=HN6.out.five
 obtain ⟨p0,p1,p2,p3,p4⟩:=Blk.five HP6.out
 go_wp2_with fail
 go_ret
 exact ⟨rfl,HX6.out⟩
set_option maxHeartbeats 4000000 in
set_option maxRecDepth 100000 in
theorem fits_k11 (B g b:Nat) (w:World) (ns:List Nd) (nv:Value) (h:GrP B g b w ns nv) (a:Int) (h0:0≤a) (h1:a<ns.length):
  Calls Tryz.prog 53 #[.pointer (some ⟨g,0,none⟩),.agg #[.int .i64 11,.int .i64 a,.int .i64 0,.int .i64 0,.string ⟨#[]⟩]] w fun e w'=>e= .returned (.bool true)∧Ext w w':=by
 obtain ⟨A,c,rfl⟩:=h.row.shape
 have HG:=Lib.hid h.blk
 clear h
 have HB1:=Lib.hid (Blk.new w 29 #[.pointer (some ⟨g,0,none⟩)])
 have HX1:=Lib.hid ((Ext.refl w).alloc (.cells #[.pointer (some ⟨g,0,none⟩)] 29))
 obtain ⟨w1,hw1⟩:∃w1,w1=w.alloc (.cells #[.pointer (some ⟨g,0,none⟩)] 29):=⟨_,rfl⟩
 have hs1:w1.heap.size=w.heap.size+1:=by rw [hw1];simp
 rw [←hw1] at HB1 HX1
 have HB2:=Lib.hid (Blk.new w1 50 #[.int .i64 11,.int .i64 a,.int .i64 0,.int .i64 0,.string ⟨#[]⟩])
 have HX2:=Lib.hid ((Ext.refl w1).alloc (.cells #[.int .i64 11,.int .i64 a,.int .i64 0,.int .i64 0,.string ⟨#[]⟩] 50))
 obtain ⟨w2,hw2⟩:∃w2,w2=w1.alloc (.cells #[.int .i64 11,.int .i64 a,.int .i64 0,.int .i64 0,.string ⟨#[]⟩] 50):=⟨_,rfl⟩
 have hs2:w2.heap.size=w.heap.size+2:=by rw [hw2];simp [hs1]
 rw [←hw2,hs1] at HB2
 rw [←hw2] at HX2
 have HX:=Lib.hid (HX1.out.trans HX2.out)
 obtain ⟨q0,q1,q2,q3,q4⟩:=HB2.out.five
 go_enter Tryz.func53,Tryz.ntmps53
 go_upto_region 1 with fail
 rw [←hw1,←hw2]
 clear hw1 hw2
 go_wp2_with fail
 refine (operands_un w2 11 a 0 0 ⟨#[]⟩ (by decide)).mono ?_
 rintro e w3 ⟨x3,rfl,hc0,_,hl3,hx3⟩
 have HX3:=Lib.hid hx3
 have HB3:=Lib.hid (HB2.out.ext hx3)
 have HCF:=Lib.hid (contains_any w.heap.size g ns.length c x3 1 A [a] w3 ((hx3.trans (Ext.refl _)).keep ((HB1.out.ext HX2.out).cell 0)) (((HX.out.trans hx3).cell HG.out.lt).trans (HG.out.cell 0)) (fun j hj=>by
  match j,hj with
  |0,_=>exact hc0) (by simp))
 clear hx3 q0 q1 q2 q3 q4 hc0
 obtain ⟨q0,q1,q2,q3,q4⟩:=HB3.out.five
 go_wp2_with fail
 refine HCF.out.mono ?_
 rintro e w4' ⟨rfl,y4,rfl⟩
 have hany:[a].any (outN ns.length)=false:=by
  simp only [List.any_cons,List.any_nil,Bool.or_false,outN,Bool.or_eq_false_iff,decide_eq_false_iff_not]
  omega
 rw [hany]
 clear hany
 have HB4:=Lib.hid (HB3.out.drewN y4)
 have HX4:=Lib.hid (HX3.out.drewN y4)
 clear HX3 HB3 q0 q1 q2 q3 q4
 generalize hw4:w3.drewN y4=w4 at *
 clear hw4
 have HX3:=HX4
 have HB3:=HB4
 obtain ⟨q0,q1,q2,q3,q4⟩:=HB3.out.five
 have hlt4:w.heap.size+1<w4.heap.size:=by
  have h1:=HX3.out.size
  omega
 have HNE:Hid (w.heap.size+1≠w4.heap.size):=Lib.hid (by omega)
 have HLE:Hid (w.heap.size≤w4.heap.size):=Lib.hid (by omega)
 have hx5:=(Ext.refl w4).alloc (.cells #[.int .i64 11,.int .i64 0,.int .i64 0,.int .i64 0,.string ⟨#[]⟩] 50)
 have HN5:=Lib.hid (HB3.out.ext hx5)
 have HP5:=Lib.hid (Blk.new w4 50 #[.int .i64 11,.int .i64 0,.int .i64 0,.int .i64 0,.string ⟨#[]⟩])
 have HX5:=Lib.hid ((HX.out.trans HX3.out).trans hx5)
 clear hx5 hlt4
 obtain ⟨y0,y1,y2,y3,y4⟩:=HN5.out.five
 obtain ⟨p0,p1,p2,p3,p4⟩:=HP5.out.five
 obtain ⟨w5,hw5⟩:∃w5,w5=w4.alloc (.cells #[.int .i64 11,.int .i64 0,.int .i64 0,.int .i64 0,.string ⟨#[]⟩] 50):=⟨_,rfl⟩
 rw [←hw5] at HN5 HP5 HX5 y0 y1 y2 y3 y4 p0 p1 p2 p3 p4
 go_upto_region 5 with fail
 rw [←hw5]
 clear hw5 q0 q1 q2 q3 q4
 have HP6:=Lib.hid (HP5.out.set_ 1 (.int .i64 a))
 have HN6:=Lib.hid (HN5.out.far (p:=⟨w4.heap.size,1,none⟩) HNE.out (.int .i64 a))
 have HX6:=Lib.hid (HX5.out.setCell (p:=⟨w4.heap.size,1,none⟩) HLE.out (.int .i64 a))
 have f5:=HP5.out.frozen 1
 obtain ⟨y0,y1,y2,y3,y4⟩:=HN6.out.five
 obtain ⟨p0,p1,p2,p3,p4⟩:=Blk.five HP6.out
 go_wp2_with fail
 go_ret
 exact ⟨rfl,HX6.out⟩
set_option maxHeartbeats 4000000 in
set_option maxRecDepth 100000 in
theorem fits_k12 (B g b:Nat) (w:World) (ns:List Nd) (nv:Value) (h:GrP B g b w ns nv) (a:Int) (h0:0≤a) (h1:a<ns.length):
  Calls Tryz.prog 53 #[.pointer (some ⟨g,0,none⟩),.agg #[.int .i64 12,.int .i64 a,.int .i64 0,.int .i64 0,.string ⟨#[]⟩]] w fun e w'=>e= .returned (.bool true)∧Ext w w':=by
 obtain ⟨A,c,rfl⟩:=h.row.shape
 have HG:=Lib.hid h.blk
 clear h
 have HB1:=Lib.hid (Blk.new w 29 #[.pointer (some ⟨g,0,none⟩)])
 have HX1:=Lib.hid ((Ext.refl w).alloc (.cells #[.pointer (some ⟨g,0,none⟩)] 29))
 obtain ⟨w1,hw1⟩:∃w1,w1=w.alloc (.cells #[.pointer (some ⟨g,0,none⟩)] 29):=⟨_,rfl⟩
 have hs1:w1.heap.size=w.heap.size+1:=by rw [hw1];simp
 rw [←hw1] at HB1 HX1
 have HB2:=Lib.hid (Blk.new w1 50 #[.int .i64 12,.int .i64 a,.int .i64 0,.int .i64 0,.string ⟨#[]⟩])
 have HX2:=Lib.hid ((Ext.refl w1).alloc (.cells #[.int .i64 12,.int .i64 a,.int .i64 0,.int .i64 0,.string ⟨#[]⟩] 50))
 obtain ⟨w2,hw2⟩:∃w2,w2=w1.alloc (.cells #[.int .i64 12,.int .i64 a,.int .i64 0,.int .i64 0,.string ⟨#[]⟩] 50):=⟨_,rfl⟩
 have hs2:w2.heap.size=w.heap.size+2:=by rw [hw2];simp [hs1]
 rw [←hw2,hs1] at HB2
 rw [←hw2] at HX2
 have HX:=Lib.hid (HX1.out.trans HX2.out)
 obtain ⟨q0,q1,q2,q3,q4⟩:=HB2.out.five
 go_enter Tryz.func53,Tryz.ntmps53
 go_upto_region 1 with fail
 rw [←hw1,←hw2]
 clear hw1 hw2
 go_wp2_with fail
 refine (operands_un w2 12 a 0 0 ⟨#[]⟩ (by decide)).mono ?_
 rintro e w3 ⟨x3,rfl,hc0,_,hl3,hx3⟩
 have HX3:=Lib.hid hx3
 have HB3:=Lib.hid (HB2.out.ext hx3)
 have HCF:=Lib.hid (contains_any w.heap.size g ns.length c x3 1 A [a] w3 ((hx3.trans (Ext.refl _)).keep ((HB1.out.ext HX2.out).cell 0)) (((HX.out.trans hx3).cell HG.out.lt).trans (HG.out.cell 0)) (fun j hj=>by
  match j,hj with
  |0,_=>exact hc0) (by simp))
 clear hx3 q0 q1 q2 q3 q4 hc0
 obtain ⟨q0,q1,q2,q3,q4⟩:=HB3.out.five
 go_wp2_with fail
 refine HCF.out.mono ?_
 rintro e w4' ⟨rfl,y4,rfl⟩
 have hany:[a].any (outN ns.length)=false:=by
  simp only [List.any_cons,List.any_nil,Bool.or_false,outN,Bool.or_eq_false_iff,decide_eq_false_iff_not]
  omega
 rw [hany]
 clear hany
 have HB4:=Lib.hid (HB3.out.drewN y4)
 have HX4:=Lib.hid (HX3.out.drewN y4)
 clear HX3 HB3 q0 q1 q2 q3 q4
 generalize hw4:w3.drewN y4=w4 at *
 clear hw4
 have HX3:=HX4
 have HB3:=HB4
 obtain ⟨q0,q1,q2,q3,q4⟩:=HB3.out.five
 have hlt4:w.heap.size+1<w4.heap.size:=by
  have h1:=HX3.out.size
  omega
 have HNE:Hid (w.heap.size+1≠w4.heap.size):=Lib.hid (by omega)
 have HLE:Hid (w.heap.size≤w4.heap.size):=Lib.hid (by omega)
 have hx5:=(Ext.refl w4).alloc (.cells #[.int .i64 12,.int .i64 0,.int .i64 0,.int .i64 0,.string ⟨#[]⟩] 50)
 have HN5:=Lib.hid (HB3.out.ext hx5)
 have HP5:=Lib.hid (Blk.new w4 50 #[.int .i64 12,.int .i64 0,.int .i64 0,.int .i64 0,.string ⟨#[]⟩])
 have HX5:=Lib.hid ((HX.out.trans HX3.out).trans hx5)
 clear hx5 hlt4
 obtain ⟨y0,y1,y2,y3,y4⟩:=HN5.out.five
 obtain ⟨p0,p1,p2,p3,p4⟩:=HP5.out.five
 obtain ⟨w5,hw5⟩:∃w5,w5=w4.alloc (.cells #[.int .i64 12,.int .i64 0,.int .i64 0,.int .i64 0,.string ⟨#[]⟩] 50):=⟨_,rfl⟩
 rw [←hw5] at HN5 HP5 HX5 y0 y1 y2 y3 y4 p0 p1 p2 p3 p4
 go_upto_region 5 with fail
 rw [←hw5]
 clear hw5 q0 q1 q2 q3 q4
 have HP6:=Lib.hid (HP5.out.set_ 1 (.int .i64 a))
 have HN6:=Lib.hid (HN5.out.far (p:=⟨w4.heap.size,1,none⟩) HNE.out (.int .i64 a))
 have HX6:=Lib.hid (HX5.out.setCell (p:=⟨w4.heap.size,1,none⟩) HLE.out (.int .i64 a))
 have f5:=HP5.out.frozen 1
 obtain ⟨y0,y1,y2,y3,y4⟩:=HN6.out.five
 obtain ⟨p0,p1,p2,p3,p4⟩:=Blk.five HP6.out
 go_wp2_with fail
 go_ret
 exact ⟨rfl,HX6.out⟩
set_option maxHeartbeats 4000000 in
set_option maxRecDepth 100000 in
theorem fits_k13 (B g b:Nat) (w:World) (ns:List Nd) (nv:Value) (h:GrP B g b w ns nv) (a:Int) (h0:0≤a) (h1:a<ns.length):
  Calls Tryz.prog 53 #[.pointer (some ⟨g,0,none⟩),.agg #[.int .i64 13,.int .i64 a,.int .i64 0,.int .i64 0,.string ⟨#[]⟩]] w fun e w'=>e= .returned (.bool true)∧Ext w w':=by
 obtain ⟨A,c,rfl⟩:=h.row.shape
 have HG:=Lib.hid h.blk
 clear h
 have HB1:=Lib.hid (Blk.new w 29 #[.pointer (some ⟨g,0,none⟩)])
 have HX1:=Lib.hid ((Ext.refl w).alloc (.cells #[.pointer (some ⟨g,0,none⟩)] 29))
 obtain ⟨w1,hw1⟩:∃w1,w1=w.alloc (.cells #[.pointer (some ⟨g,0,none⟩)] 29):=⟨_,rfl⟩
 have hs1:w1.heap.size=w.heap.size+1:=by rw [hw1];simp
 rw [←hw1] at HB1 HX1
 have HB2:=Lib.hid (Blk.new w1 50 #[.int .i64 13,.int .i64 a,.int .i64 0,.int .i64 0,.string ⟨#[]⟩])
 have HX2:=Lib.hid ((Ext.refl w1).alloc (.cells #[.int .i64 13,.int .i64 a,.int .i64 0,.int .i64 0,.string ⟨#[]⟩] 50))
 obtain ⟨w2,hw2⟩:∃w2,w2=w1.alloc (.cells #[.int .i64 13,.int .i64 a,.int .i64 0,.int .i64 0,.string ⟨#[]⟩] 50):=⟨_,rfl⟩
 have hs2:w2.heap.size=w.heap.size+2:=by rw [hw2];simp [hs1]
 rw [←hw2,hs1] at HB2
 rw [←hw2] at HX2
 have HX:=Lib.hid (HX1.out.trans HX2.out)
 obtain ⟨q0,q1,q2,q3,q4⟩:=HB2.out.five
 go_enter Tryz.func53,Tryz.ntmps53
 go_upto_region 1 with fail
 rw [←hw1,←hw2]
 clear hw1 hw2
 go_wp2_with fail
 refine (operands_un w2 13 a 0 0 ⟨#[]⟩ (by decide)).mono ?_
 rintro e w3 ⟨x3,rfl,hc0,_,hl3,hx3⟩
 have HX3:=Lib.hid hx3
 have HB3:=Lib.hid (HB2.out.ext hx3)
 have HCF:=Lib.hid (contains_any w.heap.size g ns.length c x3 1 A [a] w3 ((hx3.trans (Ext.refl _)).keep ((HB1.out.ext HX2.out).cell 0)) (((HX.out.trans hx3).cell HG.out.lt).trans (HG.out.cell 0)) (fun j hj=>by
  match j,hj with
  |0,_=>exact hc0) (by simp))
 clear hx3 q0 q1 q2 q3 q4 hc0
 obtain ⟨q0,q1,q2,q3,q4⟩:=HB3.out.five
 go_wp2_with fail
 refine HCF.out.mono ?_
 rintro e w4' ⟨rfl,y4,rfl⟩
 have hany:[a].any (outN ns.length)=false:=by
  simp only [List.any_cons,List.any_nil,Bool.or_false,outN,Bool.or_eq_false_iff,decide_eq_false_iff_not]
  omega
 rw [hany]
 clear hany
 have HB4:=Lib.hid (HB3.out.drewN y4)
 have HX4:=Lib.hid (HX3.out.drewN y4)
 clear HX3 HB3 q0 q1 q2 q3 q4
 generalize hw4:w3.drewN y4=w4 at *
 clear hw4
 have HX3:=HX4
 have HB3:=HB4
 obtain ⟨q0,q1,q2,q3,q4⟩:=HB3.out.five
 have hlt4:w.heap.size+1<w4.heap.size:=by
  have h1:=HX3.out.size
  omega
 have HNE:Hid (w.heap.size+1≠w4.heap.size):=Lib.hid (by omega)
 have HLE:Hid (w.heap.size≤w4.heap.size):=Lib.hid (by omega)
 have hx5:=(Ext.refl w4).alloc (.cells #[.int .i64 13,.int .i64 0,.int .i64 0,.int .i64 0,.string ⟨#[]⟩] 50)
 have HN5:=Lib.hid (HB3.out.ext hx5)
 have HP5:=Lib.hid (Blk.new w4 50 #[.int .i64 13,.int .i64 0,.int .i64 0,.int .i64 0,.string ⟨#[]⟩])
 have HX5:=Lib.hid ((HX.out.trans HX3.out).trans hx5)
 clear hx5 hlt4
 obtain ⟨y0,y1,y2,y3,y4⟩:=HN5.out.five
 obtain ⟨p0,p1,p2,p3,p4⟩:=HP5.out.five
 obtain ⟨w5,hw5⟩:∃w5,w5=w4.alloc (.cells #[.int .i64 13,.int .i64 0,.int .i64 0,.int .i64 0,.string ⟨#[]⟩] 50):=⟨_,rfl⟩
 rw [←hw5] at HN5 HP5 HX5 y0 y1 y2 y3 y4 p0 p1 p2 p3 p4
 go_upto_region 5 with fail
 rw [←hw5]
 clear hw5 q0 q1 q2 q3 q4
 have HP6:=Lib.hid (HP5.out.set_ 1 (.int .i64 a))
 have HN6:=Lib.hid (HN5.out.far (p:=⟨w4.heap.size,1,none⟩) HNE.out (.int .i64 a))
 have HX6:=Lib.hid (HX5.out.setCell (p:=⟨w4.heap.size,1,none⟩) HLE.out (.int .i64 a))
 have f5:=HP5.out.frozen 1
 obtain ⟨y0,y1,y2,y3,y4⟩:=HN6.out.five
 obtain ⟨p0,p1,p2,p3,p4⟩:=Blk.five HP6.out
 go_wp2_with fail
 go_ret
 exact ⟨rfl,HX6.out⟩
set_option maxHeartbeats 4000000 in
set_option maxRecDepth 100000 in
theorem fits_k14 (B g b:Nat) (w:World) (ns:List Nd) (nv:Value) (h:GrP B g b w ns nv) (a:Int) (h0:0≤a) (h1:a<ns.length):
  Calls Tryz.prog 53 #[.pointer (some ⟨g,0,none⟩),.agg #[.int .i64 14,.int .i64 a,.int .i64 0,.int .i64 0,.string ⟨#[]⟩]] w fun e w'=>e= .returned (.bool true)∧Ext w w':=by
 obtain ⟨A,c,rfl⟩:=h.row.shape
 have HG:=Lib.hid h.blk
 clear h
 have HB1:=Lib.hid (Blk.new w 29 #[.pointer (some ⟨g,0,none⟩)])
 have HX1:=Lib.hid ((Ext.refl w).alloc (.cells #[.pointer (some ⟨g,0,none⟩)] 29))
 obtain ⟨w1,hw1⟩:∃w1,w1=w.alloc (.cells #[.pointer (some ⟨g,0,none⟩)] 29):=⟨_,rfl⟩
 have hs1:w1.heap.size=w.heap.size+1:=by rw [hw1];simp
 rw [←hw1] at HB1 HX1
 have HB2:=Lib.hid (Blk.new w1 50 #[.int .i64 14,.int .i64 a,.int .i64 0,.int .i64 0,.string ⟨#[]⟩])
 have HX2:=Lib.hid ((Ext.refl w1).alloc (.cells #[.int .i64 14,.int .i64 a,.int .i64 0,.int .i64 0,.string ⟨#[]⟩] 50))
 obtain ⟨w2,hw2⟩:∃w2,w2=w1.alloc (.cells #[.int .i64 14,.int .i64 a,.int .i64 0,.int .i64 0,.string ⟨#[]⟩] 50):=⟨_,rfl⟩
 have hs2:w2.heap.size=w.heap.size+2:=by rw [hw2];simp [hs1]
 rw [←hw2,hs1] at HB2
 rw [←hw2] at HX2
 have HX:=Lib.hid (HX1.out.trans HX2.out)
 obtain ⟨q0,q1,q2,q3,q4⟩:=HB2.out.five
 go_enter Tryz.func53,Tryz.ntmps53
 go_upto_region 1 with fail
 rw [←hw1,←hw2]
 clear hw1 hw2
 go_wp2_with fail
 refine (operands_un w2 14 a 0 0 ⟨#[]⟩ (by decide)).mono ?_
 rintro e w3 ⟨x3,rfl,hc0,_,hl3,hx3⟩
 have HX3:=Lib.hid hx3
 have HB3:=Lib.hid (HB2.out.ext hx3)
 have HCF:=Lib.hid (contains_any w.heap.size g ns.length c x3 1 A [a] w3 ((hx3.trans (Ext.refl _)).keep ((HB1.out.ext HX2.out).cell 0)) (((HX.out.trans hx3).cell HG.out.lt).trans (HG.out.cell 0)) (fun j hj=>by
  match j,hj with
  |0,_=>exact hc0) (by simp))
 clear hx3 q0 q1 q2 q3 q4 hc0
 obtain ⟨q0,q1,q2,q3,q4⟩:=HB3.out.five
 go_wp2_with fail
 refine HCF.out.mono ?_
 rintro e w4' ⟨rfl,y4,rfl⟩
 have hany:[a].any (outN ns.length)=false:=by
  simp only [List.any_cons,List.any_nil,Bool.or_false,outN,Bool.or_eq_false_iff,decide_eq_false_iff_not]
  omega
 rw [hany]
 clear hany
 have HB4:=Lib.hid (HB3.out.drewN y4)
 have HX4:=Lib.hid (HX3.out.drewN y4)
 clear HX3 HB3 q0 q1 q2 q3 q4
 generalize hw4:w3.drewN y4=w4 at *
 clear hw4
 have HX3:=HX4
 have HB3:=HB4
 obtain ⟨q0,q1,q2,q3,q4⟩:=HB3.out.five
 have hlt4:w.heap.size+1<w4.heap.size:=by
  have h1:=HX3.out.size
  omega
 have HNE:Hid (w.heap.size+1≠w4.heap.size):=Lib.hid (by omega)
 have HLE:Hid (w.heap.size≤w4.heap.size):=Lib.hid (by omega)
 have hx5:=(Ext.refl w4).alloc (.cells #[.int .i64 14,.int .i64 0,.int .i64 0,.int .i64 0,.string ⟨#[]⟩] 50)
 have HN5:=Lib.hid (HB3.out.ext hx5)
 have HP5:=Lib.hid (Blk.new w4 50 #[.int .i64 14,.int .i64 0,.int .i64 0,.int .i64 0,.string ⟨#[]⟩])
 have HX5:=Lib.hid ((HX.out.trans HX3.out).trans hx5)
 clear hx5 hlt4
 obtain ⟨y0,y1,y2,y3,y4⟩:=HN5.out.five
 obtain ⟨p0,p1,p2,p3,p4⟩:=HP5.out.five
 obtain ⟨w5,hw5⟩:∃w5,w5=w4.alloc (.cells #[.int .i64 14,.int .i64 0,.int .i64 0,.int .i64 0,.string ⟨#[]⟩] 50):=⟨_,rfl⟩
 rw [←hw5] at HN5 HP5 HX5 y0 y1 y2 y3 y4 p0 p1 p2 p3 p4
 go_upto_region 5 with fail
 rw [←hw5]
 clear hw5 q0 q1 q2 q3 q4
 have HP6:=Lib.hid (HP5.out.set_ 1 (.int .i64 a))
 have HN6:=Lib.hid (HN5.out.far (p:=⟨w4.heap.size,1,none⟩) HNE.out (.int .i64 a))
 have HX6:=Lib.hid (HX5.out.setCell (p:=⟨w4.heap.size,1,none⟩) HLE.out (.int .i64 a))
 have f5:=HP5.out.frozen 1
 obtain ⟨y0,y1,y2,y3,y4⟩:=HN6.out.five
 obtain ⟨p0,p1,p2,p3,p4⟩:=Blk.five HP6.out
 go_wp2_with fail
 go_ret
 exact ⟨rfl,HX6.out⟩
set_option maxHeartbeats 4000000 in
set_option maxRecDepth 100000 in
theorem fits_k15 (B g b:Nat) (w:World) (ns:List Nd) (nv:Value) (h:GrP B g b w ns nv) (a:Int) (h0:0≤a) (h1:a<ns.length):
  Calls Tryz.prog 53 #[.pointer (some ⟨g,0,none⟩),.agg #[.int .i64 15,.int .i64 a,.int .i64 0,.int .i64 0,.string ⟨#[]⟩]] w fun e w'=>e= .returned (.bool true)∧Ext w w':=by
 obtain ⟨A,c,rfl⟩:=h.row.shape
 have HG:=Lib.hid h.blk
 clear h
 have HB1:=Lib.hid (Blk.new w 29 #[.pointer (some ⟨g,0,none⟩)])
 have HX1:=Lib.hid ((Ext.refl w).alloc (.cells #[.pointer (some ⟨g,0,none⟩)] 29))
 obtain ⟨w1,hw1⟩:∃w1,w1=w.alloc (.cells #[.pointer (some ⟨g,0,none⟩)] 29):=⟨_,rfl⟩
 have hs1:w1.heap.size=w.heap.size+1:=by rw [hw1];simp
 rw [←hw1] at HB1 HX1
 have HB2:=Lib.hid (Blk.new w1 50 #[.int .i64 15,.int .i64 a,.int .i64 0,.int .i64 0,.string ⟨#[]⟩])
 have HX2:=Lib.hid ((Ext.refl w1).alloc (.cells #[.int .i64 15,.int .i64 a,.int .i64 0,.int .i64 0,.string ⟨#[]⟩] 50))
 obtain ⟨w2,hw2⟩:∃w2,w2=w1.alloc (.cells #[.int .i64 15,.int .i64 a,.int .i64 0,.int .i64 0,.string ⟨#[]⟩] 50):=⟨_,rfl⟩
 have hs2:w2.heap.size=w.heap.size+2:=by rw [hw2];simp [hs1]
 rw [←hw2,hs1] at HB2
 rw [←hw2] at HX2
 have HX:=Lib.hid (HX1.out.trans HX2.out)
 obtain ⟨q0,q1,q2,q3,q4⟩:=HB2.out.five
 go_enter Tryz.func53,Tryz.ntmps53
 go_upto_region 1 with fail
 rw [←hw1,←hw2]
 clear hw1 hw2
 go_wp2_with fail
 refine (operands_un w2 15 a 0 0 ⟨#[]⟩ (by decide)).mono ?_
 rintro e w3 ⟨x3,rfl,hc0,_,hl3,hx3⟩
 have HX3:=Lib.hid hx3
 have HB3:=Lib.hid (HB2.out.ext hx3)
 have HCF:=Lib.hid (contains_any w.heap.size g ns.length c x3 1 A [a] w3 ((hx3.trans (Ext.refl _)).keep ((HB1.out.ext HX2.out).cell 0)) (((HX.out.trans hx3).cell HG.out.lt).trans (HG.out.cell 0)) (fun j hj=>by
  match j,hj with
  |0,_=>exact hc0) (by simp))
 clear hx3 q0 q1 q2 q3 q4 hc0
 obtain ⟨q0,q1,q2,q3,q4⟩:=HB3.out.five
 go_wp2_with fail
 refine HCF.out.mono ?_
 rintro e w4' ⟨rfl,y4,rfl⟩
 have hany:[a].any (outN ns.length)=false:=by
  simp only [List.any_cons,List.any_nil,Bool.or_false,outN,Bool.or_eq_false_iff,decide_eq_false_iff_not]
  omega
 rw [hany]
 clear hany
 have HB4:=Lib.hid (HB3.out.drewN y4)
 have HX4:=Lib.hid (HX3.out.drewN y4)
 clear HX3 HB3 q0 q1 q2 q3 q4
 generalize hw4:w3.drewN y4=w4 at *
 clear hw4
 have HX3:=HX4
 have HB3:=HB4
 obtain ⟨q0,q1,q2,q3,q4⟩:=HB3.out.five
 have hlt4:w.heap.size+1<w4.heap.size:=by
  have h1:=HX3.out.size
  omega
 have HNE:Hid (w.heap.size+1≠w4.heap.size):=Lib.hid (by omega)
 have HLE:Hid (w.heap.size≤w4.heap.size):=Lib.hid (by omega)
 have hx5:=(Ext.refl w4).alloc (.cells #[.int .i64 15,.int .i64 0,.int .i64 0,.int .i64 0,.string ⟨#[]⟩] 50)
 have HN5:=Lib.hid (HB3.out.ext hx5)
 have HP5:=Lib.hid (Blk.new w4 50 #[.int .i64 15,.int .i64 0,.int .i64 0,.int .i64 0,.string ⟨#[]⟩])
 have HX5:=Lib.hid ((HX.out.trans HX3.out).trans hx5)
 clear hx5 hlt4
 obtain ⟨y0,y1,y2,y3,y4⟩:=HN5.out.five
 obtain ⟨p0,p1,p2,p3,p4⟩:=HP5.out.five
 obtain ⟨w5,hw5⟩:∃w5,w5=w4.alloc (.cells #[.int .i64 15,.int .i64 0,.int .i64 0,.int .i64 0,.string ⟨#[]⟩] 50):=⟨_,rfl⟩
 rw [←hw5] at HN5 HP5 HX5 y0 y1 y2 y3 y4 p0 p1 p2 p3 p4
 go_upto_region 5 with fail
 rw [←hw5]
 clear hw5 q0 q1 q2 q3 q4
 have HP6:=Lib.hid (HP5.out.set_ 1 (.int .i64 a))
 have HN6:=Lib.hid (HN5.out.far (p:=⟨w4.heap.size,1,none⟩) HNE.out (.int .i64 a))
 have HX6:=Lib.hid (HX5.out.setCell (p:=⟨w4.heap.size,1,none⟩) HLE.out (.int .i64 a))
 have f5:=HP5.out.frozen 1
 obtain ⟨y0,y1,y2,y3,y4⟩:=HN6.out.five
 obtain ⟨p0,p1,p2,p3,p4⟩:=Blk.five HP6.out
 go_wp2_with fail
 go_ret
 exact ⟨rfl,HX6.out⟩
set_option maxHeartbeats 4000000 in
set_option maxRecDepth 100000 in
theorem fits_k16 (B g b:Nat) (w:World) (ns:List Nd) (nv:Value) (h:GrP B g b w ns nv) (a:Int) (h0:0≤a) (h1:a<ns.length):
  Calls Tryz.prog 53 #[.pointer (some ⟨g,0,none⟩),.agg #[.int .i64 16,.int .i64 a,.int .i64 0,.int .i64 0,.string ⟨#[]⟩]] w fun e w'=>e= .returned (.bool true)∧Ext w w':=by
 obtain ⟨A,c,rfl⟩:=h.row.shape
 have HG:=Lib.hid h.blk
 clear h
 have HB1:=Lib.hid (Blk.new w 29 #[.pointer (some ⟨g,0,none⟩)])
 have HX1:=Lib.hid ((Ext.refl w).alloc (.cells #[.pointer (some ⟨g,0,none⟩)] 29))
 obtain ⟨w1,hw1⟩:∃w1,w1=w.alloc (.cells #[.pointer (some ⟨g,0,none⟩)] 29):=⟨_,rfl⟩
 have hs1:w1.heap.size=w.heap.size+1:=by rw [hw1];simp
 rw [←hw1] at HB1 HX1
 have HB2:=Lib.hid (Blk.new w1 50 #[.int .i64 16,.int .i64 a,.int .i64 0,.int .i64 0,.string ⟨#[]⟩])
 have HX2:=Lib.hid ((Ext.refl w1).alloc (.cells #[.int .i64 16,.int .i64 a,.int .i64 0,.int .i64 0,.string ⟨#[]⟩] 50))
 obtain ⟨w2,hw2⟩:∃w2,w2=w1.alloc (.cells #[.int .i64 16,.int .i64 a,.int .i64 0,.int .i64 0,.string ⟨#[]⟩] 50):=⟨_,rfl⟩
 have hs2:w2.heap.size=w.heap.size+2:=by rw [hw2];simp [hs1]
 rw [←hw2,hs1] at HB2
 rw [←hw2] at HX2
 have HX:=Lib.hid (HX1.out.trans HX2.out)
 obtain ⟨q0,q1,q2,q3,q4⟩:=HB2.out.five
 go_enter Tryz.func53,Tryz.ntmps53
 go_upto_region 1 with fail
 rw [←hw1,←hw2]
 clear hw1 hw2
 go_wp2_with fail
 refine (operands_un w2 16 a 0 0 ⟨#[]⟩ (by decide)).mono ?_
 rintro e w3 ⟨x3,rfl,hc0,_,hl3,hx3⟩
 have HX3:=Lib.hid hx3
 have HB3:=Lib.hid (HB2.out.ext hx3)
 have HCF:=Lib.hid (contains_any w.heap.size g ns.length c x3 1 A [a] w3 ((hx3.trans (Ext.refl _)).keep ((HB1.out.ext HX2.out).cell 0)) (((HX.out.trans hx3).cell HG.out.lt).trans (HG.out.cell 0)) (fun j hj=>by
  match j,hj with
  |0,_=>exact hc0) (by simp))
 clear hx3 q0 q1 q2 q3 q4 hc0
 obtain ⟨q0,q1,q2,q3,q4⟩:=HB3.out.five
 go_wp2_with fail
 refine HCF.out.mono ?_
 rintro e w4' ⟨rfl,y4,rfl⟩
 have hany:[a].any (outN ns.length)=false:=by
  simp only [List.any_cons,List.any_nil,Bool.or_false,outN,Bool.or_eq_false_iff,decide_eq_false_iff_not]
  omega
 rw [hany]
 clear hany
 have HB4:=Lib.hid (HB3.out.drewN y4)
 have HX4:=Lib.hid (HX3.out.drewN y4)
 clear HX3 HB3 q0 q1 q2 q3 q4
 generalize hw4:w3.drewN y4=w4 at *
 clear hw4
 have HX3:=HX4
 have HB3:=HB4
 obtain ⟨q0,q1,q2,q3,q4⟩:=HB3.out.five
 have hlt4:w.heap.size+1<w4.heap.size:=by
  have h1:=HX3.out.size
  omega
 have HNE:Hid (w.heap.size+1≠w4.heap.size):=Lib.hid (by omega)
 have HLE:Hid (w.heap.size≤w4.heap.size):=Lib.hid (by omega)
 have hx5:=(Ext.refl w4).alloc (.cells #[.int .i64 16,.int .i64 0,.int .i64 0,.int .i64 0,.string ⟨#[]⟩] 50)
 have HN5:=Lib.hid (HB3.out.ext hx5)
 have HP5:=Lib.hid (Blk.new w4 50 #[.int .i64 16,.int .i64 0,.int .i64 0,.int .i64 0,.string ⟨#[]⟩])
 have HX5:=Lib.hid ((HX.out.trans HX3.out).trans hx5)
 clear hx5 hlt4
 obtain ⟨y0,y1,y2,y3,y4⟩:=HN5.out.five
 obtain ⟨p0,p1,p2,p3,p4⟩:=HP5.out.five
 obtain ⟨w5,hw5⟩:∃w5,w5=w4.alloc (.cells #[.int .i64 16,.int .i64 0,.int .i64 0,.int .i64 0,.string ⟨#[]⟩] 50):=⟨_,rfl⟩
 rw [←hw5] at HN5 HP5 HX5 y0 y1 y2 y3 y4 p0 p1 p2 p3 p4
 go_upto_region 5 with fail
 rw [←hw5]
 clear hw5 q0 q1 q2 q3 q4
 have HP6:=Lib.hid (HP5.out.set_ 1 (.int .i64 a))
 have HN6:=Lib.hid (HN5.out.far (p:=⟨w4.heap.size,1,none⟩) HNE.out (.int .i64 a))
 have HX6:=Lib.hid (HX5.out.setCell (p:=⟨w4.heap.size,1,none⟩) HLE.out (.int .i64 a))
 have f5:=HP5.out.frozen 1
 obtain ⟨y0,y1,y2,y3,y4⟩:=HN6.out.five
 obtain ⟨p0,p1,p2,p3,p4⟩:=Blk.five HP6.out
 go_wp2_with fail
 go_ret
 exact ⟨rfl,HX6.out⟩
set_option maxHeartbeats 4000000 in
set_option maxRecDepth 100000 in
theorem fits_k10 (B g b:Nat) (w:World) (ns:List Nd) (nv:Value) (h:GrP B g b w ns nv) (a n:Int) (h0:0≤a) (h1:a<ns.length) (hn: -64≤n) (hn2:n≤64):
  Calls Tryz.prog 53 #[.pointer (some ⟨g,0,none⟩),.agg #[.int .i64 10,.int .i64 a,.int .i64 0,.int .i64 n,.string ⟨#[]⟩]] w fun e w'=>e= .returned (.bool true)∧Ext w w':=by
 obtain ⟨A,c,rfl⟩:=h.row.shape
 have HG:=Lib.hid h.blk
 clear h
 have HB1:=Lib.hid (Blk.new w 29 #[.pointer (some ⟨g,0,none⟩)])
 have HX1:=Lib.hid ((Ext.refl w).alloc (.cells #[.pointer (some ⟨g,0,none⟩)] 29))
 obtain ⟨w1,hw1⟩:∃w1,w1=w.alloc (.cells #[.pointer (some ⟨g,0,none⟩)] 29):=⟨_,rfl⟩
 have hs1:w1.heap.size=w.heap.size+1:=by rw [hw1];simp
 rw [←hw1] at HB1 HX1
 have HB2:=Lib.hid (Blk.new w1 50 #[.int .i64 10,.int .i64 a,.int .i64 0,.int .i64 n,.string ⟨#[]⟩])
 have HX2:=Lib.hid ((Ext.refl w1).alloc (.cells #[.int .i64 10,.int .i64 a,.int .i64 0,.int .i64 n,.string ⟨#[]⟩] 50))
 obtain ⟨w2,hw2⟩:∃w2,w2=w1.alloc (.cells #[.int .i64 10,.int .i64 a,.int .i64 0,.int .i64 n,.string ⟨#[]⟩] 50):=⟨_,rfl⟩
 have hs2:w2.heap.size=w.heap.size+2:=by rw [hw2];simp [hs1]
 rw [←hw2,hs1] at HB2
 rw [←hw2] at HX2
 have HX:=Lib.hid (HX1.out.trans HX2.out)
 obtain ⟨q0,q1,q2,q3,q4⟩:=HB2.out.five
 go_enter Tryz.func53,Tryz.ntmps53
 go_upto_region 1 with fail
 rw [←hw1,←hw2]
 clear hw1 hw2
 go_wp2_with fail
 refine (operands_un w2 10 a 0 n ⟨#[]⟩ (by decide)).mono ?_
 rintro e w3 ⟨x3,rfl,hc0,_,hl3,hx3⟩
 have HX3:=Lib.hid hx3
 have HB3:=Lib.hid (HB2.out.ext hx3)
 have HCF:=Lib.hid (contains_any w.heap.size g ns.length c x3 1 A [a] w3 ((hx3.trans (Ext.refl _)).keep ((HB1.out.ext HX2.out).cell 0)) (((HX.out.trans hx3).cell HG.out.lt).trans (HG.out.cell 0)) (fun j hj=>by
  match j,hj with
  |0,_=>exact hc0) (by simp))
 clear hx3 q0 q1 q2 q3 q4 hc0
 obtain ⟨q0,q1,q2,q3,q4⟩:=HB3.out.five
 go_wp2_with fail
 refine HCF.out.mono ?_
 rintro e w4' ⟨rfl,y4,rfl⟩
 have hany:[a].any (outN ns.length)=false:=by
  simp only [List.any_cons,List.any_nil,Bool.or_false,outN,Bool.or_eq_false_iff,decide_eq_false_iff_not]
  omega
 rw [hany]
 clear hany
 have HB4:=Lib.hid (HB3.out.drewN y4)
 have HX4:=Lib.hid (HX3.out.drewN y4)
 clear HX3 HB3 q0 q1 q2 q3 q4
 generalize hw4:w3.drewN y4=w4 at *
 clear hw4
 have HX3:=HX4
 have HB3:=HB4
 obtain ⟨q0,q1,q2,q3,q4⟩:=HB3.out.five
 have hlt4:w.heap.size+1<w4.heap.size:=by
  have h1:=HX3.out.size
  omega
 have HNE:Hid (w.heap.size+1≠w4.heap.size):=Lib.hid (by omega)
 have HLE:Hid (w.heap.size≤w4.heap.size):=Lib.hid (by omega)
 have hx5:=(Ext.refl w4).alloc (.cells #[.int .i64 10,.int .i64 0,.int .i64 0,.int .i64 0,.string ⟨#[]⟩] 50)
 have HN5:=Lib.hid (HB3.out.ext hx5)
 have HP5:=Lib.hid (Blk.new w4 50 #[.int .i64 10,.int .i64 0,.int .i64 0,.int .i64 0,.string ⟨#[]⟩])
 have HX5:=Lib.hid ((HX.out.trans HX3.out).trans hx5)
 clear hx5 hlt4
 obtain ⟨y0,y1,y2,y3,y4⟩:=HN5.out.five
 obtain ⟨p0,p1,p2,p3,p4⟩:=HP5.out.five
 obtain ⟨w5,hw5⟩:∃w5,w5=w4.alloc (.cells #[.int .i64 10,.int .i64 0,.int .i64 0,.int .i64 0,.string ⟨#[]⟩] 50):=⟨_,rfl⟩
 rw [←hw5] at HN5 HP5 HX5 y0 y1 y2 y3 y4 p0 p1 p2 p3 p4
 go_upto_region 5 with fail
 rw [←hw5]
 clear hw5 q0 q1 q2 q3 q4
 have HP6:=Lib.hid (HP5.out.set_ 1 (.int .i64 a))
 have HN6:=Lib.hid (HN5.out.far (p:=⟨w4.heap.size,1,none⟩) HNE.out (.int .i64 a))
 have HX6:=Lib.hid (HX5.out.setCell (p:=⟨w4.heap.size,1,none⟩) HLE.out (.int .i64 a))
 have f5:=HP5.out.frozen 1
 obtain ⟨y0,y1,y2,y3,y4⟩:=HN6.out.five
 obtain ⟨p0,p1,p2,p3,p4⟩:=Blk.five HP6.out
 go_upto_region 16 with fail
 have HP7:=Lib.hid (HP6.out.set_ 3 (.int .i64 n))
 have HN7:=Lib.hid (HN6.out.far (p:=⟨w4.heap.size,3,none⟩) HNE.out (.int .i64 n))
 have HX7:=Lib.hid (HX6.out.setCell (p:=⟨w4.heap.size,3,none⟩) HLE.out (.int .i64 n))
 have f6:=HP6.out.frozen 3
 obtain ⟨y0,y1,y2,y3,y4⟩:=HN7.out.five
 obtain ⟨p0,p1,p2,p3,p4⟩:=Blk.five HP7.out
 go_region
 all_goals go_wp2_with fail
 all_goals go_ret
 all_goals exact ⟨rfl,HX7.out.drew⟩
set_option maxHeartbeats 4000000 in
set_option maxRecDepth 100000 in
theorem fits_k6 (B g b:Nat) (w:World) (ns:List Nd) (nv:Value) (h:GrP B g b w ns nv) (a b':Int) (h0:0≤a) (h1:a<ns.length) (h2:0≤b') (h3:b'<ns.length):
  Calls Tryz.prog 53 #[.pointer (some ⟨g,0,none⟩),.agg #[.int .i64 6,.int .i64 a,.int .i64 b',.int .i64 0,.string ⟨#[]⟩]] w fun e w'=>e= .returned (.bool true)∧Ext w w':=by
 obtain ⟨A,c,rfl⟩:=h.row.shape
 have HG:=Lib.hid h.blk
 clear h
 have HB1:=Lib.hid (Blk.new w 29 #[.pointer (some ⟨g,0,none⟩)])
 have HX1:=Lib.hid ((Ext.refl w).alloc (.cells #[.pointer (some ⟨g,0,none⟩)] 29))
 obtain ⟨w1,hw1⟩:∃w1,w1=w.alloc (.cells #[.pointer (some ⟨g,0,none⟩)] 29):=⟨_,rfl⟩
 have hs1:w1.heap.size=w.heap.size+1:=by rw [hw1];simp
 rw [←hw1] at HB1 HX1
 have HB2:=Lib.hid (Blk.new w1 50 #[.int .i64 6,.int .i64 a,.int .i64 b',.int .i64 0,.string ⟨#[]⟩])
 have HX2:=Lib.hid ((Ext.refl w1).alloc (.cells #[.int .i64 6,.int .i64 a,.int .i64 b',.int .i64 0,.string ⟨#[]⟩] 50))
 obtain ⟨w2,hw2⟩:∃w2,w2=w1.alloc (.cells #[.int .i64 6,.int .i64 a,.int .i64 b',.int .i64 0,.string ⟨#[]⟩] 50):=⟨_,rfl⟩
 have hs2:w2.heap.size=w.heap.size+2:=by rw [hw2];simp [hs1]
 rw [←hw2,hs1] at HB2
 rw [←hw2] at HX2
 have HX:=Lib.hid (HX1.out.trans HX2.out)
 obtain ⟨q0,q1,q2,q3,q4⟩:=HB2.out.five
 go_enter Tryz.func53,Tryz.ntmps53
 go_upto_region 1 with fail
 rw [←hw1,←hw2]
 clear hw1 hw2
 go_wp2_with fail
 refine (operands_bin w2 6 a b' 0 ⟨#[]⟩ (by decide)).mono ?_
 rintro e w3 ⟨x3,rfl,hc0,hc1,_,hl3,hx3⟩
 have HX3:=Lib.hid hx3
 have HB3:=Lib.hid (HB2.out.ext hx3)
 have HCF:=Lib.hid (contains_any w.heap.size g ns.length c x3 2 A [a,b'] w3 ((hx3.trans (Ext.refl _)).keep ((HB1.out.ext HX2.out).cell 0)) (((HX.out.trans hx3).cell HG.out.lt).trans (HG.out.cell 0)) (fun j hj=>by
  match j,hj with
  |0,_=>exact hc0
  |1,_=>exact hc1) (by simp))
 clear hx3 q0 q1 q2 q3 q4 hc0 hc1
 obtain ⟨q0,q1,q2,q3,q4⟩:=HB3.out.five
 go_wp2_with fail
 refine HCF.out.mono ?_
 rintro e w4' ⟨rfl,y4,rfl⟩
 have hany:[a,b'].any (outN ns.length)=false:=by
  simp only [List.any_cons,List.any_nil,Bool.or_false,outN,Bool.or_eq_false_iff,decide_eq_false_iff_not]
  omega
 rw [hany]
 clear hany
 have HB4:=Lib.hid (HB3.out.drewN y4)
 have HX4:=Lib.hid (HX3.out.drewN y4)
 clear HX3 HB3 q0 q1 q2 q3 q4
 generalize hw4:w3.drewN y4=w4 at *
 clear hw4
 have HX3:=HX4
 have HB3:=HB4
 obtain ⟨q0,q1,q2,q3,q4⟩:=HB3.out.five
 have hlt4:w.heap.size+1<w4.heap.size:=by
  have h1:=HX3.out.size
  omega
 have HNE:Hid (w.heap.size+1≠w4.heap.size):=Lib.hid (by omega)
 have HLE:Hid (w.heap.size≤w4.heap.size):=Lib.hid (by omega)
 have hx5:=(Ext.refl w4).alloc (.cells #[.int .i64 6,.int .i64 0,.int .i64 0,.int .i64 0,.string ⟨#[]⟩] 50)
 have HN5:=Lib.hid (HB3.out.ext hx5)
 have HP5:=Lib.hid (Blk.new w4 50 #[.int .i64 6,.int .i64 0,.int .i64 0,.int .i64 0,.string ⟨#[]⟩])
 have HX5:=Lib.hid ((HX.out.trans HX3.out).trans hx5)
 clear hx5 hlt4
 obtain ⟨y0,y1,y2,y3,y4⟩:=HN5.out.five
 obtain ⟨p0,p1,p2,p3,p4⟩:=HP5.out.five
 obtain ⟨w5,hw5⟩:∃w5,w5=w4.alloc (.cells #[.int .i64 6,.int .i64 0,.int .i64 0,.int .i64 0,.string ⟨#[]⟩] 50):=⟨_,rfl⟩
 rw [←hw5] at HN5 HP5 HX5 y0 y1 y2 y3 y4 p0 p1 p2 p3 p4
 go_upto_region 5 with fail
 rw [←hw5]
 clear hw5 q0 q1 q2 q3 q4
 have HP6:=Lib.hid (HP5.out.set_ 1 (.int .i64 a))
 have HN6:=Lib.hid (HN5.out.far (p:=⟨w4.heap.size,1,none⟩) HNE.out (.int .i64 a))
 have HX6:=Lib.hid (HX5.out.setCell (p:=⟨w4.heap.size,1,none⟩) HLE.out (.int .i64 a))
 have f5:=HP5.out.frozen 1
 obtain ⟨y0,y1,y2,y3,y4⟩:=HN6.out.five
 obtain ⟨p0,p1,p2,p3,p4⟩:=Blk.five HP6.out
 have HP7:=Lib.hid (HP6.out.set_ 2 (.int .i64 b'))
 have HN7:=Lib.hid (HN6.out.far (p:=⟨w4.heap.size,2,none⟩) HNE.out (.int .i64 b'))
 have HX7:=Lib.hid (HX6.out.setCell (p:=⟨w4.heap.size,2,none⟩) HLE.out (.int .i64 b'))
 have f6:=HP6.out.frozen 2
 obtain ⟨y0,y1,y2,y3,y4⟩:=HN7.out.five
 obtain ⟨p0,p1,p2,p3,p4⟩:=Blk.five HP7.out
 go_wp2_with fail
 go_ret
 exact ⟨rfl,HX7.out⟩
set_option maxHeartbeats 4000000 in
set_option maxRecDepth 100000 in
theorem fits_k7 (B g b:Nat) (w:World) (ns:List Nd) (nv:Value) (h:GrP B g b w ns nv) (a b':Int) (h0:0≤a) (h1:a<ns.length) (h2:0≤b') (h3:b'<ns.length):
  Calls Tryz.prog 53 #[.pointer (some ⟨g,0,none⟩),.agg #[.int .i64 7,.int .i64 a,.int .i64 b',.int .i64 0,.string ⟨#[]⟩]] w fun e w'=>e= .returned (.bool true)∧Ext w w':=by
 obtain ⟨A,c,rfl⟩:=h.row.shape
 have HG:=Lib.hid h.blk
 clear h
 have HB1:=Lib.hid (Blk.new w 29 #[.pointer (some ⟨g,0,none⟩)])
 have HX1:=Lib.hid ((Ext.refl w).alloc (.cells #[.pointer (some ⟨g,0,none⟩)] 29))
 obtain ⟨w1,hw1⟩:∃w1,w1=w.alloc (.cells #[.pointer (some ⟨g,0,none⟩)] 29):=⟨_,rfl⟩
 have hs1:w1.heap.size=w.heap.size+1:=by rw [hw1];simp
 rw [←hw1] at HB1 HX1
 have HB2:=Lib.hid (Blk.new w1 50 #[.int .i64 7,.int .i64 a,.int .i64 b',.int .i64 0,.string ⟨#[]⟩])
 have HX2:=Lib.hid ((Ext.refl w1).alloc (.cells #[.int .i64 7,.int .i64 a,.int .i64 b',.int .i64 0,.string ⟨#[]⟩] 50))
 obtain ⟨w2,hw2⟩:∃w2,w2=w1.alloc (.cells #[.int .i64 7,.int .i64 a,.int .i64 b',.int .i64 0,.string ⟨#[]⟩] 50):=⟨_,rfl⟩
 have hs2:w2.heap.size=w.heap.size+2:=by rw [hw2];simp [hs1]
 rw [←hw2,hs1] at HB2
 rw [←hw2] at HX2
 have HX:=Lib.hid (HX1.out.trans HX2.out)
 obtain ⟨q0,q1,q2,q3,q4⟩:=HB2.out.five
 go_enter Tryz.func53,Tryz.ntmps53
 go_upto_region 1 with fail
 rw [←hw1,←hw2]
 clear hw1 hw2
 go_wp2_with fail
 refine (operands_bin w2 7 a b' 0 ⟨#[]⟩ (by decide)).mono ?_
 rintro e w3 ⟨x3,rfl,hc0,hc1,_,hl3,hx3⟩
 have HX3:=Lib.hid hx3
 have HB3:=Lib.hid (HB2.out.ext hx3)
 have HCF:=Lib.hid (contains_any w.heap.size g ns.length c x3 2 A [a,b'] w3 ((hx3.trans (Ext.refl _)).keep ((HB1.out.ext HX2.out).cell 0)) (((HX.out.trans hx3).cell HG.out.lt).trans (HG.out.cell 0)) (fun j hj=>by
  match j,hj with
  |0,_=>exact hc0
  |1,_=>exact hc1) (by simp))
 clear hx3 q0 q1 q2 q3 q4 hc0 hc1
 obtain ⟨q0,q1,q2,q3,q4⟩:=HB3.out.five
 go_wp2_with fail
 refine HCF.out.mono ?_
 rintro e w4' ⟨rfl,y4,rfl⟩
 have hany:[a,b'].any (outN ns.length)=false:=by
  simp only [List.any_cons,List.any_nil,Bool.or_false,outN,Bool.or_eq_false_iff,decide_eq_false_iff_not]
  omega
 rw [hany]
 clear hany
 have HB4:=Lib.hid (HB3.out.drewN y4)
 have HX4:=Lib.hid (HX3.out.drewN y4)
 clear HX3 HB3 q0 q1 q2 q3 q4
 generalize hw4:w3.drewN y4=w4 at *
 clear hw4
 have HX3:=HX4
 have HB3:=HB4
 obtain ⟨q0,q1,q2,q3,q4⟩:=HB3.out.five
 have hlt4:w.heap.size+1<w4.heap.size:=by
  have h1:=HX3.out.size
  omega
 have HNE:Hid (w.heap.size+1≠w4.heap.size):=Lib.hid (by omega)
 have HLE:Hid (w.heap.size≤w4.heap.size):=Lib.hid (by omega)
 have hx5:=(Ext.refl w4).alloc (.cells #[.int .i64 7,.int .i64 0,.int .i64 0,.int .i64 0,.string ⟨#[]⟩] 50)
 have HN5:=Lib.hid (HB3.out.ext hx5)
 have HP5:=Lib.hid (Blk.new w4 50 #[.int .i64 7,.int .i64 0,.int .i64 0,.int .i64 0,.string ⟨#[]⟩])
 have HX5:=Lib.hid ((HX.out.trans HX3.out).trans hx5)
 clear hx5 hlt4
 obtain ⟨y0,y1,y2,y3,y4⟩:=HN5.out.five
 obtain ⟨p0,p1,p2,p3,p4⟩:=HP5.out.five
 obtain ⟨w5,hw5⟩:∃w5,w5=w4.alloc (.cells #[.int .i64 7,.int .i64 0,.int .i64 0,.int .i64 0,.string ⟨#[]⟩] 50):=⟨_,rfl⟩
 rw [←hw5] at HN5 HP5 HX5 y0 y1 y2 y3 y4 p0 p1 p2 p3 p4
 go_upto_region 5 with fail
 rw [←hw5]
 clear hw5 q0 q1 q2 q3 q4
 have HP6:=Lib.hid (HP5.out.set_ 1 (.int .i64 a))
 have HN6:=Lib.hid (HN5.out.far (p:=⟨w4.heap.size,1,none⟩) HNE.out (.int .i64 a))
 have HX6:=Lib.hid (HX5.out.setCell (p:=⟨w4.heap.size,1,none⟩) HLE.out (.int .i64 a))
 have f5:=HP5.out.frozen 1
 obtain ⟨y0,y1,y2,y3,y4⟩:=HN6.out.five
 obtain ⟨p0,p1,p2,p3,p4⟩:=Blk.five HP6.out
 have HP7:=Lib.hid (HP6.out.set_ 2 (.int .i64 b'))
 have HN7:=Lib.hid (HN6.out.far (p:=⟨w4.heap.size,2,none⟩) HNE.out (.int .i64 b'))
 have HX7:=Lib.hid (HX6.out.setCell (p:=⟨w4.heap.size,2,none⟩) HLE.out (.int .i64 b'))
 have f6:=HP6.out.frozen 2
 obtain ⟨y0,y1,y2,y3,y4⟩:=HN7.out.five
 obtain ⟨p0,p1,p2,p3,p4⟩:=Blk.five HP7.out
 go_wp2_with fail
 go_ret
 exact ⟨rfl,HX7.out⟩
set_option maxHeartbeats 4000000 in
set_option maxRecDepth 100000 in
theorem fits_k8 (B g b:Nat) (w:World) (ns:List Nd) (nv:Value) (h:GrP B g b w ns nv) (a b':Int) (h0:0≤a) (h1:a<ns.length) (h2:0≤b') (h3:b'<ns.length):
  Calls Tryz.prog 53 #[.pointer (some ⟨g,0,none⟩),.agg #[.int .i64 8,.int .i64 a,.int .i64 b',.int .i64 0,.string ⟨#[]⟩]] w fun e w'=>e= .returned (.bool true)∧Ext w w':=by
 obtain ⟨A,c,rfl⟩:=h.row.shape
 have HG:=Lib.hid h.blk
 clear h
 have HB1:=Lib.hid (Blk.new w 29 #[.pointer (some ⟨g,0,none⟩)])
 have HX1:=Lib.hid ((Ext.refl w).alloc (.cells #[.pointer (some ⟨g,0,none⟩)] 29))
 obtain ⟨w1,hw1⟩:∃w1,w1=w.alloc (.cells #[.pointer (some ⟨g,0,none⟩)] 29):=⟨_,rfl⟩
 have hs1:w1.heap.size=w.heap.size+1:=by rw [hw1];simp
 rw [←hw1] at HB1 HX1
 have HB2:=Lib.hid (Blk.new w1 50 #[.int .i64 8,.int .i64 a,.int .i64 b',.int .i64 0,.string ⟨#[]⟩])
 have HX2:=Lib.hid ((Ext.refl w1).alloc (.cells #[.int .i64 8,.int .i64 a,.int .i64 b',.int .i64 0,.string ⟨#[]⟩] 50))
 obtain ⟨w2,hw2⟩:∃w2,w2=w1.alloc (.cells #[.int .i64 8,.int .i64 a,.int .i64 b',.int .i64 0,.string ⟨#[]⟩] 50):=⟨_,rfl⟩
 have hs2:w2.heap.size=w.heap.size+2:=by rw [hw2];simp [hs1]
 rw [←hw2,hs1] at HB2
 rw [←hw2] at HX2
 have HX:=Lib.hid (HX1.out.trans HX2.out)
 obtain ⟨q0,q1,q2,q3,q4⟩:=HB2.out.five
 go_enter Tryz.func53,Tryz.ntmps53
 go_upto_region 1 with fail
 rw [←hw1,←hw2]
 clear hw1 hw2
 go_wp2_with fail
 refine (operands_bin w2 8 a b' 0 ⟨#[]⟩ (by decide)).mono ?_
 rintro e w3 ⟨x3,rfl,hc0,hc1,_,hl3,hx3⟩
 have HX3:=Lib.hid hx3
 have HB3:=Lib.hid (HB2.out.ext hx3)
 have HCF:=Lib.hid (contains_any w.heap.size g ns.length c x3 2 A [a,b'] w3 ((hx3.trans (Ext.refl _)).keep ((HB1.out.ext HX2.out).cell 0)) (((HX.out.trans hx3).cell HG.out.lt).trans (HG.out.cell 0)) (fun j hj=>by
  match j,hj with
  |0,_=>exact hc0
  |1,_=>exact hc1) (by simp))
 clear hx3 q0 q1 q2 q3 q4 hc0 hc1
 obtain ⟨q0,q1,q2,q3,q4⟩:=HB3.out.five
 go_wp2_with fail
 refine HCF.out.mono ?_
 rintro e w4' ⟨rfl,y4,rfl⟩
 have hany:[a,b'].any (outN ns.length)=false:=by
  simp only [List.any_cons,List.any_nil,Bool.or_false,outN,Bool.or_eq_false_iff,decide_eq_false_iff_not]
  omega
 rw [hany]
 clear hany
 have HB4:=Lib.hid (HB3.out.drewN y4)
 have HX4:=Lib.hid (HX3.out.drewN y4)
 clear HX3 HB3 q0 q1 q2 q3 q4
 generalize hw4:w3.drewN y4=w4 at *
 clear hw4
 have HX3:=HX4
 have HB3:=HB4
 obtain ⟨q0,q1,q2,q3,q4⟩:=HB3.out.five
 have hlt4:w.heap.size+1<w4.heap.size:=by
  have h1:=HX3.out.size
  omega
 have HNE:Hid (w.heap.size+1≠w4.heap.size):=Lib.hid (by omega)
 have HLE:Hid (w.heap.size≤w4.heap.size):=Lib.hid (by omega)
 have hx5:=(Ext.refl w4).alloc (.cells #[.int .i64 8,.int .i64 0,.int .i64 0,.int .i64 0,.string ⟨#[]⟩] 50)
 have HN5:=Lib.hid (HB3.out.ext hx5)
 have HP5:=Lib.hid (Blk.new w4 50 #[.int .i64 8,.int .i64 0,.int .i64 0,.int .i64 0,.string ⟨#[]⟩])
 have HX5:=Lib.hid ((HX.out.trans HX3.out).trans hx5)
 clear hx5 hlt4
 obtain ⟨y0,y1,y2,y3,y4⟩:=HN5.out.five
 obtain ⟨p0,p1,p2,p3,p4⟩:=HP5.out.five
 obtain ⟨w5,hw5⟩:∃w5,w5=w4.alloc (.cells #[.int .i64 8,.int .i64 0,.int .i64 0,.int .i64 0,.string ⟨#[]⟩] 50):=⟨_,rfl⟩
 rw [←hw5] at HN5 HP5 HX5 y0 y1 y2 y3 y4 p0 p1 p2 p3 p4
 go_upto_region 5 with fail
 rw [←hw5]
 clear hw5 q0 q1 q2 q3 q4
 have HP6:=Lib.hid (HP5.out.set_ 1 (.int .i64 a))
 have HN6:=Lib.hid (HN5.out.far (p:=⟨w4.heap.size,1,none⟩) HNE.out (.int .i64 a))
 have HX6:=Lib.hid (HX5.out.setCell (p:=⟨w4.heap.size,1,none⟩) HLE.out (.int .i64 a))
 have f5:=HP5.out.frozen 1
 obtain ⟨y0,y1,y2,y3,y4⟩:=HN6.out.five
 obtain ⟨p0,p1,p2,p3,p4⟩:=Blk.five HP6.out
 have HP7:=Lib.hid (HP6.out.set_ 2 (.int .i64 b'))
 have HN7:=Lib.hid (HN6.out.far (p:=⟨w4.heap.size,2,none⟩) HNE.out (.int .i64 b'))
 have HX7:=Lib.hid (HX6.out.setCell (p:=⟨w4.heap.size,2,none⟩) HLE.out (.int .i64 b'))
 have f6:=HP6.out.frozen 2
 obtain ⟨y0,y1,y2,y3,y4⟩:=HN7.out.five
 obtain ⟨p0,p1,p2,p3,p4⟩:=Blk.five HP7.out
 go_wp2_with fail
 go_ret
 exact ⟨rfl,HX7.out⟩
set_option maxHeartbeats 4000000 in
set_option maxRecDepth 100000 in
theorem fits_k9 (B g b:Nat) (w:World) (ns:List Nd) (nv:Value) (h:GrP B g b w ns nv) (a b':Int) (h0:0≤a) (h1:a<ns.length) (h2:0≤b') (h3:b'<ns.length):
  Calls Tryz.prog 53 #[.pointer (some ⟨g,0,none⟩),.agg #[.int .i64 9,.int .i64 a,.int .i64 b',.int .i64 0,.string ⟨#[]⟩]] w fun e w'=>e= .returned (.bool true)∧Ext w w':=by
 obtain ⟨A,c,rfl⟩:=h.row.shape
 have HG:=Lib.hid h.blk
 clear h
 have HB1:=Lib.hid (Blk.new w 29 #[.pointer (some ⟨g,0,none⟩)])
 have HX1:=Lib.hid ((Ext.refl w).alloc (.cells #[.pointer (some ⟨g,0,none⟩)] 29))
 obtain ⟨w1,hw1⟩:∃w1,w1=w.alloc (.cells #[.pointer (some ⟨g,0,none⟩)] 29):=⟨_,rfl⟩
 have hs1:w1.heap.size=w.heap.size+1:=by rw [hw1];simp
 rw [←hw1] at HB1 HX1
 have HB2:=Lib.hid (Blk.new w1 50 #[.int .i64 9,.int .i64 a,.int .i64 b',.int .i64 0,.string ⟨#[]⟩])
 have HX2:=Lib.hid ((Ext.refl w1).alloc (.cells #[.int .i64 9,.int .i64 a,.int .i64 b',.int .i64 0,.string ⟨#[]⟩] 50))
 obtain ⟨w2,hw2⟩:∃w2,w2=w1.alloc (.cells #[.int .i64 9,.int .i64 a,.int .i64 b',.int .i64 0,.string ⟨#[]⟩] 50):=⟨_,rfl⟩
 have hs2:w2.heap.size=w.heap.size+2:=by rw [hw2];simp [hs1]
 rw [←hw2,hs1] at HB2
 rw [←hw2] at HX2
 have HX:=Lib.hid (HX1.out.trans HX2.out)
 obtain ⟨q0,q1,q2,q3,q4⟩:=HB2.out.five
 go_enter Tryz.func53,Tryz.ntmps53
 go_upto_region 1 with fail
 rw [←hw1,←hw2]
 clear hw1 hw2
 go_wp2_with fail
 refine (operands_bin w2 9 a b' 0 ⟨#[]⟩ (by decide)).mono ?_
 rintro e w3 ⟨x3,rfl,hc0,hc1,_,hl3,hx3⟩
 have HX3:=Lib.hid hx3
 have HB3:=Lib.hid (HB2.out.ext hx3)
 have HCF:=Lib.hid (contains_any w.heap.size g ns.length c x3 2 A [a,b'] w3 ((hx3.trans (Ext.refl _)).keep ((HB1.out.ext HX2.out).cell 0)) (((HX.out.trans hx3).cell HG.out.lt).trans (HG.out.cell 0)) (fun j hj=>by
  match j,hj with
  |0,_=>exact hc0
  |1,_=>exact hc1) (by simp))
 clear hx3 q0 q1 q2 q3 q4 hc0 hc1
 obtain ⟨q0,q1,q2,q3,q4⟩:=HB3.out.five
 go_wp2_with fail
 refine HCF.out.mono ?_
 rintro e w4' ⟨rfl,y4,rfl⟩
 have hany:[a,b'].any (outN ns.length)=false:=by
  simp only [List.any_cons,List.any_nil,Bool.or_false,outN,Bool.or_eq_false_iff,decide_eq_false_iff_not]
  omega
 rw [hany]
 clear hany
 have HB4:=Lib.hid (HB3.out.drewN y4)
 have HX4:=Lib.hid (HX3.out.drewN y4)
 clear HX3 HB3 q0 q1 q2 q3 q4
 generalize hw4:w3.drewN y4=w4 at *
 clear hw4
 have HX3:=HX4
 have HB3:=HB4
 obtain ⟨q0,q1,q2,q3,q4⟩:=HB3.out.five
 have hlt4:w.heap.size+1<w4.heap.size:=by
  have h1:=HX3.out.size
  omega
 have HNE:Hid (w.heap.size+1≠w4.heap.size):=Lib.hid (by omega)
 have HLE:Hid (w.heap.size≤w4.heap.size):=Lib.hid (by omega)
 have hx5:=(Ext.refl w4).alloc (.cells #[.int .i64 9,.int .i64 0,.int .i64 0,.int .i64 0,.string ⟨#[]⟩] 50)
 have HN5:=Lib.hid (HB3.out.ext hx5)
 have HP5:=Lib.hid (Blk.new w4 50 #[.int .i64 9,.int .i64 0,.int .i64 0,.int .i64 0,.string ⟨#[]⟩])
 have HX5:=Lib.hid ((HX.out.trans HX3.out).trans hx5)
 clear hx5 hlt4
 obtain ⟨y0,y1,y2,y3,y4⟩:=HN5.out.five
 obtain ⟨p0,p1,p2,p3,p4⟩:=HP5.out.five
 obtain ⟨w5,hw5⟩:∃w5,w5=w4.alloc (.cells #[.int .i64 9,.int .i64 0,.int .i64 0,.int .i64 0,.string ⟨#[]⟩] 50):=⟨_,rfl⟩
 rw [←hw5] at HN5 HP5 HX5 y0 y1 y2 y3 y4 p0 p1 p2 p3 p4
 go_upto_region 5 with fail
 rw [←hw5]
 clear hw5 q0 q1 q2 q3 q4
 have HP6:=Lib.hid (HP5.out.set_ 1 (.int .i64 a))
 have HN6:=Lib.hid (HN5.out.far (p:=⟨w4.heap.size,1,none⟩) HNE.out (.int .i64 a))
 have HX6:=Lib.hid (HX5.out.setCell (p:=⟨w4.heap.size,1,none⟩) HLE.out (.int .i64 a))
 have f5:=HP5.out.frozen 1
 obtain ⟨y0,y1,y2,y3,y4⟩:=HN6.out.five
 obtain ⟨p0,p1,p2,p3,p4⟩:=Blk.five HP6.out
 have HP7:=Lib.hid (HP6.out.set_ 2 (.int .i64 b'))
 have HN7:=Lib.hid (HN6.out.far (p:=⟨w4.heap.size,2,none⟩) HNE.out (.int .i64 b'))
 have HX7:=Lib.hid (HX6.out.setCell (p:=⟨w4.heap.size,2,none⟩) HLE.out (.int .i64 b'))
 have f6:=HP6.out.frozen 2
 obtain ⟨y0,y1,y2,y3,y4⟩:=HN7.out.five
 obtain ⟨p0,p1,p2,p3,p4⟩:=Blk.five HP7.out
 go_wp2_with fail
 go_ret
 exact ⟨rfl,HX7.out⟩
end Big
end Go.Proofs.YtaccjdbbkmhanaaGreatDoor
namespace Go.Proofs.YtaccjdbbkmhanaaGreatDoor
namespace Big
open Go.RowKit Go.ChangeMaps
theorem gfits_any (B g b:Nat) (w:World) (ns:List Nd) (nv:Value) (h:GrP B g b w ns nv) (x:Nd) (hx:NdOk ns.length x) (hm:MaxV w):
  Calls Tryz.prog 53 #[.pointer (some ⟨g,0,none⟩),ndV x] w fun e w'=>e= .returned (.bool true)∧Ext w w':=by
 have hE:(.string ⟨#[]⟩:Value)=str []:=rfl
 rcases hx with ⟨k,t,rfl,⟨rfl,h1,_⟩|⟨rfl,h1⟩|⟨rfl|rfl,rfl⟩⟩|⟨k,n,j,rfl,⟨h1,h2,h3,h4⟩,hj⟩|⟨k,j,q,rfl,hk,hj,hq⟩
 ·exact fits_const B g b w ns nv h t h1 hm
 ·exact fits_name B g b w ns nv h t h1
 ·exact fits_k3 B g b w ns nv h
 ·exact fits_k4 B g b w ns nv h
 ·have hk:k=5∨k=10∨k=11∨k=12∨k=13∨k=14∨k=15∨k=16:=by omega
  have j0:(0:Int)≤(j:Int):=by omega
  have j1:(j:Int)<(ns.length:Int):=by omega
  rcases hk with rfl|rfl|rfl|rfl|rfl|rfl|rfl|rfl
  ·rw [h2 (by decide)];exact fits_k5 B g b w ns nv h j j0 j1
  ·exact fits_k10 B g b w ns nv h j n j0 j1 h3 h4
  ·rw [h2 (by decide)];exact fits_k11 B g b w ns nv h j j0 j1
  ·rw [h2 (by decide)];exact fits_k12 B g b w ns nv h j j0 j1
  ·rw [h2 (by decide)];exact fits_k13 B g b w ns nv h j j0 j1
  ·rw [h2 (by decide)];exact fits_k14 B g b w ns nv h j j0 j1
  ·rw [h2 (by decide)];exact fits_k15 B g b w ns nv h j j0 j1
  ·rw [h2 (by decide)];exact fits_k16 B g b w ns nv h j j0 j1
 ·have hk:k=6∨k=7∨k=8∨k=9:=by omega
  have j0:(0:Int)≤(j:Int):=by omega
  have j1:(j:Int)<(ns.length:Int):=by omega
  have q0:(0:Int)≤(q:Int):=by omega
  have q1:(q:Int)<(ns.length:Int):=by omega
  rcases hk with rfl|rfl|rfl|rfl
  ·exact fits_k6 B g b w ns nv h j q j0 j1 q0 q1
  ·exact fits_k7 B g b w ns nv h j q j0 j1 q0 q1
  ·exact fits_k8 B g b w ns nv h j q j0 j1 q0 q1
  ·exact fits_k9 B g b w ns nv h j q j0 j1 q0 q1
theorem ownsRow_at {w w':World} {B:Nat} {t:TypeId} {m:Nat} {v:Value} {n:Nat} {xs:List Value} (h:w.ownsRow B t m v n xs) (hk:∀k,v.ownBlock=some k→w'.heap[k]? =w.heap[k]?):w'.ownsRow B t m v n xs:=
 ⟨h.1,h.2.imp id (fun ⟨q,cap,cur,hv,hq,hh,r⟩=>⟨q,cap,cur,hv,hq,(hk q (by rw [hv];rfl)).trans hh,r⟩)⟩
theorem ownsRow_ltG {w:World} {B:Nat} {t:TypeId} {m:Nat} {v:Value} {n:Nat} {xs:List Value} (h:w.ownsRow B t m v n xs) {k:Nat} (hk:v.ownBlock=some k):k<w.heap.size:=by
 rcases h.2 with ⟨rfl,_⟩|⟨q,cap,cur,rfl,_,hh,_⟩
 ·cases hk
 ·simp only [Value.ownBlock,Option.some.injEq] at hk
  subst hk
  exact (Array.getElem?_eq_some_iff.1 hh).1
def PutPost (B g b:Nat) (ns:List Nd) (nv:Value) (x:Nd) (w:World) (e:Ending) (w':World):Prop:=
 ∃nv',e= .returned (.tuple #[.int .i64 ((putG ns x).1:Int),.int .i64 0])∧KG g b nv nv' w w'∧GrP B g b w' (putG ns x).2 nv'
set_option maxHeartbeats 4000000 in
set_option maxRecDepth 100000 in
theorem put_old (B g b:Nat) (w:World) (ns:List Nd) (nv:Value) (h:GrP B g b w ns nv) (x:Nd) (hx:NdOk ns.length x) (hm:MaxV w) (hin:x∈ns):
  Calls Tryz.prog 26 #[.pointer (some ⟨g,0,none⟩),ndV x] w (PutPost B g b ns nv x w):=by
 have HFI:=Lib.hid (fun W h=>gfits_any B g b W ns nv h x hx)
 have HM:=Lib.hid hm
 have HG:=Lib.hid h
 have hfew:=h.few
 have hkx:KeyOk x:=hx.key (by omega)
 have HLK:=Lib.hid (fun W (h:GrP B g b W ns nv)=>h.map.look (h.ok.keys (by omega)) h.ok.1 x hkx (t:=36) Tryz.underlying36)
 have hp1:(putG ns x).1=placeG x ns:=by unfold putG;rw [if_pos hin]
 have hp2:(putG ns x).2=ns:=by unfold putG;rw [if_pos hin]
 have hpv:placeV x ns=(placeG x ns:Int):=by unfold placeV;rw [if_pos hin]
 rw [hpv,decide_eq_true hin] at HLK
 have HP1:=Lib.hid hp1
 have HP2:=Lib.hid hp2
 clear hp1 hp2 hpv hin hkx hfew hm hx
 obtain ⟨A,c,rfl⟩:=h.row.shape
 clear h
 obtain ⟨k,a,d,n,t⟩:=x
 simp only [ndV] at HFI HLK ⊢
 obtain ⟨s,hs⟩:∃s:ByteArray,s=⟨t.toArray⟩:=⟨_,rfl⟩
 have hst:str t= .string s:=by rw [hs];rfl
 rw [hst] at HFI HLK ⊢
 clear hs hst
 have HB1:=Lib.hid (Blk.new w 50 #[.int .i64 k,.int .i64 a,.int .i64 d,.int .i64 n,.string s])
 have HX1:=Lib.hid ((Ext.refl w).alloc (.cells #[.int .i64 k,.int .i64 a,.int .i64 d,.int .i64 n,.string s] 50))
 obtain ⟨w1,hw1⟩:∃w1,w1=w.alloc (.cells #[.int .i64 k,.int .i64 a,.int .i64 d,.int .i64 n,.string s] 50):=⟨_,rfl⟩
 rw [←hw1] at HB1 HX1
 obtain ⟨q0,q1,q2,q3,q4⟩:=HB1.out.five
 go_enter Tryz.func26,Tryz.ntmps26
 go_upto_region 1 with fail
 rw [←hw1]
 clear hw1
 go_wp2_with fail
 refine (HFI.out w1 (HG.out.keep HX1.out) (HM.out.ext HX1.out)).mono ?_
 rintro e w2 ⟨rfl,hx2⟩
 have HX2:=Lib.hid (HX1.out.trans hx2)
 have HG2:=Lib.hid (HG.out.keep HX2.out)
 have HB2:=Lib.hid (HB1.out.ext hx2)
 clear q0 q1 q2 q3 q4 hx2
 obtain ⟨q0,q1,q2,q3,q4⟩:=HB2.out.five
 obtain ⟨k0,k1,_,_,hgz⟩:=HG2.out.blk.twoG
 have hlk:=HLK.out w2 HG2.out
 have hlk2:=HLK.out w2.drew (HG2.out.keep (Ext.refl w2).drew)
 go_wp2_with fail
 go_region
 go_wp2_with fail
 go_ret2
 have hx3:=HX2.out.drew
 refine ⟨_,by rw [HP1.out];rfl,KG.of_ext hx3,?_⟩
 rw [HP2.out]
 exact HG.out.keep hx3
set_option maxHeartbeats 4000000 in
set_option maxRecDepth 100000 in
theorem put_new (B g b:Nat) (w:World) (ns:List Nd) (nv:Value) (h:GrP B g b w ns nv) (x:Nd) (hx:NdOk ns.length x) (hm:MaxV w) (hin:x∉ns) (hroom:ns.length<4096):
  Calls Tryz.prog 26 #[.pointer (some ⟨g,0,none⟩),ndV x] w (PutPost B g b ns nv x w):=by
 have HFI:=Lib.hid (fun W h=>gfits_any B g b W ns nv h x hx)
 have HM:=Lib.hid hm
 have HG:=Lib.hid h
 have hkx:KeyOk x:=hx.key (by omega)
 have HLK:=Lib.hid (fun W (h:GrP B g b W ns nv)=>h.map.look (h.ok.keys (by omega)) h.ok.1 x hkx (t:=36) Tryz.underlying36)
 have HST:=Lib.hid (fun W (h:NMap W b ns)=>h.store (HG.out.ok.keys (by omega)) x hkx hin (t:=36) Tryz.underlying36)
 have hp1:(putG ns x).1=ns.length:=by unfold putG;rw [if_neg hin]
 have hp2:(putG ns x).2=ns++[x]:=by unfold putG;rw [if_neg hin]
 have hpv:placeV x ns=0:=by unfold placeV;rw [if_neg hin]
 rw [hpv,decide_eq_false hin] at HLK
 have HOK:Hid (SoundG (ns++[x])):=Lib.hid (by rw [←hp2];exact h.ok.put hx)
 have HP1:=Lib.hid hp1
 have HP2:=Lib.hid hp2
 clear hp1 hp2 hpv hin hkx hm hx
 have hlo:=h.lo
 have hlo2:=h.lo2
 have hgb:=h.apart3
 have HA1:=Lib.hid h.apart
 have HA2:=Lib.hid h.apart2
 have hgz0:=h.lt
 have hbz0:=h.map.lt
 obtain ⟨A,c,rfl⟩:=h.row.shape
 clear h
 obtain ⟨i0,hi,hz0,hz1,hz2⟩:=info_parts info_node
 obtain ⟨k,a,d,n,t⟩:=x
 simp only [ndV] at HFI HLK HST ⊢
 obtain ⟨s,hs⟩:∃s:ByteArray,s=⟨t.toArray⟩:=⟨_,rfl⟩
 have HTC:Hid (ndC ⟨k,a,d,n,t⟩=[.int .i64 k,.int .i64 a,.int .i64 d,.int .i64 n,.string s]):=Lib.hid (by rw [hs];rfl)
 have hst:str t= .string s:=by rw [hs];rfl
 rw [hst] at HFI HLK HST ⊢
 clear hs hst
 have HB1:=Lib.hid (Blk.new w 50 #[.int .i64 k,.int .i64 a,.int .i64 d,.int .i64 n,.string s])
 have HX1:=Lib.hid ((Ext.refl w).alloc (.cells #[.int .i64 k,.int .i64 a,.int .i64 d,.int .i64 n,.string s] 50))
 obtain ⟨w1,hw1⟩:∃w1,w1=w.alloc (.cells #[.int .i64 k,.int .i64 a,.int .i64 d,.int .i64 n,.string s] 50):=⟨_,rfl⟩
 have hs1:w1.heap.size=w.heap.size+1:=by rw [hw1];simp
 rw [←hw1] at HB1 HX1
 obtain ⟨q0,q1,q2,q3,q4⟩:=HB1.out.five
 have hd4:decide ((ns.length:Int)≥4096)=false:=decide_eq_false (by omega)
 have hd5:decide (4096≤(ns.length:Int))=false:=decide_eq_false (by omega)
 go_enter Tryz.func26,Tryz.ntmps26
 go_upto_region 1 with fail
 rw [←hw1]
 clear hw1
 go_wp2_with fail
 refine (HFI.out w1 (HG.out.keep HX1.out) (HM.out.ext HX1.out)).mono ?_
 rintro e w2 ⟨rfl,hx2⟩
 have HX2:=Lib.hid (HX1.out.trans hx2)
 have HG2:=Lib.hid (HG.out.keep HX2.out)
 have HB2:=Lib.hid (HB1.out.ext hx2)
 have hs2:w.heap.size<w2.heap.size:=by have:=hx2.size;omega
 clear q0 q1 q2 q3 q4 hx2
 obtain ⟨q0,q1,q2,q3,q4⟩:=HB2.out.five
 obtain ⟨k0,k1,f0,f1,hgz⟩:=HG2.out.blk.twoG
 have hlk:=HLK.out w2 HG2.out
 have hlk2:=HLK.out w2.drew (HG2.out.keep (Ext.refl w2).drew)
 go_wp2_with fail
 go_region
 go_upto_region 9 with fail
 obtain ⟨wA,hwA⟩:∃wA,wA=w2.drew:=⟨_,rfl⟩
 have hxA:Ext w wA:=by rw [hwA];exact HX2.out.drew
 have hsA:w.heap.size<wA.heap.size:=by rw [hwA];exact hs2
 have HXA:=Lib.hid hxA
 have HGA:=Lib.hid (HG.out.keep hxA)
 have hbA:Blk wA w.heap.size 50 #[.int .i64 k,.int .i64 a,.int .i64 d,.int .i64 n,.string s]:=by rw [hwA];exact HB2.out.drew
 have HBA:=Lib.hid hbA
 rw [←hwA]
 clear hwA hxA hbA hlk hlk2 q0 q1 q2 q3 q4 k0 k1 f0 f1 hgz
 obtain ⟨q0,q1,q2,q3,q4⟩:=HBA.out.five
 obtain ⟨k0,k1,f0,f1,hgz⟩:=HGA.out.blk.twoG
 have HMID:Hid (∀w':World,(wA.alloc (.cells #[.int .i64 k,.int .i64 a,.int .i64 d,.int .i64 n,.string s] 50)).drew.grownBy w' (Value.slice A ns.length c).ownBlock→Blk w' g 38 #[.slice A ns.length c,.map (some b)]∧NMap w' b ns∧Blk w' w.heap.size 50 #[.int .i64 k,.int .i64 a,.int .i64 d,.int .i64 n,.string s]∧wA.grownBy w' (Value.slice A ns.length c).ownBlock):=Lib.hid (fun w' hgr=>by
  have hgr2:wA.grownBy w' (Value.slice A ns.length c).ownBlock:=by
   refine ⟨hgr.os,hgr.tape,hgr.output,?_,fun i h1 h2=> ?_⟩
   ·have:=hgr.size
    simp only [World.size_drew,World.size_alloc] at this
    omega
   ·exact (hgr.block i (by simp only [World.size_drew,World.size_alloc];omega) h2).trans (Below.heap_alloc wA _ i h1)
  have hbN:some w.heap.size≠(Value.slice A ns.length c).ownBlock:=fun e=>by
   have h1:=HGA.out.row
   unfold OwnNd at h1
   rcases (HG.out.row).2 with ⟨h2,_⟩|⟨q,cap,cur,h2,_,hh,_⟩
   ·rw [h2] at e;cases e
   ·rw [h2] at e
    simp only [Value.ownBlock,Option.some.injEq] at e
    have:=(Array.getElem?_eq_some_iff.1 hh).1
    omega
  exact ⟨(hgr2.block g hgz (fun e=>HA2.out e.symm)).trans HGA.out.blk,HGA.out.map.kept (hgr2.block b HGA.out.map.lt (fun e=>HA1.out e.symm)),(hgr2.block w.heap.size hsA hbN).trans HBA.out,hgr2⟩)
 have HC0:Hid (∀(j:Nat) (u:Value),[.int .i64 k,.int .i64 a,.int .i64 d,.int .i64 n,.string s][j]? =some u→(wA.alloc (.cells #[.int .i64 k,.int .i64 a,.int .i64 d,.int .i64 n,.string s] 50)).drew.cell? ((⟨wA.heap.size,0,none⟩:Addr).add j)=some u):=Lib.hid (fun j u hj=>by
  have h1:=(Blk.new wA 50 #[.int .i64 k,.int .i64 a,.int .i64 d,.int .i64 n,.string s]).drew.cell j
  have h2:(⟨wA.heap.size,0,none⟩:Addr).add j=⟨wA.heap.size,j,none⟩:=by
   unfold Addr.add
   split
   ·rename_i h;subst h;rfl
   ·simp
  rw [h2,h1,←hj]
  simp)
 have HRO:Hid ((wA.alloc (.cells #[.int .i64 k,.int .i64 a,.int .i64 d,.int .i64 n,.string s] 50)).drew.ownsRow B 50 5 (.slice A ns.length c) ns.length (ndsC ns)):=Lib.hid (ownsRow_below HGA.out.row (fun k _ hk=>Below.heap_alloc wA _ k hk))
 have HN1:Hid (ns.length+1≤maxLen):=Lib.hid (by unfold maxLen;omega)
 have HN2:Hid ((ns.length+1)*48≤140737488355328):=Lib.hid (by omega)
 have HN3:Hid (B≤(wA.alloc (.cells #[.int .i64 k,.int .i64 a,.int .i64 d,.int .i64 n,.string s] 50)).drew.heap.size):=Lib.hid (by simp only [World.size_drew,World.size_alloc];omega)
 go_region_law (refine step_append_lies _ rfl (.tmp 39) (.tmp 41) 35 rfl B 50 i0 _ 5 48 Tryz.underlying35 hi hz0 hz1 hz2 rfl (by decide) _ ns.length (ndsC ns) rfl HRO.out ⟨wA.heap.size,0,none⟩ 1 1 [.int .i64 k,.int .i64 a,.int .i64 d,.int .i64 n,.string s] rfl rfl HC0.out (by simp [Value.oneCell']) (by decide) HN1.out HN2.out HN3.out _ rfl ?_;intro g' c' w' hown hgr hat hlt;have HOW:=Lib.hid hown;have HM2:=Lib.hid (HMID.out w' hgr);have HAT:=Lib.hid hat;clear hown hgr hat;obtain ⟨m0,m1,g0,g1,hgz2⟩:=HM2.out.1.twoG)
 all_goals
  have hne1:g'≠g:=by
   rcases HAT.out with h4|h4
   ·exact fun e=>HA2.out (h4.trans (congrArg some e))
   ·simp only [World.size_drew,World.size_alloc] at h4
    omega
  have hne2:g'≠b:=by
   rcases HAT.out with h4|h4
   ·exact fun e=>HA1.out (h4.trans (congrArg some e))
   ·have:=HGA.out.map.lt
    simp only [World.size_drew,World.size_alloc] at h4
    omega
  have hf1:=HM2.out.1.set_ 0 (.slice (some ⟨g',0,none⟩) (ns.length+1) c')
  have hN:NMap (w'.setCell ⟨g,0,none⟩ (.slice (some ⟨g',0,none⟩) (ns.length+1) c')) b ns:=HM2.out.2.1.kept (Below.heap_setCell _ _ _ b (fun e=>hgb e.symm))
  have hbx:=HM2.out.2.2.1.far (p:=⟨g,0,none⟩) (by show w.heap.size≠g;omega) (.slice (some ⟨g',0,none⟩) (ns.length+1) c')
  have hrow:=ownsRow_at (w':=w'.setCell ⟨g,0,none⟩ (.slice (some ⟨g',0,none⟩) (ns.length+1) c')) HOW.out (fun k hk=>Below.heap_setCell _ _ _ k (by
   simp only [Value.ownBlock,Option.some.injEq] at hk
   show k≠g
   omega))
  have hbl:∀k,k<w.heap.size→k≠g→(Value.slice A ns.length c).ownBlock≠some k→(w'.setCell ⟨g,0,none⟩ (.slice (some ⟨g',0,none⟩) (ns.length+1) c')).heap[k]? =w.heap[k]? :=fun k h1 h2 h3=>
   (Below.heap_setCell _ _ _ k h2).trans ((HM2.out.2.2.2.block k (by omega) (fun e=>h3 e.symm)).trans (HXA.out.block k h1))
  have hos:(w'.setCell ⟨g,0,none⟩ (.slice (some ⟨g',0,none⟩) (ns.length+1) c')).os=w.os∧(w'.setCell ⟨g,0,none⟩ (.slice (some ⟨g',0,none⟩) (ns.length+1) c')).tape=w.tape∧(w'.setCell ⟨g,0,none⟩ (.slice (some ⟨g',0,none⟩) (ns.length+1) c')).output=w.output∧wA.heap.size≤(w'.setCell ⟨g,0,none⟩ (.slice (some ⟨g',0,none⟩) (ns.length+1) c')).heap.size:=by
   have h2:=Below.setCell (Below.refl g w') (p:=⟨g,0,none⟩) (Nat.le_refl _) (.slice (some ⟨g',0,none⟩) (ns.length+1) c')
   have h4:=HM2.out.2.2.2
   exact ⟨h2.os.trans (h4.os.trans HXA.out.os),h2.tape.trans (h4.tape.trans HXA.out.tape),h2.output.trans (h4.output.trans HXA.out.output),Nat.le_trans h4.size h2.size⟩
  generalize (w'.setCell ⟨g,0,none⟩ (.slice (some ⟨g',0,none⟩) (ns.length+1) c'))=wB at *
  have HF1:=Lib.hid hf1
  have HROW:=Lib.hid hrow
  have HBL:=Lib.hid hbl
  have HOS:=Lib.hid hos
  clear q0 q1 q2 q3 q4 k0 k1 f0 f1 m0 m1 g0 g1 hrow hbl hos
  obtain ⟨q0,q1,q2,q3,q4⟩:=hbx.five
  obtain ⟨k0,k1,f0,f1,hgz3⟩:=Blk.twoG hf1
  obtain ⟨wC,hrun,hnC,hgC⟩:=HST.out wB.drew hN
  have HNC:=Lib.hid hnC
  have HGC:=Lib.hid hgC
  have HNB:=Lib.hid hN
  clear hf1 hN hbx hnC hgC
  go_wp2_with fail
  go_region
  go_wp2_with fail
  go_ret2
  have hgC:=HGC.out
  have hzC:wB.heap.size≤wC.heap.size:=hgC.size
  have hzB:=HOS.out.2.2.2
  refine ⟨(.slice (some ⟨g',0,none⟩) (ns.length+1) c'),by rw [HP1.out];rfl,⟨hgC.os.trans HOS.out.1,hgC.tape.trans HOS.out.2.1,hgC.output.trans HOS.out.2.2.1,by omega,fun k h1 h2 h3 h4=> ?_,fun j hj=> ?_⟩,?_⟩
  ·exact (hgC.block k (show k<wB.heap.size by omega) (fun e=>h3 (Option.some.inj e))).trans (HBL.out k h1 h2 h4)
  ·have h5:g'=j:=Option.some.inj hj
   rcases HAT.out with h4|h4
   ·exact .inl (h4.trans (congrArg some h5))
   ·simp only [World.size_drew,World.size_alloc] at h4
    exact .inr (by omega)
  ·rw [HP2.out]
   refine ⟨(hgC.block g (show g<wB.heap.size by omega) (fun e=>hgb (Option.some.inj e))).trans HF1.out,?_,HNC.out,hlo,hlo2,HOK.out,by simp only [List.length_append,List.length_singleton];omega,HG.out.low⟩
   unfold OwnNd
   rw [ndsC_append,ndsC_one,HTC.out,List.length_append,List.length_singleton]
   refine ownsRow_at HROW.out (fun k hk=>hgC.block k (ownsRow_ltG HROW.out hk) (fun e=> ?_))
   have h5:g'=k:=Option.some.inj hk
   have h6:k=b:=Option.some.inj e
   exact hne2 (h5.trans h6)
theorem gput_any (B g b:Nat) (w:World) (ns:List Nd) (nv:Value) (h:GrP B g b w ns nv) (x:Nd) (hx:NdOk ns.length x) (hm:MaxV w) (hroom:ns.length<4096):
  Calls Tryz.prog 26 #[.pointer (some ⟨g,0,none⟩),ndV x] w (PutPost B g b ns nv x w):=by
 by_cases hin:x∈ns
 ·exact put_old B g b w ns nv h x hx hm hin
 ·exact put_new B g b w ns nv h x hx hm hin hroom
end Big
end Go.Proofs.YtaccjdbbkmhanaaGreatDoor
namespace Go.Proofs.YtaccjdbbkmhanaaGreatDoor
namespace Big
open Go.RowKit
def cellsN (l:List Nat):Array Value:=(l.map din).toArray
theorem set_cellsN (l:List Nat) (i x:Nat):(cellsN l).setIfInBounds i (.int .i64 (x:Int))=cellsN (l.set i x):=by
 apply Array.ext'
 simp [cellsN,List.map_set,din]
theorem get_cellsN (l:List Nat) (i:Nat) (h:i<l.length):(cellsN l)[i]? =some (.int .i64 ((l.getD i 0:Nat):Int)):=by
 unfold cellsN
 rw [List.getElem?_toArray,map_din_get h,List.getD_eq_getElem?_getD,List.getElem?_eq_getElem h]
 rfl
theorem run_makeN (n:Nat) (hn:n≤1000000) (W:World):(Instr.makeSlice 22 (.int .i64 (n:Int)) (.int .i64 (n:Int))).run Tryz.prog W=
  .ok (.slice (some ⟨W.heap.size,0,none⟩) n n) (W.alloc (.cells (cellsN (List.replicate n 0)) 3)):=by
 obtain ⟨i0,hi,hz0,hz1,hz2⟩:=info_parts info_int
 have hr:=run_make (P:=Tryz.prog) W 22 3 i0 _ Tryz.underlying22 hi hz0 .i64 .i64 (n:Int) (n:Int) (by omega) (Int.le_refl _) (by rw [hz2];omega) (by omega)
 have hm:madeCells (Value.cells (.int .i64 0)) (n*1)=cellsN (List.replicate n 0):=by
  apply Array.ext'
  apply List.ext_getElem?
  intro i
  simp only [madeCells,cellsN,Value.cells]
  rw [Array.getElem?_toList,Array.getElem?_map,List.getElem?_map,List.getElem?_replicate]
  rcases Nat.lt_or_ge i n with h|h
  ·rw [Array.getElem?_range,if_pos (by omega),if_pos h]
   simp [din,Nat.mod_one]
  ·rw [Array.getElem?_range,if_neg (by omega),if_neg (by omega)]
   rfl
 rw [hz1,Int.toNat_natCast,hm] at hr
 exact hr
def NdFar (g b:Nat) (nv:Value) (w:World) (v:Value) (l:List Nd):Prop:=
 ∃A c,v= .slice A l.length c∧(0<l.length→∃q o,A=some ⟨q,o,none⟩∧q<w.heap.size∧q≠g∧q≠b∧nv.ownBlock≠some q∧∀i (hi:i<l.length),NdAt w q (o+i*5) l[i])
theorem NdFar.read {g b:Nat} {nv:Value} {w:World} {v:Value} {l:List Nd} (h:NdFar g b nv w v l):RNd w v l:=by
 obtain ⟨A,c,rfl,h1⟩:=h
 refine ⟨A,c,rfl,fun hp=> ?_⟩
 obtain ⟨q,o,rfl,hq,_,_,_,hc⟩:=h1 hp
 exact ⟨q,o,rfl,hq,hc⟩
theorem NdFar.keep {g b:Nat} {nv nv':Value} {w w':World} {v:Value} {l:List Nd} (h:NdFar g b nv w v l) (hk:KG g b nv nv' w w'):NdFar g b nv' w' v l:=by
 obtain ⟨A,c,rfl,h1⟩:=h
 refine ⟨A,c,rfl,fun hp=> ?_⟩
 obtain ⟨q,o,rfl,hq,h2,h3,h4,hc⟩:=h1 hp
 have hb:=hk.block q hq h2 h3 h4
 have hk2:∀o,w'.cell? ⟨q,o,none⟩=w.cell? ⟨q,o,none⟩:=fun o=>World.cell?_of_block (a:=⟨q,o,none⟩) hb
 refine ⟨q,o,rfl,Nat.lt_of_lt_of_le hq hk.size,h2,h3,fun e=> ?_,fun i hi=> ?_⟩
 ·rcases hk.move q e with h5|h5
  ·exact h4 h5
  ·omega
 ·obtain ⟨q0,q1,q2,q3,q4⟩:=hc i hi
  exact ⟨(hk2 _).trans q0,(hk2 _).trans q1,(hk2 _).trans q2,(hk2 _).trans q3,(hk2 _).trans q4⟩
theorem NdFar.old {g b:Nat} {nv:Value} {w0 w:World} {v:Value} {l:List Nd} (h:RNd w0 v l) (hx:Ext w0 w) (hg:w0.heap.size≤g) (hb:w0.heap.size≤b) (hr:∀j,nv.ownBlock=some j→w0.heap.size≤j):NdFar g b nv w v l:=by
 obtain ⟨A,c,rfl,h1⟩:=h
 refine ⟨A,c,rfl,fun hp=> ?_⟩
 obtain ⟨q,o,rfl,hq,hc⟩:=h1 hp
 exact ⟨q,o,rfl,Nat.lt_of_lt_of_le hq hx.size,by omega,by omega,fun e=>by have:=hr q e;omega,fun i hi=>(hc i hi).ext hx hq⟩
theorem NdFar.new {B g b:Nat} {nv:Value} {w0 w:World} {v:Value} {l ns:List Nd} (h:OwnNd w0.heap.size w v l) (hg:GrP B g b w0 ns nv):NdFar g b nv w v l:=by
 obtain ⟨A,c,hv,h1⟩:=h.read
 refine ⟨A,c,hv,fun hp=> ?_⟩
 obtain ⟨q,o,rfl,hq,hc⟩:=h1 hp
 have hge:=ownsRow_block h q (by rw [hv];rfl)
 have h2:=hg.lt
 have h3:=hg.map.lt
 exact ⟨q,o,rfl,hq,by omega,by omega,fun e=>by have:=ownsRow_ltG hg.row e;omega,hc⟩
theorem NdFar.none {B g b:Nat} {w:World} {v:Value} {l ns:List Nd} (h:RNd w v l) (hg:GrP B g b w ns (.slice none 0 0)):NdFar g b (.slice none 0 0) w v l:=by
 obtain ⟨A,c,rfl,h1⟩:=h
 refine ⟨A,c,rfl,fun hp=> ?_⟩
 obtain ⟨q,o,rfl,hq,hc⟩:=h1 hp
 have h0:=(hc 0 hp).1
 refine ⟨q,o,rfl,hq,?_,?_,fun e=>(by cases e),hc⟩
 ·rintro rfl
  rw [hg.blk.cell] at h0
  rcases o with _|_|o
  ·cases h0
  ·cases h0
  ·simp at h0
 ·rintro rfl
  obtain ⟨es,clock,hb,_⟩:=hg.map
  simp [World.cell?,hb] at h0
def AddInv (B g b m:Nat) (ns:List Nd) (nv:Value) (e:Ex) (v:Value) (w:World) (i:Nat) (wr:World):Prop:=
 ∃nv',KG g b nv nv' w wr∧GrP B g b wr (foldG ([],ns) ((flat 0 e).take i)).2 nv'∧Blk wr m 3 (cellsN ((foldG ([],ns) ((flat 0 e).take i)).1++List.replicate (e.size-i) 0))∧NdFar g b nv' wr v (flat 0 e)∧
  m≠g∧m≠b∧nv'.ownBlock≠some m∧w.heap.size≤m∧MaxV wr∧v.ownBlock≠some m
theorem AddInv.start {B g b:Nat} {ns:List Nd} {nv:Value} {e:Ex} {v:Value} {w w1:World} (h:GrP B g b w ns nv) (hv:NdFar g b nv w v (flat 0 e)) (hx:Ext w w1) (hm:MaxV w):
  AddInv B g b w1.heap.size ns nv e v w 0 (w1.alloc (.cells (cellsN (List.replicate e.size 0)) 3)):=by
 have hx2:=hx.alloc (.cells (cellsN (List.replicate e.size 0)) 3)
 have hg:=h.lt
 have hb:=h.map.lt
 have hs:=hx.size
 refine ⟨nv,KG.of_ext hx2,?_,?_,hv.keep (KG.of_ext hx2),by omega,by omega,fun e=> ?_,hs,hm.ext hx2,?_⟩
 ·rw [List.take_zero]
  exact h.keep hx2
 ·rw [List.take_zero]
  show Blk _ _ _ (cellsN ([]++List.replicate (e.size-0) 0))
  rw [List.nil_append,Nat.sub_zero]
  exact Blk.new _ _ _
 ·have:=ownsRow_ltG h.row e
  omega
 ·obtain ⟨A,c,rfl,h1⟩:=hv
  obtain ⟨q,o,rfl,hq,_⟩:=h1 (by rw [flat_len];exact e.size_pos)
  intro he
  have h2:q=w1.heap.size:=Option.some.inj he
  omega
theorem AddInv.next {B g b m:Nat} {ns:List Nd} {nv nv1 nv2:Value} {e:Ex} {v:Value} {w wr w1 w2:World} {i:Nat} (hg:e.Good) (hs:SoundG ns) (hi:i<e.size) (hl:i<(flat 0 e).length)
  (h1:KG g b nv nv1 w wr) (h4:NdFar g b nv1 wr v (flat 0 e)) (hb:Blk wr m 3 (cellsN ((foldG ([],ns) ((flat 0 e).take i)).1++List.replicate (e.size-i) 0)))
  (m1:m≠g) (m2:m≠b) (m3:nv1.ownBlock≠some m) (m4:w.heap.size≤m) (m5:v.ownBlock≠some m) (hm:MaxV wr) (hx:Ext wr w1) (hk:KG g b nv1 nv2 w1 w2)
  (hB:B≤w.heap.size) (hp:GrP B g b w2 (putG (foldG ([],ns) ((flat 0 e).take i)).2 (liftG (foldG ([],ns) ((flat 0 e).take i)).1 (flat 0 e)[i])).2 nv2) (hp0:GrP B g b w1 (foldG ([],ns) ((flat 0 e).take i)).2 nv1):
  AddInv B g b m ns nv e v w (i+1) (w2.setCell ⟨m,i,none⟩ (.int .i64 ((putG (foldG ([],ns) ((flat 0 e).take i)).2 (liftG (foldG ([],ns) ((flat 0 e).take i)).1 (flat 0 e)[i])).1:Int))):=by
 have hfg:=FG.at hs hg i (Nat.le_of_lt hi)
 have hmw:m<w1.heap.size:=Nat.lt_of_lt_of_le hb.lt hx.size
 have k1:=(KG.of_ext hx).trans hk
 have hb2:Blk w2 m 3 _:=k1.blk hb m1 m2 m3
 have m3':nv2.ownBlock≠some m:=fun e=>by
  rcases k1.move m e with h5|h5
  ·exact m3 h5
  ·have:=hb.lt;omega
 have hpos:∀u:Value,KG g b nv nv2 w (w2.setCell ⟨m,i,none⟩ u):=fun u=>by
  have k2:=h1.trans k1
  have hs2:(w2.setCell ⟨m,i,none⟩ u).heap.size=w2.heap.size:=by simp
  have hbe:=Below.setCell (Below.refl m w2) (p:=⟨m,i,none⟩) (Nat.le_refl _) u
  exact ⟨hbe.os.trans k2.os,hbe.tape.trans k2.tape,hbe.output.trans k2.output,by rw [hs2];exact k2.size,fun k p1 p2 p3 p4=>(Below.heap_setCell _ _ _ k (by show k≠m;omega)).trans (k2.block k p1 p2 p3 p4),k2.move⟩
 have hst:foldG ([],ns) ((flat 0 e).take (i+1))=stepG (foldG ([],ns) ((flat 0 e).take i)) (flat 0 e)[i]:=foldG_take _ _ _ hl
 have hmv:MaxV w2:=(hm.ext hx).below (hk.below hp0) hp0.low
 refine ⟨nv2,hpos _,?_,?_,?_,m1,m2,m3',m4,hmv.below (Below.setCell (Below.refl B w2) (p:=⟨m,i,none⟩) (by show B≤m;omega) _) hp.low,m5⟩
 ·rw [hst,stepG_eq]
  refine ⟨hp.blk.far (p:=⟨m,i,none⟩) (fun e=>m1 e.symm) _,?_,hp.map.kept (Below.heap_setCell _ _ _ b (fun e=>m2 e.symm)),hp.lo,hp.lo2,hp.ok,hp.few,hp.low⟩
  exact ownsRow_at hp.row (fun k hk=>Below.heap_setCell _ _ _ k (fun e=>m3' (by rw [hk];exact congrArg some e)))
 ·have h6:=hb2.set_ i (.int .i64 ((putG (foldG ([],ns) ((flat 0 e).take i)).2 (liftG (foldG ([],ns) ((flat 0 e).take i)).1 (flat 0 e)[i])).1:Int))
  rw [set_cellsN] at h6
  rw [hst,stepG_eq]
  have hl2:=hfg.len
  have h7:((foldG ([],ns) ((flat 0 e).take i)).1++List.replicate (e.size-i) 0).set i (putG (foldG ([],ns) ((flat 0 e).take i)).2 (liftG (foldG ([],ns) ((flat 0 e).take i)).1 (flat 0 e)[i])).1=
    ((foldG ([],ns) ((flat 0 e).take i)).1++[(putG (foldG ([],ns) ((flat 0 e).take i)).2 (liftG (foldG ([],ns) ((flat 0 e).take i)).1 (flat 0 e)[i])).1])++List.replicate (e.size-(i+1)) 0:=by
   rw [List.set_append_right _ _ (by omega),hl2,Nat.sub_self,show e.size-i=(e.size-(i+1))+1 by omega,List.replicate_succ,List.set_cons_zero,List.append_assoc]
   rfl
  rw [h7] at h6
  exact h6
 ·have h8:=(h4.keep k1)
  obtain ⟨A,c,rfl,h9⟩:=h8
  refine ⟨A,c,rfl,fun hp=> ?_⟩
  obtain ⟨q,o,rfl,hq,p2,p3,p4,hc⟩:=h9 hp
  have hqm:q≠m:=fun e=>m5 (congrArg some e)
  have hk2:∀o u,(w2.setCell ⟨m,i,none⟩ u).cell? ⟨q,o,none⟩=w2.cell? ⟨q,o,none⟩:=fun o u=>World.cell?_of_block (a:=⟨q,o,none⟩) (Below.heap_setCell _ _ _ q hqm)
  refine ⟨q,o,rfl,by simpa using hq,p2,p3,p4,fun j hj=> ?_⟩
  obtain ⟨q0,q1,q2,q3,q4⟩:=hc j hj
  exact ⟨(hk2 _ _).trans q0,(hk2 _ _).trans q1,(hk2 _ _).trans q2,(hk2 _ _).trans q3,(hk2 _ _).trans q4⟩
end Big
end Go.Proofs.YtaccjdbbkmhanaaGreatDoor
