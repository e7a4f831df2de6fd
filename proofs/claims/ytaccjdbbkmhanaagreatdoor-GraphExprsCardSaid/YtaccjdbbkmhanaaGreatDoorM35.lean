import Derived.Test.YtaccjdbbkmhanaaGreatDoorM34
import Derived.Test.YtaccjdbbkmhanaaGreatDoorShelf5
import Derived.Maps.OwnSet
import Derived.Sort.KeysCollected
namespace Go.Proofs.YtaccjdbbkmhanaaGreatDoor
namespace Big
open Go.RowKit
def depthV (ns:List Nd) (i:Int):Int:=if 0≤i∧i<(ns.length:Int) then (((deepG ns).getD i.toNat 0:Nat):Int) else 0
theorem deepG_take (ns:List Nd) {i:Nat} (h:i<ns.length):(deepG (ns.take (i+1))).getD i 0=(deepG ns).getD i 0:=by
 have hp:deepG (ns.take (i+1)) <+: deepG ns:=by
  have:=allN_pre (f:=1) (g:=fun a=>max 1 (a+1)) (h:=fun a b=>max (max 1 (a+1)) (b+1)) (ns.take (i+1)) (ns.drop (i+1))
  rw [List.take_append_drop] at this
  exact this
 obtain ⟨r,hr⟩:=hp
 have hl:=deepG_len (ns.take (i+1))
 rw [List.length_take,Nat.min_eq_left (by omega)] at hl
 rw [←hr,List.getD_eq_getElem?_getD,List.getD_eq_getElem?_getD,List.getElem?_append_left (by omega)]
theorem bigG_take (ns:List Nd) {i:Nat} (h:i<ns.length):(bigG (ns.take (i+1))).getD i 0=(bigG ns).getD i 0:=by
 have hp:bigG (ns.take (i+1)) <+: bigG ns:=by
  have:=allN_pre (f:=1) (g:=fun a=>min (1+a) 201) (h:=fun a b=>min (min (1+a) 201+b) 201) (ns.take (i+1)) (ns.drop (i+1))
  rw [List.take_append_drop] at this
  exact this
 obtain ⟨r,hr⟩:=hp
 have hl:=bigG_len (ns.take (i+1))
 rw [List.length_take,Nat.min_eq_left (by omega)] at hl
 rw [←hr,List.getD_eq_getElem?_getD,List.getD_eq_getElem?_getD,List.getElem?_append_left (by omega)]
theorem depthV_in {ns:List Nd} {i:Nat} (h:i<ns.length):depthV ns (i:Int)=(((deepG ns).getD i 0:Nat):Int):=by
 unfold depthV
 rw [if_pos ⟨by omega,by omega⟩,Int.toNat_natCast]
theorem depthV_out {ns:List Nd} {i:Int} (h:i<0∨(ns.length:Int)≤i):depthV ns i=0:=by
 unfold depthV
 rw [if_neg (by omega)]
set_option maxHeartbeats 4000000 in
set_option maxRecDepth 100000 in
theorem gdepth_any (B g b:Nat) (w:World) (ns:List Nd) (nv:Value) (h:GrP B g b w ns nv) (i:Int):
  Calls Tryz.prog 40 #[.pointer (some ⟨g,0,none⟩),.int .i64 i] w fun e w'=>e= .returned (.int .i64 (depthV ns i))∧Ext w w':=by
 have hfew:=h.few
 have HSZ:=Lib.hid (fun (k:Nat) (hk:k<ns.length)=>gsizes_any B g b w ns nv h k hk)
 have HDI:=Lib.hid (fun (k:Nat) (hk:k<ns.length)=>depthV_in hk)
 have HDT:=Lib.hid (fun (k:Nat) (hk:k<ns.length)=>deepG_take ns hk)
 have HDO:=Lib.hid (fun (h:i<0∨(ns.length:Int)≤i)=>depthV_out h)
 have HDL:=Lib.hid (fun k=>deepG_len (ns.take k))
 obtain ⟨k0,k1,f0,f1,hgz⟩:=h.blk.twoG
 obtain ⟨A,c,rfl⟩:=h.row.shape
 clear h
 by_cases h0:i<0
 ·have hd:decide (i<0)=true:=decide_eq_true h0
  rw [HDO.out (.inl h0)]
  clear HSZ HDI HDT HDO HDL
  go_enter Tryz.func40,Tryz.ntmps40
  go_wp2_with fail
  go_ret
  exact ⟨rfl,Ext.refl w⟩
 have hd:decide (i<0)=false:=decide_eq_false h0
 by_cases h1:(ns.length:Int)≤i
 ·have hd2:decide (i≥(ns.length:Int))=true:=decide_eq_true h1
  have hd3:decide ((ns.length:Int)≤i)=true:=decide_eq_true h1
  rw [HDO.out (.inr h1)]
  clear HSZ HDI HDT HDO HDL
  go_enter Tryz.func40,Tryz.ntmps40
  go_wp2_with fail
  go_ret
  exact ⟨rfl,Ext.refl w⟩
 have hd2:decide (i≥(ns.length:Int))=false:=decide_eq_false h1
 have hd3:decide ((ns.length:Int)≤i)=false:=decide_eq_false h1
 obtain ⟨k,rfl⟩:∃k:Nat,(k:Int)=i:=⟨i.toNat,by omega⟩
 have hk:k<ns.length:=by omega
 have HS:=Lib.hid (HSZ.out k hk)
 rw [HDI.out k hk]
 have HT:=Lib.hid (HDT.out k hk)
 have HL:=HDL.out (k+1)
 rw [List.length_take,Nat.min_eq_left (by omega)] at HL
 clear HSZ HDI HDT HDO HDL h0 h1
 generalize (deepG ns).getD k 0=dd at *
 go_enter Tryz.func40,Tryz.ntmps40
 go_wp2_with fail
 refine HS.out.mono ?_
 rintro e w1 ⟨bs,bd,rfl,_,hb,hx⟩
 have z:=hb.cell k
 rw [get_cellsN _ _ (by omega),HT.out] at z
 have HX:=Lib.hid hx
 have hk0:(0:Int)≤(k:Int):=by omega
 have hk1:(k:Int)<((k+1:Nat):Int):=by omega
 have hk2:(k:Int)<(k:Int)+1:=by omega
 have hk3:(k:Int)≤(k:Int):=by omega
 clear hb hx HS
 go_wp2_with fail
 go_ret
 exact ⟨rfl,HX.out⟩
theorem nd_set5 {w:World} {g:Nat} {t:TypeId} {c0 c1 c2 c3 c4:Value} (h:Blk w g t #[c0,c1,c2,c3,c4]) (x0 x1 x2 x3 x4:Value):
  (w.setCell ⟨g,0,none⟩ x0).cell? ⟨g,0,none⟩=some x0∧((w.setCell ⟨g,0,none⟩ x0).setCell ⟨g,1,none⟩ x1).cell? ⟨g,1,none⟩=some x1∧(((w.setCell ⟨g,0,none⟩ x0).setCell ⟨g,1,none⟩ x1).setCell ⟨g,2,none⟩ x2).cell? ⟨g,2,none⟩=some x2∧
  ((((w.setCell ⟨g,0,none⟩ x0).setCell ⟨g,1,none⟩ x1).setCell ⟨g,2,none⟩ x2).setCell ⟨g,3,none⟩ x3).cell? ⟨g,3,none⟩=some x3∧(((((w.setCell ⟨g,0,none⟩ x0).setCell ⟨g,1,none⟩ x1).setCell ⟨g,2,none⟩ x2).setCell ⟨g,3,none⟩ x3).setCell ⟨g,4,none⟩ x4).cell? ⟨g,4,none⟩=some x4:=by
 have h1:=h.set_ 0 x0
 have h2:=Blk.set_ h1 1 x1
 have h3:=Blk.set_ h2 2 x2
 have h4:=Blk.set_ h3 3 x3
 have h5:=Blk.set_ h4 4 x4
 exact ⟨h1.cell 0,h2.cell 1,h3.cell 2,h4.cell 3,h5.cell 4⟩
def nodeV (ns:List Nd) (i:Int):Value:=if 0≤i∧i<(ns.length:Int) then .tuple #[ndV (ns.getD i.toNat ⟨0,0,0,0,[]⟩),.bool true] else .tuple #[ndV ⟨0,0,0,0,[]⟩,.bool false]
theorem nodeV_in {ns:List Nd} {i:Nat} (h:i<ns.length):nodeV ns (i:Int)= .tuple #[ndV ns[i],.bool true]:=by
 unfold nodeV
 rw [if_pos ⟨by omega,by omega⟩,Int.toNat_natCast,List.getD_eq_getElem?_getD,List.getElem?_eq_getElem h]
 rfl
theorem nodeV_out {ns:List Nd} {i:Int} (h:i<0∨(ns.length:Int)≤i):nodeV ns i= .tuple #[ndV ⟨0,0,0,0,[]⟩,.bool false]:=by
 unfold nodeV
 rw [if_neg (by omega)]
set_option maxHeartbeats 4000000 in
set_option maxRecDepth 100000 in
theorem gnode_any (B g b:Nat) (w:World) (ns:List Nd) (nv:Value) (h:GrP B g b w ns nv) (i:Int):
  Calls Tryz.prog 38 #[.pointer (some ⟨g,0,none⟩),.int .i64 i] w fun e w'=>e= .returned (nodeV ns i)∧Ext w w':=by
 have HDI:=Lib.hid (fun (k:Nat) (hk:k<ns.length)=>nodeV_in hk)
 have HDO:=Lib.hid (fun (h:i<0∨(ns.length:Int)≤i)=>nodeV_out h)
 have hE:ndV ⟨0,0,0,0,[]⟩= .agg #[.int .i64 0,.int .i64 0,.int .i64 0,.int .i64 0,.string ⟨#[]⟩]:=rfl
 have HB1:=Lib.hid (Blk.new w 50 #[.int .i64 0,.int .i64 0,.int .i64 0,.int .i64 0,.string ⟨#[]⟩])
 have HX1:=Lib.hid ((Ext.refl w).alloc (.cells #[.int .i64 0,.int .i64 0,.int .i64 0,.int .i64 0,.string ⟨#[]⟩] 50))
 obtain ⟨w1,hw1⟩:∃w1,w1=w.alloc (.cells #[.int .i64 0,.int .i64 0,.int .i64 0,.int .i64 0,.string ⟨#[]⟩] 50):=⟨_,rfl⟩
 rw [←hw1] at HB1 HX1
 obtain ⟨q0,q1,q2,q3,q4⟩:=HB1.out.five
 have f0:=HB1.out.frozen 0
 have f1:=HB1.out.frozen 1
 have f2:=HB1.out.frozen 2
 have f3:=HB1.out.frozen 3
 have f4:=HB1.out.frozen 4
 obtain ⟨k0,k1,_,_,hgz⟩:=(h.keep HX1.out).blk.twoG
 obtain ⟨A,c,hrv,hcl⟩:=h.row.read
 subst hrv
 have HCL:=Lib.hid hcl
 clear h hcl
 have HS5:=Lib.hid (fun x0 x1 x2 x3 x4=>nd_set5 HB1.out x0 x1 x2 x3 x4)
 by_cases h0:i<0
 ·have hd:decide (i<0)=true:=decide_eq_true h0
  rw [HDO.out (.inl h0),hE]
  clear HDI HDO HCL h0
  go_enter Tryz.func38,Tryz.ntmps38
  go_upto_region 1 with fail
  rw [←hw1]
  clear hw1
  go_wp2_with fail
  obtain ⟨r0,r1,r2,r3,r4⟩:=HS5.out (.int .i64 0) (.int .i64 0) (.int .i64 0) (.int .i64 0) (.string ⟨#[]⟩)
  refine bodyPost_ret (v:= .tuple #[.agg #[.int .i64 0,.int .i64 0,.int .i64 0,.int .i64 0,.string ⟨#[]⟩],.bool false]) (by simp [results,Tryz.results38,go_sem,r0,r1,r2,r3,r4]) rfl ⟨rfl,?_⟩
  exact ((((HX1.out.setCell (p:=⟨w.heap.size,0,none⟩) (Nat.le_refl _) _).setCell (p:=⟨w.heap.size,1,none⟩) (Nat.le_refl _) _).setCell (p:=⟨w.heap.size,2,none⟩) (Nat.le_refl _) _).setCell (p:=⟨w.heap.size,3,none⟩) (Nat.le_refl _) _).setCell (p:=⟨w.heap.size,4,none⟩) (Nat.le_refl _) _
 have hd:decide (i<0)=false:=decide_eq_false h0
 by_cases h1:(ns.length:Int)≤i
 ·have hd2:decide (i≥(ns.length:Int))=true:=decide_eq_true h1
  have hd3:decide ((ns.length:Int)≤i)=true:=decide_eq_true h1
  rw [HDO.out (.inr h1),hE]
  clear HDI HDO HCL h0
  go_enter Tryz.func38,Tryz.ntmps38
  go_upto_region 1 with fail
  rw [←hw1]
  clear hw1
  go_wp2_with fail
  obtain ⟨r0,r1,r2,r3,r4⟩:=HS5.out (.int .i64 0) (.int .i64 0) (.int .i64 0) (.int .i64 0) (.string ⟨#[]⟩)
  refine bodyPost_ret (v:= .tuple #[.agg #[.int .i64 0,.int .i64 0,.int .i64 0,.int .i64 0,.string ⟨#[]⟩],.bool false]) (by simp [results,Tryz.results38,go_sem,r0,r1,r2,r3,r4]) rfl ⟨rfl,?_⟩
  exact ((((HX1.out.setCell (p:=⟨w.heap.size,0,none⟩) (Nat.le_refl _) _).setCell (p:=⟨w.heap.size,1,none⟩) (Nat.le_refl _) _).setCell (p:=⟨w.heap.size,2,none⟩) (Nat.le_refl _) _).setCell (p:=⟨w.heap.size,3,none⟩) (Nat.le_refl _) _).setCell (p:=⟨w.heap.size,4,none⟩) (Nat.le_refl _) _
 have hd2:decide (i≥(ns.length:Int))=false:=decide_eq_false h1
 have hd3:decide ((ns.length:Int)≤i)=false:=decide_eq_false h1
 obtain ⟨k,rfl⟩:∃k:Nat,(k:Int)=i:=⟨i.toNat,by omega⟩
 have hk:k<ns.length:=by omega
 rw [HDI.out k hk]
 obtain ⟨gb,o,rfl,hgw,hc⟩:=HCL.out (by omega)
 obtain ⟨p0,p1,p2,p3,p4⟩:=hc k hk
 rw [←HX1.out.cell hgw] at p0 p1 p2 p3 p4
 have hk0:(0:Int)≤(k:Int):=by omega
 have hk1:(k:Int)<(ns.length:Int):=by omega
 have hgb:gb<w1.heap.size:=Nat.lt_of_lt_of_le hgw HX1.out.size
 generalize ns[k]=x at *
 clear hc HDI HDO HCL hk h0 h1
 obtain ⟨y0,y1,y2,y3,y4⟩:=x
 simp only at p0 p1 p2 p3 p4
 simp only [ndV]
 obtain ⟨s,hs⟩:∃s:ByteArray,s=⟨(y4:List UInt8).toArray⟩:=⟨_,rfl⟩
 have hst:str y4= .string s:=by rw [hs];rfl
 rw [hst] at p4 ⊢
 clear hs hst
 go_enter Tryz.func38,Tryz.ntmps38
 go_upto_region 1 with fail
 rw [←hw1]
 clear hw1
 go_wp2_with fail
 obtain ⟨r0,r1,r2,r3,r4⟩:=HS5.out (.int .i64 y0) (.int .i64 y1) (.int .i64 y2) (.int .i64 y3) (.string s)
 refine bodyPost_ret (v:= .tuple #[.agg #[.int .i64 y0,.int .i64 y1,.int .i64 y2,.int .i64 y3,.string s],.bool true]) (by simp [results,Tryz.results38,go_sem,r0,r1,r2,r3,r4]) rfl ⟨rfl,?_⟩
 exact ((((HX1.out.setCell (p:=⟨w.heap.size,0,none⟩) (Nat.le_refl _) _).setCell (p:=⟨w.heap.size,1,none⟩) (Nat.le_refl _) _).setCell (p:=⟨w.heap.size,2,none⟩) (Nat.le_refl _) _).setCell (p:=⟨w.heap.size,3,none⟩) (Nat.le_refl _) _).setCell (p:=⟨w.heap.size,4,none⟩) (Nat.le_refl _) _
end Big
end Go.Proofs.YtaccjdbbkmhanaaGreatDoor
namespace Go.Proofs.YtaccjdbbkmhanaaGreatDoor
namespace Big
open Go.RowKit
set_option maxHeartbeats 8000000 in
set_option maxRecDepth 100000 in
theorem rdepth_in (B g:Nat) (w:World) (ns:List Nd) (rv:Value) (h:GrR B g w ns rv) (i:Nat) (hi:i<ns.length):
  Calls Tryz.prog 41 #[.pointer (some ⟨g,0,none⟩),.int .i64 (i:Int)] w fun e w'=>e= .returned (.int .i64 (depthV ns (i:Int)))∧Ext w w':=by
 have hfew:=h.few
 have HOK:=Lib.hid h.ok
 have HHA:=Lib.hid (has_any B g w ns rv h (i:Int))
 rw [decide_eq_true (⟨by omega,by omega⟩:0≤(i:Int)∧(i:Int)<(ns.length:Int))] at HHA
 have HT:=Lib.hid (deepG_take ns hi)
 rw [depthV_in hi]
 obtain ⟨A,c,hrv,hcl⟩:=h.row.read
 subst hrv
 have HCL:=Lib.hid hcl
 have HG:=Lib.hid h
 clear hcl h
 generalize hdd:(deepG ns).getD i 0=dd at *
 obtain ⟨m,hm⟩:∃m,m=i+1:=⟨_,rfl⟩
 rw [←hm] at HT
 have hm1:m≤4096:=by omega
 have hmn:m≤ns.length:=by omega
 have him:i<m:=by omega
 have hmk:=run_makeN m (by omega)
 have hwm:IntKind.i64.wrap ((i:Int)+1)=(m:Int):=by rw [IntWalk.i64_in _ (by omega)];omega
 obtain ⟨k0,f0,hgz⟩:=HG.out.blk.oneG
 obtain ⟨n,hnn⟩:∃n,n=ns.length:=⟨_,rfl⟩
 have HN:=Lib.hid hnn
 rw [←hnn] at HG hfew k0 hmn
 clear hm hi hnn hdd
 go_enter Tryz.func41,Tryz.ntmps41
 go_wp2_with fail
 refine HHA.out.mono ?_
 rintro e w1 ⟨rfl,hx1⟩
 have HX1:=Lib.hid hx1
 have hbd0:=hx1.size
 clear hx1
 go_upto_region 4 with fail
 have HB2:=Lib.hid (Blk.new w1 3 (cellsN (List.replicate m 0)))
 have HX2:=Lib.hid (HX1.out.alloc (.cells (cellsN (List.replicate m 0)) 3))
 obtain ⟨bd,hbde⟩:∃bd,bd=w1.heap.size:=⟨_,rfl⟩
 obtain ⟨w2,hw2⟩:∃w2,w2=w1.alloc (.cells (cellsN (List.replicate m 0)) 3):=⟨_,rfl⟩
 rw [←hw2,←hbde] at HB2
 rw [←hw2] at HX2
 rw [←hw2,←hbde]
 have hbd:w.heap.size≤bd:=by omega
 clear hw2 hbde hbd0 hmk hwm k0 f0 HHA HX1
 go_wp2_with fail
 go_loopw [18] (fun s18 wr=>∃k:Nat,k≤m∧s18= .int .i64 (k:Int)∧Blk wr bd 3 (cellsN (deepG (ns.take k)++List.replicate (m-k) 0))∧Ext w wr) (fun s18 _=>m-(intOf s18).toNat)
 case atStart=>exact ⟨0,Nat.zero_le _,rfl,HB2.out,HX2.out⟩
 case round=>
  clear HB2 HX2
  obtain ⟨k,hk,rfl,hb2,hx⟩:=hrel
  by_cases hlt:k<m
  ·have hkn:k<ns.length:=by have:=HN.out;omega
   have hok:=HOK.out.2 k _ (List.getElem?_eq_getElem hkn)
   have hlD:=deepG_len (ns.take k)
   rw [List.length_take,Nat.min_eq_left (by omega)] at hlD
   have HBD:=Lib.hid (fun j=>deepG_le HOK.out j k (by omega))
   have HND:=Lib.hid (deepG_snoc (ns.take k) ns[k] hok)
   rw [List.take_append_getElem hkn] at HND
   have HAL:=Lib.hid hok.args_lt
   have hal2:=hok.args_len
   have HGO:=Lib.hid (fun W=>rargs_any W ns[k] hok)
   obtain ⟨gb,o,rfl,hgw,hc⟩:=HCL.out (by omega)
   obtain ⟨p0,p1,p2,p3,p4⟩:=hc k hkn
   generalize deepG (ns.take k)=DL at *
   generalize argsG ns[k]=zs at *
   have HX:=Lib.hid hx
   have hgbd:gb≠bd:=by omega
   obtain ⟨r,hr⟩:∃r,r=m-(k+1):=⟨_,rfl⟩
   have hm2':(DL++List.replicate (m-k) 0).set k 1=midL DL 1 r:=by
    have:=midL_start DL 1 m (by omega)
    rw [hlD] at this
    rw [this,hr]
   have hs2:Blk (wr.setCell ⟨bd,k,none⟩ (.int .i64 1)) bd 3 (cellsN (midL DL 1 r)):=by
    have h:=hb2.set_ k (.int .i64 ((1:Nat):Int))
    rw [set_cellsN,hm2'] at h
    exact h
   have hx4:=hx.setCell (p:=⟨bd,k,none⟩) hbd (.int .i64 1)
   obtain ⟨w4,hw4⟩:∃w4,w4=wr.setCell ⟨bd,k,none⟩ (.int .i64 1):=⟨_,rfl⟩
   rw [←hw4] at hs2 hx4
   have HS2:=Lib.hid hs2
   have HX4:=Lib.hid hx4
   have z2:=hb2.cell k
   rw [get_cellsN _ _ (by rw [List.length_append,List.length_replicate];omega)] at z2
   have f4:=hb2.frozen k
   generalize (DL++List.replicate (m-k) 0).getD k 0=old2 at *
   have hki:(k:Int)<(m:Int):=by omega
   have hk0:(0:Int)≤(k:Int):=by omega
   have hkn2:(k:Int)<(n:Int):=by omega
   have hwk:IntKind.i64.wrap ((k:Int)+1)=(k:Int)+1:=IntWalk.i64_in _ (by omega)
   clear hb2 hs2 hm2' hx hx4 hc hok
   go_upto_region 8 with fail
   rw [←hw4]
   clear hw4 z2 f4
   obtain ⟨k0,f0,hgz4⟩:=(HG.out.keep HX4.out).blk.oneG
   rw [←HX4.out.cell hgw] at p0 p1 p2 p3 p4
   generalize ns[k]=x at *
   clear hkn
   obtain ⟨y0,y1,y2,y3,y4⟩:=x
   simp only [ndV] at HGO
   simp only at p0 p1 p2 p3 p4
   obtain ⟨s,hs⟩:∃s:ByteArray,s=⟨(y4:List UInt8).toArray⟩:=⟨_,rfl⟩
   have hst:str y4= .string s:=by rw [hs];rfl
   rw [hst] at p4 HGO
   clear hs hst
   obtain ⟨mz,hmz⟩:∃mz,mz=zs.length:=⟨_,rfl⟩
   have HMZ:=Lib.hid hmz
   rw [←hmz] at hal2
   have HZ:Hid (∀j,j<mz→zs.getD j 0<k):=Lib.hid (fun j hj=>by
    rw [List.getD_eq_getElem?_getD,List.getElem?_eq_getElem (by omega)]
    exact HAL.out _ (List.getElem_mem _))
   have HTK:Hid (∀j,j<mz→zs.take (j+1)=zs.take j++[zs.getD j 0]):=Lib.hid (fun j hj=>by
    rw [List.take_succ_eq_append_getElem (by omega),List.getD_eq_getElem?_getD,List.getElem?_eq_getElem (by omega)]
    rfl)
   clear hmz
   go_wp2_with fail
   refine (HGO.out w4).mono ?_
   rintro e w5 ⟨A3,c3,rfl,hx5,hc3⟩
   rw [←HMZ.out] at hc3 ⊢
   have HX5:=Lib.hid (HX4.out.trans hx5)
   have HS25:=Lib.hid (HS2.out.ext hx5)
   have hd4:bd<w4.heap.size:=HS2.out.lt
   have HA5:Hid (∀j,j<mz→∃b3,A3=some ⟨b3,0,none⟩∧b3≠bd∧w5.cell? ⟨b3,j,none⟩=some (.int .i64 ((zs.getD j 0:Nat):Int))):=Lib.hid (fun j hj=>by
    obtain ⟨b3,h1,h2,h3,h4⟩:=hc3 (by omega)
    exact ⟨b3,h1,by omega,h4 j hj⟩)
   clear p0 p1 p2 p3 p4 k0 f0 hx5 hc3 HGO
   go_wp2_with fail
   generalize wr=wa at *
   go_loopw [33] (fun s33 wr=>∃q:Nat,q≤mz∧s33= .int .i64 (q:Int)∧Blk wr bd 3 (cellsN (midL DL (dpA DL (zs.take q)) r))∧Ext w wr∧(∀j,j<mz→∃b3,A3=some ⟨b3,0,none⟩∧b3≠bd∧wr.cell? ⟨b3,j,none⟩=some (.int .i64 ((zs.getD j 0:Nat):Int)))) (fun s33 _=>mz-(intOf s33).toNat)
   case atStart=>exact ⟨0,Nat.zero_le _,rfl,HS25.out,HX5.out,HA5.out⟩
   case round=>
    clear HS25 HX5 HA5 HS2 HX4 HX
    obtain ⟨q,hq,rfl,hb2,hx,hca⟩:=hrel
    by_cases hqz:q<mz
    ·obtain ⟨b3,rfl,hn2,hcell⟩:=hca q hqz
     have HCA:=Lib.hid hca
     have hlow:=HZ.out q hqz
     have hv2:=dpA_snoc DL (zs.take q) (zs.getD q 0)
     rw [←HTK.out q hqz] at hv2
     have hb2a:=HBD.out (zs.getD q 0)
     have hb2b:dpA DL (zs.take q)≤k+1:=dpA_le DL _ k (fun a _=>HBD.out a)
     have hl2:=midL_len DL (dpA DL (zs.take q)) r
     have z3:=hb2.cell k
     rw [get_cellsN _ _ (by omega),show (midL DL (dpA DL (zs.take q)) r).getD k 0=dpA DL (zs.take q) by rw [←hlD];exact midL_at _ _ _] at z3
     have z4:=hb2.cell (zs.getD q 0)
     rw [get_cellsN _ _ (by omega),midL_low _ _ _ (by omega)] at z4
     have f2:=hb2.frozen k
     have hmd:∀u,(midL DL (dpA DL (zs.take q)) r).set k u=midL DL u r:=fun u=>by rw [←hlD];exact midL_set _ _ _ _
     have HF2:Hid (∀(u:Nat),Blk (wr.setCell ⟨bd,k,none⟩ (.int .i64 (u:Int))).drew bd 3 (cellsN (midL DL u r))∧Ext w (wr.setCell ⟨bd,k,none⟩ (.int .i64 (u:Int))).drew∧(∀b3 j,b3≠bd→(wr.setCell ⟨bd,k,none⟩ (.int .i64 (u:Int))).drew.cell? ⟨b3,j,none⟩=wr.cell? ⟨b3,j,none⟩)):=Lib.hid (fun u=>by
      have h:=hb2.set_ k (.int .i64 (u:Int))
      rw [set_cellsN,hmd] at h
      exact ⟨h.drew,(hx.setCell (p:=⟨bd,k,none⟩) hbd _).drew,fun b3 j hne=>World.cell?_of_block (a:=⟨b3,j,none⟩) (Below.heap_setCell _ _ _ b3 hne)⟩)
     have HX:=Lib.hid hx
     have HV2:=Lib.hid hv2
     clear hv2 hmd hca hb2 hx hl2
     generalize hdv:dpA DL (zs.take q)=d1 at *
     generalize hda:DL.getD (zs.getD q 0) 0=da at *
     generalize hza:zs.getD q 0=za at *
     clear hdv hda hza
     have hw5:IntKind.i64.wrap ((da:Int)+1)=(da:Int)+1:=IntWalk.i64_in _ (by omega)
     have hmx1:max (d1:Int) ((da:Int)+1)=((max d1 (da+1):Nat):Int):=by omega
     have hmx2:(if (d1:Int)<(da:Int)+1 then (da:Int)+1 else (d1:Int))=((max d1 (da+1):Nat):Int):=by split<;>omega
     obtain ⟨d2,hd2⟩:∃d2,d2=max d1 (da+1):=⟨_,rfl⟩
     rw [←hd2] at hmx1 hmx2 HV2
     have hq0:(0:Int)≤(q:Int):=by omega
     have hqm:(q:Int)<(mz:Int):=by omega
     have hza0:(0:Int)≤(za:Int):=by omega
     have hzam:(za:Int)<(m:Int):=by omega
     have hwq:IntKind.i64.wrap ((q:Int)+1)=(q:Int)+1:=IntWalk.i64_in _ (by omega)
     have HG2:=Lib.hid (HF2.out d2)
     clear hd2 hb2a hb2b HF2
     go_upto_region 11 with fail
     go_region
     all_goals
      go_wp2_with fail
      go_roundw
      case rel=>
       refine ⟨q+1,hqz,by go_num,?_,HG2.out.2.1,fun j hj=> ?_⟩
       ·rw [HV2.out]
        exact HG2.out.1
       ·obtain ⟨b4,e4,p2,p3⟩:=HCA.out j hj
        exact ⟨b4,e4,p2,(HG2.out.2.2 b4 j p2).trans p3⟩
      case measure=>simp [intOf];omega
    ·obtain rfl:q=mz:=by omega
     have HX:=Lib.hid hx
     have hb2':Blk wr bd 3 (cellsN (deepG (ns.take (k+1))++List.replicate (m-(k+1)) 0)):=by
      rw [HND.out,←hr,←midL_end]
      have h:=hb2
      rw [HMZ.out,List.take_length] at h
      exact h
     have HB2:=Lib.hid hb2'
     clear hb2 hb2' hx hca
     go_wp2_with fail
     go_roundw
     case rel=>exact ⟨k+1,hlt,by go_num,HB2.out,HX.out⟩
     case measure=>simp [intOf];omega
  ·obtain rfl:k=m:=by omega
   rw [Nat.sub_self,List.replicate_zero,List.append_nil] at hb2
   have z:=hb2.cell i
   have hl:=deepG_len (ns.take k)
   rw [List.length_take,Nat.min_eq_left (by have:=HN.out;omega)] at hl
   rw [get_cellsN _ _ (by omega),HT.out] at z
   have HX:=Lib.hid hx
   have hi0:(0:Int)≤(i:Int):=by omega
   have hik:(i:Int)<(k:Int):=by omega
   clear hb2 hx hl
   go_wp2_with fail
   go_ret
   exact ⟨rfl,HX.out⟩
theorem rdepth_any (B g:Nat) (w:World) (ns:List Nd) (rv:Value) (h:GrR B g w ns rv) (i:Int):
  Calls Tryz.prog 41 #[.pointer (some ⟨g,0,none⟩),.int .i64 i] w fun e w'=>e= .returned (.int .i64 (depthV ns i))∧Ext w w':=by
 by_cases hi:0≤i∧i<(ns.length:Int)
 ·obtain ⟨k,rfl⟩:∃k:Nat,(k:Int)=i:=⟨i.toNat,by omega⟩
  exact rdepth_in B g w ns rv h k (by omega)
 ·have HHA:=Lib.hid (has_any B g w ns rv h i)
  rw [decide_eq_false hi] at HHA
  rw [depthV_out (by omega)]
  clear h hi
  go_enter Tryz.func41,Tryz.ntmps41
  go_wp2_with fail
  refine HHA.out.mono ?_
  rintro e w1 ⟨rfl,hx1⟩
  have HX1:=Lib.hid hx1
  clear hx1
  go_wp2_with fail
  go_ret
  exact ⟨rfl,HX1.out⟩
end Big
end Go.Proofs.YtaccjdbbkmhanaaGreatDoor
namespace Go.Proofs.YtaccjdbbkmhanaaGreatDoor
namespace Big
open Go.RowKit Go.Maps Go.Sort
def NSet (w:World) (b m:Nat) (S:Tx→Prop):Prop:=∃D:DataW Unit,w.ownsMap Tryz.prog 9 (plainElem Tryz.prog 4) b m D∧∀t,has D (.string t)=true↔S t
theorem NSet.made (w:World):NSet (w.alloc (.map #[] 0)) w.heap.size 0 (fun _=>False):=
 ⟨.map [],World.ownsMap_made w _ _ _,fun t=>⟨fun h=>Bool.noConfusion h,fun h=>h.elim⟩⟩
theorem NSet.lt {w:World} {b m:Nat} {S:Tx→Prop} (h:NSet w b m S):b<w.heap.size:=by
 obtain ⟨D,h,_⟩:=h
 exact h.lt
theorem NSet.at {w w':World} {b m:Nat} {S:Tx→Prop} (h:NSet w b m S) (hk:w'.heap[b]? =w.heap[b]?):NSet w' b m S:=by
 obtain ⟨D,⟨es,clock,hb,F,hs,hD⟩,h2⟩:=h
 exact ⟨D,⟨es,clock,hk.trans hb,F,hs,hD⟩,h2⟩
theorem NSet.ext {w w':World} {b m:Nat} {S:Tx→Prop} (h:NSet w b m S) (hx:Ext w w'):NSet w' b m S:=h.at (hx.block b h.lt)
theorem NSet.mono {w:World} {b m m':Nat} {S:Tx→Prop} (h:NSet w b m S) (hm:m≤m'):NSet w b m' S:=by
 obtain ⟨D,h,h2⟩:=h
 exact ⟨D,h.mono hm,h2⟩
theorem NSet.congr {w:World} {b m:Nat} {S S':Tx→Prop} (h:NSet w b m S) (hs:∀t,S t↔S' t):NSet w b m S':=by
 obtain ⟨D,h,h2⟩:=h
 exact ⟨D,h,fun t=>(h2 t).trans (hs t)⟩
theorem keyOf_tx (t:Tx) (ht:t.length≤maxLen):keyOf Tryz.prog 9 (str t)=some (.string t):=by
 have hs:(⟨t.toArray⟩:ByteArray).size≤maxLen:=by rw [size_str];exact ht
 unfold keyOf
 rw [Tryz.underlying9]
 simp [str,mapKey,Tryz.underlying9,hs]
theorem NSet.store {w:World} {b m:Nat} {S:Tx→Prop} (h:NSet w b m S) (hm:m<maxLen) (t:Tx) (ht:t.length≤maxLen):
  ∃w',(Instr.mapUpdate 104 (.map (some b)) (str t) (.bool true)).run Tryz.prog w= .ok () w'∧NSet w' b (m+1) (fun x=>x=t∨S x)∧w.grownBy w' (some b):=by
 obtain ⟨D,h,h2⟩:=h
 obtain ⟨w',hr,ho,hg⟩:=h.update (string_keyed Tryz.underlying9) Tryz.underlying104 hm (keyOf_tx t ht) (plainElem_bool Tryz.underlying4 true)
 refine ⟨w',hr,⟨_,ho,fun x=> ?_⟩,hg⟩
 by_cases hx:x=t
 ·subst hx
  rw [has_put_same h.isMap (by trivial)]
  simp
 ·rw [has_put_other (by intro e;injection e with e;exact hx e),h2 x]
  simp [hx]
theorem NSet.keys {w:World} {b m:Nat} {D:DataW Unit} (h:w.ownsMap Tryz.prog 9 (plainElem Tryz.prog 4) b m D) (t:Tx):t∈strKeys D↔has D (.string t)=true:=by
 obtain ⟨es,rfl,hk⟩:=h.keysOf
 rw [has_eq,List.any_eq_true]
 show t∈es.map (fun p=>strOf p.1)↔_
 rw [List.mem_map]
 constructor
 ·rintro ⟨p,hp,rfl⟩
  obtain ⟨v,hv⟩:=hk p hp
  obtain ⟨x,_,hx,_⟩:=Maps.keyOf_str Tryz.underlying9 hv
  exact ⟨p,hp,by rw [hx];simp [Lit.sameKey,strOf]⟩
 ·rintro ⟨p,hp,hs⟩
  obtain ⟨v,hv⟩:=hk p hp
  obtain ⟨x,_,hx,_⟩:=Maps.keyOf_str Tryz.underlying9 hv
  rw [hx] at hs
  exact ⟨p,hp,by rw [hx];simpa [Lit.sameKey,strOf] using hs⟩
def cellsB (l:List Bool):Array Value:=(l.map Value.bool).toArray
theorem set_cellsB (l:List Bool) (i:Nat) (x:Bool):(cellsB l).setIfInBounds i (.bool x)=cellsB (l.set i x):=by
 apply Array.ext'
 simp [cellsB,List.map_set]
theorem get_cellsB (l:List Bool) (i:Nat) (h:i<l.length):(cellsB l)[i]? =some (.bool (l.getD i false)):=by
 unfold cellsB
 rw [List.getElem?_toArray,List.getElem?_map,List.getD_eq_getElem?_getD,List.getElem?_eq_getElem h]
 rfl
theorem info_bool:(Tryz.prog.info? 4).map (fun i=>(i.zero,i.size,i.bytes))=some (some (.bool false),1,1):=by kernel_rfl
theorem run_makeB (n:Nat) (hn:n≤1000000) (W:World):(Instr.makeSlice 103 (.int .i64 (n:Int)) (.int .i64 (n:Int))).run Tryz.prog W=
  .ok (.slice (some ⟨W.heap.size,0,none⟩) n n) (W.alloc (.cells (cellsB (List.replicate n false)) 4)):=by
 obtain ⟨i0,hi,hz0,hz1,hz2⟩:=info_parts info_bool
 have hr:=run_make (P:=Tryz.prog) W 103 4 i0 _ Tryz.underlying103 hi hz0 .i64 .i64 (n:Int) (n:Int) (by omega) (Int.le_refl _) (by rw [hz2];omega) (by omega)
 have hm:madeCells (Value.cells (.bool false)) (n*1)=cellsB (List.replicate n false):=by
  apply Array.ext'
  apply List.ext_getElem?
  intro i
  simp only [madeCells,cellsB,Value.cells]
  rw [Array.getElem?_toList,Array.getElem?_map,List.getElem?_map,List.getElem?_replicate]
  rcases Nat.lt_or_ge i n with h|h
  ·rw [Array.getElem?_range,if_pos (by omega),if_pos h]
   simp [Nat.mod_one]
  ·rw [Array.getElem?_range,if_neg (by omega),if_neg (by omega)]
   rfl
 rw [hz1,Int.toNat_natCast,hm] at hr
 exact hr
end Big
end Go.Proofs.YtaccjdbbkmhanaaGreatDoor
namespace Go.Proofs.YtaccjdbbkmhanaaGreatDoor
namespace Big
open Go.RowKit Go.Maps Go.Sort Go.WideShapes Go.ChangeMaps Go.MapKept
theorem setAll_snoc (l:List Nat) (a:Nat):∀F:List Bool,setAll F (l++[a])=(setAll F l).set a true:=by
 induction l with
 |nil=>intro F;rfl
 |cons b l ih=>intro F;exact ih (F.set b true)
def NameFrom (ns:List Nd) (i k:Nat) (t:Tx):Prop:=∃j x,k≤j∧Reach ns i j∧ns[j]? =some x∧x.kind=2∧x.text=t
theorem NameFrom.zero {ns:List Nd} {i:Nat} {t:Tx}:NameFrom ns i 0 t↔NameIn ns i t:=
 ⟨fun ⟨j,x,_,h1,h2,h3,h4⟩=>⟨j,x,h1,h2,h3,h4⟩,fun ⟨j,x,h1,h2,h3,h4⟩=>⟨j,x,Nat.zero_le _,h1,h2,h3,h4⟩⟩
theorem NameFrom.top {ns:List Nd} (hs:SoundG ns) {i:Nat} {t:Tx}:¬NameFrom ns i (i+1) t:=fun ⟨j,_,h0,h1,_⟩=>by
 have:=h1.le hs
 omega
theorem NameFrom.skip {ns:List Nd} {i k:Nat} (h:¬Reach ns i k∨∀x,ns[k]? =some x→x.kind≠2) (t:Tx):NameFrom ns i (k+1) t↔NameFrom ns i k t:=by
 constructor
 ·rintro ⟨j,x,h0,h1⟩
  exact ⟨j,x,by omega,h1⟩
 ·rintro ⟨j,x,h0,h1,h2,h3,h4⟩
  refine ⟨j,x,?_,h1,h2,h3,h4⟩
  rcases Nat.lt_or_ge k j with h5|h5
  ·exact h5
  ·obtain rfl:j=k:=by omega
   rcases h with h|h
   ·exact absurd h1 h
   ·exact absurd h3 (h x h2)
theorem NameFrom.add {ns:List Nd} {i k:Nat} {x:Nd} (hr:Reach ns i k) (hx:ns[k]? =some x) (hk:x.kind=2) (t:Tx):(t=x.text∨NameFrom ns i (k+1) t)↔NameFrom ns i k t:=by
 constructor
 ·rintro (rfl|⟨j,y,h0,h1⟩)
  ·exact ⟨k,x,Nat.le_refl _,hr,hx,hk,rfl⟩
  ·exact ⟨j,y,by omega,h1⟩
 ·rintro ⟨j,y,h0,h1,h2,h3,h4⟩
  rcases Nat.lt_or_ge k j with h5|h5
  ·exact .inr ⟨j,y,h5,h1,h2,h3,h4⟩
  ·obtain rfl:j=k:=by omega
   rw [hx] at h2
   injection h2 with h2
   subst h2
   exact .inl h4.symm
theorem names_row {ns:List Nd} {i b m:Nat} {w:World} {D:DataW Unit} {ss:List Tx} (hown:w.ownsMap Tryz.prog 9 (plainElem Tryz.prog 4) b m D) (hD:∀t,has D (.string t)=true↔NameIn ns i t) (hp:ss.Perm (strKeys D)):
  NamesAt ns i (ss.mergeSort (fun x y=>decide (x≤y))):=by
 have hm:∀t,t∈ss.mergeSort (fun x y=>decide (x≤y))↔NameIn ns i t:=fun t=>by
  rw [List.mem_mergeSort,hp.mem_iff,NSet.keys hown,hD t]
 have hnd:ss.Nodup:=by
  obtain ⟨es,clock,hb,F,hs,hDD⟩:=hown
  have hpw:=fit_apart (string_keyed Tryz.underlying9) F
  have h2:(strKeys D).Nodup:=by
   rw [hDD]
   show ((((es.toList.map (Go.WideElems.rg Tryz.prog 9 (plainElem Tryz.prog 4))).foldr DataW.insert [])).map fun p=>strOf p.1).Nodup
   have hk:=fit_keys F
   refine ((sorted_perm _).map _).nodup_iff.2 ?_
   refine List.pairwise_map.2 (hpw.imp_of_mem fun {p q} hp' hq' hne e=>hne ?_)
   obtain ⟨v,hv⟩:=hk p hp'
   obtain ⟨v',hv'⟩:=hk q hq'
   obtain ⟨x,_,hx,_⟩:=Maps.keyOf_str Tryz.underlying9 hv
   obtain ⟨y,_,hy,_⟩:=Maps.keyOf_str Tryz.underlying9 hv'
   rw [hx,hy] at e ⊢
   exact congrArg _ e
  exact hp.nodup_iff.2 h2
 refine ⟨?_,hm⟩
 have hs:=sorted_merge ss
 have hnd2:(ss.mergeSort (fun x y=>decide (x≤y))).Nodup:=(List.mergeSort_perm ss _).nodup_iff.2 hnd
 exact (hs.and hnd2).imp fun {a b} ⟨h1,h2⟩=>tx_lt_of_le_ne h1 h2
end Big
end Go.Proofs.YtaccjdbbkmhanaaGreatDoor
